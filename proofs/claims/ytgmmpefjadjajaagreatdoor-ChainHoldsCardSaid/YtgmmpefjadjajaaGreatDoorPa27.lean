/- Lemmas. -/
import Derived.Test.YtgmmpefjadjajaaGreatDoorPa0
import Derived.Test.YtgmmpefjadjajaaGreatDoorPa26
import Derived.Lib.SmallJoins
import Derived.Test.YtgmmpefjadjajaaGreatDoorCards
import Derived.Test.YtgmmpefjadjajaaGreatDoorTie
import Derived.Deep.DeepHandedRow
import Derived.Lay
namespace Go.Proofs.YtgmmpefjadjajaaGreatDoor
open Go.Proofs.Tryz
set_option linter.unusedSimpArgs false
set_option linter.unusedVariables false
set_option maxRecDepth 100000
set_option maxHeartbeats 16000000
variable (C:Nat->Prop)(W0 W w:vW)(D:Nat->Prop)(key val:vB)(b1 wb b k c s g n bm z y:Nat)(room:Int)(root fr pa to p x:vB){af:Array Edge}{ops:Array Oper}{pre lb tmps:Array vV}{F:Bd}{assign body:Code}{Q:Exit->Act->vW->Prop}{er limit:Int}{es es':List (Ce Int)}{X:List (Int × vL)}{xs ys l:List Eu}{rest:List Oper}{M:Dm}{cb i mb t ck N j sb rm:Nat}{fz:Nat × Nat}{o:Option (Nat × Nat × vB)}{a:Option Addr}{d:Option Tmp}{P:Program}{pos:String}{r th:vB}{L m:vL}{U T nodes:vM}{S S':vT}{v u v1 v2 v3 x2 x3 x4 pv:vV}{w0 W' w1:vW}
section
open Go Go.RowKit
theorem f_{α:Type}[DecidableEq α]:∀ {a b:List α},a.Nodup->(∀ x∈a,x∈b)->a.length<=b.length
 |[],b,_,_=>cD _
 |x::a,b,h,hs=>by
  obtain⟨K,O⟩:=dL.1 h
  have A:=hs x bN
  have:=f_ (b:=b.erase x) O λy H=>by
   have q:=hs y (bM _ H);exact (List.mem_erase_of_ne λe=>K (by rw[<-e];exact H)).2 q
  rw[List.length_erase_of_mem A]at this
  have:=List.length_pos_of_mem A
  rw[bQ];omega
structure JG(U:vM)(es:List (Ce Int))(S:vT):Prop where
 kp:Kp U S
 nd:(es.map (·.1)).Nodup
 cnt:∀ r:vB,Xy (Be S r.data.toList)=(Rl es r:Int)
 src:∀ x∈S,∃ m,Em m=0/\(∀ t∈Ld m,t∈U)/\∃ t∈Ld m,x.1=ky t
 rts:∀ x∈es,∃ m,x.2.1=.string (Bi m)/\Em m=0/\∀ t∈Ld m,t∈U
theorem JG.jf{P:List (Int × vL)}(h:JG U es S)(hP:∀ q∈P,∃ k,((q.1,.string (Bi q.2),k):Ce Int)∈es):JF U P es S:=
 ⟨h.kp,h.nd,λr=>by rw[h.cnt r];exact jA _,hP⟩
theorem jDg(hnd:(S.map (·.1)).Nodup){x:Gk}(hx:x∈S):Be S x.1=some x:=by
 obtain⟨y,e⟩:=cW.1 (Xs.2 (gF hx))
 obtain⟨q,A⟩:=Fd e
 rw[e,Qj hnd q hx A]
theorem JG.few(h:JG U es S)(w:vW)(hU:Gi U)(hnd:(S.map (·.1)).Nodup):S.length<=121*es.length:=by
 have X:∀ x:Ce Int,∃ m,x∈es->x.2.1=.string (Bi m)/\Em m=0/\∀ t∈Ld m,t∈U:=λx=>by by_cases A:x∈es;{obtain⟨m,hm⟩:=h.rts x A;exact⟨m,λ_=>hm⟩};exact⟨[],λh=>absurd h A⟩
 obtain⟨f,Z⟩:=Classical.axiomOfChoice X
 have a0:=jC9 w hU h.kp h.src (λk=>∃ e∈es,∃ t∈Ld (f e),k=ky t) (λx A hp=>?_) (λx A ⟨e,q,t,O,ek⟩ r H=>?_)
 ·(have K:∀ k∈S.map (·.1),k∈es.flatMap λe=>(Ld (f e)).map ky:=λk hk=>by obtain⟨x,A,rfl⟩:=bC.1 hk;obtain⟨e,q,t,O,ek⟩:=a0 x A;exact dE.2 ⟨e,q,bC.2 ⟨t,O,ek.symm⟩⟩);(have h1:=f_ hnd K;rw[bT]at h1;have h2:∀ l:List (Ce Int),(∀ e∈l,e∈es)->(l.flatMap λe=>(Ld (f e)).map ky).length<=121*l.length:=by intro l;induction l with| nil=>intro _;exact bO _| cons a l ih =>intro hl;have i1:=ih λe q=>hl e (bM _ q);have i2:=n_ (Z a (hl a bN)).2.1;rw[dJ,bK,bT,bQ];omega);exact bH h1 (h2 es λ_ h=>h)
 ·(have a1:Be S ((⟨x.1.toArray⟩:vB)).data.toList=some x:=by show Be S x.1.toArray.toList=_;rw[iQ];exact jDg hnd A);have hc:=h.cnt ⟨x.1.toArray⟩;rw[a1]at hc;have hc:x.2.2.held=_:=hc;have h0:0<Rl es ⟨x.1.toArray⟩:=vO;obtain⟨e,q,H⟩:=List.countP_pos_iff.1 h0;obtain⟨e1,e2,_⟩:=Z e q;refine⟨e,q,(Cr (f e)).text,(Ql _ _).2 (Yx _),?_⟩;(rw[e1]at H;have H:Bi (f e)=⟨x.1.toArray⟩:=by simpa [BB]using H);show x.1=(Bi (f e)).data.toList;rw[H]
 ·obtain⟨_,e2,e3⟩:=Z e q;obtain⟨t',a2,f1,f2,f3⟩:=h.kp.is x A;have:t'=t:=wE hU a2 (e3 t O) (f1.symm.trans ek);subst this;obtain⟨n,hn,hh⟩:=(RB e2).node t' O;rw[f3,BL w (Vm hn) hn]at H;obtain⟨u,hu,rfl⟩:=hh r H;exact⟨e,q,u,hu,rfl⟩
theorem JG.drop(h:JG U es S){x:Ce Int}(hx:x∈es)(hr:x.2.1=.string r)(hD:QL S r S'):JG U (Kb es x.1) S':=by
 have Z:=λq=>nU (r:=q) hx h.nd;have K:=(I4 (k:=x.1) |>.map (·.1)).nodup h.nd;have O:∀ y∈Kb es x.1,∃ m,y.2.1=.string (Bi m)/\Em m=0/\∀ t∈Ld m,t∈U:=λy X=>h.rts y (I4.subset X);rcases hD with⟨h0,rfl⟩|⟨w,s,bm,room,y,w',hst,X,hp,hY⟩
 ·have A:=Z r;rw[hr]at A;have H:=h.cnt r;rw[h0]at H;rw[if_pos (by simp[BB])]at A;omega
 ·refine⟨h.kp.drop hY,K,λq=>?_,λz hz=>?_,O⟩;{have A:=Z q;have H:=h.cnt q;rw[d0 hst X hp h.kp.cnt hY q];rw[hr]at A;by_cases e:q=r;{rw[if_pos e];rw[if_pos (by simp[BB,e])]at A;omega};rw[if_neg e];rw[if_neg (by simp[BB];exact λh=>e h.symm)]at A;omega};obtain⟨v,hv,e1,_⟩:=hY.sub z hz;obtain⟨u,hu,rfl⟩:=bC.1 hv;obtain⟨m,A,H,t,h3,h4⟩:=h.src u hu;exact⟨m,A,H,t,h3,by rw[e1, <-h4];exact (CR y.2.1 (y.2.2.held-1) u).2.2.1⟩
theorem JG.clean{l:List Au}(h:JG U es S)(hC:Ub l es S es' S'):JG U es' S':=
 hC (JG U) (λK S1 x r O e q _ A H=>e.drop q A H) h
theorem JG.more(h:JG U es S){w:vW}(hA:Sj w U S m T S')(hm:Em m=0)(hU:∀ t∈Ld m,t∈U)(hn:(M.next:Int) ∉ es.map (·.1)):JG U (Rz es M (Bi m) ck) S':=by
 refine⟨hA.kp,?_,λr=>?_,λx q=>?_,λx q=>?_⟩
 ·unfold Rz;rw[bW,dW];refine⟨h.nd,by simp,λx q y A e=>?_⟩;(have A:y=(M.next:Int):=by simpa using A);exact hn (by rw[<-A, <-e];exact q)
 ·have H:=h.cnt r;rw[hA.held,H];unfold Rz Rl;rw[List.countP_append,jH];by_cases e:r=Bi m;{rw[if_pos (show r.data.toList=ky (Cr m).text by rw[e];rfl),if_pos (by simp[BB,e])];omega};have K:¬ r.data.toList=ky (Cr m).text:=λh=>e (ByteArray.ext (Array.ext' h));(have O:BB r (Bi m)=false:=by simp[BB];exact λh=>e h.symm);rw[if_neg K];simp only[O];simp
 ·rcases (hA.key x.1).1 (gF q)with hk|⟨t,ht,e⟩;{obtain⟨y,A,e⟩:=bC.1 hk;obtain⟨X,H,Z,t,h3,h4⟩:=h.src y A;exact⟨X,H,Z,t,h3,e.symm.trans h4⟩};exact⟨m,hm,hU,t,ht,e⟩
 ·unfold Rz at q;rcases bR.1 q with q|q;{exact h.rts x q};rw[bG.1 q];exact⟨m,rfl,hm,hU⟩
theorem X4{a b:Nat}:∀ {l:List Nat},l.Pairwise (· < ·)->(∀ x∈l,a<=x/\x<b)->l.length<=b-a
 |[],_,_=>cD _
 |x::l,h,hb=>by
  obtain⟨q,A⟩:=fU.1 h
  have H:=hb x bN
  have:=X4 (a:=x+1) (b:=b) A λy e=>⟨q y e,(hb y (bM _ e)).2⟩
  rw[bQ];omega
theorem I3{win next:Nat}:∀ {l:List Au},Qu win next l->∀ {v:Au},v∈l->Si win next v=true\/l.getLast?=some v
 |[u],_,v,h=>.inr (by rw[bG.1 h];rfl)
 |u::t::r,hk,v,h=>by
  obtain⟨e,q⟩:=hk
  rcases bU.1 h with rfl|h
  ·exact .inl e
  ·rw[List.getLast?_cons_cons]
   exact I3 q h
def Ke(M:Dm):Nat:=M.all.countP λv=>decide (0<v.pins)
theorem Fh.few(h:Fh M):M.all.length<=8+Ke M:=by
 have O:=h.less;have hw:=h.win;have A:∀ v∈M.all,0<v.pins\/M.next<=v.block+M.win:=λv H=>by obtain⟨u,X,e⟩:=h.last;rcases I3 h.kept H with hk|hk;{unfold Si at hk;simp only[Bool.or_eq_true,decide_eq_true_eq]at hk;exact hk.symm};rw[X]at hk;obtain rfl:=bV hk;exact .inr vO
 have q:(M.all.filter λv => !decide (0<v.pins)).length<=8:=by(have Z:((M.all.filter λv => !decide (0<v.pins)).map Au.block).Pairwise (· < ·):=by rw[gO];exact h.rise.filter _);(have:=X4 (a:=M.next-M.win) (b:=M.next) Z λx hx=>by obtain⟨v,H,rfl⟩:=bC.1 hx;obtain⟨q,K⟩:=cE.1 H;have h3:=O v q;rcases A v q with h4|h4;{simp[h4]at K};omega);rw[bT]at this;omega
 have K:=List.length_eq_countP_add_countP (p:=λv:Au=>decide (0<v.pins)) (l:=M.all);rw[<-List.countP_eq_length_filter]at q;unfold Ke;have h3:(M.all.countP λv=>¬ decide (0<v.pins)=true)=M.all.countP λv => !decide (0<v.pins):=List.countP_congr λv _=>by simp
 omega
end
section
open Go Go.RowKit
theorem Fp.re{w0 W:vW}{D:Nat->Prop}{b:Nat}{M:Dm}{a:Option Addr}{c rm sb cb:Nat}{es:List (Ce Int)}{ck bm n:Nat}{S:vT}{U:vM}(h:Fp w0 D W b M a c rm sb cb es ck bm 2000 S n)(hJ:JG U es S)(hU:Gi U)(he:es.length<=15):Fp w0 D W b M a c rm sb cb es ck bm 2000 S 2000:=
 ⟨h.m,⟨h.s.st,h.s.all,h.s.bnew,h.s.new,h.s.cnt,h.s.full,kL (hJ.few W hU h.s.st.nd),h.s.fit,λx q=>by
  have e:=hJ.cnt ⟨x.1.toArray⟩;have A:Be S ((⟨x.1.toArray⟩:vB)).data.toList=some x:=by
   show Be S x.1.toArray.toList=_;rw[iQ];exact jDg h.s.st.nd q
  rw[A]at e;have e:x.2.2.held=_:=e;have H:Rl es ⟨x.1.toArray⟩<=es.length:=List.countP_le_length;omega⟩,h.sep,h.rb,h.db,h.dr,h.ok,h.st,h.kn,h.lt,h.val⟩
theorem jDh{es:List (Ce Int)}{l:List Au}(q:(es.map (·.1)).Nodup)(h:∀ x∈es,Co l x.1=true):es.length<=l.length:=by
 have:=f_ (a:=es.map (·.1)) (b:=l.map λv=>(v.block:Int)) q λk q=>by obtain⟨x,A,rfl⟩:=bC.1 q;obtain⟨i,v,H,O⟩:=q2 (h x A);obtain⟨u,K,e⟩:=MY H;exact bC.2 ⟨u,bD K,e⟩
 simpa using this
structure Gw(C:Nat->Prop)(w0 W:World)(b rm sb cb bm:Nat)(U:vM)(X:List (Int × vL))(L:vL)(M:Dm)(es:List (Ce Int))(S:vT)(i:Nat):Prop where
 inv:∃ D a c ck,Fp w0 D W b M a c rm sb cb es ck bm 2000 S 2000/\∀ z,C z->z<(W:Nat)/\¬ Sb b rm bm S z/\z≠sb/\¬ D z
 all:∀ x∈es,Co M.all x.1=true
 len:M.all.length<=14
 ext:Af w0 W
 lo:(w0:Nat)<=b/\(w0:Nat)<=rm
 jg:JG U es S
 new:∀ q∈(((Nu M).block:Int),L)::X,∃ k,((q.1,.string (Bi q.2),k):Ce Int)∈es
 pin:∀ q∈X,∃ v∈M.all,(v.block:Int)=q.1/\0<v.pins
 nw:(Nu M).ents=L
 nx:M.next<=i+1
 pb:∀ v∈M.all,v.pins<=i
section
variable {C:Nat->Prop} {w0 W W':vW} {b rm sb cb bm:Nat} {U:vM} {X:List (Int × vL)} {L:vL} {M:Dm} {es:List (Ce Int)} {S:vT} {i:Nat}
theorem Gw.past(h:Gw C w0 W b rm sb cb bm U X L M es S i){F:Bd}(k:Ad F W W')(h1:∀ D a c ck,Fp w0 D W b M a c rm sb cb es ck bm 2000 S 2000->Fp w0 D W' b M a c rm sb cb es ck bm 2000 S 2000)(e:Af w0 W'):Gw C w0 W' b rm sb cb bm U X L M es S i:=by
 obtain⟨D,a,c,ck,H,q⟩:=h.inv
 exact⟨⟨D,a,c,ck,h1 D a c ck H,λz A=>⟨bE (q z A).1 k.size,(q z A).2⟩⟩,h.all,h.len,e,h.lo,h.jg,h.new,h.pin,h.nw,h.nx,h.pb⟩
theorem Gw.grow(h:Gw C w0 W b rm sb cb bm U X L M es S i)(e:Af W W'):Gw C w0 W' b rm sb cb bm U X L M es S i:=
 h.past e (λ_ _ _ _ q=>q.ext e) (h.ext.trans e)
theorem Gw.ok(h:Gw C w0 W b rm sb cb bm U X L M es S i):Fh M:=by
 obtain⟨D,a,c,ck,e, -⟩:=h.inv
 exact e.ok
theorem Gw.map(h:Gw C w0 W b rm sb cb bm U X L M es S i):Em L=0:=by
 rw[<-h.nw];exact (h.ok.ver _ h.ok.newest.1).map
theorem Gw.slen(h:Gw C w0 W b rm sb cb bm U X L M es S i)(hU:Gi U):S.length<=1694:=by
 obtain⟨D,a,c,ck,e, -⟩:=h.inv
 have q:=h.jg.few W hU e.s.st.nd;have A:=jDh e.kn h.all
 have:=h.len
 omega
theorem Gw.far(h:Gw C w0 W b rm sb cb bm U X L M es S i)(k:Ad (Sb b rm bm S) W W'):Af w0 W':=h.ext.O k λx K e=>by
 obtain⟨D,a,c,ck,q, -⟩:=h.inv
 have A:=h.lo;rcases e with e|e|e|e
 ·omega
 ·omega
 ·have:=q.s.bnew;omega
 ·obtain⟨y,H,rfl⟩:=bC.1 e
  have:=q.s.new y H;omega
end
theorem S7{M:Dm}{i:Nat}{v:Au}{p:Nat}(h:M.all[i]?=some v):(Lz M i v p).countP (λv=>decide (0<v.pins))<=Ke M+1/\(p<=v.pins->(Lz M i v p).countP (λv=>decide (0<v.pins))<=Ke M):=by
 obtain⟨q,A⟩:=bI.1 h
 have H:=List.countP_set (p:=λv:Au=>decide (0<v.pins)) (l:=M.all) (i:=i) (a:=EI v p) q;unfold Lz Ke;rw[H,A];have K:(EI v p).pins=p:=rfl;have O:0<v.pins->0<M.all.countP λv=>decide (0<v.pins):=λe=>List.countP_pos_iff.2 ⟨v,bD h,by simpa using e⟩
 refine⟨?_,λe=>?_⟩
 ·split<;>split<;>omega
 ·by_cases h0:0<v.pins;{have:=O h0;rw[if_pos (by simpa using h0)];split<;>omega};rw[if_neg (by simpa using h0),if_neg (by rw[K];simp;omega)];omega
theorem l8{win next k:Nat}{l:List Au}:Ke ⟨win,k,Iu win next l⟩<=l.countP λv=>decide (0<v.pins):=BG.countP_le
theorem P7{M:Dm}{x:Int}:Ke (Gd M x).1<=Ke M+1:=by
 unfold Gd;split
 ·exact iD _
 split
 ·exact iD _
 split
 ·exact iD _
 rename_i v hv hp
 exact (S7 hv).1
theorem jC3{M:Dm}{x:Int}:Ke (Nv M x).1<=Ke M:=by
 unfold Nv;split
 ·exact bO _
 split
 ·exact bO _
 split
 ·exact bO _
 rename_i v hv hp
 exact bH l8 ((S7 hv).2 vO)
theorem jCy{M:Dm}{cs:List Br}:Ke (Hn M cs).1<=Ke M:=by
 unfold Hn;split
 ·exact bO _
 split
 ·exact bO _
 refine bH l8 ?_;rw[List.countP_append,jH];exact bO _
theorem P6{M:Dm}{i:Nat}{v u:Au}{p:Nat}(h:u∈Lz M i v p):u∈M.all\/u.pins=p:=by
 unfold Lz at h;rcases fR h with h|rfl
 ·exact .inl h
 ·exact .inr rfl
end
section
open Go Go.RowKit
theorem jDj(w0 w:vW)(hc:Ha w0)(he:Gh w0)(b rm sb cb bm:Nat)(U:vM)(hU:Gi U)(hN:IQ U)(X:List (Int × vL))(L:vL)(M:Dm)(es:List (Ce Int))(S:vT)(i:Nat)(h:Gw C w0 w b rm sb cb bm U X L M es S i)(hi:i<=100)(hb:M.all.length<=13\/Ke M<=6)(u:vV)(cs:List Br)(hu:Jj w0 u cs)(hnc:cs.length<=1000)(hsc:∀ c∈cs,c.key.size<=1000/\c.value.size<=1000)(hL:∀ t∈Ld L,t∈U)(hs:Ez L cs=0->∀ t∈Ld (Gp L cs),t∈U):vQ 14 #[b,u] w λe w'=>∃ (x g:Int) (L':vL) (M':Dm) (es':List (Ce Int)) (S':vT),e=.returned (.tuple #[.int .i64 x,.int .i64 g])/\Ad (Sb b rm bm S) w w'/\L'=(if Ez L cs=0 then Gp L cs else L)/\Gw C w0 w' b rm sb cb bm U X L' M' es' S' (i+1)/\M'.all.length<=M.all.length+1/\Ke M'<=Ke M:=by
 obtain⟨D,a,c,ck,hI,hf⟩:=h.inv
 have b4:=h.len;have b5:=h.slen hU;have b6:=h.nx;have hj:=h.jg.jf h.new;have a3:ER es M=Bi L:=by obtain⟨k,hk⟩:=h.new _ bN;unfold ER;rw[ZI hI.kn hk]
 have O:(Hn M cs).2.2=Ez L cs:=by unfold Hn;rw[h.nw];split;{rfl};rename_i Z;rw[if_neg vO];exact (Classical.not_not.1 Z).symm
 refine (aR w w0 D b M a c rm sb cb es ck bm 2000 S 2000 hI vO vO h.all u cs (hu.ext h.ext) hnc hsc (λ_=>Ez L cs≠0) (λt S'=>t=Bi (Gp L cs)/\∃ W T,Sj W U S (Gp L cs) T S'/\T.length<=119) (λW k hS=>by have hE:Af w0 W:=h.far (k.mono λx _ e=>.inl e);rw[a3];exact l7 w0 W (hc.ext hE) (he.ext hE) sb bm S 2000 hS hE.size vO vO hU hN hj.kp L (hj.has bN W hU h.map hL) u cs (hu.ext hE) vO (λc hc=>kL (hsc c hc)) hs)).mono ?_
 rintro e w' (⟨k,hk,a4,rfl,A,hK⟩|⟨Z,t,S1,S',D',a',c',⟨rfl,W1,T,hA,hT⟩,rfl,A,hK,a5, -,a7,a8⟩)
 ·(have e:k=Ez L cs:=by rcases a4 with e|e;{rw[<-O,e]};exact absurd (O.symm.trans e.1) e.2);subst e;have a0:Ad (Sb b rm bm S) w w':=hK.mono λx _ e=>.inl e;exact⟨_,_,L,M,es,S,rfl,a0,by rw[if_neg hk],⟨⟨D,a,c,ck,A,λz hz=>⟨bE (hf z hz).1 a0.size,(hf z hz).2⟩⟩,h.all,h.len,h.far a0,h.lo,h.jg,h.new,h.pin,h.nw,by omega,λv H=>kL (h.pb v H)⟩,iD _,bO _⟩
 ·rw[O]at Z;(have hM:(Hn M cs).1=⟨M.win,M.next+1,Iu M.win (M.next+1) (M.all++[⟨M.next,Gp L cs,Ph L (Gp L cs),0⟩])⟩:=by unfold Hn;rw[h.nw,if_neg λe=>e Z,if_neg vO];rfl);(have a1:Nu (Hn M cs).1=⟨M.next,Gp L cs,Ph L (Gp L cs),0⟩:=by rw[hM,I_,KV (by simp)];rfl);(have a2:∀ q∈X,∃ v∈(Hn M cs).1.all,(v.block:Int)=q.1/\0<v.pins:=λq hq=>by obtain⟨v,H,e1,e2⟩:=h.pin q hq;refine⟨v,?_,e1,e2⟩;rw[hM];exact d9 (gR _ H) (by unfold Si;simp[e2]));(have a9:Em (Gp L cs)=0:=Zo Z;have hg:=(h.jg.more hA a9 (hs Z) (M:=M) (ck:=ck) (UX hI h.all)).clean a8;have b0:(Hn M cs).1.all.length<=14:=by have h1:=aS (M:=M) (cs:=cs);have h2:=A.ok.few;have h3:=jCy (M:=M) (cs:=cs);omega);(have b1:∀ q∈(((Nu (Hn M cs).1).block:Int),Gp L cs)::X,∃ k,((q.1,.string (Bi q.2),k):Ce Int)∈(Rz es M (Bi (Gp L cs)) ck).filter λx=>Co (Hn M cs).1.all x.1:=λq hq=>by rcases bU.1 hq with rfl|hq;{refine⟨ck,cE.2 ⟨?_,j0 A.ok⟩⟩;rw[a1];unfold Rz;simp};obtain⟨k,hk⟩:=h.new q (bM _ hq);obtain⟨v,H,e1,_⟩:=a2 q hq;exact⟨k,cE.2 ⟨by unfold Rz;exact gR _ hk,by show Co (Hn M cs).1.all q.1=true;rw[<-e1];exact q_ H⟩⟩);(have K:∀ x∈(Rz es M (Bi (Gp L cs)) ck).filter λx=>Co (Hn M cs).1.all x.1,Co (Hn M cs).1.all x.1=true:=λx hx=>(cE.1 hx).2;have b2:∀ z,C z->z<(w':Nat)/\¬ Sb b rm bm S' z/\z≠sb/\¬ D' z:=λz hz=>by obtain⟨z1,z2,z3,z4⟩:=hf z hz;have b7:=hK.size;refine⟨by omega,λe=>?_,z3,λe=>kL (a7 z e)⟩;rcases e with e|e|e|e;{exact z2 (.inl e)};{exact z2 (.inr (.inl e))};{exact z2 (.inr (.inr (.inl e)))};obtain⟨y,hy,e⟩:=bC.1 e;rcases a5 y hy with h|h;{exact z2 (.inr (.inr (.inr (by rw[<-e];exact h))))};omega);have b3:=A.re hg hU (kL (jDh A.kn K));refine⟨_,_,Gp L cs,(Hn M cs).1,_,S',rfl,hK,by rw[if_pos Z],⟨⟨D',a',c',ck+1,b3,b2⟩,K,b0,h.far hK,h.lo,hg,b1,a2,by rw[a1],by rw[hM];show M.next+1<=_;omega,λv H=>?_⟩,aS,jCy⟩;rw[hM]at H;rcases bR.1 (BG.subset H)with H|H;{have:=h.pb v H;omega};rw[bG.1 H];exact cD _
theorem jDm{x:Int}(h:∀ v∈M.all,v.pins<=i):∀ v∈(Gd M x).1.all,v.pins<=i+1:=by
 unfold Gd;split
 ·exact λv e=>fW (h v e)
 split
 ·exact λv e=>fW (h v e)
 split
 ·exact λv e=>fW (h v e)
 rename_i v e hp
 intro u q;rcases P6 q with q|q
 ·exact fW (h u q)
 ·have:=h v (bD e);omega
theorem jDf{x:Int}(h:∀ v∈M.all,v.pins<=i):∀ v∈(Nv M x).1.all,v.pins<=i+1:=by
 unfold Nv;split
 ·exact λv e=>fW (h v e)
 split
 ·exact λv e=>fW (h v e)
 split
 ·exact λv e=>fW (h v e)
 rename_i v e hp
 intro u q;rcases P6 (BG.subset q)with q|q
 ·exact fW (h u q)
 ·have:=h v (bD e);omega
theorem ZC(w0 w:vW)(b rm sb cb bm:Nat)(U:vM)(L:vL)(M:Dm)(es:List (Ce Int))(S:vT)(i:Nat)(h:Gw C w0 w b rm sb cb bm U [] L M es S i)(x:Int):vQ 9 #[b,.int .i64 x] w λe w'=>e=.returned (.tuple #[((Gd M x).2.1:Int),.int .i64 (Gd M x).2.2])/\Ad (Sb b rm bm S) w w'/\Gw C w0 w' b rm sb cb bm U [] L (Gd M x).1 es S (i+1):=by
 obtain⟨D,a,c,ck,hI,A⟩:=h.inv
 have H:=h.len
 obtain⟨p1,p2,p3⟩:=l4 (M:=M) (x:=x)
 refine (Q0 w w0 D b M a c rm sb cb es ck bm 2000 S 2000 hI vO x).mono ?_;rintro e w' ⟨rfl,hK,D',a',c',X,Z⟩;have K:Ad (Sb b rm bm S) w w':=hK.mono λx _ e=>.inl e
 exact⟨rfl,K,⟨D',a',c',ck,X,λz O=>⟨bE (A z O).1 hK.size,(A z O).2.1,(A z O).2.2.1,λe=>(Z z e).elim (A z O).2.2.2 λh=>kL ((A z O).1)⟩⟩,λy hy=>by rw[jDk];exact h.all y hy,by rw[i_];exact H,h.far K,h.lo,h.jg,by rw[p1];exact h.new,λq hq=>(by cases hq),by rw[p2];exact h.nw,by rw[p3];have:=h.nx;omega,jDm h.pb⟩
theorem jDi(w0 w:vW)(b rm sb cb bm:Nat)(U:vM)(hU:Gi U)(X:List (Int × vL))(L:vL)(M:Dm)(es:List (Ce Int))(S:vT)(i:Nat)(h:Gw C w0 w b rm sb cb bm U X L M es S i)(x:Int):vQ 13 #[b,.int .i64 x] w λe w'=>e=.returned (.int .i64 (Nv M x).2)/\Ad (Sb b rm bm S) w w'/\∃ A S',Gw C w0 w' b rm sb cb bm U [] L (Nv M x).1 A S' (i+1):=by
 obtain⟨D,a,c,ck,hI,K⟩:=h.inv
 have a4:=h.len;have a5:=D6 (M:=M) (x:=x)
 obtain⟨p1,p2,p3⟩:=jCP (M:=M) (x:=x)
 refine (p4 w w0 D b M a c rm sb cb es ck bm 2000 S 2000 hI vO vO x).mono ?_;rintro e w' ⟨rfl,hK,D',a',c',A,S',O,h1,h2,h3, -,a1⟩;have Z:Ad (Sb b rm bm S) w w':=hK.mono λx _ e=>e.elim .inl λe=>.inr e;have hg:=h.jg.clean h3;have a0:∀ y∈A,Co (Nv M x).1.all y.1=true:=λy H=>by by_cases h0:(Nv M x).2=0;{rw[h2 h0]at H;exact (cE.1 H).2};rw[(h1 h0).1]at H;rw[D5 h0];exact h.all y H
 obtain⟨k,hk⟩:=h.new _ bN
 have a2:((((Nu M).block:Int),.string (Bi L),k):Ce Int)∈A:=by by_cases h0:(Nv M x).2=0;{rw[h2 h0];refine cE.2 ⟨hk,?_⟩;show Co _ ((Nu M).block:Int)=true;rw[<-p1];exact j0 O.ok};rw[(h1 h0).1];exact hk
 have a3:Fp w0 D' w' b (Nv M x).1 a' c' rm sb cb A ck bm 2000 S' 2000:=O
 refine⟨rfl,Z,A,S',⟨D',a',c',ck,a3,λz hz=>⟨bE (K z hz).1 hK.size,λe=>?_,(K z hz).2.2.1,λe=>(a1 z e).elim (K z hz).2.2.2 λh=>kL ((K z hz).1)⟩⟩,a0,by omega,h.far Z,h.lo,hg,λq hq=>by rw[bG.1 hq,p1];exact⟨k,a2⟩,λq hq=>(by cases hq),by rw[p2];exact h.nw,by rw[p3];have:=h.nx;omega,jDf h.pb⟩
 refine (K z hz).2.1 ?_;rcases e with e|e|e|e
 ·exact .inl e
 ·exact .inr (.inl e)
 ·exact .inr (.inr (.inl e))
 ·obtain⟨y,H,e⟩:=bC.1 e;obtain⟨u,hu,e2⟩:=h3.sub y H;exact .inr (.inr (.inr (bC.2 ⟨u,hu,e2.symm.trans e⟩)))
theorem jDb(h:Fh M)(hp:∀ v∈M.all,v.pins<=1000):(Gd M (-1)).2=((Nu M).block,0)/\∃ v∈(Gd M (-1)).1.all,v.block=(Nu M).block/\0<v.pins:=by
 obtain⟨v,e,_⟩:=h.last
 have q:Nu M=v:=by unfold Nu;rw[e];rfl
 rw[gX]at e;have A:Gd M (-1)=(⟨M.win,M.next,Lz M (M.all.length-1) v (v.pins+1)⟩,v.block,0):=by have:=hp v (bD e);unfold Gd JA;rw[if_pos rfl];simp only[e];rw[if_neg vO]
 rw[A,q]
 refine⟨rfl,EI v (v.pins+1),?_,rfl,Nat.succ_pos _⟩
 show _∈Lz M _ _ _;unfold Lz;exact bD (i:=M.all.length-1) (by rw[gK (bI.1 e).1])
theorem jDc(h:Fh M){x:Int}(hx:∃ v∈M.all,(v.block:Int)=x/\0<v.pins):(Nv M x).2=0:=by
 obtain⟨v,H,e,hp⟩:=hx
 have K:=q_ H;rw[e]at K
 obtain⟨i,u,O,A⟩:=q2 K
 obtain⟨u',q,e'⟩:=MY O
 rw[A]at q;obtain rfl:=bV q;have X:(M.all.map Au.block).Nodup:=by have:=h.rise;rw[List.nodup_iff_pairwise_ne,gO];exact this.imp λZ e=>by omega
 have:v=u:=Qj X H (bD A) vO
 subst this;unfold Nv;simp only[O,A];rw[if_neg vO]
end
section
open Go Go.RowKit
theorem Fp.byF{w0 W W':vW}{D:Nat->Prop}{F:Bd}{b:Nat}{M:Dm}{a:Option Addr}{c rm sb cb:Nat}{es:List (Ce Int)}{ck bm:Nat}{room:Int}{S:vT}{n:Nat}(h:Fp w0 D W b M a c rm sb cb es ck bm room S n)(k:Ad F W W')(h1:¬ F b)(h2:¬ F rm)(h3:¬ F sb)(h4:¬ F bm)(h5:∀ x∈S,¬ F x.2.1)(h6:∀ z,D z->¬ F z)(h7:Mm W F):Fp w0 D W' b M a c rm sb cb es ck bm room S n:=
 ⟨h.m.Z k h1 h2 h6,h.s.Z k h3 h4 h5 h7,h.sep,h.rb,h.db,λz e=>⟨(h.dr z e).1,bE (h.dr z e).2 k.size⟩,h.ok,h.st,h.kn,h.lt,h.val⟩
theorem Fp.low{w0 w1 W:vW}{D:Nat->Prop}{b:Nat}{M:Dm}{a:Option Addr}{c rm sb cb:Nat}{es:List (Ce Int)}{ck bm:Nat}{room:Int}{S:vT}{n:Nat}(h:Fp w1 D W b M a c rm sb cb es ck bm room S n)(e:(w0:Nat)<=↑w1):Fp w0 D W b M a c rm sb cb es ck bm room S n:=
 ⟨h.m,⟨h.s.st,h.s.all,bH e h.s.bnew,λx q=>bH e (h.s.new x q),h.s.cnt,h.s.full,h.s.len,h.s.fit,h.s.held⟩,h.sep,h.rb,h.db,h.dr,h.ok,h.st,h.kn,h.lt,h.val⟩
section
variable {Q:Nat->Prop} {w0 W W':vW} {b rm sb cb mb bm:Nat} {N:Int} {U:vM} {H:Int->vL->Prop} {L:vL} {M:Dm} {es:List (Ce Int)} {S:vT} {i:Nat}
end
end
section
open Go Go.RowKit
end
section
open Go Go.RowKit
def AZ(key:vB)(k:Nat):List Ea:=if k=0 then []else [(key.data.toList,.int .i64 (k:Int),0)]
theorem xB:(Cp (AZ key k) key.data.toList).getD qa=.int .i64 (k:Int):=by
 unfold AZ
 by_cases h:k=0
 ·subst h;rfl
 ·rw[if_neg h];simp[Cp]
theorem sO:Iv (AZ key k) key.data.toList (.int .i64 ((k:Int)+1)) (min k 1)=AZ key (k+1)/\(if (Cp (AZ key k) key.data.toList).isSome then min k 1 else min k 1+1)=min (k+1) 1:=by
 unfold AZ
 by_cases h:k=0
 ·subst h;exact⟨rfl,rfl⟩
 ·rw[if_neg h,if_neg vO];constructor;{simp[Iv,Cp]};simp[Cp];omega
theorem i4{w:vW}{a:Act}{x y:Operand}{ts:Array TypeId}{ty:TypeId}{g:Option (Nat × Bool)}{m n:Int}(hx:a.eval x=.int .i64 m)(hy:a.eval y=.int .i64 n)(h:m<=n):(execOp a.eval ⟨d,.call { callee:=.builtin .min,args:=#[x,y],argTypes:=ts },ty,pos,af,g⟩).run P w=.ok (.value (.int .i64 m)) w:=by
 have e:(Builtin.min_ ts ty #[.int .i64 m,.int .i64 n]).run P w=.ok (.int .i64 m) w:=by rw[Lib.run_min_ints,Int.min_eq_left h]
 simp[execOp,hx,hy,e,resolve,invoke,builtin,bS,Result.andThen]
def Sk(W:vW)(cb mb:Nat)(n:Int)(k:Nat)(key:vB)(tv:vV):Prop:=Ae W cb (.cells #[.int .i64 n,tv,.map (some mb),(k:Int)] 129)/\Ae W mb (.map (Al.arr (AZ key k)) (min k 1))
def Qt(W:vW)(cb mb:Nat)(n:Int)(k:Nat)(tg c:Nat)(key val:vB):Prop:=Ae W cb (.cells #[.int .i64 n,.slice (some tg) 1 c,.map (some mb),(k:Int)] 129)/\1<=c/\∃ rest,Ae W tg (.cells ([.string key,.string val]++rest).toArray 161)
theorem oN(cb mb:Nat)(n:Int)(k:Nat)(tg c:Nat)(hne:cb≠tg)(key v0 val:vB)(h:Qt w cb mb n k tg c key v0):vQ 82 #[cb,qa,val] w λe w'=>e=.returned (.tuple #[])/\Ad (λz=>z=tg) w w'/\Qt w' cb mb n k tg c key val:=by
 obtain⟨O,X,a0,ht⟩:=h
 have q1:w.cell? ⟨cb,1,none⟩=some (.slice (some tg) 1 c):=O.cell (i:=1) rfl;have t0:w.cell? tg=some (.string key):=ht.z1 rfl;have H:=J (bA O ht);clear O ht;unfold vQ;go_in;go_wp2_with (first|(refine Di Iq rfl rfl ?_;intro W2 a2 a3)|(refine Bt (vs:=[key,val]) rfl rfl rfl rfl a2 rfl Dr zc ?_;intro W3 a4 a5))
 have hE:Af w W3:=a3.O a5 kJ
 have H3:=J (kU hE a4 (H.o.1.Z hE kI) (H.o.2.Z hE kI));clear hE a2 a3 a4 a5 q1 t0;refine vS ?_;have c1:(1:Int)<=(c:Int):=vO
 refine Hs [0,1,2,3,4,5,6,7,8,9,10,11,12,13] Af Aa Ap vY vY vY ?_
 refine vK ?_
 refine Jf _ cb rfl zh (vS ?_)
 refine vK ?_
 refine Db ⟨cb,1,none⟩ (.slice (some tg) 1 c) rfl (λw1 X=>De zf ((H3.o.2.2.1.drew.Z X kI).cell (i:=1) rfl)) (vS ?_);iterate 2 refine vK ?_
 refine vK ?_
 generalize (if c=1 then some (tg:Addr)else some ⟨tg,2,none⟩)=ad
 refine vK ?_
 refine Jf _ cb rfl zh (vS ?_)
 refine vK ?_
 refine Db ⟨cb,1,none⟩ (.slice (some tg) 1 c) rfl (λw1 X=>De zf ((H3.o.2.2.1.drew.Z X kI).cell (i:=1) rfl)) (vS ?_);iterate 2 refine vK ?_
 refine Jf _ qa rfl (λw1 _=>aZ rfl rfl (ZF (P:=prog) w1 127 127 3 161 ad (some ⟨tg,0,none⟩) 0 (c-1) 0 c Ih Dr)) (vS ?_);refine Hi (λw4 h4=>?_);have q:Af W3 w4:=(Ao _).trans h4;have a7:=H3.o.2.1.Z q kI;have a8:=H3.o.2.2.1.Z q kI;have a1:=H3.o.2.2.2.Z q kI;have a9:=a1.lt;have b0:=H.o.2.lt;have H4:=J (kU (H3.o.1.trans q) a7 a8 a1);clear h4 q a7 a8 a1 a9;go_wp2_with fail
 refine Na [0,1,2,3,4,5,6] [6] Af (Ad λz=>z=tg) Aa Ap (λx y z h k=>Ad.trans h k) (λx y h=>h.mono kZ) vY vY vY ?_
 refine vD ?_
 refine Lx _ cb rfl zh (vS ?_)
 refine vD ?_
 refine Fa ⟨cb,1,none⟩ (.slice (some tg) 1 c) rfl (λw1 X=>De zf ((H4.o.2.2.1.drew.Z X hne).cell (i:=1) rfl)) (vS ?_);refine Fa w (.agg #[key,val]) rfl (λw1 X=>ZG w1 w [key,val] rfl (H4.o.2.1.drew.Z X vO)) (vS ?_)
 refine vD ?_
 refine Hh _ rfl (λwc O K hK=>?_);refine PJ (old:=[.string key,.string v0]++a0) (vs:=[key,val]) rfl rfl rfl ((H4.o.2.2.2.drew).Z O kI) (by simp) Dr zc (λW5 Z A=>hK _ _ A ?_);have H5:=J (kT O Z A);clear hK K O Z A;refine vS ?_;refine Mt (λw6 h6=>?_);refine bodyPost_end (results_none rfl _ _ _) rfl ?_
 obtain⟨O,Z,A⟩:=H5.o
 have k6:Ad (λz=>z=tg) w4 w6:=(((Ao _).trans O).mono kZ).trans (A.trans (h6.mono kZ))
 exact⟨rfl,(H4.o.1.mono kZ).trans k6,H4.o.2.2.1.Z k6 hne,X,a0,by simpa using Z.Z h6 kI⟩
theorem jr2(cb mb:Nat)(n k:Nat)(hn:1<=n)(hn64:n<=64)(key val:vB)(h:Sk w cb mb n k key qe):vQ 39 #[cb,key,val] w λe w'=>e=.returned true/\Ad (λz=>z=cb) w w'/\∃ A c,Qt w' cb mb n k A c key val/\(w:Nat)<=A:=by
 have b0:((n:Int) == 0)=false:=by simp;omega
 have b1:(0:Int)<(n:Int):=vO
 have H:=J h;have q0:=h.1.cell (i:=0) (v:=.int .i64 (n:Int)) vF;have b4:=h.1.lt;clear h;unfold vQ;go_in;go_wp2_with fail
 refine vC (OR w cb key (H.o.1.cell (i:=1) rfl)) λw1 hE=>?_;have Z:=H.o.1.Z hE kI;have q1:=Z.cell (i:=1) (v:=.slice none 0 0) vF;have H1:=J (bA hE Z);clear hE Z;go_wp2_with fail
 refine Hs [0,1,2,3,4,5,6,7,8,9,10] Af Aa Ap vY vY vY ?_
 refine vK ?_
 refine Jf _ cb rfl zh (vS ?_)
 refine vK ?_
 refine Db ⟨cb,1,none⟩ qe rfl (λw2 h1=>De zf ((H1.o.2.drew.Z h1 kI).cell (i:=1) rfl)) (vS ?_);refine Jf _ qa rfl zh (vS ?_)
 refine vK ?_
 refine Jf _ cb rfl zh (vS ?_)
 refine vK ?_
 refine Db cb (n:Int) rfl (λw2 h1=>De zf ((H1.o.2.drew.Z h1 kI).cell (i:=0) rfl)) (vS ?_);iterate 2 refine vK ?_
 refine Hi (λw2 h2=>?_);have K:Af w w2:=H1.o.1.trans ((Ao _).trans h2);have a0:=H.o.1.Z K kI;have b5:=a0.cell (i:=1) (v:=.slice none 0 0) vF;have H2:=J (kT K a0 (H.o.2.Z K kI));clear h2 K a0 q1;go_wp2_with (at_builtin;go_loud (refine Qm Lr (Ar.nil 161 2 ((Aa w2).alloc (.cells #[key,()] 161))) (.tmp 45) (.tmp 48) rfl rfl rfl (Jx (Ae.new w2 _)) (news:=[key,()]) (by intro u hu;simp at hu;rcases hu with rfl|rfl<;>rfl) rfl rfl zi vO λv5 w5 O r2 r3=>?_);obtain⟨a5,c5,rfl⟩:=O.sl;have q:=H2.o.2.1.Z O.ext kI;have q5:=q.cell (i:=1) (v:=.slice none 0 0) vF;have f5:w5.frozen? ⟨cb,1,none⟩=false:=q.frozen;have H5:=J (bA O q);clear O r2 r3 q)
 obtain⟨O,q⟩:=H5.o
 have a1:=q.z2 (i:=1) (.slice a5 (0+1) c5);have k6:=Ad.z4 w5 ⟨cb,1,none⟩ (.slice a5 (0+1) c5)
 obtain⟨_,⟨e,_⟩|⟨A,b6,a2,e,_,a3,b2,_,b3,a4⟩⟩:=O.own
 ·cases e
 cases e;have b7:(w2:Nat)<=A:=O.new A rfl;have b8:=H2.o.1.size;have a7:cb≠A:=vO
 have X:Ae w5 A (.cells (([key,()]:List vV)++a2.toList.drop 2).toArray 161):=by have h2:a2.toList.take 2=[Value.string key,.string ⟨#[]⟩]:=a4;rw[<-h2,cX];show w5.heap[A]?=_;simpa using a3
 have a8:Qt (w5.setCell ⟨cb,1,none⟩ (.slice (some ⟨A,0,none⟩) (0+1) c5)) cb mb n k A c5 key ():=⟨by simpa using a1,b2,_,X.Z k6 λe=>a7 e.symm⟩;refine (oN _ cb mb n k A c5 a7 key () val a8).mono ?_;rintro e w7 ⟨rfl,a9,h7⟩;have H7:=J (kT ((((H2.o.1.trans O.ext).mono (G:=λz=>z=cb) λ_ _ e=>e.elim).trans k6).O a9 kJ) h7 (show (w:Nat)<=A by omega));clear a9 h7 a8 X a3 a1 k6 q O q5 f5 b3 a4;go_wp2
 go_ret
 exact⟨rfl,H7.o.1,A,c5,H7.o.2⟩
attribute [local go_sem] Oper.semAt_some
theorem jpU(s:vN):(s == s)=true:=by simp
theorem jzg(hk:w.cell? g=some (.string key)):vR 134 #[.agg #[key,val],g] w true:=by
 have e:=Am hk ((Aa w).alloc (.cells #[key,val] 161));have E:=jpU key.toList;clear hk;unfold vR vQ;go_in;go_wp2
 go_ret
 exact⟨rfl,(Aa w).alloc _⟩
theorem H1(tg c:Nat)(key val:vB)(q0:w.cell? tg=some (.string key))(q1:w.cell? ⟨tg,1,none⟩=some (.string val))(g:Nat)(hk:w.cell? g=some (.string key)):vR 133 #[.slice (some tg) 1 c,.func (.func 134) #[] #[g]] w qa:=by
 unfold vR vQ;go_in;go_wp2
 go_loopw [8] (λi wr=>i=.int .i64 0/\Af w wr) (λi _=>1)
 case atStart=>exact⟨rfl,Aa w⟩
 case round =>obtain⟨rfl,e⟩:=hrel;(have H:=J e;have K:=Am q0 e;have O:=Am q1 e;have q:=Am hk e;clear e q0 q1 hk;go_wp2_with fail);(refine vH (jzg wr key val g q) λX e=>?_;have A:=J (H.o.trans e);go_wp2);go_ret;exact⟨rfl,A.o⟩
theorem O3(cb mb:Nat)(n:Int)(k tg c:Nat)(key val:vB)(h:Qt w cb mb n k tg c key val):vR 81 #[cb,key] w qa:=by
 obtain⟨A,h1,K,O⟩:=h
 have e:=(Aa w).alloc (.cells #[key] 9);have q1:=Am (A.cell (i:=1) (v:=.slice (some tg) 1 c) vF) e;have H:=J (bA (O.Z e λh=>h) (Ae.new w (.cells #[key] 9)));have q:=J e;clear e A O;unfold vR vQ;go_in;go_wp2_with fail
 refine vH (H1 _ tg c key val (H.o.1.z1 rfl) (H.o.1.z1 rfl) _ (H.o.2.cell (i:=0) rfl)) λw1 X=>?_;have Z:=J (q.o.trans X);go_wp2
 go_ret
 exact⟨rfl,Z.o⟩
def tX:Option (Nat × Nat × vB)->vV
 |none=>.slice none 0 0
 |some (tg,c,_)=>.slice (some tg) 1 c
def YE:Option (Nat × Nat × vB)->vB
 |none=>⟨#[]⟩
 |some (_,_,v)=>v
def AS(cb mb:Nat)(o:Option (Nat × Nat × vB))(z:Nat):Prop:=z=cb\/z=mb\/∃ c v,o=some (z,c,v)
def thP(W:vW)(cb mb:Nat)(key:vB):Option (Nat × Nat × vB)->Prop
 |none=>True
 |some (tg,c,v)=>1<=c/\tg≠cb/\tg≠mb/\∃ rest,Ae W tg (.cells ([.string key,.string v]++rest).toArray 161)
def DP(W:vW)(cb mb:Nat)(n:Int)(k:Nat)(key:vB)(o:Option (Nat × Nat × vB)):Prop:=Sk W cb mb n k key (tX o)/\thP W cb mb key o
theorem Qt.Z{W:vW}{n:Int}{k tg c:Nat}{key val:vB}(h:Qt W cb mb n k tg c key val)(e:Af W W'):Qt W' cb mb n k tg c key val:=⟨h.1.Z e λh=>h,h.2.1,h.2.2.imp λ_ h=>h.Z e λh=>h⟩
theorem P8(cb mb:Nat)(hne:cb≠mb)(n k:Nat)(hn:1<=n)(hn64:n<=64)(hk:k<=13)(hkn:k+1<10*n)(key:vB)(o:Option (Nat × Nat × vB))(h:DP w cb mb n k key o):vQ 37 #[cb,key] w λe w'=>e=.returned (.tuple #[YE o,o.isSome])/\Ad (AS cb mb o) w w'/\DP w' cb mb n (k+1) key o:=by
 obtain⟨tv,a1⟩:=vE (tX o)
 have HT:=J (bA a1 h.2)
 obtain⟨h, -⟩:=h
 rw[<-a1]at h;clear a1;have b0:((n:Int) == 0)=false:=by simp;omega
 have bw:RowKit.wrap64 ((k:Int)+1)=(k:Int)+1:=by unfold RowKit.wrap64;omega
 have bm:¬(15:Int)<(k:Int)+1:=vO
 have H:=J h;have q0:=h.1.cell (i:=0) (v:=.int .i64 (n:Int)) vF;clear h;unfold vQ;go_in;go_wp2_with fail
 refine BF [0,1,2,3,4,5,6,7,8,9,10,11,12] 13 [] Af Af Aa Ap Ap (λx y h=>h) vY vY vY ?_
 refine vZ ?_
 refine Qs _ cb rfl zf (vS ?_)
 refine vZ ?_
 refine Vi ⟨cb,2,none⟩ (.map (some mb)) rfl (λw1 O=>De zf ((H.o.1.drew.Z O kI).cell (i:=2) rfl)) (vS ?_);iterate 2 refine vZ ?_
 refine Qs _ cb rfl zf (vS ?_)
 refine vZ ?_
 refine Vi ⟨cb,2,none⟩ (.map (some mb)) rfl (λw1 O=>De zf ((H.o.1.drew.Z O kI).cell (i:=2) rfl)) (vS ?_)
 refine vZ ?_
 refine UV _ (k:Int) rfl vY vY rfl (λw3 h3=>by have:=Wx Al Bf (H.o.2.drew.Z h3 kI) (Cz w3) key.data.toList false;rw[xB]at this;exact ZJ this) ?_
 refine vS ?_
 refine vZ ?_
 refine Qs _ (.int .i64 ((k:Int)+1)) rfl (λw1=>i4 rfl rfl vO) (vS ?_);refine BJ _ rfl vY rfl (λwc hc K hK=>?_);have kc:Af w wc:=(Ao _).trans hc;have a2:=H.o.2.Z kc kI
 obtain⟨W2,X⟩:=vE (wc.putObj mb (.map (Al.arr (AZ key (k+1))) (min (k+1) 1)))
 have b2:(Instr.mapUpdate 126 (.map (some mb)) key (.int .i64 ((k:Int)+1))).run prog wc=.ok () W2:=by have:=Yq Al Bf a2 key.data.toList (.int .i64 ((k:Int)+1));rw[X];rw[(sO key k).1,(sO key k).2]at this;exact this
 have a8:Ae W2 mb (.map (Al.arr (AZ key (k+1))) (min (k+1) 1)):=by rw[X];exact a2.put_same _
 have K2:Ad (λz=>z=mb) wc W2:=by rw[X];exact Ad.z7 _ _ _
 have Z:=(H.o.1.Z kc kI).Z K2 hne;have H2:=J (kT a8 ((kc.mono (G:=λz=>z=mb) λ_ _ e=>e.elim).trans K2) Z);clear X a8 K2 a2 kc hc;go_simp;refine hK _ _ ?_;clear hK K b2;have q3:W2.cell? ⟨cb,3,none⟩=some (.int .i64 (k:Int)):=Z.cell (i:=3) rfl;have f3:W2.frozen? ⟨cb,3,none⟩=false:=Z.frozen;clear Z;go_wp2_with fail
 have q:=H2.o.2.2.z2 (i:=3) (.int .i64 ((k:Int)+1));have k3:=Ad.z4 W2 ⟨cb,3,none⟩ (.int .i64 ((k:Int)+1));have a3:=H2.o.1.Z k3 (λe=>hne e.symm);generalize W2.setCell ⟨cb,3,none⟩ (.int .i64 ((k:Int)+1))=w3 at q k3 a3 ⊢;refine Hs [0,1,2,3,4,5,6,7,8,9] Af Aa Ap vY vY vY ?_
 refine vK ?_
 refine Jf _ cb rfl zh (vS ?_)
 refine vK ?_
 refine Db ⟨cb,3,none⟩ (.int .i64 ((k:Int)+1)) rfl (λw1 O=>De zf ((q.drew.Z O kI).cell (i:=3) rfl)) (vS ?_)
 refine vK ?_
 refine Jf _ cb rfl zh (vS ?_)
 refine vK ?_
 refine Db cb (n:Int) rfl (λw1 O=>De zf ((q.drew.Z O kI).cell (i:=0) rfl)) (vS ?_);iterate 2 refine vK ?_
 refine Hi (λw4 h4=>?_);have a0:Af w3 w4:=(Ao _).trans h4;have a9:=q.Z a0 kI;have kA:Ad (λz=>z=cb\/z=mb) w w4:=(H2.o.2.1.mono (G:=λz=>z=cb\/z=mb) λz _ e=>.inr e).trans ((k3.mono λz _ e=>.inl e).trans (a0.mono kZ));have b1:=a3.Z a0 kI;have HM:=J (bA kA (show Sk w4 cb mb n (k+1) key tv from⟨by simpa using a9,b1⟩));clear h4 a0 q k3 a3 a9 q3 f3 kA b1;cases o with
 |none =>(obtain rfl:=HT.o.1;go_wp2_with fail);(refine vC (OR w4 cb key (HM.o.2.1.cell (i:=1) rfl)) λw5 hE=>?_;have H5:=J (kT ((HM.o.1.mono (G:=AS cb mb none) λz _ e=>e.elim .inl λe=>.inr (.inl e)).trans (hE.mono kZ)) (HM.o.2.1.Z hE kI) (HM.o.2.2.Z hE kI));clear hE;go_wp2);go_ret2;exact⟨rfl,H5.o.1,H5.o.2,trivial⟩
 |some x =>obtain⟨tg,c,val⟩:=x;obtain⟨rfl,hT⟩:=HT.o;obtain⟨O,n1,n2,a7,ht⟩:=hT;(have a4:Qt w4 cb mb n (k+1) tg c key val:=⟨HM.o.b,O,a7,ht.Z HM.o.1 λe=>e.elim n1 n2⟩;go_wp2_with fail);(refine vC (O3 w4 cb mb n (k+1) tg c key val a4) λw5 hE=>?_;have A:=a4.Z hE;have q1:=A.1.cell (i:=1) (v:=.slice (some tg) 1 c) vF;have t0:w5.cell? tg=some (.string key):=A.2.2.choose_spec.z1 rfl;have t1:w5.cell? ⟨tg,1,none⟩=some (.string val):=A.2.2.choose_spec.z1 rfl;have H5:=J (kT ((HM.o.1.mono (G:=AS cb mb (some (tg,c,val))) λz _ e=>e.elim .inl λe=>.inr (.inl e)).trans (hE.mono kZ)) A (HM.o.2.2.Z hE λh=>h));clear hE A a4 ht;go_wp2_with fail);(refine (oN _ cb mb n (k+1) tg c (λe=>n1 e.symm) key val val H5.o.b).mono ?_;rintro e w6 ⟨rfl,hK,a5⟩;go_wp2);go_ret2;exact⟨rfl,H5.o.1.trans (hK.mono λz _ e=>.inr (.inr ⟨c,val,by rw[show z=tg from e]⟩)),⟨a5.1,H5.o.2.2.Z hK λe=>n2 e.symm⟩,a5.2.1,n1,n2,a5.2.2⟩
theorem Rx.nought{W:vW}{n:Int}{key:vB}(h:Rx W cb mb n):DP W cb mb n 0 key none:=⟨h,trivial⟩
theorem zZ{z:Nat}(e:AS cb mb none z):z=cb\/z=mb:=by
 rcases e with e|e|⟨_,_,e⟩
 ·exact .inl e
 ·exact .inr e
 ·cases e
end
section
open Go Go.RowKit
def QO(P:Program)(gf:FuncId)(pre lb:Array vV)(N:Nat)(vals:Nat->Array vV)(M:Bd)(S:Bd->vW->Prop)(SE:Nat->Bd->vW->Prop):Prop:=
 ∀ (l:Nat) (C:Nat->Bd->vW->Prop) (Cx:Nat->Bd->vW->Prop),(∀ k,Mg (C k))->(∀ k D W,¬ Cx k D W) ->
  ∀ D O W,(∀ k D' W',k<N->C k D' W'->Ad (λb=>D b\/M b) W W'->jq6 P l (vals k) D' W' (C (k+1)) (Cx (k+1))) ->
   C 0 D W->S O W->(∀ b,D b->¬ O b) ->
   CallsIn Fence.wide 0 P gf ((pre++#[.func (.yield l) #[] #[]])++lb) W (VF W M D O N C Cx SE)
def Z2(D:Bd)(W:vW)(Ct:Bd->vW->Prop):Exit->Act->vW->Prop
 |.normal,_,W'=>∃ D':Bd,Ad D W W'/\(∀ b,D' b->D b\/(W:Nat)<=b)/\Ct D' W'
 |_,_,_=>False
theorem lH{g:Operand}{ps:Array Tmp}{a:Act}{w:vW}
  {gf:Nat}  (hg:a.eval g=.func (.func gf) pre lb) (eg:∀ args w,(callFunc gf args).run P w=.ok (.enter gf args) w)
   {vals:Nat->Array vV} {M:Bd} {S:Bd->vW->Prop} {SE:Nat->Bd->vW->Prop} (IS:QO P gf pre lb N vals M S SE)
  (hS:Mg S) (hps:∀ k,(vals k).size=ps.size)
  (C:Nat->Bd->vW->Prop) (hC:∀ k,Mg (C k))
  (D₀ O₀:Bd) (h0:C 0 D₀ w) (hS0:S O₀ w) (hdis:∀ b,D₀ b->¬ O₀ b)
  (hround:∀ (l k:Nat) (D:Bd) (W:vW) (K:Act->vW->Prop),k<N->C k D W->(w:Nat)+1 < ↑W ->
   (∀ a1 W1,Af W W1->(∀ W2,C k D W2->Ad (λb=>b=(w:Nat)+1) W1 W2->Ad (λb=>D₀ b\/M b) w W2->body.wpIn (Fence.wide.inRound l) 0 P (Z2 D W2 (C (k+1))) a1 W2)->K a1 W1) ->
   assign.wpIn (Fence.wide.inRound l) 0 P (Exit.then K λ_ _ _=>False) { tmps:=(ps.zip (vals k)).foldl (λt (p,v)=>t.setIfInBounds p v) a.tmps,defers:=[] } W)
  (hdone:∀ (D O:Bd) (W:vW),Ad (λb=>D₀ b\/M b) w W->C N D W->SE N O W->Ae W w (.deferred (some [])) ->
   Q .normal { a with defers:={ target:=.collected w,args:=#[] }::a.defers } W)
  (hSE:∀ k,Mg (SE k)) :
  (Code.rangeFunc g ps assign body).wpIn Fence.wide 0 P Q a w:=by
 refine TV hg eg λa3 W1 a8 a4 b8 b2=>?_;have a9:∀ b,D₀ b->b<(w:Nat):=(hC 0).lt _ _ h0;have b3:∀ b,O₀ b->b<(w:Nat):=hS.lt _ _ hS0
 let CC:Nat->Bd->vW->Prop:=λk D W=>∃ Z:Bd,C k Z W/\(∀ b,D b↔Z b\/b=(w:Nat)+1\/b=(w:Nat))/\¬ Z ((w:Nat)+1)/\¬ Z ↑w/\Mc a3 w .ready none W
 have b4:∀ k,Mg (CC k):=λk=>⟨λD W ⟨Z,h1,H,_,_,q⟩ b hb=>by rcases (H b).1 hb with h|rfl|rfl;{exact (hC k).lt _ _ h1 b h};{exact q.loop.lt};exact q.dfr.lt,λD W W' ⟨Z,h1,H,h5,h6,q⟩ hs hb=>⟨Z,(hC k).st _ _ _ h1 hs λb h=>hb b ((H b).2 (.inl h)),H,h5,h6,(hb _ ((H _).2 (.inr (.inl rfl)))).trans q.loop,(hb _ ((H _).2 (.inr (.inr rfl)))).trans q.dfr⟩⟩
 have b0:∀ {W},Ad (λb=>(D₀ b\/b=(w:Nat)+1\/b=(w:Nat))\/M b) W1 W->Ad (λb=>D₀ b\/M b) w W:=λhk=>(a4.mono kZ).O hk (λx hx h=>by rcases h with (h|rfl|rfl)|h;{exact .inl h};{omega};{omega};exact .inr h)
 refine CallsIn.mono (IS ((w:Nat)+1) CC (λ_ _ _=>False) b4 (λ_ _ _ h=>h) (λb=>D₀ b\/b=(w:Nat)+1\/b=(w:Nat)) O₀ W1 ?_ ⟨D₀,(hC 0).Z h0 a4 λ_ _ h=>h,λ_=>Iff.rfl,λh=>kL (a9 _ h),λh=>kL (a9 _ h),b2⟩ (hS.Z hS0 a4 λ_ _ h=>h) (λb hb ho=>by have:=b3 b ho;rcases hb with h|rfl|rfl;{exact hdis b h ho};{omega};omega)) ?_
 ·rintro k D W hk ⟨Z,h1,H,h5,h6,q⟩ b5;have a5:D ((w:Nat)+1):=(H _).2 (.inr (.inl rfl));refine TW a8 q (hps k) (hround _ k Z W _ hk h1 q.loop.lt λa1 W2 hX b6=>?_);have h1:=(hC k).Z h1 hX (λ_ _ h=>h);have q:=q.Z hX kI kI;have a2:=Ad.z7 W2 ((w:Nat)+1) (.loop (a3 .busy none));refine⟨q,Code.wpIn_mono ?_ (b6 _ ((hC k).Z h1 a2 λb hb e=>h5 (e ▸ hb)) a2 (((b0 b5).O hX kZ).O a2 λx hx e=>by omega))⟩;intro e a' W' hq;cases e with| normal =>obtain⟨X,hK,A,hc⟩:=hq;rw[World.putObj_size]at A;have b9:=q.loop.lt;have n1:¬ X ((w:Nat)+1):=λh=>(A _ h).elim h5 vO;have n2:¬ X ↑w:=λh=>(A _ h).elim h6 vO;have b1:=Ad.z7 W' ((w:Nat)+1) (.loop (a3 .ready none));refine⟨none,rfl,hK.mono λb _ h=>⟨λe=>h6 (e ▸ h),λe=>h5 (e ▸ h)⟩,λhb=>⟨λb=>X b\/b=(w:Nat)+1\/b=(w:Nat),(hX.mono kZ).trans (((a2.mono λx _ e=>e ▸ a5).O hK λx hx h=>(H x).2 (.inl h)).O b1 λx hx e=>e ▸ a5),?_,.inl ⟨rfl,X,(hC _).Z hc b1 λb hb e=>n1 (e ▸ hb),λ_=>Iff.rfl,n1,n2,hb⟩⟩⟩;rintro b (h|rfl|rfl);{exact (A b h).imp (λh=>(H b).2 (.inl h)) (λh=>bH hX.size h)};{exact .inl a5};exact .inl ((H _).2 (.inr (.inr rfl)))| _=>exact hq.elim
 ·rintro e W' ⟨hv,Z,O',hk,c0,c1,a0,⟨⟨X,h1,H,h5,h6,q⟩,b7⟩|⟨_,_,_,h,_⟩⟩;{refine⟨hv,.inl ⟨q,λo hd=>?_⟩⟩;have a7:=Ad.z7 W' ((w:Nat)+1) o;exact hdone X O' _ ((b0 hk).O a7 λx hx e=>by omega) ((hC N).Z h1 a7 λb hb e=>h5 (e ▸ hb)) ((hSE N).Z b7 a7 λb hb e=>a0 _ ((H _).2 (.inr (.inl rfl))) (e ▸ hb)) hd};exact h.elim
end
section
open Go Go.RowKit
attribute [local go_sem] Oper.semAt_some
end
section
open Go Go.RowKit
end
section
open Go Go.RowKit
attribute [local go_sem] Oper.semAt_some
structure DX(t:Nat)(to:vB)(limit:Int)(W:World):Prop where
 b0:Ae W t (.cells #[to] 9)
 b1:Ae W (t+1) (.cells #[.int .i64 limit] 3)
 b2:Ae W (t+2) (.cells #[qe] 50)
 b3:Ae W (t+3) (.cells #[false] 4)
 b4:Ae W (t+4) (.cells #[qa] 27)
theorem DX.Z{to:vB}{W:vW}(h:DX t to limit W)(k:Ad F W W')(hF:∀ b,t<=b->b<=t+4->¬ F b):DX t to limit W':=
 ⟨h.b0.Z k (hF _ vO vO),h.b1.Z k (hF _ vO vO),h.b2.Z k (hF _ vO vO),h.b3.Z k (hF _ vO vO),h.b4.Z k (hF _ vO vO)⟩
theorem DX.new(limit:Int):DX W to limit (((((W.alloc (.cells #[to] 9)).alloc (.cells #[.int .i64 limit] 3)).alloc (.cells #[qe] 50)).alloc (.cells #[false] 4)).alloc (.cells #[qa] 27)):=by
 refine⟨?_,?_,?_,?_,?_⟩
 ·exact ((((Ae.new W _).alloc _).alloc _).alloc _).alloc _
 ·have:=(((Ae.new (W.alloc (.cells #[to] 9)) (.cells #[.int .i64 limit] 3)).alloc (.cells #[qe] 50)).alloc (.cells #[false] 4)).alloc (.cells #[qa] 27);rwa [bJ]at this
 ·have:=((Ae.new ((W.alloc (.cells #[to] 9)).alloc (.cells #[.int .i64 limit] 3)) (.cells #[qe] 50)).alloc (.cells #[false] 4)).alloc (.cells #[qa] 27);rwa [bJ,bJ]at this
 ·have:=(Ae.new (((W.alloc (.cells #[to] 9)).alloc (.cells #[.int .i64 limit] 3)).alloc (.cells #[qe] 50)) (.cells #[false] 4)).alloc (.cells #[qa] 27);rwa [bJ,bJ,bJ]at this
 ·have:=Ae.new ((((W.alloc (.cells #[to] 9)).alloc (.cells #[.int .i64 limit] 3)).alloc (.cells #[qe] 50)).alloc (.cells #[false] 4)) (.cells #[qa] 27);rwa [bJ,bJ,bJ,bJ]at this
theorem v_{fn:Func}{t u x:Tmp}{ty ty2 ty3:TypeId}(h:fn.results=#[.cell t ty,.cell u ty2,.cell x ty3]){a b c:Addr}(ha:tmps.getD t undef=.pointer (some a))(hb:tmps.getD u undef=.pointer (some b))(hc:tmps.getD x undef=.pointer (some c)){w:vW}
  (l1:(loadVar ty a).run P w=.ok v1 w) (l2:(loadVar ty2 b).run P w=.ok v2 w) (l3:(loadVar ty3 c).run P w=.ok v3 w):(results fn tmps).run P w=.ok (.tuple #[v1,v2,v3]) w:=by
 have e:tmps[t]?.getD undef=.pointer (some a):=by simpa using ha
 have q:tmps[u]?.getD undef=.pointer (some b):=by simpa using hb
 have A:tmps[x]?.getD undef=.pointer (some c):=by simpa using hc
 simp[results,h,e,q,A,asAddr,bS,Result.andThen,l1,l2,l3]
theorem SX{W:vW}{p:Addr}{t:TypeId}{d:TypeDesc}(hu:P.underlying t=some d)(hd:(match d with | .struct _ | .array _ _=>true|_=>false)=false)(h:W.cell? p=some v):(loadVar t p).run P W=.ok v W:=by
 have:=Bv hu hd h
 simpa [Instr.loadAt,Instr.sureAddr,bS,Result.andThen]using this
theorem zC(y2 y3 y4:vV)(h2:Ae w1 (t+2) (.cells #[x2] 50))(h3:Ae w1 (t+3) (.cells #[x3] 4))(h4:Ae w1 (t+4) (.cells #[x4] 27)):Ae (((w1.setCell (t+1+1:) y2).setCell (t+1+1+1:) y3).setCell (t+1+1+1+1:) y4) (t+2) (.cells #[y2] 50) /\
  Ae (((w1.setCell (t+1+1:) y2).setCell (t+1+1+1:) y3).setCell (t+1+1+1+1:) y4) (t+3) (.cells #[y3] 4) /\
  Ae (((w1.setCell (t+1+1:) y2).setCell (t+1+1+1:) y3).setCell (t+1+1+1+1:) y4) (t+4) (.cells #[y4] 27) /\
  Ad (λb=>b=t+2\/b=t+3\/b=t+4) w1 (((w1.setCell (t+1+1:) y2).setCell (t+1+1+1:) y3).setCell (t+1+1+1+1:) y4):=by
 have q:=Ad.z4 w1 (t+1+1:) y2;have A:=Ad.z4 (w1.setCell (t+1+1:) y2) (t+1+1+1:) y3;have H:=Ad.z4 ((w1.setCell (t+1+1:) y2).setCell (t+1+1+1:) y3) (t+1+1+1+1:) y4
 refine⟨?_,?_,?_,((q.mono λb _ e=>.inl e).O A λb _ e=>.inr (.inl e)).O H λb _ e=>.inr (.inr e)⟩
 ·exact ((h2.z2 (i:=0) y2).z6 (p:=(t+1+1+1:)) (by show t+2≠t+3;omega) _).z6 (p:=(t+1+1+1+1:)) (by show t+2≠t+4;omega) _
 ·exact ((h3.z6 (p:=(t+1+1:)) (by show t+3≠t+2;omega) _).z2 (i:=0) y3).z6 (p:=(t+1+1+1+1:)) (by show t+3≠t+4;omega) _
 ·exact ((h4.z6 (p:=(t+1+1:)) (by show t+4≠t+2;omega) _).z6 (p:=(t+1+1+1:)) (by show t+4≠t+3;omega) _).z2 (i:=0) y4
theorem T2{W:vW}{y2 y3 y4:vV}(h2:Ae W (t+2) (.cells #[y2] 50))(h3:Ae W (t+3) (.cells #[y3] 4))(h4:Ae W (t+4) (.cells #[y4] 27))
  (ha:tmps.getD 10 undef=.pointer (some (t+2:))) (hb:tmps.getD 11 undef=.pointer (some (t+3:))) (hc:tmps.getD 12 undef=.pointer (some (t+4:))):(results f55 tmps).run prog W=.ok (.tuple #[y2,y3,y4]) W:=
 v_ rfl ha hb hc (SX Kw rfl (h2.cell (i:=0) vF)) (SX underlying4 rfl (h3.cell (i:=0) vF)) (SX underlying27 rfl (h4.cell (i:=0) vF))
def Ye(c s:Nat)(fr:vB)(v:vV)(W:vW):Prop:=Ae W c (.cells #[s,fr,v,.int .i64 1] 294)
structure AW(g:Nat)(p x:vB)(W:World):Prop where
 p0:W.cell? g=some (.string p)
 p1:W.cell? ⟨g,1,none⟩=some (.string x)
 p2:W.cell? ⟨g,2,none⟩=some (.string ⟨#[]⟩)
 lt:g<(W:Nat)
theorem AW.Z{W:vW}{g:Nat}{p x:vB}(h:AW g p x W)(k:Ad F W W')(hF:¬ F g):AW g p x W':=⟨Ed h.p0 k hF,Ed h.p1 k hF,Ed h.p2 k hF,bE h.lt k.size⟩
def MJ(W:vW)(c s:Nat)(fr p x:vB)(w':vW):Prop:=∃ g cp,Ye c s fr (.slice (some ⟨g,0,none⟩) 1 cp) w'/\AW g p x w'/\(W:Nat)<=g/\c<g/\1<=cp
theorem J6(h:Ye c s fr qe W)(hx:x.toList.isEmpty=false)(hl:Op.bytesLess p.toList fr.toList=false)(hk:Mo p=true)(hp:p.size<=1000000):vQ 185 #[c,p,x] W λe w'=>e=.returned (.tuple #[])/\MJ W c s fr p x w'/\Ad (λb=>b=c) W w':=by
 have q1:=Ae.cell (i:=1) (v:=.string fr) h vF;have q2:=Ae.cell (i:=2) (v:=.slice none 0 0) h vF;have H:=J h;have X:=FI W p hp;unfold Lg at X;rw[hk]at X;have a0:=J X;clear h X hk hp;unfold vQ;go_in;go_wp2_with fail
 refine a0.o.mono ?_;rintro e w1 ⟨rfl,hE⟩;simp only[if_true];have q2:=Am q2 hE;have Z:=J hE;clear hE;go_wp2_with (at_builtin;(refine Qm Wt (Ar.nil _ _ (Z.o.alloc _)) (.tmp 28) (.tmp 32) rfl rfl rfl (Jx (Ae.new w1 _)) (news:=[p,x,()]) (V8 ⟨p,x,⟨#[]⟩⟩) rfl rfl vI vI ?_;intro v' w' A O r3;have q:Af w1 w':=((Aa w1).alloc _).O O (λx _ e=>by cases e);have q3:=Am q2 q;have qf:w'.frozen? ⟨c,2,none⟩=false:=(Ae.Z H.o (Z.o.trans q) kI).frozen;have HR:=J (bA A q);obtain⟨a2,K,a1⟩:=A.sl;subst a1;clear A O r3 q))
 refine bodyPost_end (results_none rfl _ _ _) rfl ?_
 obtain⟨A,O⟩:=HR.o
 obtain⟨_,⟨_,h3⟩|⟨g,a3,a4,h2,h3,h4,h5,h6⟩⟩:=A.own
 ·cases h3
 obtain⟨rfl,_,rfl⟩:=dF h2
 have hc:=λj u hj=>World.ownsRow.cells (g:=g) A.own rfl j u hj;simp only[Addr.add_lit,bX]at hc;have hg:=A.new g rfl;have a5:=Ae.lt H.o;have h1:0+1<=K:=h5;have ks:=Ad.z4 w' ⟨c,2,none⟩ (.slice (some g) 1 K)
 exact⟨rfl,⟨g,K,Ae.z2 (i:=2) (Ae.Z H.o (Z.o.trans O) kI) _,AW.Z ⟨hc 0 _ rfl,hc 1 _ rfl,hc 2 _ rfl,Ae.lt h4⟩ ks (by show ¬ g=c;omega),hg,by omega,by omega⟩,((Z.o.trans O).mono kZ).trans ks⟩
theorem wF(va:vB)(rs:vM)(hr:rs.length=16)(h:Ye c s fr qe W)(hx:va.toList.isEmpty=false)(hl:Op.bytesLess pa.toList fr.toList=false)(hk:Mo pa=true)(hp:pa.size<=1000000):vQ 155 #[c,(Ai.mk 1 pa va rs).V,()] W λe w'=>e=.returned (.tuple #[])/\MJ W c s fr pa va w'/\Ad (λb=>b=c) W w':=by
 have q:=(Aa W).alloc (.cells (Ai.cells ⟨1,pa,va,rs⟩).toArray 215);have O:=J (J6 _ c s fr pa va (Ae.Z h q kI) hx hl hk hp);have A:=J q;clear h hx hl hk q;unfold Ai.V;have e0:(Ai.cells ⟨1,pa,va,rs⟩)[0]?=some (.int .i64 1):=rfl;have e1:(Ai.cells ⟨1,pa,va,rs⟩)[1]?=some (.string pa):=rfl;have e2:(Ai.cells ⟨1,pa,va,rs⟩)[2]?=some (.string va):=rfl;unfold vQ;go_in;go_wp2_with fail
 rw[U7];refine O.o.mono ?_;rintro e w1 ⟨rfl,H,K⟩;have X:=J H;have Z:=J ((A.o.mono kZ).trans K);clear H K;go_wp2_with fail
 refine bodyPost_end (results_none rfl _ _ _) rfl ?_
 obtain⟨g,cp,h1,h2,h3,h4⟩:=X.o
 exact⟨rfl,⟨g,cp,h1,h2,bH A.o.size h3,h4⟩,Z.o⟩
theorem jzh(S:vT)(fr k pa va:vB)(rs:vM)(hf:fr.size<=100000)(hs:Ev W s bm room S)(y:Gk)(hy:Be S k.data.toList=some y)(d:Nat)(n:Ai)(hg:Gn (Bx d) n)(htx:y.2.2.text=Cu n)(hn:n=⟨1,pa,va,rs⟩)(hx:va.toList.isEmpty=false)(hlow:Op.bytesLess pa.toList (Bw fr).toList=false)(hk:Mo pa=true)(hp:pa.size<=1000000):vQ 111 #[s,k,fr] W λe w'=>∃ c,e=.returned (.tuple #[.pointer (some ⟨c,0,none⟩),qa])/\(W:Nat)<=c/\MJ W c s (Bw fr) pa va w'/\Af W w':=by
 have O:=hg.one (Bm d);have q:=λw (h:Ev w s bm room S)=>AL w s bm room S k h;rw[hy]at q
 obtain⟨t,ht⟩:=vE y.2.2.text
 rw[<-ht]at htx;have a2:(some y).map (λz:Gk=>z.2.2.text)=some t:=by rw[ht];rfl
 simp only[a2]at q;have c0:=J q;have HS:=J hs;have HG:=J hg;have a3:=J htx;have a4:=J O.refs;have a5:=J (n.z3 O.refs);have a7:=J hlow;have HN:=J hn;clear hs hy hg htx ht q a2 O hlow hn;unfold vQ;go_in;go_wp2_with fail
 refine vH (c0.o W HS.o) λw1 a8=>?_;unfold Cw;go_wp2_with fail
 rw[a3.o];refine vH (AJ (Bm d) w1 n HG.o) λw2 hE=>?_;rw[<-a3.o];have c1:=J (a8.o.trans hE);clear a8;unfold Ai.V;go_wp2_with (refine Di Ac rfl rfl ?_;intro W5 a9 b0;refine Bt (vs:=n.cells) rfl rfl rfl rfl a9 (by rw[a5.o];rfl) (by rw[a5.o];exact Ab) n.one ?_;intro W6 b1 b2)
 have b3:Af w2 W6:=b0.O b2 kJ;refine vC (Zc W6 fr vO) λA hE=>?_;have X:=J ((c1.o.trans b3).trans hE);have b4:=J (b1.Z hE kI)
 obtain⟨pf,Z⟩:=vE (Bw fr)
 have c2:=J Z;rw[<-Z]at a7 ⊢;clear hE b3 b1 b2 b0 a9 Z;go_wp2_with fail
 obtain⟨W8,H⟩:=vE (A.alloc (.cells #[s,pf,qe,.int .i64 1] 294))
 have b5:Ae W8 A (.cells #[s,pf,qe,.int .i64 1] 294):=by rw[H];exact Ae.new A _
 have a0:Af A W8:=by rw[H];exact (Aa A).alloc _
 rw[<-H];have c3:Hid (Ye A s pf qe W8):=b5;have c4:=J (X.o.trans a0);have c5:=J X.o.size;have c7:=J (b4.o.Z a0 kI);clear H b5 a0 b4 X;refine Lc [0,1,2,3,4] [4] Af Aa Ap vY vY vY ?_
 refine vP ?_
 refine qA _ A rfl zf (vS ?_)
 refine vP ?_
 refine qL w2 n.V rfl (λw1 h1=>Ka w1 _ n a4.o (c7.o.Z ((Ao _).trans h1) kI)) (vS ?_);refine qH _ rfl (λw4 he K hK=>?_);have b6:=J (show Af W8 w4 from(Ao _).trans he);clear he;have hl:=wF w4 A s pf pa va rs (by have:=a4.o;rw[HN.o]at this;exact this) (Ae.Z c3.o b6.o kI) hx a7.o hk hp;rw[<-HN.o]at hl;refine Ou (Fb (vX 155) vY) (hl.mono ?_);rintro e w5 ⟨rfl,b7,b8⟩
 refine⟨_,rfl,hK _ _ ?_⟩
 have H5:=J (bA b7 b8);clear hK K b7 b8 hl;refine qE (λw6 he=>?_);have a1:=J he;clear he;refine vS ?_;go_wp2
 go_ret2
 obtain⟨⟨g,cp,h1,h2,h3,h4⟩,h5⟩:=H5.o
 have hz:=c5.o;have b9:=c4.o.trans b6.o;rw[c2.o]at h1
 exact⟨↑A,rfl,hz,⟨g,cp,Ae.Z h1 a1.o kI,h2.Z a1.o kI,bH b9.size h3,h4⟩,(b9.O h5 λx hx e=>by omega).trans a1.o⟩
theorem y1(cp:Nat)(fr p x:vB)(h:Ye c s fr (.slice (some g) n cp) W)(hn:n=0\/n=1/\1<=cp/\AW g p x W/\x.toList.isEmpty=false):vR 224 #[c] W (n == 1:):=by
 have H:=J h;have A:=J hn;clear h hn;unfold vR vQ;go_in;go_wp2
 go_loopw [2] (λK wr=>K=.bool false/\Af W wr) (λ_ _=>0)
 case atStart=>exact⟨rfl,Aa W⟩
 case round =>obtain⟨rfl,q⟩:=hrel;have e:=J q;have O:=Ae.cell (i:=2) (v:=.slice (some g) n cp) (Ae.Z H.o q kI) vF;clear q;rcases A.o with rfl|⟨rfl,hcp,hP,hx⟩;{(go_wp2);go_ret;exact⟨rfl,e.o⟩};have X:=Am hP.p0 e.o;(have Z:=Am hP.p1 e.o;have p3:=Am hP.p2 e.o;clear hP;go_wp2);go_ret;exact⟨rfl,e.o.alloc _⟩
def ME(p x:vB):Nat->vV
 |0=>.tuple #[.agg #[(),()],false]
 |_=>.tuple #[.agg #[Jh p,x],true]
theorem U6(cp:Nat)(fr p x:vB)(h:Ye c s fr (.slice (some g) n cp) W)(hn:n=0\/n=1/\1<=cp/\AW g p x W/\x.toList.isEmpty=false)(hk:Mo p=true)(hp:p.size<=1000000):vR 187 #[c] W (ME p x n):=by
 have Z:=(Aa W).alloc (.cells #[(),()] 49);have hB:=Ae.new W (.cells #[(),()] 49);have hs:=y1 _ c s g n cp fr p x (Ae.Z h Z kI) (hn.imp id λ⟨h1,X,h3,h4⟩=>⟨h1,X,h3.Z Z kI,h4⟩);have HS:=J hs;have HB:=J hB;have HE:=J Z;have H:=J h;have HN:=J hn;have b6:=J (show ∀ w,vQ 178 #[p] w λe w'=>e=.returned (.tuple #[Jh p,true])/\Af w w' from λw=>by have:=FI w p hp;unfold Lg at this;rw[hk]at this;exact this)
 clear h hn hk hp Z hB hs;unfold vR vQ;go_in;go_wp2_with fail
 refine HS.o.mono ?_;rintro e w1 ⟨rfl,a0⟩;have A:=J (HE.o.trans a0);have a7:=J (HB.o.Z a0 kI);clear a0;rcases HN.o with rfl|⟨rfl,hcp,hP,hx⟩
 ·(go_wp2_with (refine Bt (old:=[(),()]) (vs:=[(),()]) rfl rfl rfl rfl a7.o rfl Dq (by intro u hu;simp at hu;rcases hu with rfl|rfl<;>rfl) ?_;intro W8 a1 a2));refine bodyPost_ret (Ot rfl rfl rfl (MR a1)) rfl ?_;exact⟨rfl,A.o.O a2 kJ⟩
 have Q2:=J (Ae.cell (i:=2) (v:=.slice (some g) 1 cp) (Ae.Z H.o A.o kI) vF);have HP:=J (hP.Z A.o kI);have a8:Hid (c<(w1:Nat)):=bE (Ae.lt H.o) A.o.size;clear hP hx;go_wp2_with fail
 refine Na [0,1,2,3,4,5,6,7,8,9,10,11,12,13] [12,13] Af (Ad λb=>(w1:Nat)<=b) Aa Ap (λx y z h k=>Ad.trans h k) (λx y h=>h.mono kZ) vY vY vY ?_
 refine vD ?_
 refine Lx _ c rfl zh (vS ?_)
 refine vD ?_
 refine Fa ⟨c,2,none⟩ _ rfl (λq X=>Bv Hx rfl (Ed (Am Q2.o (Ao _)) X (by have:=a8.o;exact λe=>absurd e (Nat.not_le.2 this)))) ?_;refine vS ?_
 refine vD ?_
 refine Lx _ c rfl zh (vS ?_)
 refine vD ?_
 refine Fa ⟨c,2,none⟩ _ rfl (λq X=>Bv Hx rfl (Ed (Am Q2.o (Ao _)) X (by have:=a8.o;exact λe=>absurd e (Nat.not_le.2 this)))) ?_;refine vS ?_;iterate 3 refine vD ?_
 refine Fa g _ rfl (λq X=>by have a3:¬ (w1:Nat)<=g:=Nat.not_le.2 HP.o.lt;exact T9 (Ed (Am HP.o.p0 (Ao _)) X a3) (Ed (Am HP.o.p1 (Ao _)) X a3) (Ed (Am HP.o.p2 (Ao _)) X a3)) ?_
 refine vS ?_;refine Hh _ rfl (λq O K hK=>?_);have a9:=J (show Af w1 q from(Ao _).trans O);clear O;refine Ro (v:=.pointer (some q)) (w':=q.alloc (.cells [Value.string ⟨#[]⟩,.string ⟨#[]⟩,.string ⟨#[]⟩].toArray 365)) (by simp only[execOp,bS,Qx,Result.andThen,cT]) (hK _ _ ((Ad.refl _ q).alloc _) ?_);clear hK K;refine vS ?_;refine Hh _ rfl (λw3 O K hK=>?_);refine Yw (b:=(q:Nat)) (old:=[Value.string ⟨#[]⟩,(),()]) (vs:=[p,x,()]) rfl rfl rfl ((Ae.new q _).Z O kI) rfl Qi (by intro u hu;simp at hu;rcases hu with rfl|rfl|rfl<;>rfl) (λw4 b0 a4=>hK _ _ (a4.mono λx _ e=>by have:=a9.o.size;have e:x=(q:Nat):=e;omega) ?_);have b1:Hid (Af w1 w4):=(a9.o.trans ((((Aa q).alloc _).trans O).O a4 kJ));have b2:=J b0;clear hK K O b0 a4;refine vS ?_;refine Mt (λw5 O=>?_);have b3:=J (b1.o.trans O);have a5:=b2.o.Z O kI;have c0:=a5.cell (i:=0) (v:=.string p) vF;have b4:=J a5;clear O b1 b2 a5;go_wp2_with fail
 refine vC (b6.o w5) λw6 Z=>?_;have c1:=(b4.o.Z Z kI).cell (i:=1) (v:=.string x) vF;have b5:=J (b3.o.trans Z);have b7:=J (a7.o.Z b5.o kI);clear Z b3 b4;go_wp2_with (refine Bt (old:=[(),()]) (vs:=[Jh p,x]) rfl rfl rfl rfl b7.o rfl Dq (by intro u hu;simp at hu;rcases hu with rfl|rfl<;>rfl) ?_;intro W8 a1 a2)
 refine bodyPost_ret (Ot rfl rfl rfl (MR a1)) rfl ?_
 exact⟨rfl,(A.o.trans b5.o).O a2 kJ⟩
theorem xC(cp:Nat)(fr:vB)(h:Ye c s fr (.slice (some g) 1 cp) W):vQ 188 #[c] W λe w'=>e=.returned (.tuple #[])/\Ye c s fr (.slice (some g) 0 cp) w'/\Ad (λb=>b=c) W w':=by
 have Z:=J (Ae.cell (i:=2) (v:=.slice (some g) 1 cp) h vF);have H:=J h;clear h;unfold vQ;go_in;go_wp2_with fail
 refine Lc [0,1,2,3,4,5,6,7,8,9,10,11,12,13,14] [14] Af Aa Ap vY vY vY ?_;iterate 2 refine vP ?_
 refine qA _ c rfl zf (vS ?_)
 refine vP ?_
 refine qL ⟨c,2,none⟩ _ rfl (λw1 O=>Bv Hx rfl (Am Z.o ((Ao _).trans O))) (vS ?_)
 refine vP ?_
 refine qA _ c rfl zf (vS ?_)
 refine vP ?_
 refine qL ⟨c,2,none⟩ _ rfl (λw1 O=>Bv Hx rfl (Am Z.o ((Ao _).trans O))) (vS ?_);iterate 3 refine vP ?_
 refine qA _ c rfl zf (vS ?_)
 refine vP ?_
 refine qH _ rfl (λX q K hK=>?_);have A:=Ae.Z H.o ((Ao _).trans q) kI;have q1:X.cell? ⟨c,2,none⟩=some (.slice (some g) 1 cp):=A.cell (i:=2) vF;have f1:X.frozen? ⟨c,2,none⟩=false:=A.frozen;have HC:=J (bA ((Ao _).trans q) (A.z2 (i:=2) (.slice (some g) 0 cp)));clear q A;go_simp;refine hK _ _ ?_;clear hK K q1 f1;refine qE (λw5 q=>?_);have HF:=J q;clear q;refine bodyPost_end (results_none rfl _ _ _) rfl ?_
 exact⟨rfl,Ae.Z HC.o.2 HF.o kI,((HC.o.1.mono kZ).trans (Ad.z4 X ⟨c,2,none⟩ _)).trans (HF.o.mono kZ)⟩
theorem mD(cp:Nat)(fr p x:vB)(h:Ye c s fr (.slice (some g) n cp) W)(hn:n=0\/n=1/\1<=cp/\AW g p x W/\x.toList.isEmpty=false)(hk:Mo p=true)(hp:p.size<=1000000):vQ 156 #[c] W λe w'=>e=.returned (ME p x n)/\Ye c s fr (.slice (some g) 0 cp) w'/\Ad (λb=>b=c) W w':=by
 have HC:=J (Ae.lt h);have H:=J h;have b4:=J (λw (e:Af W w)=>U6 w c s g n cp fr p x (Ae.Z h e kI) (hn.imp id λ⟨h1,h2,h3,h4⟩=>⟨h1,h2,h3.Z e kI,h4⟩) hk hp);have hn:n=0\/n=1:=hn.imp id (·.1);clear h hk hp;unfold vQ;go_in;go_wp2_with (refine Di Hk rfl rfl ?_;intro W1 a9 a2)
 refine vC (b4.o W1 a2) λw2 a3=>?_;have K:=J (a2.trans a3);have b0:=J (a9.Z a3 kI);have b5:=J (Ae.Z H.o K.o kI);clear a9 a2 a3
 obtain⟨y,hy⟩:=vE (Jh p)
 rcases hn with rfl|rfl
 ·unfold ME;(go_wp2_with (first|(refine Di Hk rfl rfl ?_;intro W5 O X;refine Bt (vs:=[(),()]) rfl rfl rfl rfl O rfl Dq (LO _ _) ?_;intro W6 A Z;have q:Af w2 W6:=X.O Z kJ;have a4:=b0.o.Z q kI;have a5:=UF (b:=(w2:Nat)) (o:=0) (A.cell (i:=0) vF) (A.cell (i:=1) vF))|(refine Gz 49 (.tmp 4) rfl rfl _ _ rfl a5 ?_)|(refine Bt (vs:=[(),()]) rfl rfl rfl rfl a4 rfl Dq (LO _ _) ?_;intro W8 a7 a0)));refine bodyPost_ret (Ot rfl rfl rfl (MR a7)) rfl ?_;have b1:Af W W8:=(K.o.trans q).O a0 kJ;exact⟨rfl,Ae.Z H.o b1 kI,b1.mono kZ⟩
 ·unfold ME;(rw[<-hy];have HY:=J hy;clear hy;go_wp2_with (first|(refine Di Hk rfl rfl ?_;intro W5 O X;refine Bt (vs:=[y,x]) rfl rfl rfl rfl O rfl Dq (LO _ _) ?_;intro W6 A Z)));(have q:Af w2 W6:=X.O Z kJ;refine (xC W6 c s g cp fr (Ae.Z b5.o q kI)).mono ?_;rintro e w7 ⟨rfl,b2,a1⟩;have b3:=HC.o;have b6:=K.o.size;have a8:=A.Z a1 vO;have a5:=UF (b:=(w2:Nat)) (o:=0) (a8.cell (i:=0) vF) (a8.cell (i:=1) vF);have a4:=(b0.o.Z q kI).Z a1 vO;have b7:=J (((K.o.trans q).mono kZ).trans a1);have b8:=J b2;clear a1 a8 A Z X O q b3 b6 b2;go_wp2_with (first|(refine Gz 49 (.tmp 4) rfl rfl _ _ rfl a5 ?_)|(refine Bt (vs:=[y,x]) rfl rfl rfl rfl a4 rfl Dq (LO _ _) ?_;intro W8 a7 a0)));refine bodyPost_ret (Ot rfl rfl rfl (MR a7)) rfl ?_;have b3:=HC.o;exact⟨by rw[HY.o];rfl,Ae.Z b8.o a0 vO,b7.o.O a0 kJ⟩
def Yh(c s:Nat)(fr p x:vB)(g cp:Nat)(O:Bd)(W:vW):Prop:=(∀ b,O b↔b=c\/b=g)/\Ye c s fr (.slice (some g) 1 cp) W/\AW g p x W
theorem Yh.supp(g cp:Nat):Mg (Yh c s fr p x g cp):=by
 refine⟨λD W h b hb=>?_,λD W A h H hb=>?_⟩
 ·rcases (h.1 b).1 hb with rfl|rfl;{exact Ae.lt h.2.1};exact h.2.2.lt
 ·have K:=hb g ((h.1 g).2 (.inr rfl));have e:=λi v (q:W.cell? ⟨g,i,none⟩=some v)=>(show A.cell? ⟨g,i,none⟩=some v by unfold World.cell? at *;rw[K];exact q);exact⟨h.1,(hb c ((h.1 c).2 (.inl rfl))).trans h.2.1,e _ _ h.2.2.p0,e _ _ h.2.2.p1,e _ _ h.2.2.p2,bE h.2.2.lt H⟩
def MD(_:Nat)(O:Bd)(_:vW):Prop:=∀ b,¬ O b
theorem MD.supp:Mg (MD k):=⟨λD W h b hb=>absurd hb (h b),λD W e h _ _=>h⟩
theorem l3(g cp:Nat)(hcp:1<=cp)(hx:x.toList.isEmpty=false)(hk:Mo p=true)(hp:p.size<=1000000) :
  QO prog 112 #[c] #[] 1 (λ_=>#[Jh p,x]) (λb=>b=c) (Yh c s fr p x g cp) MD:=by
 intro y C Cx hC b0 D O W hY h0 hS Z;have a0:=J (mD W c s g 1 cp fr p x hS.2.1 (.inr ⟨rfl,hcp,hS.2.2,hx⟩) hk hp);have b1:=J (λW' h=>mD W' c s g 0 cp fr p x h (.inl rfl) hk hp);have a1:Hid (¬ D c):=λh=>Z c h ((hS.1 c).2 (.inl rfl));have b2:Hid (c<(W:Nat)):=Ae.lt hS.2.1;have HY:=J hY;have HC:=J hC;have c2:=J b0;have H0:=J h0
 obtain⟨q,hq⟩:=vE (Jh p)
 unfold ME at a0 b1;rw[<-hq]at a0 HY;clear hY hC b0 h0 hS Z hcp hx hk hp hq;refine callsIn_of_wp func112 rfl trivial ?_ rfl;simp only[ntmps112,cQ,bQ,cZ,Nat.reduceAdd,Nat.reduceSub,cV,cU,dC,cY,cL,cS];gi_wp2_with fail
 refine⟨trivial,rfl,CallsIn.mono (callsIn_wide.2 a0.o) ?_⟩
 rintro e w1 ⟨rfl,b3,b4⟩;have c3:=J b3;have a2:=J b4;clear b3 b4;gi_wp2_with fail
 have hX:Af w1 (w1.alloc (.cells #[q,x] 49)):=(Aa w1).alloc _;have hB:Ae (w1.alloc (.cells #[q,x] 49)) w1 (.cells #[q,x] 49):=Ae.new w1 _;generalize w1.alloc (.cells #[q,x] 49)=w2 at hX hB ⊢;have HX:=J hX;have HB:=J hB;clear hX hB
 obtain⟨g1,a3⟩:=vE w1.heap.size
 rw[<-a3]at HB ⊢;have HG:=J a3;clear a3;gi_loopw [4,5] (λgv bv wr=>(bv=.bool true/\gv=.pointer (some g1)/\wr=w2)\/(bv=.bool false/\∃ D5,C 1 D5 wr/\Ad (λb=>D b\/b=c) W wr/\∀ b,D5 b->D b\/(W:Nat)<=b)) (λ_ bv _=>match bv with | .bool true=>1|_=>0)
 case atStart=>exact .inl ⟨rfl,rfl,rfl⟩
 case round =>have X:Ad (λb=>D b\/b=c) W w2:=(a2.o.mono λb _ h=>.inr h).O HX.o (λ_ _ h=>h.elim);have hD:=λb h=>(HC.o 0).lt _ _ H0.o b h;rcases hrel with⟨rfl,rfl,rfl⟩|⟨rfl,D5,hC5,hK5,hS5⟩;{have b5:C 0 D wr:=(HC.o 0).Z ((HC.o 0).Z H0.o a2.o λb hb e=>a1.o (by rw[<-show b=c from e];exact hb)) HX.o (λ_ _ h=>h);obtain⟨fn,tm,c9,bd,d0,b6⟩:=HY.o 0 D wr vO b5 X;(have q0:=HB.o.cell (i:=0) (v:=.string q) vF;have q1:=HB.o.cell (i:=1) (v:=.string x) vF;have c4:=J b6;have a4:=J X;have HD:=J hD;clear b6 b5 X hD;gi_wp2_with fail);refine⟨rfl,c4.o.mono ?_⟩;rintro e A ⟨D5,k5,s5,H⟩;obtain⟨rfl,C5⟩:=H.resolve_right λh=>c2.o _ _ _ h.2;(have a5:=k5;have a7:=HB.o.Z k5 (λh=>by have:=HD.o _ h;have:=a2.o.size;have:=HG.o;omega);have q0:=a7.cell (i:=0) (v:=.string q) vF;have q1:=a7.cell (i:=1) (v:=.string x) vF;have c7:=J (kT C5 k5 s5);clear C5 k5 s5 a7 H;gi_wp2_with fail);have a8:Af A (A.alloc (.cells #[q,x] 49)):=(Aa A).alloc _;have b7:Ae (A.alloc (.cells #[q,x] 49)) A (.cells #[q,x] 49):=Ae.new A _;have b8:=Ae.Z (Ae.Z (Ae.Z c3.o HX.o λh=>h) a5 a1.o) a8 (λh=>h);refine⟨trivial,rfl,CallsIn.mono (callsIn_wide.2 (b1.o _ b8)) ?_⟩;(rintro e w7 ⟨rfl, -,a9⟩;have b9:(A:Nat)≠c:=by have:=b2.o;have:=a4.o.size;have:=a5.size;omega);(have K:=b7.Z a9 b9;have p0:=K.cell (i:=0) (v:=.string q) vF;have p1:=K.cell (i:=1) (v:=.string x) vF;have f0:w7.frozen? A=false:=K.frozen;have f1:w7.frozen? ⟨↑A,1,none⟩=false:=K.frozen;have c0:=J (bA a8 a9);clear a8 b7 b8 a9 b9 K q0 q1 a5;gi_wp2_with fail);obtain⟨c5,k5,s5⟩:=c7.o;(have ks:=(Ad.z4 w7 A ()).trans (Ad.z4 (w7.setCell A ()) ⟨↑A,1,none⟩ ());have hz:=a4.o.size;have c1:=((c0.o.1.mono λ_ _ e=>e.elim).trans c0.o.2).O ks (F:=λb=>b=c) (λb hb e=>by have e:b=(A:Nat):=e;omega);have c8:¬ D5 c:=λh=>by have:=b2.o;rcases s5 c h with h|h;{exact a1.o h};omega);refine⟨.inr ⟨rfl,D5,(HC.o 1).Z c5 c1 λb hb e=>c8 (by rw[<-show b=c from e];exact hb),((a4.o.O k5 λb _ h=>.inl h)).O c1 λb _ h=>.inr h,λb hb=>(s5 b hb).imp id λh=>by omega⟩,by decide⟩};have HF:Hid (VF W (λb=>b=c) D O 1 C Cx MD (.returned (.tuple #[])) wr):=J ⟨⟨_,rfl⟩,D5,λ_=>False,hK5,hS5,λb h=>h.elim,λb _ h=>h,.inl ⟨hC5,λb h=>h⟩⟩;clear hC5 hK5 hS5 X hD;gi_wp2;refine bodyPost_end (results_none rfl _ _ _) rfl ?_;exact HF.o
structure JL(t t5:Nat)(to:vB)(k:Nat)(D:Bd)(W:World):Prop where
 is:∀ b,D b↔(t<=b/\b<=t+4)\/b=t5
 a:DX t to 1 W
 b5:∃ a c,Ae W t5 (.cells #[.slice a k c] 50)/\(k=0->a=none/\c=0)
theorem JL.supp(t t5:Nat)(to:vB)(k:Nat):Mg (JL t t5 to k):=by
 refine⟨λD W h b hb=>?_,λD W H h Z hb=>?_⟩
 ·obtain⟨a,c,A, -⟩:=h.b5;rcases (h.is b).1 hb with e|rfl;{have:=h.a.b4.lt;omega};exact A.lt
 ·obtain⟨a,c,A,K⟩:=h.b5;have q:∀ b,t<=b->b<=t+4->H.heap[b]?=W.heap[b]?:=λb O X=>hb b ((h.is b).2 (.inl ⟨O,X⟩));exact⟨h.is,⟨(q _ vO vO).trans h.a.b0,(q _ vO vO).trans h.a.b1,(q _ vO vO).trans h.a.b2,(q _ vO vO).trans h.a.b3,(q _ vO vO).trans h.a.b4⟩,a,c,(hb t5 ((h.is t5).2 (.inr rfl))).trans A,K⟩
theorem O7(k p x:vB)(hSK:∀ w,Af W w->vQ 111 #[s,k,fr] w λe w'=>∃ c,e=.returned (.tuple #[.pointer (some ⟨c,0,none⟩),qa])/\(w:Nat)<=c/\MJ w c s (Bw fr) p x w'/\Af w w')(hx:x.toList.isEmpty=false)(hk:Mo p=true)(hp:p.size<=1000000)(hlt:Op.bytesLess (Jh p).toList to.toList=true):vQ 55 #[s,k,fr,to,.int .i64 1] W λe w'=>(∃ la lc,e=.returned (.tuple #[.slice la 1 lc,false,qa]))/\Af W w':=by
 have c9:=J hSK;have a9:=J (λc s fr g cp h=>l3 c s fr p x g cp h hx hk hp);clear hSK hx hk hp
 obtain⟨q,hq⟩:=vE (Jh p)
 rw[<-hq]at hlt a9;clear hq;refine (callsIn_wide (n:=0)).1 ?_;refine callsIn_of_wp_marks func55 rfl trivial ?_ rfl;simp only[ntmps55,cQ,bQ,cZ,Nat.reduceAdd,Nat.reduceSub,cV,cU,dC,cY,cL,cS];gi_wp2_with fail
 have hA:=DX.new W to 1;have a1:Af W (((((W.alloc (.cells #[to] 9)).alloc (.cells #[.int .i64 1] 3)).alloc (.cells #[qe] 50)).alloc (.cells #[false] 4)).alloc (.cells #[qa] 27)):=((((((Aa W).alloc _).alloc _).alloc _).alloc _)).alloc _
 refine⟨trivial,rfl,CallsIn.mono (callsIn_wide.2 (c9.o _ a1)) ?_⟩
 rintro e w1 ⟨c,rfl,hc,⟨g,cp,hC,hP,hg,b6,b7⟩,hX⟩;have b8:(W:Nat)+5<=c:=by simpa using hc
 have HX:=J (a1.trans hX);have HA:=J (hA.Z hX λ_ _ _ h=>h);have p1:w1.cell? ((W:Nat)+1:)=some (.int .i64 1):=HA.o.b1.cell (i:=0) vF;have HC:=J (kX b8 hC hP b6 b7);clear hA a1 hX hc hC hP hg b6 b7 b8;gi_wp2_with fail
 clear p1
 obtain⟨w2,Z⟩:=vE (w1.alloc (.cells #[qe] 50))
 have X:Af w1 w2:=by rw[Z];exact (Aa w1).alloc _
 have a2:Ae w2 w1 (.cells #[qe] 50):=by rw[Z];exact Ae.new w1 _
 rw[<-Z];have a3:=HC.o.1;have d0:=HC.o.2.2.1.lt;have b9:=HC.o.d;have c0:=HA.o.Z X (λ_ _ _ h=>h);have c1:=J (HX.o.trans X);have d1:=X.size;have d2:=HA.o.b4.lt
 obtain⟨t5,c2⟩:=vE w1.heap.size
 rw[<-c2]at a2 ⊢;have a4:JL W t5 to 0 (λb=>((W:Nat)<=b/\b<=(W:Nat)+4)\/b=t5) w2:=⟨λ_=>Iff.rfl,c0,_,_,a2,λ_=>⟨rfl,rfl⟩⟩;have a5:Yh c s (Bw fr) p x g cp (λb=>b=c\/b=g) w2:=⟨λ_=>Iff.rfl,Ae.Z HC.o.b X kI,HC.o.2.2.1.Z X kI⟩;have HZ:=J (show (W:Nat)+5<=c/\(W:Nat)+5<=t5/\(W:Nat)+5<=↑w2 from⟨a3,by omega,by omega⟩);have HD:=J (show (W:Nat)+5<=c/\c<g/\g<t5 from⟨a3,b9,by omega⟩);clear Z X a2 c0 d1 a3 d0 b9 d2 c2;refine lH (gf:=112) (pre:=#[.pointer (some ⟨c,0,none⟩)]) (lb:=#[]) rfl (vX 112) (a9.o c s (Bw fr) g cp HC.o.E) (Yh.supp c s (Bw fr) p x g cp) (λk=>rfl) (JL W t5 to) (JL.supp W t5 to) _ _ a4 a5 (λb hb ho=>by have:=HD.o;rcases ho with rfl|rfl<;>rcases hb with hb|hb<;>omega) ?hround ?hdone MD.supp
 case hround =>intro y j D W8 K hj A hz hK;simp only[FG];gi_wp2;refine hK _ _ (Aa W8) λH A _ _=>?_;obtain rfl:j=0:=vO;obtain⟨_,_,h5,h6⟩:=A.b5;obtain⟨rfl,rfl⟩:=h6 rfl;(have HG:=J A;have H5:=J h5;have p0:=A.a.b0.cell (i:=0) (v:=.string to) vF;have p1:H.cell? ((W:Nat)+1:)=some (.int .i64 1):=A.a.b1.cell (i:=0) vF;have p5:=h5.cell (i:=0) (v:=.slice none 0 0) vF;clear A h5 h6 a4 a5;gi_wp2_with (gi_at_builtin;refine Z_ Fk (Ar.nil _ _ ((Aa H).alloc _)) (.tmp 46) (.tmp 50) rfl rfl rfl (Jx (Ae.new H _)) (news:=[q,x]) (LO _ _) rfl rfl vI vI ?_;intro d8 w' r1 r2 r3;have a0:=(H5.o.Z ((Aa H).alloc (.cells #[q,x] 49)) kI).Z r2 (λe=>by cases e);have p5:=a0.cell (i:=0) (v:=.slice none 0 0) vF;have f5:w'.frozen? t5=false:=a0.frozen;have a7:=J (bA (((Aa H).alloc _).O r2 (λ_ _ e=>by cases e):Af H w') a0);obtain⟨c3,c4,d3⟩:=r1.sl;subst d3;clear r1 r2 r3 a0));have ks:=Ad.z4 w' t5 (.slice c3 1 c4);have ha:=HZ.o;refine⟨D,(a7.o.1.mono kZ).O ks λb _ e=>(HG.o.is b).2 (.inr e),λb hb=>.inl hb,HG.o.is,HG.o.a.Z ((a7.o.1.mono kZ).trans ks) λb h1 h2 e=>by have e:b=t5:=e;omega,c3,c4,a7.o.2.z2 (i:=0) _,λe=>by cases e⟩
 case hdone =>intro D O H c5 A d4 c7;obtain⟨la,lc,h5, -⟩:=A.b5;have a8:=J A.a;have d5:=J c7;have c8:Af W H:=c1.o.O c5 (λb hb e=>by have:=HZ.o;rcases e with (e|e)|e<;>omega);(have d6:=J c8;have p5:=h5.cell (i:=0) (v:=.slice la 1 lc) vF;have p2:H.cell? ((W:Nat)+1+1:)=some (.slice none 0 0):=A.a.b2.cell (i:=0) vF;have p3:H.cell? ((W:Nat)+1+1+1:)=some (.bool false):=A.a.b3.cell (i:=0) vF;have p4:H.cell? ((W:Nat)+1+1+1+1:)=some (.int .i64 0):=A.a.b4.cell (i:=0) vF;have f2:H.frozen? ((W:Nat)+1+1:)=false:=A.a.b2.frozen;have f3:H.frozen? ((W:Nat)+1+1+1:)=false:=A.a.b3.frozen;have f4:H.frozen? ((W:Nat)+1+1+1+1:)=false:=A.a.b4.frozen;clear A c5 d4 c7 a4 a5 c8 h5;gi_wp2_with fail);obtain⟨g2,g3,g4,gk⟩:=zC (.slice la 1 lc) false qa a8.o.b2 a8.o.b3 a8.o.b4;have d7:=d5.o.Z gk (kL HZ.o);refine⟨by simp,.inl ⟨_,_,rfl,run_takeDeferred d7,?_⟩⟩;have d9:=HZ.o;refine⟨_,T2 (g2.z5 vO _) (g3.z5 vO _) (g4.z5 vO _) rfl rfl rfl,⟨_,_,rfl⟩,?_⟩;exact (d6.o.O gk λb hb e=>by omega).O (Ad.z7 _ w2 (.deferred none)) (λb hb e=>kL c1.o.size)
structure RU(W0 W:World)(wb:Nat)(v:Value)(nodes:vM):Prop where
 cubes:Ha W0
 rd:Ie W0 v nodes
 ext:Af W0 W
 lo:(W0:Nat)<=wb
 few:nodes.length<=1000000
structure ML(W0:World)(wb:Nat)(v:Value)(nodes:vM):Prop where
 cubes:Ha W0
 rd:Ie W0 v nodes
 lo:(W0:Nat)<=wb
 few:nodes.length<=1000000
theorem ML.at'{W0 W:vW}{wb:Nat}(h:ML W0 wb v nodes)(hz:(W0:Nat)<=↑W)(hb:∀ b,b<(W0:Nat)->W.heap[b]?=W0.heap[b]?):RU { W with heap:=W0.heap } W wb v nodes:=
 ⟨h.cubes,h.rd,⟨rfl,rfl,rfl,hz,λb e _=>hb b e⟩,h.lo,h.few⟩
def IP(wb:Nat)(root:vB)(v:vV)(_:Nat)(O:Bd)(W:vW):Prop:=(∀ b,O b->b<(W:Nat))/\O wb/\Nw W wb root v 1 .nilIface
theorem IP.supp(v:vV)(k:Nat):Mg (IP wb root v k):=
 ⟨λD W h b hb=>h.1 b hb,λD W K ⟨q,e,A⟩ H hb=>⟨λb h=>bE (q b h) H,e,(hb _ e).trans A⟩⟩
structure sE(w w':World)(wb:Nat)(root:vB)(v:Value):Prop where
 kp:Ad (λb=>b=wb) w w'
 way:Nw w' wb root v 1 .nilIface
structure jzN(W w':World)(wb:Nat)(root:vB)(v:Value)(L:Nat)(m:Ai):Prop where
 kp:Ad (λb=>b=wb) W w'
 new:(W:Nat)<=L
 var:Ae w' L (.cells m.cells.toArray 215)
 way:Nw w' wb root v 1 .nilIface
theorem jzr(v:vV)(nodes:vM)(u:Nat)(ev:vV)(t:vB)(m:Ai)(hB:RU W0 W wb v nodes)(hW:Nw W wb root v u ev)(hu:nodes[u]?=some t)(hm:m.refs.length=16)(hG:∀ w,Af W0 w->vR 114 #[t] w (.tuple #[m.V,qa])):vQ 182 #[wb,Aj t] W (yL W wb root v u ev (some m)):=by
 have a3:u<nodes.length:=(bI.1 hu).1;have b2:=hB.few
 obtain⟨b,o,c,hv,b3,b4,O⟩:∃ b o c,v=.slice (some ⟨b,o,none⟩) nodes.length c/\b<(W0:Nat)/\nodes.length<=c/\∀ (j:Nat) x,nodes[j]?=some x->W0.cell? ⟨b,o+j,none⟩=some (.string x):=by rcases hB.rd with⟨a,c,q,h2⟩|h;{rw[h2]at a3;cases a3};exact h
 unfold Nw at hW;have qt:=Am (O u t hu) hB.ext;have q1:=hW.cell (i:=1) (v:=v) vF;have q2:=hW.cell (i:=2) (v:=.int .i64 (u:Int)) vF;have b5:=J hW.lt;have HW:=J hW;have HB:=J hB
 obtain⟨n,hn⟩:=vE nodes.length
 rw[<-hn]at hv a3 b4 b2;have c1:¬(n:Int)<=(u:Int):=vO
 have c2:(u:Int)<(n:Int):=vO
 have c3:(0:Int)<=(u:Int):=vO
 have c4:decide (n<=u)=false:=decide_eq_false vO;have c5:(u:Int)<=1000000:=vO
 have HV:=J hv;have HG:=J hG;have HM:=J hm;have e3:=J (show u<=1000000 by omega);have d5:=J qt;have d6:=J (show b<(W:Nat)/\b≠wb from⟨bE b3 hB.ext.size,kL hB.lo⟩)
 obtain⟨sh,a5⟩:=vE (Aj t)
 have d7:=J a5;rw[<-a5];clear hB hW hu hn hv a3 b2 b3 b4 O hG hm a5;have e4:(sh.toList == sh.toList)=true:=by simp
 unfold vQ;go_in;go_wp2_with (refine Di Ac rfl rfl ?_;intro W1 b6 X)
 have Q1:=J (Am q1 X);have Q2:=J (Am q2 X);have QT:=J (Am qt X);have b7:=J b6;have b8:=J X;clear b6 X q1 q2 qt;rw[HV.o]at Q1;refine Hs [0,1,2,3,4,5,6,7,8,9,10,11,12,13,14,15,16,17,18,19,20,23,21,22,24,25] Af Aa Ap vY vY vY ?_
 refine vK ?_
 refine Jf _ wb rfl zh (vS ?_)
 refine vK ?_
 refine Db ⟨wb,2,none⟩ (u:Int) rfl (λw1 q=>Bv underlying3 rfl (Am (by exact Q2.o) q)) (vS ?_)
 refine vK ?_
 refine Jf _ wb rfl zh (vS ?_)
 refine vK ?_
 refine Db ⟨wb,1,none⟩ (.slice (some ⟨b,o,none⟩) n c) rfl (λw1 q=>Bv underlying51 rfl (Am (by exact Q1.o) q)) (vS ?_);iterate 4 refine vK ?_
 refine Jf _ wb rfl zh (vS ?_)
 refine vK ?_
 refine Db ⟨wb,1,none⟩ (.slice (some ⟨b,o,none⟩) n c) rfl (λw1 q=>Bv underlying51 rfl (Am (by exact Q1.o) q)) (vS ?_)
 refine vK ?_
 refine Jf _ wb rfl zh (vS ?_)
 refine vK ?_
 refine Db ⟨wb,2,none⟩ (u:Int) rfl (λw1 q=>Bv underlying3 rfl (Am (by exact Q2.o) q)) (vS ?_)
 refine vK ?_
 refine Db ⟨b,o+u,none⟩ t rfl (λw1 q=>Bv underlying9 rfl (Am (by exact QT.o) q)) (vS ?_)
 refine vK ?_
 refine CW _ rfl vY rfl (λw2 h2 K hK=>?_);have b9:=J (show Af W1 w2 from(Ao W1).trans h2);have c0:=J (BS w2 [t] 9);clear h2;go_simp;refine hK _ _ ((Aa w2).alloc _) ?_;clear hK K;have Z:=J (show Af W1 (w2.alloc (.cells #[t] 9))from b9.o.trans ((Aa w2).alloc _));refine Ma _ 48 _ (Aj (Aw [t])) rfl (λw1=>Fb (vX 48) vY) (λw4 h4=>Tr w4 _ [t] (by simp) (c0.o.ext (by exact h4)) (HB.o.cubes.ext (HB.o.ext.trans (b8.o.trans (Z.o.trans h4))))) ?_;rw[CX, <-d7.o];refine vS ?_;iterate 2 refine vK ?_
 refine Hi (λw3 h3=>?_);have a7:=Z.o.trans h3;have a8:=J (b7.o.Z a7 kI);have A:=J (b8.o.trans a7);have a0:Hid (Nw w3 wb root v u ev):=Ae.Z HW.o A.o kI;clear h3 a7 b7 Q1 Q2 QT b9 Z c0;go_wp2_with fail
 have q2:=a0.o.cell (i:=2) (v:=.int .i64 (u:Int)) vF;have q1:=a0.o.cell (i:=1) (v:=v) vF;rw[HV.o]at q1;have Q1:=J q1;have Q2:=J q2;have QT:=J (Am d5.o A.o);have NA:=J (show ¬ (w3:Nat)<=wb by have:=a0.o.lt;omega);have NB:=J (show ¬ (w3:Nat)<=b by have:=d6.o.1;have:=A.o.size;omega);clear q1 q2;refine Na [0,1,2,3,4,5,6,7,8,9,10,11,12,13,14,15,16] [14,15] Af (Ad λb=>(w3:Nat)<=b) Aa Ap (λx y z h k=>Ad.trans h k) (λx y h=>h.mono kZ) vY vY vY ?_
 refine vD ?_
 refine Lx _ wb rfl zh (vS ?_)
 refine vD ?_
 refine Fa ⟨wb,1,none⟩ (.slice (some ⟨b,o,none⟩) n c) rfl (λw1 q=>Bv underlying51 rfl (Ed (by exact Q1.o) q NA.o)) (vS ?_)
 refine vD ?_
 refine Lx _ wb rfl zh (vS ?_)
 refine vD ?_
 refine Fa ⟨wb,2,none⟩ (u:Int) rfl (λw1 q=>Bv underlying3 rfl (Ed (by exact Q2.o) q NA.o)) (vS ?_)
 refine vD ?_
 refine Fa ⟨b,o+u,none⟩ t rfl (λw1 q=>Bv underlying9 rfl (Ed (by exact QT.o) q NB.o)) (vS ?_);refine GA _ 114 _ (.tuple #[m.V,qa]) rfl vY rfl (λw1=>Fb (vX 114) vY) (λw1 q=>HG.o w1 (((HB.o.ext.trans A.o).trans (Ao w3)).O q λx hx hw=>kL ((HB.o.ext.trans A.o).size))) (vS ?_);iterate 3 refine vD ?_
 refine Hh _ rfl (λw4 h4 K hK=>?_);have a1:=(Ao w3).trans h4;refine WN Ac rfl ?_;intro W5 c7 a9;refine hK _ _ (Lk a9) ?_;clear hK K h4;refine vS ?_;refine Hh _ rfl (λw6 h6 K hK=>?_);refine Yw (vs:=m.cells) rfl rfl rfl (c7.Z h6 kI) (by rw[m.z3 HM.o];rfl) (by rw[m.z3 HM.o];exact Ab) m.one ?_;intro W7 c8 b0;have c9:=(a1.trans a9).trans h6;have d0:=c9.O b0 (λx hx e=>by have e:x=(w4:Nat):=e;have:=a1.size;omega);refine hK _ _ (b0.mono λx hx e=>by have e:x=(w4:Nat):=e;have:=a1.size;show (w3:Nat)<=x;omega) ?_;clear hK K h6 b0;refine vS ?_
 refine vD ?_
 refine Mt (λw8 h8=>?_);have a4:=J (d0.trans h8);have d8:=J (A.o.trans a4.o);have d1:=J (c8.Z h8 kI);have d9:=J (a8.o.Z a4.o kI);have d2:Hid (Nw w8 wb root v u ev):=Ae.Z a0.o a4.o kI;have d3:=J (show (W:Nat) < ↑w4/\wb<(w4:Nat) by have:=a1.size;have:=a8.o.lt;have:=a0.o.lt;omega);clear a1 c7 a9 c8 c9 d0 h8 Q1 Q2 QT NA NB a8 a4
 obtain⟨mb,d4⟩:=vE w4.heap.size
 rw[<-d4]at d1 d3 ⊢;clear d4;have H:Nw w8 wb root v u ev:=d2.o;unfold Nw at H;have q2:=H.cell (i:=2) (v:=.int .i64 (u:Int)) vF;have f2:w8.frozen? ⟨wb,2,none⟩=false:=H.frozen;have e0:=d1.o.z6 (p:=⟨wb,2,none⟩) (by have:=d3.o;show mb≠wb;omega) (.int .i64 ((u:Int)+1));have e1:=d9.o.z6 (p:=⟨wb,2,none⟩) (by have:=b5.o;show (W:Nat)≠wb;omega) (.int .i64 ((u:Int)+1));clear H;go_wp2_with (first|(refine Gz 215 (.tmp 6) rfl rfl _ _ rfl (Ka _ _ m HM.o e0) ?_)|(refine Bt (vs:=m.cells) rfl rfl rfl rfl e1 (by rw[m.z3 HM.o];rfl) (by rw[m.z3 HM.o];exact Ab) m.one ?_;intro e2 b1 a2))
 refine bodyPost_ret (Ot rfl rfl rfl (Qb e2 _ m HM.o b1)) rfl ?_;have H:Nw w8 wb root v u ev:=d2.o
 refine⟨((Lk d8.o:Ad (λb=>b=wb) W w8).trans (Ad.z4 w8 ⟨wb,2,none⟩ _)).O a2 kJ,rfl,?_,HM.o⟩
 have h9:=Ae.z2 (i:=2) H (.int .i64 ((u:Int)+1));exact Ae.Z h9 a2 (λe=>by have e:wb=(W:Nat):=e;have:=b5.o;omega)
theorem U2(pc:Nat)(t:vB)(v:vV)(p0:vB)(m:Ai)(hm:m.refs.length=16)(hG:∀ w,vR 114 #[t] w (.tuple #[m.V,qa]))(hST:∀ w,vR 183 #[m.V,p0] w (.tuple #[(),p0]))(hS:ML W0 wb v [t])(hne:(W0:Nat)<=b1/\(W0:Nat)<=pc/\b1≠wb/\b1≠pc/\wb≠pc):QO prog 181 #[] #[b1,pc] 1 (RD [(m,p0)]) (λb=>b=wb\/b=pc) (Wm W0 b1 wb pc (Aj t) v p0) (IP wb (Aj t) v):=by
 intro y C Cx hC d4 D O W hY h0 A a0;have d5:=J (show ∀ w,Ad (λb=>D b\/b=wb\/b=pc) W w->RU { w with heap:=W0.heap } w wb v [t]from λw k=>hS.at' (bH A.size k.size) λb hb=>(k.block b (bE hb A.size) (λe=>by rcases e with e|e|e;{exact a0 b e ((A.is b).2 (.inl hb))};{have:=hS.lo;omega};omega)).trans (A.old b hb))
 have a9:=J (show ¬ D b1/\¬ D wb/\¬ D pc from⟨λh=>a0 _ h ((A.is _).2 (.inr (.inl rfl))),λh=>a0 _ h ((A.is _).2 (.inr (.inr (.inl rfl)))),λh=>a0 _ h ((A.is _).2 (.inr (.inr (.inr rfl))))⟩);have Z:=J (show b1<(W:Nat)/\wb<(W:Nat)/\pc<(W:Nat) from⟨A.cap.lt,Ae.lt A.way,A.path.lt⟩);have f5:=J (show O wb from(A.is _).2 (.inr (.inr (.inl rfl))));have Q1:=J (A.cap.cell (i:=0) (v:=.pointer (some wb)) vF);have c3:=J (λw hB hW=>jzr { w with heap:=W0.heap } w wb (Aj t) v [t] 0 .nilIface t m hB hW rfl hm λw _=>hG w);have HM:=J hm;have f6:=J hST
 obtain⟨H,d6⟩:=vE (Aj t)
 rw[<-d6]at c3 A ⊢;have QR:=J (Nw.root' A.way);have HY:=J hY;have HC:=J hC;have f7:=J d4;have H0:=J h0;have HS:=J A;have b8:=J hne;clear hY hC d4 h0 A a0 hS hne hm hG hST d6;have d7:=J (show ¬(b1=wb\/(W:Nat)<=b1)from λe=>by have:=b8.o;have:=Z.o;omega);refine callsIn_of_wp func181 rfl trivial ?_ rfl;simp only[ntmps181,cQ,bQ,cZ,Nat.reduceAdd,Nat.reduceSub,cV,cU,dC,cY,cL,cS];gi_wp2_with fail
 refine wpIn_wide.2 (wp_mono (Q:=λe a' w'=>e=.normal/\∃ L:Nat,a'=tA y b1 pc wb H L m true/\jzN W w' wb H v L m) (u_ [5,9,10] Af (Yg wb W) Aa Ap (Yg.trans wb W) (Yg.ext wb W) vY vY 12 vY ?_) ?_);refine UG (k:=0) b1 wb rfl vY rfl rfl (λw1 h1=>Bv underlying331 rfl (Ed (by exact Q1.o) h1.1 d7.o)) (vS ?_);refine UG (k:=1) b1 wb rfl vY rfl rfl (λw1 h1=>Bv underlying331 rfl (Ed (by exact Q1.o) h1.1 d7.o)) (vS ?_);refine nT (k:=2) _ wb rfl vY rfl zh (vS ?_);refine BI (k:=3) _ rfl vY rfl rfl (λK q=>?_);go_big_quiet_op;refine q _ ?_;clear q K;refine UG (k:=4) wb H rfl vY rfl rfl (λw1 h1=>Bv underlying9 rfl (h1.2 _ (by exact QR.o))) (vS ?_);refine F2 5 9 _ _ vY rfl rfl rfl rfl (λw2 h2 K q=>?_) (λw2 h2 K q=>?_)
 ·have a3:=(Ao W).trans h2;refine Ou (Fb (vX 182) vY) ((c3.o w2 (d5.o w2 (Lk a3)) (Ae.Z HS.o.way a3 kI)).mono ?_);rintro e w3 ⟨c4,rfl,c5, -⟩;have X:sE w2 w3 wb H v:=⟨c4,c5⟩;refine⟨_,rfl,q _ _ ⟨X.kp.mono λ_ _ h=>.inl h,λrt e=>?_⟩ ?_⟩;{have hr:=Nw.root' (Ae.Z HS.o.way a3 kI);rw[hr]at e;rw[Nw.root' X.way];exact e};clear q K;have HF:=J X;have HX:=J a3;clear X a3 h2;refine vS ?_;refine BI (k:=6) _ rfl vY rfl rfl (λK q=>?_);go_big_quiet_op;refine q _ ?_;clear q K;refine BI (k:=7) _ rfl vY rfl rfl (λK q=>?_);go_big_quiet_op;refine q _ ?_;clear q K;refine BI (k:=8) _ rfl vY rfl rfl (λK q=>?_);go_big_quiet_op;refine q _ ?_;clear q K;refine NV (k:=9) _ rfl vY rfl (λw4 h4 K q=>?_);refine WN Ac rfl ?_;intro W5 b2 b0;refine q _ _ (Yg.ext _ _ _ _ b0) ?_;clear q K;refine vS ?_;refine NV (k:=10) _ rfl vY rfl (λw6 h6 K q=>?_);refine Yw (vs:=m.cells) rfl rfl rfl (b2.Z h6 kI) (by rw[m.z3 HM.o];rfl) (by rw[m.z3 HM.o];exact Ab) m.one ?_;intro W7 c7 a5;have d8:Af w3 w4:=h4;have g8:(W:Nat)<=↑w3:=bH HX.o.size HF.o.kp.size;have f8:=d8.size;refine q _ _ ⟨a5.mono λx hx e=>by have e:x=(w4:Nat):=e;exact .inr vO,λrt e=>Ed e a5 λe=>by have e:wb=(w4:Nat):=e;have:=Z.o;omega⟩ ?_;clear q K;refine vS ?_;refine BI (k:=11) _ rfl vY rfl rfl (λK q=>?_);go_big_quiet_op;refine q _ ?_;clear q K;refine nS vY (λw8 h8=>?_);have f9:Af w3 W7:=((d8.trans b0).trans h6).O a5 kJ;have d9:=f9.trans h8;have a4:=c7.Z h8 kI;obtain⟨L,hL⟩:=vE w4.heap.size;rw[<-hL]at a4 f8 ⊢;refine⟨trivial,L,rfl,⟨((Lk HX.o:Ad (λb=>b=wb) W w2).trans HF.o.kp).trans (Lk d9),by omega,a4,?_⟩⟩;have b9:=HX.o.size;exact Ae.Z HF.o.way d9 kI
 ·have a3:=(Ao W).trans h2;refine WN Ac rfl ?_;intro W5 b2 b0;refine q _ _ (Yg.ext _ _ _ _ b0) ?_;clear q K;refine vS ?_;refine NV (k:=5) _ rfl vY rfl (λb3 c0 K q=>?_);have a1:=(a3.trans b0).trans c0;have e0:(w2:Nat) < ↑b3:=bE b2.lt c0.size;have b9:=a3.size;have a2:=b2.Z c0 kI;obtain⟨L,hL⟩:=vE w2.heap.size;rw[<-hL]at a2 e0 b9 ⊢;clear hL b2 b0 h2 c0 a3 W5;refine Ou (Fb (vX 182) vY) ((c3.o b3 (d5.o b3 (Lk a1)) (Ae.Z HS.o.way a1 kI)).mono ?_);rintro e w3 ⟨c4,rfl,c5, -⟩;have X:sE b3 w3 wb H v:=⟨c4,c5⟩;refine⟨_,rfl,q _ _ ⟨X.kp.mono λ_ _ h=>.inl h,λrt e=>?_⟩ ?_⟩;{have hr:=Nw.root' (Ae.Z HS.o.way a1 kI);rw[hr]at e;rw[Nw.root' X.way];exact e};clear q K;have HF:=J X;have HX:=J a1;have g9:=J (bA e0 b9);have b6:=a2.Z X.kp (λe=>by have e:L=wb:=e;have:=Z.o;omega);clear X a1 a2;refine vS ?_;refine BI (k:=6) _ rfl vY rfl rfl (λK q=>?_);go_big_quiet_op;refine q _ ?_;clear q K;refine BI (k:=7) _ rfl vY rfl rfl (λK q=>?_);go_big_quiet_op;refine q _ ?_;clear q K;refine BI (k:=8) _ rfl vY rfl rfl (λK q=>?_);go_big_quiet_op;refine q _ ?_;clear q K;refine NV (k:=10) _ rfl vY rfl (λw6 h6 K q=>?_);refine Yw (vs:=m.cells) rfl rfl rfl (b6.Z h6 kI) (by rw[m.z3 HM.o];rfl) (by rw[m.z3 HM.o];exact Ab) m.one ?_;intro W7 c7 a5;refine q _ _ ⟨a5.mono λx hx e=>by have e:x=L:=e;exact .inr vO,λrt e=>Ed e a5 λe=>by have e:wb=L:=e;have:=Z.o;omega⟩ ?_;clear q K;refine vS ?_;refine BI (k:=11) _ rfl vY rfl rfl (λK q=>?_);go_big_quiet_op;refine q _ ?_;clear q K;refine nS vY (λw8 h8=>?_);have a4:=c7.Z h8 kI;have g0:Af w3 w6:=h6;have e1:Ad (λb=>b=L) w3 w8:=((Lk g0:Ad (λb=>b=L) w3 w6).trans a5).trans (Lk h8);have h3:=Z.o;refine⟨trivial,L,rfl,⟨((Lk HX.o:Ad (λb=>b=wb) W b3).trans HF.o.kp).O e1 kJ,b9,a4,?_⟩⟩;exact Ae.Z HF.o.way e1 vO
 rintro e a8 w8 ⟨rfl,L,rfl,X⟩;have HF:=J X;have HL:=J (m.z3 HM.o);clear X;unfold tA;gi_wp2_with fail
 gi_loopw [5] (λe2 wr=>e2=.bool true/\∃ Dk,uE W wb b1 pc L C D 0 Dk p0 m wr/\Nw wr wb H v 1 .nilIface) (λe2 wr=>0)
 case atStart =>have X:=HF.o;have d2:=(HC.o 0).lt _ _ H0.o;exact⟨rfl,D,⟨(HC.o 0).Z H0.o X.kp λb hb e=>a9.o.b (e ▸ hb),λb h=>.inl h,X.kp.mono λb _ e=>.inr (.inl e),HS.o.path.Z X.kp λe=>b8.o.E e.symm,X.var,λh=>by have:=d2 L h;have:=X.new;omega,HM.o⟩,X.way⟩
 case round =>obtain⟨rfl,Dk,hR,e3⟩:=hrel;(have g2:=J e3;have HR:=J hR;have e4:¬ Dk wb:=λh=>by rcases hR.sub wb h with h|h;{exact a9.o.b h};have:=Z.o;omega);(have e5:¬ Dk pc:=λh=>by rcases hR.sub pc h with h|h;{exact a9.o.C h};have:=Z.o;omega);(have e6:¬ Dk b1:=λh=>by rcases hR.sub b1 h with h|h;{exact a9.o.1 h};have:=Z.o;omega);have c8:=J (kT e4 e5 e6);obtain⟨fn,tm,h5,bd,c1,e7⟩:=HY.o 0 Dk wr vI hR.at' hR.kp;(have e8:atV [(m,p0)] 0=(m,p0):=rfl;unfold RD at c1;rw[e8]at c1;dsimp only at c1;clear e8;have g3:=J e7;have g4:=hR.path.cell (i:=0) (v:=.string p0) vF;clear e7 hR e4 e5 e6 e3;gi_wp2_with (refine d_ 215 (.tmp 4) rfl rfl _ _ rfl (Ka _ _ m HR.o.len HR.o.var) ?_));refine⟨rfl,g3.o.mono ?_⟩;rintro e w5 ⟨D5,k5,s5,b7⟩;rcases b7 with⟨rfl,C5⟩|⟨rfl,C5⟩;(case inr=>exact (f7.o _ _ _ C5).elim);have c9:=HR.o.var.Z k5 HR.o.nL;have d0:=HR.o.path.Z k5 c8.o.b;have e9:Nw w5 wb H v 1 .nilIface:=Ae.Z g2.o k5 c8.o.1;have f0:=(HS.o.cap.Z HR.o.kp (λe=>by rcases e with e|e|e;{exact a9.o.1 e};{exact b8.o.c e};exact b8.o.d e)).Z k5 c8.o.C;(have p5:=d0.cell (i:=0) (v:=.string p0) vF;have f1:=J (bA k5 s5);have g5:=J C5;have g6:=J d0;have b4:=J e9;have g7:=J f0;have b5:=c9;have h7:=J b5;clear k5 s5 C5 g4 c1 d0 e9 f0 b5;gi_wp2_with (refine BC rfl 215 (.tmp 4) rfl _ _ rfl (Ka _ _ m HR.o.len c9) ?_));refine⟨trivial,rfl,CallsIn.mono (callsIn_wide.2 (f6.o w5)) ?_⟩;rintro e w6 ⟨rfl,f2⟩;have c2:=J f2;clear f2 c9;have f3:Ad (λb=>D b\/b=wb\/b=pc) W w6:=(HR.o.kp.O f1.o.1 (λb hb h=>by rcases HR.o.sub b h with h|h;{exact .inl h};omega)).O c2.o kZ;(have a7:∀ b,D5 b->D b\/(W:Nat)<=b:=λb hb=>by rcases f1.o.2 b hb with h|h;{exact HR.o.sub b h};have:=HR.o.kp.size;exact .inr vO);(have f4:∀ b,b<(W:Nat)->¬ D b->¬ D5 b:=λb hb hD h=>by rcases a7 b h with h|h;{exact hD h};omega);(have d1:=J (kT f3 a7 f4);clear f3 a7 f4;have h9:(⟨#[]⟩:vB).toList.isEmpty=true:=by rw[cA];rfl);have d3:Hid (VF W (λb=>b=wb\/b=pc) D O 1 C Cx (IP wb H v) (.returned (.tuple #[])) w6):=J ⟨⟨_,rfl⟩,D5,λb=>b=wb,d1.o.1,d1.o.b,λb h=>by subst h;exact .inl f5.o,λb hb h=>by subst h;exact d1.o.C _ Z.o.b a9.o.b hb,.inl ⟨(HC.o 1).Z g5.o c2.o λ_ _ h=>h,λb h=>by subst h;exact bE (Ae.lt b4.o) c2.o.size,rfl,Ae.Z b4.o c2.o kI⟩⟩;gi_wp2;refine bodyPost_ret (results_none rfl _ _ _) rfl ?_;exact d3.o
theorem O6(hc:Ha W)(t key:vB)(hk:key.size<=1000)(v:vV)(hv:Ie W v [t])(m:Ai)(hm:m.refs.length=16)(va:vB)(hGt:∀ w,vR 114 #[t] w (.tuple #[m.V,qa]))(hST:∀ w,vR 183 #[m.V,Bw key] w (.tuple #[(),Bw key]))(hCL:∀ w,vR 153 #[m.V,Bw key] w (Ls (some va)))(hcl:Np m (Bw key)=some va):vQ 110 #[Aj t,key,v] W (λe w'=>Af W w'/\e=.returned (.tuple #[Ls (some va),qg])):=by
 obtain⟨a,c,b5⟩:=tE hv
 have HV:=J hv;have HC:=J hc;have X:=J (kX hm hGt hST hCL hcl);have HK:=J hk
 obtain⟨n,c7⟩:∃ n,n=1:=⟨_,rfl⟩
 replace b5:v=.slice a n c:=by rw[c7];exact b5
 have f9:=J c7;have c1:¬(40:Int)<(n:Int):=vO
 obtain⟨A,c8⟩:=vE (Aj t)
 have g0:=J c8;rw[<-c8]
 obtain⟨vs,e1⟩:=vE ([(m,Bw key)])
 have a0:=J e1;have i0:=J b5;clear hv hc hGt hST hCL hcl hm e1 hk c7 c8;subst b5;refine (callsIn_wide (n:=0)).1 ?_;refine callsIn_of_wp_marks func110 rfl trivial ?_ rfl;simp only[ntmps110,cQ,bQ,cZ,Nat.reduceAdd,Nat.reduceSub,cV,cU,dC,cY,cL,cS];gi_wp2_with (first|(refine SC Dv rfl rfl ?_;have d4:=Z;intro W4 a1 b6)|(refine SC Dv rfl rfl ?_;intro W1 a2 c9)|(refine SC Pq rfl rfl ?_;intro W2 e2 e3)|(refine t_ (vs:=[A,.slice a n c,qa,qg]) rfl rfl rfl rfl e2 rfl Ul (by intro v hv;simp at hv;rcases hv with rfl|rfl|rfl|rfl<;>rfl) ?_;intro W3 Z e4))
 have b7:Af W1 W3:=e3.O e4 kJ;have e5:=(c9.trans b7).trans b6;have g2:=c9.size;have d5:=b7.size;have d6:=a2.lt;have d7:=Z.lt;have b2:=(a2.Z b7 kI).Z b6 kI;have b3:=Z.Z b6 kI
 refine⟨trivial,rfl,CallsIn.mono (callsIn_wide.2 (Zc W4 key (kL HK.o))) ?_⟩
 rintro e W5 ⟨rfl,a3⟩;have e6:=e5.trans a3;have b8:=J (b2.Z a3 kI);have d0:=J (b3.Z a3 kI);have d1:=J (a1.Z a3 kI);have g3:=J e6;have b4:(W3:Nat) < ↑W5:=bE a1.lt a3.size;have HZ:=J (show (W:Nat) < ↑W1/\(W1:Nat) < ↑W3/\(W3:Nat) < ↑W5 from⟨by omega,by omega,b4⟩)
 obtain⟨wb,b9⟩:=vE W1.heap.size
 obtain⟨cb,q⟩:=vE W3.heap.size
 rw[<-b9, <-q]at HZ;rw[<-b9]at d0;rw[<-q]at d1;rw[<-b9, <-q];clear a2 c9 e2 e3 Z e4 d4 a1 b6 b7 e5 g2 d5 d6 d7 b2 b3 a3 e6 b4 b9 q;gi_wp2_with fail
 refine⟨trivial,rfl,CallsIn.mono (callsIn_wide.2 (xU W5 wb (Bw key))) ?_⟩
 rintro e W6 ⟨rfl,a5⟩;have a7:Af W5 W6:=by rw[a5];exact ((Aa W5).alloc _).trans ((Aa _).alloc _)
 have d2:Ae W6 W5 (.cells #[wb] 331):=by rw[a5];exact (Ae.new W5 _).alloc _
 have d3:Ae W6 ((W5:Nat)+1) (.cells #[Bw key] 9):=by rw[a5];have:=Ae.new (W5.alloc (.cells #[wb] 331)) (.cells #[Bw key] 9);rwa [bJ]at this
 have g4:(W6:Nat)=↑W5+2:=by rw[a5];simp
 clear a5
 obtain⟨b1,a8⟩:=vE W5.heap.size
 obtain⟨pc,c0⟩:=vE ((W5:Nat)+1)
 have a9:=J (show b1=(W5:Nat)/\pc=b1+1/\(W6:Nat)=b1+2 from⟨a8,by omega,by omega⟩);rw[<-a8]at d2;rw[<-c0]at d3;rw[<-a8];rw[<-a8]at c0;rw[<-c0];have a4:=J (g3.o.trans a7);have d8:=J (b8.o.Z a7 kI);have Z:=d0.o.Z a7 kI;have a1:=d1.o.Z a7 kI;clear b8 d0 d1 a8 c0 g4 a7;gi_wp2_with fail
 have e7:ML W wb (.slice a n c) [t]:=⟨HC.o,HV.o,kL HZ.o,by simp⟩;have g5:vs.length=1:=by rw[a0.o];rfl
 have e8:Wm W b1 wb pc A (.slice a n c) (Bw key) (λb=>b<(W:Nat)\/b=b1\/b=wb\/b=pc) W6:=⟨λb=>Iff.rfl,a4.o.size,λb hb=>a4.o.block b hb kI,Z,d2,d3⟩
 refine lH (N:=1) (gf:=181) (lb:=#[b1,pc]) rfl (vX 181) (show QO prog 181 #[] #[b1,pc] 1 (RD vs) (λb=>b=wb\/b=pc) (Wm W b1 wb pc A (.slice a n c) (Bw key)) (IP wb A (.slice a n c))from by rw[g0.o,a0.o];exact U2 W b1 wb pc t (.slice a n c) (Bw key) m X.o.1 X.o.b X.o.c e7 (by have:=HZ.o;have:=a9.o;omega)) (Wm.supp W b1 wb pc A (.slice a n c) (Bw key)) (λk=>rfl) (MI cb vs) (MI.supp cb vs) (λb=>b=cb) (λb=>b<(W:Nat)\/b=b1\/b=wb\/b=pc) ⟨λb=>Iff.rfl,a1⟩ e8 (λb hb ho=>by have hb:b=cb:=hb;have:=HZ.o;have:=a9.o;omega) ?hround ?hdone (IP.supp wb A (.slice a n c))
 case hround =>(intro y k D W8 K hk H hz hK;unfold RD;rw[FG];have e9:(atV vs k).1.refs.length=16:=by(obtain rfl:k=0:=vO);rw[a0.o];exact X.o.1);(have f0:=J ((atV vs k).1.z3 e9);clear H;gi_wp2_with (first|(refine ZN Ac rfl rfl ?_;intro Wa f1 f2)|(refine SB (vs:=(atV vs k).1.cells) rfl rfl rfl rfl f1 (by rw[f0.o];rfl) (by rw[f0.o];exact Ab) (atV vs k).1.one ?_;intro Wb c2 c3)));refine hK _ _ (f2.O c3 kJ) λW9 H f3 b0=>?_;have hB:=c2.Z f3 vO;obtain⟨g,hg⟩:=vE W8.heap.size;rw[<-hg]at hB ⊢;clear f1 f2 c2 c3 f3 hg hK;have f4:=J H;have g6:=J (r2 (vs:=vs) (k:=k) (by rw[g5];exact hk));have g7:=J (show ∀ w,vQ 153 #[(atV vs k).1.V,.string (atV vs k).2] w λe w'=>e=.returned (Ls (Np (atV vs k).1 (atV vs k).2))/\Af w w' from λw=>by obtain rfl:k=0:=vO;rw[a0.o];show Calls _ _ #[m.V,Bw key] w λe w'=>e=.returned (Ls (Np m (Bw key)))/\_;rw[X.o.E];exact X.o.d w);(have q:=H.blk;clear H b0 hk;gi_wp2_with (refine BC rfl 215 (.tmp 10) rfl _ _ rfl (Ka W9 g (atV vs k).1 e9 hB) ?_));refine⟨trivial,rfl,CallsIn.mono (CallsIn.inRound _ (callsIn_wide.2 (g7.o W9))) ?_⟩;(rintro e w' ⟨rfl,hE⟩;have d9:=q.Z hE kI;unfold Ls;gi_wp2_with (refine SB (vs:=Jo (Np (atV vs k).1 (atV vs k).2)) rfl rfl rfl rfl d9 (by rw[Wy,Wy]) (by rw[Wy];exact Ej) (LL _) ?_;intro Wb c2 c3));refine⟨D,(Lk hE:Ad D W9 w').trans (c3.mono λb _ e=>(f4.o.is b).2 e),λb h=>.inl h,⟨f4.o.is,?_⟩⟩;rw[g6.o];exact c2
 case hdone =>intro D O W9 b0 H g8 f5;obtain⟨g9,h0,c4⟩:=g8;(have q:=H.blk;rw[show vs.take 1=vs from by rw[a0.o];rfl]at q;have h2:=J q;have h3:=J c4;have h4:=J f5;have e0:=a4.o.size;clear e0;have a2:=d8.o.Z b0 (λe=>by have:=HZ.o;have:=a9.o;rcases e with e|e|e <;>(try have e:(W:Nat)=cb:=e)<;>omega);have b8:=J a2;have h5:Hid (Af W W9):=(a4.o.O b0 λb hb e=>by have:=HZ.o;have:=a9.o;rcases e with e|e|e <;>(try have e:b=cb:=e)<;>omega);have c5:=J (show (¬ cb=(W:Nat))/\(¬ wb=(W:Nat))/\¬ (W6:Nat)=↑W from by have:=HZ.o;have:=a9.o;have:=a4.o.size;omega);have i1:∀ w,(binOp .eql 93 .nilIface .nilIface).run prog w=.ok true w:=λw=>by kernel_rfl);have q3:=c4.errc;have q2:=Ae.cell (i:=2) (v:=.int .i64 ((1:Nat):Int)) c4 vF;clear q c4 a2 b0 H f5 g9 h0 e8 e7 Z a1 d2 d3;have i2:¬((1:Nat):Int)<(n:Int):=kL f9.o;(gi_wp2_with fail);refine wpIn_wide.2 (Na [0,1,2,3,4] [3] Af (Ad λb=>b=(W:Nat)) Aa Ap (λx y z h k=>Ad.trans h k) (λx y h=>Lk h) vY vY vY ?_);refine Fa cb (Ls (IJ vs)) rfl (λw1 h1=>SI (Ae.Z (by exact h2.o) h1 c5.o.1)) (vS ?_);refine vD ?_;refine Fa ⟨wb,3,none⟩ qg rfl (λw1 h1=>Bv underlying93 rfl (Ed (by exact h3.o.errc) h1 c5.o.b)) (vS ?_);refine Hh _ rfl (λwa ha K hK=>?_);have f6:Af W9 wa:=(Ao W9).trans ha;refine Yw (old:=Jo none) (vs:=Jo (IJ vs)) rfl rfl rfl (b8.o.Z f6 kI) (by rw[Wy,Wy]) (by rw[Wy];exact Ej) (LL _) ?_;intro i3 h6 f7;refine hK _ _ f7 ?_;clear hK K;refine vS ?_;refine vD ?_;refine Mt (λwc hc=>?_);have f8:Ad (λb=>b=(W:Nat)) W9 wc:=((Lk f6:Ad (λb=>b=(W:Nat)) W9 wa).trans f7).trans (Lk hc);have h7:=h4.o.Z f8 c5.o.C;have h8:=(h6.Z hc kI).z5 (show (W:Nat)≠↑W6 from λe=>c5.o.C e.symm) (.deferred none);have h9:Af W wc:=h5.o.O f8 kJ;gi_wp2;refine⟨by simp,.inl ⟨_,_,rfl,run_takeDeferred h7,?_⟩⟩;refine⟨_,Ot rfl rfl rfl (RZ h8),h9.O (Ad.z7 wc W6 _) λb hb e=>by have e:b=(W6:Nat):=e;have:=a4.o.size;omega,?_⟩;rw[show IJ vs=some va from by rw[a0.o];exact X.o.E];rfl
theorem D8(hc:Ha W)(t key:vB)(hk:key.size<=1000)(v:vV)(hv:Ie W v [t])(m:Ai)(hm:m.refs.length=16)(va:vB)(hGt:∀ w,vR 114 #[t] w (.tuple #[m.V,qa]))(hST:∀ w,vR 183 #[m.V,Bw key] w (.tuple #[(),Bw key]))(hCL:∀ w,vR 153 #[m.V,Bw key] w (Ls (some va)))(hcl:Np m (Bw key)=some va):vR 54 #[Aj t,key,v] W (.tuple #[Ls (some va),qa]):=by
 obtain⟨a,c,a3⟩:=tE hv
 have HP:=J (λw (h:Af W w)=>O6 w (hc.ext h) t key hk v (hv.ext h) m hm va hGt hST hCL hcl)
 obtain⟨b1,H⟩:=vE (Aj t)
 rw[<-H]at HP ⊢
 obtain⟨o,ho⟩:=vE (some va)
 rw[<-ho]at HP ⊢;clear hc hk hv hGt hST hCL hcl hm H ho;subst a3;unfold vR vQ;go_in;go_wp2_with (refine Di Dv rfl rfl ?_;intro W1 K q)
 refine (HP.o W1 q).mono ?_;rintro e w2 ⟨hE,rfl⟩;have a4:=J (K.Z hE kI);have a5:=J (q.trans hE);clear K q hE;unfold Ls;go_wp2_with (first|(refine Di Dv rfl rfl ?_;intro W3 O X)|(refine Bt (old:=Jo none) (vs:=Jo o) rfl rfl rfl rfl O ((Wy none).trans (Wy o).symm) (by rw[Wy];exact Ej) (LL _) ?_;intro W4 Z a2))
 have A:Af w2 W4:=X.O a2 kJ;have a7:=J (a5.o.trans A);have a0:=J (a4.o.Z A kI);have a8:=J Z;clear O X Z a2 A;refine (show vQ 36 #[qg,.iface 27 (.int .i64 10)] W4 λe w'=>e=.returned false/\W4=w' from Y5 W4).mono ?_;rintro e w5 ⟨rfl,rfl⟩;have a1:=a0.o;go_wp2_with (first|(refine Gz 117 (.tmp 8) rfl rfl _ _ rfl (SI a8.o) ?_)|(refine Bt (old:=Jo none) (vs:=Jo o) rfl rfl rfl rfl a1 ((Wy none).trans (Wy o).symm) (by rw[Wy];exact Ej) (LL _) ?_;intro W8 a9 b0))
 refine bodyPost_ret (Ot rfl rfl rfl (RZ a9)) rfl ?_
 exact⟨rfl,a7.o.O b0 kJ⟩
theorem jzm(va p:vB)(rs:vM)(hr:rs.length=16):vR 183 #[(Ai.mk 1 pa va rs).V,p] W (.tuple #[(),p]):=by
 have q:=J hr;clear hr;unfold Ai.V;have e:(⟨#[]⟩:vB).toList.isEmpty=true:=by rw[cA];rfl
 have A:(Ai.cells ⟨1,pa,va,rs⟩)[0]?=some (.int .i64 1):=rfl;have H:(Ai.cells ⟨1,pa,va,rs⟩)[1]?=some (.string pa):=rfl;unfold vR vQ;go_in;go_wp2
 go_ret2
 exact⟨rfl,(Aa W).alloc _⟩
theorem t4(w0 W:vW)(s bm:Nat)(room:Int)(S:vT)(hs:Ev w0 s bm room S)(hE0:Af w0 W)(g:Nat)(v:vV)(h:Vb w0 g v [] W)(t:vB)(hH:Md S t)(pa va:vB)(rs:vM)(hgood:Gn (Bx 12) ⟨1,pa,va,rs⟩)(ht:t=Cu ⟨1,pa,va,rs⟩)(key:vB)(hk:key.size<=1000)(hp:Bw key=pa):vQ 83 #[s,Aj t,key,.func (.func 139) #[] #[g]] W (sF w0 g v W [t] (some va)):=by
 have q:=QE w0 W s bm room S hs hE0 g v [] h (by simp) t hH 12 _ hgood ht;have A:=J q;have H:rs.length=16:=(hgood.one (Bm 12)).refs;have HL:=J (Ai.z3 ⟨1,pa,va,rs⟩ H);have HK:=J (bA hk hp)
 obtain⟨k0,K⟩:∃ k,k=Aj t:=⟨_,rfl⟩
 rw[<-K]at A ⊢;clear hs hE0 h hgood q hH hk K ht hp H;unfold vQ;go_in;go_wp2_with fail
 refine A.o.mono ?_;rintro e w1 ⟨rfl,v1,O⟩;have a5:=J O;clear O;unfold Ai.V;go_wp2_with (first|(refine Di Ac rfl rfl ?_;intro W5 X Z;refine Bt (vs:=Ai.cells ⟨1,pa,va,rs⟩) rfl rfl rfl rfl X (by rw[HL.o];rfl) (by rw[HL.o];exact Ab) (Ai.one _) ?_;intro W6 a0 a1))
 refine vC (Zc _ key (kL HK.o.1)) λw7 hE=>?_;rw[HK.o.2];have a2:Af w1 W6:=Z.O a1 kJ;have a7:=J ((a5.o.ext a2).ext hE);have a3:=J (a0.Z hE kI)
 obtain⟨L,hL⟩:=vE w1.heap.size
 rw[<-hL]at a3 ⊢;clear hL hE a2 X Z a0 a1;go_wp2
 go_loopw [11,12] (λa4 pv wr=>a4=.bool true/\pv=.string pa/\wr=w7) (λa4 pv _=>0)
 case atStart=>exact⟨rfl,rfl,rfl⟩
 case round =>obtain⟨rfl,rfl,rfl⟩:=hrel;(have h6:=a3.o;have q0:wr.cell? L=some (.int .i64 1):=h6.z1 (i:=0) vF;have q1:=h6.z1 (i:=1) (v:=.string pa) vF;have q2:=h6.z1 (i:=2) (v:=.string va) vF;clear h6;go_wp2);go_ret2;exact⟨rfl,v1,a7.o⟩
theorem V5(S:vT)(hs:Ev W s bm room S)(t:vB)(hH:Md S t)(pa va:vB)(rs:vM)(hgood:Gn (Bx 12) ⟨1,pa,va,rs⟩)(ht:t=Cu ⟨1,pa,va,rs⟩)(key:vB)(hk:key.size<=1000)(hp:Bw key=pa):vQ 86 #[s,Aj t,key] W (IR [t] W):=by
 obtain⟨k0,O⟩:∃ k,k=Aj t:=⟨_,rfl⟩
 have HF:=J (λw e g v h=>t4 W w s bm room S hs e g v h t hH pa va rs hgood ht key hk hp);rw[<-O]at HF ⊢;clear O hs hH hgood ht hk hp;unfold vQ;go_in;go_wp2_with fail
 have hE:=(Aa W).alloc (.cells #[qe] 51);have hB:=Ae.new W (.cells #[qe] 51);have H:Vb W W qe [] (W.alloc (.cells #[qe] 51)):=⟨bO _,hB,⟨0,rfl,.inl ⟨rfl,rfl⟩⟩,λb hb=>by cases hb⟩;have hF:=HF.o _ hE W qe H;have a0:=J H;have HE:=J hE;clear hB H hE;refine hF.mono ?_;rintro e w2 ⟨rfl,v',K⟩;have HT:=J K
 obtain⟨n,Z⟩:=K.at'.row
 have a1:n=1:=by have:=Z.1;simpa using this.symm
 subst a1
 obtain⟨a,c,X⟩:=Ir Z
 have q:=K.at'.var.cell (i:=0) (v:=v') vF;have A:Cg W w2 v' 1 [t]:=⟨⟨a,c,X⟩,Z,K.ext0 a0.o HE.o (bO _),λb hb=>(K.at'.own b hb).1⟩;have a2:=J A;subst X;clear hF K Z A HT;unfold Kg;go_wp2
 go_ret2
 exact⟨_,_,rfl,a2.o⟩
theorem z8(S:vT)(hs:Ev W s bm room S)(t:vB)(hH:Md S t)(pa va:vB)(rs:vM)(hgood:Gn (Bx 12) ⟨1,pa,va,rs⟩)(ht:t=Cu ⟨1,pa,va,rs⟩)(key:vB)(hk:key.size<=1000)(hp:Bw key=pa):vQ 40 #[s,Aj t,key] W (IR [t] W):=by
 obtain⟨y,H,O⟩:=hH
 have q:=AL W s bm room S (Aj t) hs;have A:Be S (Aj t).data.toList=some y:=H;rw[A]at q;simp only[fP,Cw]at q;have X:=J q;have Z:=J (λw (e:Af W w)=>V5 w s bm room S (hs.ext e) t ⟨y,H,O⟩ pa va rs hgood ht key hk hp)
 obtain⟨k0,K⟩:∃ k,k=Aj t:=⟨_,rfl⟩
 rw[<-K]at Z;rw[<-K]at X ⊢;clear K hs hk q H O A hgood ht hp;unfold vQ;go_in;go_wp2_with fail
 refine X.o.mono ?_;rintro e w1 ⟨rfl,hE⟩;have HE:=J hE;clear hE;go_wp2_with fail
 refine (Z.o w1 HE.o).mono ?_;rintro e w2 ⟨a,c,rfl,hR⟩;have HR:=J hR;clear hR;go_wp2
 go_ret2
 exact⟨_,_,rfl,HR.o.since HE.o⟩
end
section
open Go Go.RowKit
theorem F4:Md (Mf z y) Et:=⟨_,PE z y,rfl⟩
theorem s8(hs:Ev W s bm 100 (Mf z y)):vQ 40 #[s,Aj Et,jDo] W (IR [Et] W):=
 z8 W s bm 100 (Mf z y) hs Et (F4 z y) (Bw jDo) Qg _ OB rfl jDo vI rfl
theorem K3(hs:Ev W s bm 100 (Mf z y))(hN:AH (Mf z y)):vR 38 #[s,Aj Et,jDo] W (Kg (some Qg)):=by
 have e:Iz (Mf z y) ((Bw jDo).size+1) (Bq Et) (Bw jDo)=some Qg:=by rw[BL W (Vm PV) PV];exact OD rfl
 refine (oP W s bm 100 (Mf z y) hs hN (Aj Et) _ (PE z y) jDo vI).mono ?_;rintro A w' ⟨rfl,q⟩
 refine⟨?_,q⟩
 show Ending.returned (Kg (Iz (Mf z y) ((Bw jDo).size+1) (Bq Et) (Bw jDo)))=_;rw[e]
theorem sV:Qg.toList.isEmpty=false:=by decide +kernel
theorem t0(hs:Ev W s bm 100 (Mf z y)):vQ 55 #[s,Aj Et,jDo,jDp,.int .i64 1] W λe w'=>(∃ la lc,e=.returned (.tuple #[.slice la 1 lc,false,qa]))/\Af W w':=
 O7 W s jDo jDp (Aj Et) (Bw jDo) Qg (λw e=>jzh w s bm 100 (Mf z y) jDo (Aj Et) (Bw jDo) Qg _ vI (hs.ext e) _ (PE z y) 12 Ya OB rfl rfl sV ze (VC jDo) ze) sV (VC jDo) ze ze
theorem kK:Op.bytesLess jDo.toList jDp.toList=true:=by decide +kernel
theorem uV:RV Ya Et jDo jDp jDo:=
 ⟨⟨12,OB⟩,rfl,rfl,by decide +kernel,by decide +kernel,by decide +kernel,by decide +kernel,by decide +kernel,by decide +kernel,by
  have h:Ya.path=Bw jDo:=rfl;rw[h];rfl⟩
def Tt:Fi:=⟨0,Aj Et,jDo,⟨#[]⟩,[Et]⟩
def Xf:Fi:=⟨1,Aj Et,jDo,jDp,[Et]⟩
theorem OZ:Vc Tt:=⟨.inl ⟨rfl,rfl⟩,Rp _,by decide +kernel,by decide +kernel,by show ([Et]:vM).length<=200;simp,λb hb=>by
 have hb:b∈[Et]:=hb;rw[bG.1 hb];exact oE⟩
theorem rW:Vc Xf:=⟨.inr rfl,Rp _,by decide +kernel,by decide +kernel,by show ([Et]:vM).length<=200;simp,λb hb=>by
 have hb:b∈[Et]:=hb;rw[bG.1 hb];exact oE⟩
theorem s4(h:k=0\/k=1):(Hr k).size<=1:=by
 rcases h with rfl|rfl
 ·decide +kernel
 ·decide +kernel
theorem WI{p:Fi}(h:Vc p)(hn:p.nodes.length<=50):(Fe p).size<=65536:=by
 have e:(Hr p.kind).size<=1:=s4 _ (h.kind.imp (·.1) id);have q:=AD (Hr p.kind);have A:=AD p.root;have H:=AD p.key;have K:=AD p.to;have O:=UU (p.nodes.map Av);have X:=GN p.nodes h.short;have Z:=h.root;have h8:=h.key;have h9:=h.to;unfold Fe;refine bH (UU _) ?_;rw[GP];simp only[bP,fY,gZ,List.sum_nil];omega
theorem tD:(Fe Tt).size<=65536:=WI OZ (by show ([Et]:vM).length<=50;simp)
theorem yV:(Fe Xf).size<=65536:=WI rW (by show ([Et]:vM).length<=50;simp)
theorem yW(p:Fi)(hr:p.root.size=32):Fe p≠⟨#[]⟩:=λe=>by
 have A:(Fe p).size=0:=by rw[e];rfl
 have q:=ON [Av (Hr p.kind),Av p.root,Av p.key,Av p.to,Fo (p.nodes.map Av)];rw[GP]at q;simp only[bP,fY,gZ,List.sum_nil]at q;have H:(Av p.root).size ≥ 1:=by
  unfold Av;split
  ·rename_i h
   have:=h.1
   omega
  ·rw[cO];omega
 unfold Fe at A;omega
theorem xJ:vR 114 #[Et] w (.tuple #[Ya.V,qa]):=AJ (Bm 12) w Ya OB
theorem s9(hc:Ha w)(nv:vV)(hn:Ie w nv [Et]):vQ 17 #[.agg (Tt.cells nv).toArray] w λe w'=>∃ a c,e=.returned (.tuple #[.slice a 1 c,qa])/\Af w w':=
 E0 w Tt nv hn OZ rfl Qg λW e=>D8 W (hc.ext e) Et jDo vI nv (hn.ext e) Ya rfl Qg xJ (λW=>jzm W _ _ _ _ rfl) (λW=>A3 W (Bw jDo) Qg () _ rfl) rfl
theorem M_(n:Ai)(h:CG n)(k:Nat):∀ x∈Vq n k,x.size<=33:=by
 have A:∀ (l:List (Nat × vB)) (m:vM),(∀ x∈l,x.2.size<=33)->(∀ x∈m,x.size<=33)->∀ x∈l.foldl (λl x=>l.set x.1 x.2) m,x.size<=33:=by intro l;induction l with| nil=>intro m _ H;exact H| cons y r ih =>intro m q H;rw[dQ];refine ih _ (λx e=>q x (bM _ e)) (λx e=>?_);rcases fR e with e|rfl;{exact H x e};exact q y (bN ..)
 intro x e;refine A _ _ (λy K=>?_) (λy K=>?_) x e
 ·have q:=(MX n.refs 0 y (gE K)).2.2.1;exact h.each y.2 (bD q)
 ·rw[fG K];have:=Mk ();have O:(⟨#[]⟩:vB).size=0:=rfl;omega
theorem e2(n:Ai)(h:CG n):(AF n).size<=640:=by
 have K:=CQ (Nt n);have O:(Aw (Nt n)).size<=617:=by(unfold Nt;have e:16<(Vq n n.z8.length).length:=by rw[JS];omega);(rw[List.set_eq_take_append_cons_drop,if_pos e,List.drop_eq_nil_of_le (by rw[JS];decide),GP,bW,List.sum_append, <-GP,bP,gZ,fY,List.sum_nil];have q:=WB 33 ((Vq n n.z8.length).take 16) λx A=>M_ n h _ x (gE A);have H:((Vq n n.z8.length).take 16).length=16:=by rw[cR,JS];rfl);have X:=Mk n.value;have Z:=h.value;rw[H]at q;omega
 unfold AF;omega
theorem N1(n:Ai)(h:CG n):(Cu n).size<=1000:=by
 have:=e2 n h
 unfold Cu;have H:=h.path;have K:=h.value;split
 ·exact bH (Mk _) vI
 ·split;{have q:=Ux n.path true;have A:=Mk (Cl n.path true);have O:=Mk n.value;have e:=CQ [Av (Cl n.path true),Av n.value];rw[Qn,Qn,Zz]at e;unfold CD;omega};split;{have q:=Ux n.path false;have A:=Mk (Cl n.path false);have e:=CQ [Av (Cl n.path false),n.refs.getD 0 ()];rw[Qn,Qn,Zz]at e;have X:(n.refs.getD 0 ()).size<=33:=h.each _ (by rw[bL,bB (by rw[h.refs];omega)];exact dR _);unfold Py;omega};omega
theorem rZ{key:vB}(hL:Em L=0)(hk:key.size<=6):Vc ⟨0,Bi L,key,⟨#[]⟩,Kj L key⟩:=by
 have q:=Nn (Ge hL);have O:=PI 12 (Cq L) (Bw key)
 refine⟨.inl ⟨rfl,rfl⟩,Rp _,hk,by show (0:Nat)<=6;decide,?_,λt A=>?_⟩
 ·show (Kj L key).length<=200;unfold Kj;rw[bQ];omega
 ·(have H:t∈Bz (Cr L):=by rcases bU.1 (show t∈(Cr L).text::Ip 12 (Cq L) (Bw key)from A)with rfl|h;{exact Yx _};exact (M7 q (BO key) h).1);obtain⟨n,⟨e,g,K⟩,_⟩:=(RB hL).node t ((Ql _ _).2 H);rw[e];exact N1 n (K.one (Bm g))
theorem D9{key:vB}(hL:Em L=0)(hk:key.size<=6):(Fe ⟨0,Bi L,key,⟨#[]⟩,Kj L key⟩).size<=65536:=by
 have e:=PI 12 (Cq L) (Bw key);exact WI (rZ hL hk) (by show (Kj L key).length<=50;unfold Kj;rw[bQ];omega)
end
section
open Go Go.RowKit
attribute [local go_sem] Oper.semAt_some
noncomputable def CJ(m:vL)(key:vB):vV:=if key.size<=6 then .tuple #[Fe ⟨0,Bi m,key,⟨#[]⟩,Kj m key⟩,qa]else .tuple #[(),.int .i64 1]
section
variable {w0 w:vW} {D:Nat->Prop} {b:Nat} {M:Dm} {a:Option Addr} {c rm sb cb:Nat} {es:List (Ce Int)} {ck bm:Nat} {S:vT} {n:Nat}
end
end
section
open Go Go.RowKit
attribute [local go_sem] Oper.semAt_some
theorem jC6(M:Dm)(a:Option Addr)(c rm sb cb:Nat)(es:List (Ce Int))(ck:Nat)(h:Kk D w b M a c rm sb cb es ck)(hl:M.all.length<=1000)(bk:Int)(i:Nat)(v:Au)(r:vB)(hp:Jp M.all bk=some i)(hv:M.all[i]?=some v)(hr:Cp es bk=some (.string r))(hrs:r.size<=1000)(key val:vB)(hks:key.size<=1000)(K1:vW->Prop)
  (hG:∀ W,Af w W->vQ 37 #[cb,(r++⟨#[32]⟩++key:)] W λe W'=>e=.returned (.tuple #[val,true])/\K1 W') :
  vQ 11 #[b,.int .i64 bk,key] w λe w'=>e=.returned (.tuple #[val,qa])/\K1 w':=by
 have HC:=J (EY w D b M a c rm sb cb es ck h hl bk i v r hp hv hr);have HB:=J h.blk;have HK:=J hG;have a9:=h.blk.lt;clear h hp hv hr hl hG;unfold vQ;go_in;go_wp2_with fail
 refine HC.o.mono ?_;rintro e w1 ⟨x,rfl,q,h1,h2,hE⟩
 obtain⟨O,ev,cv⟩:=x
 have q:O=v:=q;subst q
 obtain⟨a1,c1,A⟩:=h1.1.sl
 obtain⟨a2,c2,H⟩:=h2.1.sl
 have A:ev=_:=A;have H:cv=_:=H;subst A H;have HE:=J hE;have b0:=hE.size;clear h1 h2 hE HC;unfold VX.cells;go_wp2_with (first|(refine Di Cb rfl rfl ?_;intro W2 X Z)|(refine Bt (vs:=[(O.block:Int),.slice a1 O.ents.length c1,.slice a2 O.chgs.length c2,(O.pins:Int)]) rfl rfl rfl rfl X rfl Bo zc ?_;intro W3 a5 a0))
 refine (EP W3).mono ?_;rintro e w4 ⟨rfl,rfl⟩;have K:Af w W3:=(HE.o.trans Z).O a0 kJ
 have a7:=J K;have a3:=HB.o.Z K kI;have q5:W3.cell? ⟨b,5,none⟩=some (.pointer (some cb)):=a3.z1 rfl;clear Z a0 X a5 K a3;go_wp2_with fail
 refine vC (HK.o W3 a7.o) λw5 a4=>?_;have a8:=J a4;clear a4;go_wp2
 go_ret2
 exact⟨rfl,a8.o⟩
theorem S_(M:Dm)(a:Option Addr)(c rm sb cb:Nat)(es:List (Ce Int))(ck:Nat)(h:Kk D w b M a c rm sb cb es ck)(hl:M.all.length<=1000)(bk:Int)(i:Nat)(v:Au)(r:vB)(hp:Jp M.all bk=some i)(hv:M.all[i]?=some v)(hr:Cp es bk=some (.string r))(key:vB)(hk:¬ key.size<=6):vR 12 #[b,.int .i64 bk,key] w (.tuple #[(),.int .i64 1]):=by
 have HC:=J (EY w D b M a c rm sb cb es ck h hl bk i v r hp hv hr);have a5:(6:Int)<(key.size:Int):=vO
 clear h hp hv hr hl hk;unfold vR vQ;go_in;go_wp2_with fail
 refine HC.o.mono ?_;rintro e w1 ⟨x,rfl,q,h1,h2,hE⟩
 obtain⟨K,ev,cv⟩:=x
 have q:K=v:=q;subst q
 obtain⟨a1,c1,A⟩:=h1.1.sl
 obtain⟨a2,c2,H⟩:=h2.1.sl
 have A:ev=_:=A;have H:cv=_:=H;subst A H;have HE:=J hE;have a7:=hE.size;clear h1 h2 hE HC;unfold VX.cells;go_wp2_with (first|(refine Di Cb rfl rfl ?_;intro W2 O X)|(refine Bt (vs:=[(K.block:Int),.slice a1 K.ents.length c1,.slice a2 K.chgs.length c2,(K.pins:Int)]) rfl rfl rfl rfl O rfl Bo zc ?_;intro W3 a3 Z))
 refine (EP W3).mono ?_;rintro e w4 ⟨rfl,rfl⟩;have a0:Af w W3:=(HE.o.trans X).O Z kJ
 have a4:=J a0;clear X Z O a3 a0;go_wp2
 go_ret2
 exact⟨rfl,a4.o⟩
theorem tJ{w:vW}{D:Nat->Prop}{b:Nat}{c:Nat}{bm:Nat}{n:Nat}(hI:Fp w0 D w b M a c rm sb cb es ck bm 2000 S n)(hl:M.all.length<=1000)(bk:Int)(m:vL)(j:Nat)(v:Au)(hp:Jp M.all bk=some j)(hv:M.all[j]?=some v)(hr:Cp es bk=some (.string (Bi m)))(hM:Iy S m)(key:vB):vR 12 #[b,.int .i64 bk,key] w (CJ m key):=by
 unfold CJ
 by_cases hk:key.size<=6
 ·rw[if_pos hk];exact jT w D b M a c rm sb cb es ck hI.m hl bk j v (Bi m) hp hv hr key (Kj m key) (λW e=>o0 W sb bm 2000 S (hI.ext e).s.st m hM key vO) (rZ hM.ok hk) (D9 hM.ok hk)
 ·rw[if_neg hk];exact S_ w D b M a c rm sb cb es ck hI.m hl bk j v (Bi m) hp hv hr key hk
end
section
open Go Go.RowKit
theorem Gw.there{C:Nat->Prop}{W:vW}{b bm:Nat}(h:Gw C w0 W b rm sb cb bm U X L M es S i)(w:vW)(hU:Gi U){at':Int}(hq:(at',m)∈(((Nu M).block:Int),L)::X)(hm:Em m=0)(ht:∀ t∈Ld m,t∈U):∃ j v,Jp M.all at'=some j/\M.all[j]?=some v/\Cp es at'=some (.string (Bi m))/\Iy S m:=by
 obtain⟨k,e⟩:=h.new _ hq
 obtain⟨j,v,q,A⟩:=q2 (h.all _ e)
 exact⟨j,v,q,A,ZI h.jg.nd e,(h.jg.jf h.new).has hq w hU hm ht⟩
def Pm(W:vW)(cb mb k:Nat)(th val:vB)(er:Int)(o:Option (Nat × Nat × vB)):Prop:=DP W cb mb 3 k th o/\∀ x,o=some x->er=0/\x.2.2=val
theorem Pm.Z{F:Bd}{W W':vW}{cb mb k:Nat}{th val:vB}{er:Int}{o:Option (Nat × Nat × vB)}(h:Pm W cb mb k th val er o)(e:Ad F W W')(hF:∀ z,AS cb mb o z->¬ F z):Pm W' cb mb k th val er o:=by
 obtain⟨⟨⟨A,H⟩,K⟩,O⟩:=h
 refine⟨⟨⟨A.Z e (hF _ (.inl rfl)),H.Z e (hF _ (.inr (.inl rfl)))⟩,?_⟩,O⟩
 cases o with
 |none=>trivial
 |some x =>obtain⟨tg,c,v⟩:=x;obtain⟨X,Z,a3,q,a4⟩:=K;exact⟨X,Z,a3,q,a4.Z e (hF _ (.inr (.inr ⟨_,_,rfl⟩)))⟩
theorem Pm.noRow{W:vW}{k:Nat}{val:vB}(h:Pm W cb mb k th val er o):Mm W (AS cb mb o):=λz q A e hb=>by
 obtain⟨⟨⟨K,O⟩,X⟩,h4⟩:=h
 rcases e with e|e|⟨c,v,e⟩
 ·exact KX K vI z q A e hb
 ·exact KN O z q A e hb
 ·subst e
  obtain⟨_,_,_,H,Z⟩:=X
  exact KX Z vI z q A rfl hb
theorem Gw.cac{W:vW}{b bm:Nat}(h:Gw (AS cb mb o) w0 W b rm sb cb bm U X L M es S i)(hF:∀ z,F z->AS cb mb o z)(k:Ad F W W')(hR:Mm W F)(hlo:∀ z,AS cb mb o z->(w0:Nat)<=z)(o':Option (Nat × Nat × vB))(ho:∀ z,AS cb mb o' z->AS cb mb o z\/(W:Nat)<=z/\z<(W':Nat)):Gw (AS cb mb o') w0 W' b rm sb cb bm U X L M es S i:=by
 obtain⟨D,a,c,ck,K,O⟩:=h.inv
 have A:∀ z,F z->¬ Sb b rm bm S z/\z≠sb/\¬ D z:=λz H=>(O z (hF z H)).2;have Z:=K.byF k (λe=>(A _ e).1 (.inl rfl)) (λe=>(A _ e).1 (.inr (.inl rfl))) (λe=>(A _ e).2.1 rfl) (λe=>(A _ e).1 (.inr (.inr (.inl rfl)))) (λx hx e=>(A _ e).1 (.inr (.inr (.inr (bC.2 ⟨x,hx,rfl⟩))))) (λz H e=>(A _ e).2.2 H) hR
 obtain⟨l1,l2,l3,l4,l5⟩:=K.lt'
 have hs:=k.size
 refine⟨⟨D,a,c,ck,Z,λz H=>?_⟩,h.all,h.len,h.ext.O k λx hx e=>kL (hlo x (hF x e)),h.lo,h.jg,h.new,h.pin,h.nw,h.nx,h.pb⟩
 rcases ho z H with e|e
 ·have:=(O z e).1;exact⟨by omega,(O z e).2⟩
 ·refine⟨e.2,λq=>?_,by omega,λq=>kL ((K.dr z q).2)⟩;rcases q with q|q|q|q;{omega};{omega};{omega};have:=l5 z q;omega
theorem TD(cb mb:Nat)(o:Option (Nat × Nat × vB))(w0 w:vW)(b rm sb bm:Nat)(U:vM)(hU:Gi U)(X:List (Int × vL))(L:vL)(M:Dm)(es:List (Ce Int))(S:vT)(i:Nat)(h:Gw (AS cb mb o) w0 w b rm sb cb bm U X L M es S i)(hlo:∀ z,AS cb mb o z->(w0:Nat)<=z)(hne:cb≠mb)(bk:Int)(m:vL)(hq:(bk,m)∈(((Nu M).block:Int),L)::X)(hm:Em m=0)(ht:∀ t∈Ld m,t∈U)(key:vB)(hk:key.size<=1000)(th:vB)(hth:Bi m++⟨#[32]⟩++key=th)(val:vB)(er:Int)(hV:Kg (Dt (Cq m) (Bw key))=.tuple #[val,.int .i64 er])(he:er≠0->val=⟨#[]⟩)(k:Nat)(hk12:k<=12)(hc:Pm w cb mb k th val er o):vQ 11 #[b,.int .i64 bk,key] w λe w'=>e=.returned (.tuple #[val,.int .i64 er])/\Af w0 w'/\∃ o',Pm w' cb mb (k+1) th val er o'/\Gw (AS cb mb o') w0 w' b rm sb cb bm U X L M es S i/\∀ z,AS cb mb o' z->(w0:Nat)<=z:=by
 obtain⟨j,v,hp,hv,hr,hM⟩:=h.there w hU hq hm ht
 obtain⟨D,a,c,ck,hI,hf⟩:=h.inv
 have hl:=h.len;have a3:(Bi m).size<=1000:=by show (Aj _).size<=1000;rw[Rp];decide
 have b2:=h.ext.size;subst hth;cases o with
 |some x =>obtain⟨K,O,v0⟩:=x;obtain⟨e0,e1⟩:=hc.2 _ rfl;have e1:v0=val:=e1;subst e0 e1;refine (jC6 w D b M a c rm sb cb es ck hI.m vO bk j v (Bi m) hp hv hr a3 key v0 hk (λW=>Ad (AS cb mb (some (K,O,v0))) w W/\DP W cb mb 3 (k+1) (Bi m++⟨#[32]⟩++key) (some (K,O,v0))) λW e=>?_).mono ?_;{have a1:=hc.Z e (λ_ _ h=>h);refine (P8 W cb mb hne 3 k vI vI vO vO _ _ a1.1).mono ?_;rintro e W' ⟨rfl,H,k2⟩;exact⟨rfl,(e.mono kZ).trans H,k2⟩};rintro e w' ⟨rfl,H,k2⟩;have hF:=h.cac (λ_ h=>h) H hc.noRow hlo (some (K,O,v0)) (λz q=>.inl q);exact⟨rfl,hF.ext,_,⟨k2,hc.2⟩,hF,hlo⟩
 |none =>obtain⟨T,hT⟩:∃ T:Nat->Prop,T=λz=>z=cb\/z=mb:=⟨_,rfl⟩;(have Z:∀ z,T z->AS cb mb none z:=λz q=>by rw[hT]at q;exact q.imp id .inl);(have a2:Mm w T:=λz a7 fz e hb=>hc.noRow z a7 fz (Z z e) hb;have hB:∀ W,Ad T w W->Fp w0 D W b M a c rm sb cb es ck bm 2000 S 2000:=λW A=>by have hn:∀ z,T z->¬ Sb b rm bm S z/\z≠sb/\¬ D z:=λz q=>(hf z (Z z q)).2;exact hI.byF A (λe=>(hn _ e).1 (.inl rfl)) (λe=>(hn _ e).1 (.inr (.inl rfl))) (λe=>(hn _ e).2.1 rfl) (λe=>(hn _ e).1 (.inr (.inr (.inl rfl)))) (λx hx e=>(hn _ e).1 (.inr (.inr (.inr (bC.2 ⟨x,hx,rfl⟩))))) (λz q e=>(hn _ e).2.2 q) a2);have a8:∀ W W',Ad T w W->Af W W'->Ad T w W':=λW W' A e=>A.trans (e.mono kZ);have b0:cb<(w:Nat):=hc.1.1.1.lt;have b1:mb<(w:Nat):=hc.1.1.2.lt;refine (pP w D b M a c rm sb cb es ck hI.m vO bk j v (Bi m) hp hv hr a3 key val hk er (λW=>Ad T w W/\DP W cb mb 3 (k+1) (Bi m++⟨#[32]⟩++key) none) (λW=>Ad T w W/\DP W cb mb 3 (k+1) (Bi m++⟨#[32]⟩++key) none) (λW=>Ad T w W/\∃ K O,(w:Nat)<=K/\DP W cb mb 3 (k+1) (Bi m++⟨#[32]⟩++key) (some (K,O,val))) (λW e=>?_) (λW A=>(hB W A.1).m.blk) (λW A=>(uZ W sb bm 2000 S (hB W A.1).s.st (hB W A.1).s.all m hM key hk).mono λe W' ⟨e1,e2⟩=>⟨by rw[e1,hV],a8 _ _ A.1 e2,⟨⟨A.2.1.1.Z e2 λh=>h,A.2.1.2.Z e2 λh=>h⟩,trivial⟩⟩) (λW A=>(hB W A.1).m.blk) λe0 W A=>?_).mono ?_;{have a1:=hc.Z e (λ_ _ h=>h);refine (P8 W cb mb hne 3 k vI vI vO vO _ _ a1.1).mono ?_;rintro e W' ⟨rfl,H,k2⟩;exact⟨rfl,(e.mono kZ).trans (H.mono λz _ e=>by rw[hT];exact zZ e),k2⟩};{refine (jr2 W cb mb 3 (k+1) vI vI _ val A.2.1).mono ?_;rintro e W' ⟨rfl,H,K,O,⟨c1,c2,a0,c3⟩,a5⟩;have b3:=A.1.size;refine⟨true,rfl,A.1.trans (H.mono λz _ e=>by rw[hT];exact .inl e),K,O,by omega,⟨c1,A.2.1.2.Z H λe=>hne e.symm⟩,c2,by omega,by omega,a0,c3⟩};intro e w' hq;rcases (show _\/_ from hq)with⟨e0,rfl,H,K,O,a5,hO⟩|⟨e0,rfl,H,hO⟩;{(have a9:K<(w':Nat):=by obtain⟨_,_,_,a0,a4⟩:=hO.2;exact a4.lt);have hF:=h.cac Z H a2 hlo (some (K,O,val)) (λz q=>by rcases q with q|q|⟨c',v',e⟩;{exact .inl (.inl q)};{exact .inl (.inr (.inl q))};cases e;exact .inr ⟨a5,a9⟩);subst e0;refine⟨rfl,hF.ext,_,⟨hO,λx hx=>by cases hx;exact⟨rfl,rfl⟩⟩,hF,λz q=>?_⟩;rcases q with q|q|⟨c',v',e⟩;{exact hlo z (.inl q)};{exact hlo z (.inr (.inl q))};cases e;omega};have hF:=h.cac Z H a2 hlo none (λz q=>.inl q);rw[he e0];exact⟨rfl,hF.ext,_,⟨hO,λx hx=>by cases hx⟩,hF,hlo⟩
end
section
open Go Go.RowKit
theorem JG.first{U:vM}(hU:Gf∈U){w W:vW}{s bm z n:Nat}{room:Int}(h:Kq w s bm room (Pn z) W n):JG U Tv (Pn z):=by
 have H:=JF.first hU h;have A:Ld []=[Gf]:=eL
 refine⟨H.kp,H.nd,λr=>?_,λx q=>?_,λx q=>?_⟩
 ·unfold Tv Rl;rw[jH];by_cases e:r=Aj Gf;{(have:Be (Pn z) r.data.toList=some (ky Gf,z,⟨Gf,[],0,1⟩):=by rw[e];unfold Be Pn ky;simp);rw[this,if_pos (by simp[BB,e])];rfl};(have O:BB r (Aj Gf)=false:=by simp[BB];exact λh=>e h.symm);rw[O];(have:Be (Pn z) r.data.toList=none:=by rw[EJ];intro x q K;have q:x∈[(ky Gf,z,(⟨Gf,[],0,1⟩:It))]:=q;rw[bG.1 q]at K;exact e (ByteArray.ext (Array.ext' K.symm)).symm);rw[this];rfl
 ·have q:x∈[(ky Gf,z,(⟨Gf,[],0,1⟩:It))]:=q;rw[bG.1 q];exact⟨[],PU,λt h=>by rw[A]at h;rw[bG.1 h];exact hU,Gf,by rw[A];exact bG.2 rfl,rfl⟩
 ·have q:x∈[((0:Int),Value.string (Aj Gf),0)]:=q;rw[bG.1 q];exact⟨[],by unfold Bi;rw[lQ],PU,λt h=>by rw[A]at h;rw[bG.1 h];exact hU⟩
theorem Gw.first{w0 w W:vW}{D:Nat->Prop}{b:Nat}{window:Int}{a:Option Addr}{c rm sb cb mb bm z:Nat}{U:vM}(hw:Af w0 w)(hU:Gf∈U)(h1:Fp w D W b (Js window) a c rm sb cb Tv 1 bm 2000 (Pn z) 1)(h2:Af w W)(hC:Rx W cb mb 3)(h3:∀ x,x=cb\/x=mb->¬ Sb b rm bm (Pn z) x/\(w:Nat)<=x/\¬ D x/\x≠sb)(h5:(w:Nat)<=b)(h6:(w:Nat)<=rm):Gw (AS cb mb none) w0 W b rm sb cb bm U [] [] (Js window) Tv (Pn z) 0/\(Js window).all.length<=1/\Ke (Js window)=0:=by
 have O:=hw.size;have e:=h1.low O
 refine⟨⟨⟨D,a,c,1,⟨e.m,e.s.mono vI,e.sep,e.rb,e.db,e.dr,e.ok,e.st,e.kn,e.lt,e.val⟩,λx A=>?_⟩,λx A=>?_,by show 1<=14;decide,hw.trans h2,⟨by omega,by omega⟩,JG.first hU h1.s,λq H=>?_,λq H=>(by cases H),rfl,by show 1<=0+1;omega,λv K=>?_⟩,by show 1<=1;decide,rfl⟩
 ·have A:=zZ A;obtain⟨X,a2,Z,a4⟩:=h3 x A;refine⟨?_,X,a4,Z⟩;rcases A with rfl|rfl;{exact hC.1.lt};exact hC.2.lt
 ·have A:x∈[((0:Int),Value.string (Aj Gf),0)]:=A;rw[bG.1 A];rfl
 ·rw[bG.1 H];exact⟨0,by unfold Tv Bi;rw[lQ];exact bG.2 rfl⟩
 ·have K:v∈[(⟨0,[],[],0⟩:Au)]:=K;rw[bG.1 K];exact bO _
section
variable {C:Nat->Prop} {w0 W W':vW} {b rm sb cb bm:Nat} {U:vM} {X:List (Int × vL)} {L:vL} {M:Dm} {es:List (Ce Int)} {S:vT} {i:Nat}
theorem Gw.up(h:Gw C w0 W b rm sb cb bm U X L M es S i){j:Nat}(hj:i<=j):Gw C w0 W b rm sb cb bm U X L M es S j:=
 ⟨h.inv,h.all,h.len,h.ext,h.lo,h.jg,h.new,h.pin,h.nw,kL h.nx,λv e=>kL (h.pb v e)⟩
theorem Gw.keep(h:Gw C w0 W b rm sb cb bm U [] L (Gd M (-1)).1 es S i)(hM:Fh M)(hp:∀ v∈M.all,v.pins<=1000):Gw C w0 W b rm sb cb bm U [(((Nu M).block:Int),L)] L (Gd M (-1)).1 es S i:=by
 obtain⟨A,X,Z⟩:=l4 (M:=M) (x := -1)
 obtain⟨_,v,H,K,O⟩:=jDb hM hp
 refine⟨h.inv,h.all,h.len,h.ext,h.lo,h.jg,λq e=>?_,λq e=>?_,h.nw,h.nx,h.pb⟩
 ·rcases bU.1 e with rfl|e;{exact h.new _ bN};rw[bG.1 e, <-A];exact h.new _ bN
 ·rw[bG.1 e];exact⟨v,H,by rw[K],O⟩
end
end
section
open Go Go.RowKit
attribute [local go_sem] Oper.semAt_some
def pQ(C:Nat->Prop)(w0 w:vW)(b rm sb cb bm:Nat)(U:vM)(X:List (Int × vL))(L':vL)(M:Dm)(S:vT)(i a p:Nat)(w':vW):Prop:=Ad (Sb b rm bm S) w w'/\∃ M' es' S',Gw C w0 w' b rm sb cb bm U X L' M' es' S' (i+1)/\M'.all.length<=M.all.length+a/\Ke M'<=Ke M+p
theorem WO(w0 w:vW)(hc:Ha w0)(he:Gh w0)(b rm sb cb bm:Nat)(U:vM)(hU:Gi U)(hN:IQ U)(X:List (Int × vL))(L:vL)(M:Dm)(es:List (Ce Int))(S:vT)(i:Nat)(h:Gw C w0 w b rm sb cb bm U X L M es S i)(hi:i<=90)(p:Eu)(hX:p.k=0\/X=[])(hb:p.k≠0\/M.all.length<=13\/Ke M<=6)(hu:Jj w0 p.v p.cs)(A:p.cs.length<=1000)(H:∀ c∈p.cs,c.key.size<=1000/\c.value.size<=1000)(hL:∀ t∈Ld L,t∈U)(hs:p.k=0->Ez L p.cs=0->∀ t∈Ld (Gp L p.cs),t∈U):vQ 8 #[b,.agg #[.int .i64 p.k,p.v,.int .i64 p.n]] w λe w'=>∃ (x g:Int),e=.returned (.tuple #[.int .i64 x,.int .i64 g])/\pQ C w0 w b rm sb cb bm U X (IV L p) M S i (if p.k=0 then 1 else 0) (if p.k=0 then 0 else 1) w':=by
 obtain⟨k,v,cs,n⟩:=p
 simp only at hu A H hs hX hb ⊢;have a0:=(Aa w).alloc (.cells #[.int .i64 k,v,.int .i64 n] 37);have K:=Ae.new w (.cells #[.int .i64 k,v,.int .i64 n] 37)
 obtain⟨va,vc,rfl⟩:=hu.sl
 have q0:(w.alloc (.cells #[.int .i64 k,.slice va cs.length vc,.int .i64 n] 37)).cell? w=some (.int .i64 k):=K.cell (i:=0) rfl;have q1:(w.alloc (.cells #[.int .i64 k,.slice va cs.length vc,.int .i64 n] 37)).cell? ⟨↑w,1,none⟩=some (.slice va cs.length vc):=K.cell (i:=1) rfl;have q2:(w.alloc (.cells #[.int .i64 k,.slice va cs.length vc,.int .i64 n] 37)).cell? ⟨↑w,2,none⟩=some (.int .i64 n):=K.cell (i:=2) rfl;have HE:=J (a0.mono (G:=Sb b rm bm S) λ_ _ e=>e.elim);have HG:=J (h.grow a0);have HK:=J (kN hu A H hL hs hX hb hi hc he hU hN);clear K a0 h hc he hu A H hi hX hb hL hs hU hN;unfold vQ;go_in
 by_cases h0:k=0
 ·subst h0;(go_wp2_with fail);obtain⟨hu,A,H,hL,hs,hX,hb,hi,hc,he,hU,hN⟩:=HK.o;refine (jDj C w0 _ hc he b rm sb cb bm U hU hN X L M es S i HG.o vO (hb.resolve_left λe=>e rfl) _ cs hu A H hL (hs (by trivial))).mono ?_;rintro e w' ⟨x,g,L',M',a2,S',rfl,O,a3,Z,h1,h2⟩;have HD:=J (show pQ C w0 w b rm sb cb bm U X (IV L ⟨0,.slice va cs.length vc,cs,n⟩) M S i 1 0 w' from⟨HE.o.trans O,M',a2,S',by(have e:IV L ⟨0,.slice va cs.length vc,cs,n⟩=L':=by rw[a3];unfold IV;by_cases h:Ez L cs=0;{rw[if_pos h,if_pos ⟨rfl,h⟩]};rw[if_neg h,if_neg λq=>h q.2]);rw[e];exact Z,h1,h2⟩);(clear hu A H hL hs hX hb hi hc he hU hN O a3 Z h1 h2;go_wp2);go_ret2;exact⟨⟨_,_,rfl⟩,HD.o⟩
 ·have a4:X=[]:=HK.o.2.2.2.2.2.1.resolve_left h0;(subst a4;have a1:IV L ⟨k,.slice va cs.length vc,cs,n⟩=L:=by unfold IV;rw[if_neg λq=>h0 q.1]);rw[a1,if_neg h0,if_neg h0];by_cases h1:k=1;{subst h1;(clear h0 a1;go_wp2_with fail);(refine (ZC C w0 _ b rm sb cb bm U L M es S i HG.o n).mono ?_;rintro e w' ⟨rfl,O,Z⟩;have HD:=J (show pQ C w0 w b rm sb cb bm U [] L M S i 0 1 w' from⟨HE.o.trans O,_,_,_,Z,by rw[i_];exact bO _,P7⟩);clear O Z;go_wp2);go_ret2;exact⟨_,_,rfl,HD.o⟩};clear a1;(go_wp2_with fail);(refine (jDi C w0 _ b rm sb cb bm U HK.o.2.2.2.2.2.2.2.2.2.2.1 [] L M es S i HG.o n).mono ?_;rintro e w' ⟨rfl,O,a2,S',Z⟩;have HD:=J (show pQ C w0 w b rm sb cb bm U [] L M S i 0 1 w' from⟨HE.o.trans O,_,_,_,Z,D6,fW jC3⟩);clear O Z;go_wp2);go_ret2;exact⟨_,_,rfl,HD.o⟩
end
section
open Go Go.RowKit
end
section
open Go Go.RowKit
attribute [local go_sem] Oper.semAt_some
def JH(w:vW)(P:Prop)(e:Ending)(w':vW):Prop:=(∃ r:Bool,e=.returned r/\(r=true->P))/\Af w w'
def jzM(w:vW)(l:List Eu)(i:vV)(wr:vW):Prop:=∃ k:Nat,k<=l.length/\k<=31/\i=.int .i64 k/\Af w wr/\∀ p∈l.take k,Lu p.cs=true
theorem X3(v:vV)(l:List Eu)(hv:AI w v l)(hn:l.length<=9223372036854775807)(hs:KR l):vQ 29 #[v] w (JH w (∀ p∈l,Lu p.cs=true)):=by
 have HV:=J hv;have HS:=J hs
 obtain⟨a,c,rfl⟩:=hv.sl;clear hv hs;unfold vQ;go_in;go_wp2
 go_loopw [3] (λi wr=>jzM w l i wr) (λi _=>l.length-(intOf i).toNat)
 case atStart=>exact⟨0,by omega,by omega,rfl,Aa w,λp K=>by simp at K⟩
 case round =>obtain⟨k,hk,a3,rfl,hE,e⟩:=hrel;have O:=J hE;have A:=J e;clear hE e;by_cases hlt:k<l.length;{have b1:(k:Int)<(l.length:Int):=vO;by_cases h45:k<=30;{have b2:(k:Int)<=30:=vO;obtain⟨p,K⟩:∃ p,l[k]?=some p:=⟨_,bB hlt⟩;rcases HV.o with⟨_,_,_,h0⟩|⟨b,o,c1,hh,hb,hc,hcell⟩;{rw[h0]at hlt;cases hlt};cases hh;obtain⟨q1,q2,q3,q4⟩:=hcell k p K;have q2:=Am q2 O.o;have HP:=J (bA K (q4.ext O.o));have X:=J (HS.o p (bD K));obtain⟨pa,pc,Z⟩:=q4.sl;(rw[Z]at q2;clear hcell hb hc K q1 q3 q4;go_wp2_with fail);refine vH (uW wr _ p.cs (by rw[<-Z];exact HP.o.2) X.o.1 X.o.2) λw2 a2=>?_;have a0:=J (O.o.trans a2);clear q2;cases hf:Lu p.cs with| false =>(go_wp2);go_ret;exact⟨⟨false,rfl,λh=>by cases h⟩,a0.o⟩| true =>(have HF:=J hf;clear hf;go_wp2);go_roundw;(case rel=>exact⟨k+1,by omega,by omega,by go_num,a0.o,λq H=>by rw[cB,HP.o.1]at H;rcases bR.1 H with H|H;{exact A.o q H};(have H:q=p:=by simpa using H);rw[H];exact HF.o⟩);case measure=>exact vJ};have b2:¬(k:Int)<=30:=vO;have b3:¬(l.length:Int)<=30:=vO;(clear h45;go_wp2);go_ret;exact⟨⟨false,rfl,λh=>by cases h⟩,O.o⟩};have a1:k=l.length:=vO;have b1:¬(k:Int)<(l.length:Int):=vO;(have e:=A.o;rw[a1,cF]at e;have HA:=J e;clear e a1;go_wp2);go_ret;exact⟨⟨_,rfl,λ_=>HA.o⟩,O.o⟩
theorem eE{l:List Br}(h:Lu l=true):l.length<=1000/\∀ c∈l,c.key.size<=1000/\c.value.size<=1000:=by
 unfold Lu Xw at h;simp only[cI,fJ,decide_eq_true_eq]at h
 exact⟨by omega,λc e=>kL (h.1 c e)⟩
theorem AR:Xq (prog.underlying 37)=true:=vY
theorem DS:(prog.info? 37).map (·.size)=some 3:=vY
theorem jCn(o:Nat)(x y z:vV)(h0:W.cell? ⟨b,o,none⟩=some x)(h1:W.cell? ⟨b,o+1,none⟩=some y)(h2:W.cell? ⟨b,o+2,none⟩=some z):(Instr.loadAt 37 (.pointer (some ⟨b,o,none⟩))).run prog W=.ok (.agg #[x,y,z]) W:=by
 obtain⟨A,q⟩:=Yo AR
 refine Yr (xs:=[x,y,z]) q DS (λj v e=>?_);rw[Go.WideShapes.add_plain]
 match j,e with
 |0,e=>cases e;exact h0
 |1,e=>cases e;exact h1
 |2,e=>cases e;exact h2
theorem jDd(v:vV)(l:List Eu)(hv:AI w v l)(hn:l.length<=9223372036854775807)(hs:KR l):vQ 6 #[v,qe] w (JH w ((∀ p∈l,Lu p.cs=true)/\l.length<=10)):=by
 have Z:=J (λW (e:Af w W)=>X3 W v l (hv.ext e) hn hs)
 obtain⟨a,c,rfl⟩:=hv.sl;clear hv hs;unfold vQ;go_in;go_wp2
 go_loopw [5] (λi wr=>i=.int .i64 0/\Af w wr) (λ_ _=>0)
 case atStart=>exact⟨rfl,Aa w⟩
 case round =>obtain⟨rfl,K⟩:=hrel;(have O:=J K;clear K;go_wp2_with fail);refine (Z.o wr O.o).mono ?_;rintro e w2 ⟨⟨r,rfl,X⟩,A⟩;have q:=J (O.o.trans A);have HR:=J X;clear A X;cases r with| false =>(go_wp2);go_ret;exact⟨⟨_,rfl,λh=>by cases h⟩,q.o⟩| true =>by_cases h10:l.length<=10;{have b3:(l.length:Int)<=10:=vO;(have H:=J h10;clear h10;go_wp2);go_ret;exact⟨⟨_,rfl,λ_=>⟨HR.o (by first|rfl|trivial),H.o⟩⟩,q.o⟩};have b3:¬(l.length:Int)<=10:=vO;(clear h10;go_wp2);go_ret;exact⟨⟨false,rfl,λh=>by cases h⟩,q.o⟩
theorem e6{ty:TypeId}{a:Act}{w:vW}{s x:Operand}{n m:Nat}{xs ys:vM}
  (hR:Cg w0 w v n xs) (hP:Cg w1 w pv m ys) (h0:0<m) (hN:n+m=N) (hs:a.eval s=v) (hx:a.eval x=pv) (h63:N<=1000000)
  (h:∀ e w',Cg w0 w' e N (xs++ys)->Ad (λb=>v.ownBlock=some b) w w'->wpList prog ops Q rest (a.put d e) w') :
  wpList prog ops Q (⟨d,.call { callee:=.builtin .append,args:=#[s,x],argTypes:=#[51,51] },ty,pos,af,none⟩::rest) a w:=by
 subst hN
 obtain⟨h1,⟨rfl,q⟩|⟨g,A,H,rfl,q,h4,h5,h6,h7⟩⟩:=hP.own
 ·omega
 ·exact Qm Ci hR s x rfl hs hx (λj u K=>hP.own.cells (g:=g) rfl j u K) (λu O=>by obtain⟨y,_,rfl⟩:=bC.1 O;rfl) (by have:=hP.len;simpa using this) rfl zi vO (λe w' X Z _=>h e w' (by unfold Cg;rw[bW];exact X) Z)
def tZ(w:vW)(l:List Eu)(nv mv iv:vV)(wr:vW):Prop:=∃ i:Nat,i<=l.length/\iv=.int .i64 ((i:Nat):Int)/\Jv wr mv (Iw l i)/\Af w wr/\∃ n,Cg w wr nv n (Df l i)
theorem jC5(hc:Ha w)(v:vV)(l:List Eu)(hv:AI w v l)(hl:l.length<=20)(hf:∀ p∈l,Lu p.cs=true):vQ 7 #[v] w λe w'=>∃ b,e=.returned (.bool b)/\(b=true->Gi (Df l l.length))/\Af w w':=by
 have HC:=J hc;have HV:=J hv;have HF:=J hf
 obtain⟨ad,c,rfl⟩:=hv.sl;have c8:∀ W:vW,(convert 83 9 (.slice (some W) 1 1)).run prog (W.alloc (.cells #[.int .u8 128] 5))=.ok (.string ⟨#[128]⟩) (W.alloc (.cells #[.int .u8 128] 5)):=λW =>CO (l:=[128]) _ Bh Ck Ag (World.ownsRow_lit W #[.int .u8 128] 1 (cD _) zi rfl)
 obtain⟨ln,X⟩:=vE l.length
 have H:=J X;rw[<-X]at hl ⊢;clear hc hv hf X;unfold vQ;go_in;go_wp2_with fail
 have a1:=((Aa w).alloc (.cells #[.int .u8 128] 5)).alloc (.cells #[.string ⟨#[128]⟩] 9);have b5:Cg w ((w.alloc (.cells #[.int .u8 128] 5)).alloc (.cells #[.string ⟨#[128]⟩] 9)) (.slice (some ((w:Nat)+1:)) 1 1) 1 (Df l 0):=by have:=Ar.lit (T:=9) (sz:=1) (w0:=w) (w:=w.alloc (.cells #[.int .u8 128] 5)) #[.string ⟨#[128]⟩] (n:=1) ((Aa w).alloc _) vI rfl;rwa [bJ]at this
 have H0:=J (bA a1 b5);clear a1 b5 c8;go_loopw [3,4,5] (λnv mv iv wr=>tZ w l nv mv iv wr) (λ_ _ iv _=>ln-(intOf iv).toNat)
 case atStart=>exact⟨0,cD _,rfl,.inl ⟨_,_,rfl,rfl⟩,H0.o.1,1,H0.o.2⟩
 case round =>obtain⟨i,hi,rfl,a7,hE,n,O⟩:=hrel;(rw[<-H.o]at hi;have b6:n=(Df l i).length:=by have:=O.len;simpa using this.symm);(have c9:n<=6000:=by have:=jkf (l:=l) i;omega);have a2:=J a7;have HE:=J hE;have Z:=J O;obtain⟨na,nc,rfl⟩:=O.sl;obtain⟨ma,mc,rfl⟩:=a7.sl;have d0:=J (bA b6 c9);obtain⟨m,hm⟩:=vE (Iw l i);have K:=J hm;rw[<-hm]at a2 ⊢;clear a7 hE O hm b6;by_cases hlt:i<ln;{have b1:(i:Int)<(ln:Int):=vO;obtain⟨p,hp⟩:∃ p,l[i]?=some p:=⟨_,bB (by rw[<-H.o];exact hlt)⟩;rcases HV.o with⟨_,_,_,h0⟩|⟨vb,vo,vc,hh,hvb,hvc,hcell⟩;{rw[H.o,h0]at hlt;cases hlt};obtain⟨rfl, -,rfl⟩:=dF hh;obtain⟨h0,h1,h2,a8⟩:=hcell i p hp;have p0:=Am h0 HE.o;have p1:=Am h1 HE.o;obtain⟨ua,uc,a9⟩:=a8.sl;(rw[a9]at p1;have d1:=J (show Jj w (.slice ua p.cs.length uc) p.cs by rw[<-a9];exact a8);have b7:=HF.o p (bD hp);have b8:=eE b7;have b9:=J b8;have HP:=J hp;have c0:=Ge (show Em m=0 by rw[K.o];exact NM i);have c1:=J c0;clear hcell hh hvb hvc h0 h1 h2 a8 a9 b7 b8 hp c0;go_wp2_with fail);refine (WF wr _ _ m p.cs a2.o (d1.o.ext HE.o) (kL c1.o.len) (kL b9.o.1) (λq hq=>kL (c1.o.size q hq)) λd hd=>kL (b9.o.2 d hd)).mono ?_;rintro e w5 hA;unfold Xa at hA;by_cases hap:Ez m p.cs=0;(case neg =>rw[if_neg hap]at hA;obtain⟨rfl,a5⟩:=hA;have HX:=J (HE.o.trans a5);have A:=J a5;have b0:=J hap;obtain⟨x0,a1⟩:=vE (Ez m p.cs);(rw[<-a1]at hap ⊢;have e5:(x0 != 0)=true:=by simpa using hap);have d2:=Am p0 a5;obtain⟨t1,t2⟩:=UN HP.o (λh=>b0.o (by rw[K.o];exact h.2));have HT:=J (bA t1 t2);clear a5 a1 hap p0 p1 t1 t2;by_cases hk:p.k=0;{(have b2:(p.k != 0)=false:=by simpa using hk);(go_wp2);go_roundw;(case rel=>exact⟨i+1,by rw[<-H.o];omega,by go_num,by rw[HT.o.2, <-K.o];exact a2.o.ext A.o,HX.o,n,by rw[HT.o.1];exact Z.o.mono A.o⟩);case measure=>exact vJ};(have b2:(p.k != 0)=true:=by simpa using hk);(go_wp2);go_roundw;(case rel=>exact⟨i+1,by rw[<-H.o];omega,by go_num,by rw[HT.o.2, <-K.o];exact a2.o.ext A.o,HX.o,n,by rw[HT.o.1];exact Z.o.mono A.o⟩);case measure=>exact vJ);rw[if_pos hap]at hA;obtain⟨r5,rfl,hR⟩:=hA;have a0:Em (Gp m p.cs)=0:=Zo hap;obtain⟨m2,a3⟩:=vE (Gp m p.cs);(have hR:Fg wr w5 r5 (Jc (Pf m p.cs)).length m2:=by rw[a3];exact hR);(have X:(Jc (Pf m p.cs)).length=m2.length:=by rw[a3];rfl);rw[X]at hR;rw[<-a3]at a0;have d3:=J a3;have c2:=J (Fg.rd hR);have A:=J hR.ext;have d4:=J hR.new;have a4:=J a0;have b0:=J hap;have d2:=Am p0 hR.ext;obtain⟨ra,rc,rfl⟩:=hR.sl;clear hR a0 a3 X hap p0 p1;by_cases hk:p.k=0;(case neg =>(have b2:(p.k != 0)=true:=by simpa using hk);obtain⟨t1,t2⟩:=UN HP.o (λh=>hk h.1);(have HT:=J (bA t1 t2);clear t1 t2 hk;go_wp2);go_roundw;(case rel=>exact⟨i+1,by rw[<-H.o];omega,by go_num,by rw[HT.o.2, <-K.o];exact a2.o.ext A.o,HE.o.trans A.o,n,by rw[HT.o.1];exact Z.o.mono A.o⟩);case measure=>exact vJ);(have b2:(p.k != 0)=false:=by simpa using hk);obtain⟨t1,t2⟩:=JW HP.o hk (by rw[<-K.o];exact b0.o);(rw[<-K.o, <-d3.o]at t1 t2;have HT:=J (bA t1 t2);clear t1 t2 hk;go_wp2_with fail);(refine (N3 w5 _ m2 (HC.o.ext (HE.o.trans A.o)) c2.o a4.o).mono ?_;rintro e w6 ⟨u6,yn,rfl,hY⟩;have hY:Cg w5 w6 u6 yn (Ld m2):=hY;have d5:=n_ a4.o;have c3:0<yn:=by have h1:=(Ql (Bz (Cr m2)) _).2 (Yx (Cr m2));(have:yn=(Ld m2).length:=by have:=hY.len;simpa using this.symm);rw[this];exact List.length_pos_of_mem h1);(have d6:yn=(Ld m2).length:=by have:=hY.len;simpa using this.symm);obtain⟨ya,yc,rfl⟩:=hY.sl;have d7:=J hY;have d8:=J (A.o.trans hY.ext);have d9:=J (c2.o.ext hY.ext);have b3:=J (Z.o.mono d8.o);obtain⟨N,hN⟩:∃ N,n+yn=N:=⟨_,rfl⟩;have b4:N<=1000000:=vO;(have e0:=J hN;clear hY d6 d5 hN;have e1:=J c3;clear c3;go_wp2_with (at_builtin;(refine e6 b3.o d7.o e1.o e0.o rfl rfl b4 ?_;intro v9 w9 r2 r3;have c4:=J (bA r2 r3);obtain⟨aa,ac,e2⟩:=r2.sl;subst e2;clear r2 r3)));have c5:=J (show Cg w w9 (.slice aa N ac) N (Df l (i+1)) by rw[HT.o.1];exact c4.o.1);have e3:=J (d9.o.Z c4.o.2 λb hb e=>by have:=d4.o b hb;have:=Z.o.lt b e;omega);go_roundw;(case rel=>exact⟨i+1,by rw[<-H.o];omega,by go_num,by rw[HT.o.2];exact e3.o,c5.o.ext,N,c5.o⟩);case measure=>exact vJ};have c7:i=ln:=vO;have b1:¬(i:Int)<(ln:Int):=vO;(have e4:=J c7;clear c7;go_wp2_with fail);(refine (R3 wr (HC.o.ext HE.o) _ (Df l i) (Cg.rd Z.o) (kL d0.o)).mono ?_;rintro e w6 ⟨b,rfl,hb,hE⟩;have HB:=J (bA hb (HE.o.trans hE));clear hb hE;go_wp2);go_ret;exact⟨b,rfl,λh=>by have:=HB.o.1.1 h;rw[e4.o]at this;exact this,HB.o.2⟩
theorem Fp.past{W:vW}{D:Nat->Prop}{b:Nat}{c:Nat}{bm:Nat}{room:Int}{n:Nat}(h:Fp w0 D W b M a c rm sb cb es ck bm room S n)(k:Ad F W W')(h1:¬ F b)(h2:¬ F rm)(h3:¬ F sb)(h4:¬ F bm)(h5:∀ x∈S,¬ F x.2.1)(h6:∀ z,D z->¬ F z)(h7:Mm W F):Fp w0 D W' b M a c rm sb cb es ck bm room S n:=
 ⟨h.m.Z k h1 h2 h6,h.s.Z k h3 h4 h5 h7,h.sep,h.rb,h.db,λz e=>⟨(h.dr z e).1,bE (h.dr z e).2 k.size⟩,h.ok,h.st,h.kn,h.lt,h.val⟩
theorem z0{w:vW}{x:Array vV}{T:TypeId}{y:Array MapEntry}(h:Ae w cb (.cells x T fz))(hT:T≠9)(hm:Ae w mb (.map y ck)):Mm w (λz=>z=cb\/z=mb):=λz q A e hb=>by
 rcases e with e|e
 ·exact KX h hT z q A e hb
 ·exact KN hm z q A e hb
theorem Pp:(Instr.alloc 53 true (.tuple #[])).run prog w=.ok w (w.alloc (.cells [Value.int .i64 0,.string ⟨#[]⟩,.string ⟨#[]⟩,.string ⟨#[]⟩,.slice none 0 0].toArray 53)):=vY
theorem Po:(Instr.alloc 63 true (.tuple #[])).run prog w=.ok w (w.alloc (.cells [Value.int .i64 0,.int .i64 0,.int .i64 0,.string ⟨#[]⟩,.slice none 0 0].toArray 63)):=vY
theorem E1(hc:Ha w)(he:Gh w):vR 4 #[] w true:=by
 have HC:=J hc;have i8:=J he;clear hc he;unfold vR vQ;go_in;go_wp2_with fail
 refine (WC w HC.o i8.o 2 100 4 vI vI vI).mono ?_;rintro e w1 ⟨D,b,a,c,O,H,A,K,Z,z,rfl,hI,b1,b5,q,g4,a4,d1, -⟩;have H1:=J (kQ hI b1 b5 q g4 a4 d1);clear hI b1 b5 q g4 a4 d1;go_wp2_with fail
 have c8:=(Aa w1).alloc (.cells (Pg Ju).toArray 46);have d2:=O8 w1 Ju 46;change Calls _ _ _ (w1.alloc (.cells (Pg Ju).toArray 46)) _;have g9:=Ae.new w1 (.cells (Pg Ju).toArray 46)
 obtain⟨ub,i2⟩:=vE w1.heap.size
 rw[<-i2]at d2 g9 ⊢;generalize w1.alloc (.cells (Pg Ju).toArray 46)=w2 at c8 d2 g9 ⊢
 obtain⟨d3,b1,b5,q,g4,a4,d1⟩:=H1.o
 have i9:=d3.ext c8;have l5:=d3.m.blk.lt;have b7:=b1.trans c8;have g5:=aR w2 w D b (Js 2) a c O H A Tv 1 Z 100 (Pn z) 1 i9 vI vI K0 (.slice (some ub) 1 1) Ju d2 vI (λc hc=>by have hc:c∈[(⟨jDo,Qg,false⟩:Br)]:=hc;rw[bG.1 hc];decide) (λ_=>False) (λt S'=>t=Aj Et/\∃ y,S'=Mf z y) (λW k hS=>by rw[F7];have h0:Af w W:=b7.O k kJ;exact o7 w W (HC.o.ext h0) (i8.o.ext h0) H Z z hS h0.size _ (d2.Z k λx X e=>by have X:some ub=some x:=X;have e:x=b:=e;cases X;omega))
 unfold YF at g5;rw[X1]at g5;refine g5.mono ?_;rintro e w3 (⟨k,hk,hN,_⟩|⟨_,t,S1,S',D',a',c',⟨rfl,y,rfl⟩,rfl,g6,h4,d4,b2,j0, -⟩)
 ·rcases hN with h|⟨_,h⟩;{exact absurd h.symm hk};exact h.elim
 obtain rfl:S'=Mf z y:=b2 (by rw[rB];exact OA);have hf:(Rz Tv (Js 2) (Aj Et) 1).filter (λx=>Co Qv.all x.1)=Gb:=by rw[rB];exact fN.2 OA
 simp only at g6;rw[hf]at g6;have j1:Rx w3 A K 4:=(show Rx w2 A K 4 from b5.Z c8 kI kI).Z h4 (q A (.inl rfl)).1 (q K (.inr rfl)).1;have j2:=b5.1.lt;have j3:=b5.2.lt;have i3:=c8.size;have b8:∀ x,x<(w1:Nat)->¬ Sb b O Z (Pn z) x->x≠H->x≠b/\x≠O/\x≠H/\x≠Z/\(∀ y'∈Mf z y,y'.2.1≠x)/\∀ z',D' z'->z'≠x:=λx h1 h2 h3 =>⟨λe=>h2 (.inl e),λe=>h2 (.inr (.inl e)),h3,λe=>h2 (.inr (.inr (.inl e))),λy' hy e=>by rcases d4 y' hy with h|h;{exact h2 (.inr (.inr (.inr (by rw[<-e];exact h))))};omega,λz' hz e=>kL (j0 z' hz)⟩
 have oc:=b8 A j2 (q A (.inl rfl)).1 (q A (.inl rfl)).2.2.2;have om:=b8 K j3 (q K (.inr rfl)).1 (q K (.inr rfl)).2.2.2;have i4:(w:Nat)<=Z:=d3.s.bnew;have e0:Af w w3:=b7.O h4 λx X e=>by have hz:(w:Nat)<=z:=d3.s.new (ky Gf,z,⟨Gf,[],0,1⟩) (by unfold Pn;exact bG.2 rfl);have e:x=b\/x=O\/x=Z\/x∈[z]:=e;rw[bG]at e;rcases e with e|e|e|e<;>omega
 have H3:=J (kR g6 e0 j1 oc om d1 (show (w:Nat)<=A from(q A (.inl rfl)).2.1) (show (w:Nat)<=K from(q K (.inr rfl)).2.1));clear g6 e0 j1 oc om b8 j2 j3 i3 g5 hf h4 d4 b2 j0 d3 b1 b5 q g4 a4 d1 i9 b7 c8 d2 g9 i4 l5;go_wp2_with fail
 have h5:=(Aa w3).alloc (.cells (Qp Ki).toArray 49);refine vH (rO _ _ Ki (HC.o.ext (H3.o.2.1.trans h5)) (O9 w3 Ki 49) LF) λw4 l6=>?_;rw[oF];have j4:=J (h5.trans l6);clear h5;go_wp2_with fail
 refine vH (mE w4 D' b Qv a' c' O H A Gb 2 (H3.o.1.m.ext j4.o) vI 1 1 _ (Aj Et) GG rfl GS) λw5 l7=>?_;have d5:=J (j4.o.trans l7);go_wp2_with fail
 have h7:=H3.o.1.ext d5.o;have g7:Rx w5 A K 4:=H3.o.2.2.1.Z d5.o kI kI
 obtain⟨th,j5⟩:=vE (Aj Et++⟨#[32]⟩++jDo)
 have hF:∀ W,Ad (λz=>z=A\/z=K) w5 W->Fp w D' W b Qv a' c' O H A Gb 2 Z 100 (Mf z y) 1001:=λW k=>by obtain⟨c1,c2,c3,c4,c5,c6⟩:=H3.o.d;obtain⟨m1,m2,m3,m4,m5,m6⟩:=H3.o.e;refine h7.past k ?_ ?_ ?_ ?_ ?_ ?_ (z0 g7.1 vI g7.2);{rintro (e|e);{exact c1 e.symm};exact m1 e.symm};{rintro (e|e);{exact c2 e.symm};exact m2 e.symm};{rintro (e|e);{exact c3 e.symm};exact m3 e.symm};{rintro (e|e);{exact c4 e.symm};exact m4 e.symm};{rintro x X (e|e);{exact c5 x X e};exact m5 x X e};rintro x X (e|e);{exact c6 x X e};exact m6 x X e
 have HF:=J hF;have j6:=J g7;have j7:=H3.o.i;refine (pP w5 D' b Qv a' c' O H A Gb 2 h7.m vI 1 1 _ (Aj Et) GG rfl GS (by rw[Rp];decide) jDo Qg vI 0 (λW=>Ad (λz=>z=A\/z=K) w5 W/\Sk W A K (4:Nat) 1 th qe) (λW=>Ad (λz=>z=A\/z=K) w5 W/\Sk W A K (4:Nat) 1 th qe) (λW=>Ad (λz=>z=A\/z=K) w5 W/\∃ tg tc,Pj W A K tg tc th Qg/\(w5:Nat)<=tg) (λW k=>by rw[<-j5];refine (P8 W A K j7 4 0 vI vI vI vI th none (Rx.nought (j6.o.Z k kI kI))).mono ?_;rintro e w' ⟨rfl,h1,h2⟩;exact⟨rfl,(k.mono kZ).trans (h1.mono λz _ e=>zZ e),h2.1⟩) (λW k=>(HF.o W k.1).m.blk) (λW k=>by have h:=K3 W H Z z y (HF.o W k.1).s.st (HF.o W k.1).s.all;refine h.mono ?_;rintro e w' ⟨rfl,hE⟩;exact⟨rfl,k.1.trans (hE.mono kZ),k.2.1.Z hE kI,k.2.2.Z hE kI⟩) (λW k=>(HF.o W k.1).m.blk) (λ_ W k=>by rw[<-j5];refine (jr2 W A K 4 1 vI vI th Qg k.2).mono ?_;rintro e w' ⟨rfl,h1,tg,tc,h2,h3⟩;exact⟨true,rfl,k.1.trans (h1.mono λ_ _ e=>.inl e),tg,tc,h2,bH k.1.size h3⟩)).mono ?_
 intro e w6 h6
 obtain⟨_,rfl,h8,tg,tc,j8,l8⟩:=(show _\/_ from h6).resolve_right λh=>h.1 rfl
 clear h6;have i5:=d5.o.size;have b9:=H3.o.2.2.2.2.2.2;have e3:Af w w6:=(H3.o.2.1.trans d5.o).O h8 λx X e=>by rcases e with e|e;{have:=b9.1;omega};have:=b9.2;omega
 have H6:=J (kU (hF w6 h8) e3 j8 (show D' tg\/tg=b\/tg=O\/tg=Z\/(∃ x∈Mf z y,x.2.1=tg)->False from λe=>by have hl:=H3.o.1.ext d5.o;have l9:=hl.lt';rcases e with e|e|e|e|⟨x,X,e⟩;{have:=(hl.dr tg e).2;omega};{omega};{omega};{omega};have:=l9.2.2.2.2 x.2.1 (gF X);omega))
 clear h7 g7 hF j7 h8 j8 l8 i5 b9 e3 HF j6;go_wp2_with fail
 have b6:=(jT w6 D' b Qv a' c' O H A Gb 2 H6.o.1.m vI 1 1 _ (Aj Et) GG rfl GS jDo [Et] (λW k=>s8 W H Z z y (H6.o.1.ext k).s.st) OZ tD);change Calls _ _ _ _ (λe w'=>e=.returned (.tuple #[Fe Tt,qa])/\Af w6 w')at b6;refine b6.mono ?_;rintro e w7 ⟨rfl,j9⟩;have m0:=J j9;clear j9 b6;go_wp2_with fail
 refine (zQ w7 Tt OZ tD).mono ?_;rintro e w8 ⟨nv,rfl,g8⟩
 obtain⟨na,nn,nc,rfl⟩:∃ a n c,nv=.slice a n c:=by rcases g8.rd with⟨a,c,e, -⟩|⟨b,o,c,e, -⟩;{exact⟨a,0,c,e⟩};exact⟨_,_,c,e⟩
 have H8:=J (bA (m0.o.trans g8.ext) g8.rd);clear g8;unfold Fi.cells Tt;go_wp2_with (first|(refine Di Pp rfl rfl ?_;intro W9 k0 k1)|(refine Bt (vs:=[qa,Aj Et,jDo,(),.slice na nn nc]) rfl rfl rfl rfl k0 rfl Gq zc ?_;intro k2 e4 e5)|(refine Gz 53 (.tmp 13) rfl rfl (.agg (Tt.cells (.slice na nn nc)).toArray) w8 rfl (ZL _ _ _ rfl e4) ?_))
 have c0:Af w8 k2:=k1.O e5 kJ
 have e6:=J (H8.o.1.trans c0);refine (s9 k2 (HC.o.ext (H6.o.2.1.trans e6.o)) _ (H8.o.2.ext c0)).mono ?_;rintro e h9 ⟨ja,jc,rfl,hE⟩;have a0:=J (e6.o.trans hE);clear hE c0 k0 k1 e4 e5;go_wp2_with fail
 have hR:∀ W,Af h9 W->vQ 55 #[H,Aj Et,jDo,jDp,.int .i64 1] W λe w'=>(∃ la lc,e=.returned (.tuple #[.slice la 1 lc,false,qa]))/\Af W w':=λW k=>t0 W H Z z y (H6.o.1.ext (a0.o.trans k)).s.st;have HR:=J hR;have b6:=(o5 h9 D' b Qv a' c' O H A Gb 2 (H6.o.1.ext a0.o).m vI 1 1 _ (Aj Et) GG rfl GS jDo jDp Et 1 kK (λW k=>(hR W k).mono λe w' ⟨⟨la,lc,e1⟩,e2⟩=>⟨⟨la,1,lc,e1⟩,e2⟩) (λW k=>D0 W H jDo jDp (Aj Et) Et jDo Ya uV kK λV kV=>by have h:=AL V H Z 100 (Mf z y) (Aj Et) (H6.o.1.ext (a0.o.trans (k.trans kV))).s.st;rw[PE]at h;exact h) rW yV)
 change Calls _ _ _ _ (λe w'=>e=.returned (.tuple #[Fe Xf,false,qa])/\Af h9 w')at b6;refine b6.mono ?_;rintro e m7 ⟨rfl,hE⟩;have c7:=J hE;clear hE b6 hR;go_wp2_with fail
 refine (o9 m7 D' b Qv a' c' O H A Gb 2 (H6.o.1.ext (a0.o.trans c7.o)).m vI 1 1 _ (Aj Et) GG rfl GS jDo jDp 1 (λW e w'=>(∃ la lc,e=.returned (.tuple #[.slice la 1 lc,false,qa]))/\Af W w') (λW e w' h=>by obtain⟨⟨la,lc,h⟩, -⟩:=h;exact⟨_,_,_,h⟩) λW k=>HR.o W (c7.o.trans k)).mono ?_;rintro e m8 ⟨W,b1,⟨la,lc,rfl⟩,k3⟩;have e7:=J (a0.o.trans (c7.o.trans (b1.trans k3)));clear b1 k3;go_wp2_with fail
 refine (o4 m8 D' b Qv a' c' O H A Gb 2 (H6.o.1.ext e7.o).m vI 1 1 _ (Aj Et) GG rfl GS vI).mono ?_;rintro e c9 ⟨cv,rfl,hE,k4⟩
 obtain⟨va,vn,vc,rfl⟩:∃ a n c,cv=.slice a n c:=by rcases k4 with⟨a,c,e, -⟩|⟨b,o,c,e, -⟩;{exact⟨a,0,c,e⟩};exact⟨_,_,c,e⟩
 have e8:=J (e7.o.trans hE);clear hE k4;go_wp2_with (first|(refine Di Po rfl rfl ?_;intro n7 e9 f0)|(refine Bt (vs:=[qa,qa,.int .i64 1,Aj Et,.slice va vn vc]) rfl rfl rfl rfl e9 rfl Kv zc ?_;intro k5 f1 f2))
 have f3:Af c9 k5:=f0.O f2 kJ
 have f4:=J (e8.o.trans f3);have i6:=J f1;clear e9 f0 f1 f2 f3;refine vH (A0 k5 D' b Qv a' c' O H A Gb 2 (H6.o.1.ext f4.o).m 5 K2 ⟨#[97]⟩) λm9 f5=>?_;have i7:=J (f4.o.trans f5);go_wp2_with fail
 refine vH (A1 m9 2 0 4 vI) λk6 f6=>?_;have a5:=J (i7.o.trans f6);go_wp2_with fail
 have i0:=Q0 k6 w D' b Qv a' c' O H A Gb 2 Z 100 (Mf z y) 1001 (H6.o.1.ext a5.o) vI (-1);rw[X2]at i0;refine i0.mono ?_;rintro e d0 ⟨rfl,a7,D2,a2,c2,a8, -⟩;have a8:Fp w D2 d0 b AV a2 c2 O H A Gb 2 Z 100 (Mf z y) 1001:=a8
 obtain⟨n8,n0⟩:=H1.o.E
 have b3:Af w k6:=H6.o.2.1.trans a5.o;have b4:Af w d0:=b3.O a7 kJ
 obtain⟨k7,d6⟩:=H6.o.C
 have f7:Pj d0 A K tg tc th Qg:=by obtain⟨p1,p2,a1,p3⟩:=k7;have c1:=H3.o.2.2.2.1.1;exact⟨(p1.Z a5.o kI).Z a7 c1,p2,a1,(p3.Z a5.o kI).Z a7 λe=>d6 (.inr (.inl e))⟩
 have f8:Ae d0 c9 (.cells [.int .i64 0,.int .i64 0,.int .i64 1,.string (Aj Et),.slice va vn vc].toArray 63):=((i6.o.Z (f5.o.trans f6.o) λh=>h)).Z a7 λe=>by have h1:=H6.o.1.lt'.1;have h2:=e8.o.size;have e:(c9:Nat)=b:=e;omega
 have q3:d0.cell? ⟨↑c9,3,none⟩=some (.string (Aj Et)):=f8.cell (i:=3) rfl
 obtain⟨nb,k8⟩:=vE c9.heap.size
 rw[<-k8]at q3 ⊢;have d7:=J (kT a8 b4 f7);clear a8 b4 b3 f7 f8 k7 k8;have k9:(Js 2).next=1:=rfl;have l0:Qg=⟨#[49]⟩:=rfl;have l1:¬(Fe Xf).toList=[]:=λe=>yW Xf (Rp _) (by rw[cA]at e;exact ByteArray.ext (Array.ext' e))
 obtain⟨pb,l2⟩:=vE (Fe Xf)
 rw[<-l2]at l1 ⊢;rw[k9,l0]
 obtain⟨rt,l3⟩:=vE (Aj Et)
 rw[<-l3]at q3 ⊢;clear l2 l3 k9 l0;go_wp2_with fail
 have hU:=p4 d0 w D2 b AV a2 c2 O H A Gb 2 Z 100 (Mf z y) 1001 d7.o.1 vI vI 1;rw[t1]at hU;refine hU.mono ?_;rintro e i1 ⟨rfl,a9,D3,a3,c3,n1,S3,f9, -,l4, -,d4, -⟩;obtain rfl:S3=Mf z y:=d4 OA;obtain rfl:n1=Gb:=by rw[l4 rfl];exact fN.2 OA
 have g0:Af w i1:=d7.o.2.1.O a9 λx X e=>by have h1:=n0.1;have h2:=d7.o.1.s.bnew;rcases e with e|e|e|e;{omega};{omega};{omega};obtain⟨x',d8,e⟩:=bC.1 e;have:=d7.o.1.s.new x' d8;omega
 have g2:Pj i1 A K tg tc th Qg:=by obtain⟨p1,p2,a1,p3⟩:=d7.o.C;obtain⟨c1,c2,c3,c4,c5,c6⟩:=H3.o.d;refine⟨p1.Z a9 ?_,p2,a1,p3.Z a9 ?_⟩;{rintro (e|e|e|e);{exact c1 e};{exact c2 e};{exact c4 e};obtain⟨x',d8,e⟩:=bC.1 e;exact c5 x' d8 e};rintro (e|e|e|e);{exact d6 (.inr (.inl e))};{exact d6 (.inr (.inr (.inl e)))};{exact d6 (.inr (.inr (.inr (.inl e))))};obtain⟨x',d8,e⟩:=bC.1 e;exact d6 (.inr (.inr (.inr (.inr ⟨x',d8,e⟩))))
 have d9:=J (kT f9 g0 g2);clear hU a9 f9 g0 g2 l4 d4 i0;go_wp2_with fail
 refine (o2 i1 w D3 b Qv a3 c3 O H A Gb 2 Z 100 (Mf z y) 1001 d9.o.1 vI).mono ?_;rintro e n2 ⟨bv,rfl,hR⟩
 obtain⟨ba,bc,rfl⟩:=hR.sl
 have g3:=J hR.ext;clear hR;have n3:Qv.all.length=2:=rfl;rw[n3];go_wp2_with fail
 refine (o8 n2 w D3 b Qv a3 c3 O H A Gb 2 Z 100 (Mf z y) 1001 (d9.o.1.ext g3.o) (by show 2<=100000;decide)).mono ?_;rintro e n4 ⟨nv,rfl,hR⟩
 obtain⟨n9,o0,rfl⟩:=hR.sl
 have b0:=J (g3.o.trans hR.ext);clear hR;have n5:(Mf z y).length=2:=rfl;rw[n5];go_wp2_with fail
 refine vC (o3 n4 D3 b Qv a3 c3 O H A K tg tc Gb 2 (d9.o.1.ext b0.o).m th Qg (by obtain⟨p1,p2,a1,p3⟩:=d9.o.C;exact⟨p1.Z b0.o kI,p2,a1,p3.Z b0.o kI⟩)) λo1 hE=>?_;have HE:=J (d9.o.2.1.trans (b0.o.trans hE));clear hE;go_wp2
 go_ret
 refine⟨?_,HE.o⟩
 have n6:pb.toList.isEmpty=false:=by cases h:pb.toList with| nil=>exact absurd h l1| cons _ _=>rfl
 show Ending.returned (!pb.toList.isEmpty:)=_;rw[n6];rfl
end
section
open Go Go.RowKit
end
section
open Go Go.RowKit
attribute [local go_sem] Oper.semAt_some
end
section
open Go Go.RowKit
attribute [local go_sem] Oper.semAt_some
section
variable (w0 w:vW) (b rm sb cb mb bm:Nat) (room:Int) (M:Dm) (es:List (Ce Int)) (S:vT) (i:Nat)
end
def xZ(w:vW)(k t:vB)(i:vV)(wr:vW):Prop:=(i=.int .i64 0\/(i=.int .i64 1/\k.size<=50/\t.size<=50))/\Af w wr
theorem F8(w:vW)(v:vV)(l:List Eu)(hv:AI w v l)(hn:l.length<=9223372036854775807)(hs:KR l)(g:Nat)(bk lm:Int)(k t:vB)(hk:k.size<=9223372036854775807)(ht:t.size<=9223372036854775807)(hg:Ae w g (.cells #[.int .i64 bk,k,t,.int .i64 lm] 24)):vQ 6 #[v,.slice (some g) 1 1] w (JH w ((∀ p∈l,Lu p.cs=true)/\l.length<=10/\k.size<=50)):=by
 have HF:=J (λW (e:Af w W)=>X3 W v l (hv.ext e) hn hs);have HG:=J hg
 obtain⟨a,c,rfl⟩:=hv.sl;clear hv hs hg;unfold vQ;go_in;go_wp2
 go_loopw [5] (λi wr=>xZ w k t i wr) (λi _=>1-(intOf i).toNat)
 case atStart=>exact⟨.inl rfl,Aa w⟩
 case round =>obtain⟨hi,K⟩:=hrel;have O:=J K;rcases hi with rfl|⟨rfl,q,A⟩;{have q1:wr.cell? ⟨g,1,none⟩=some (.string k):=(HG.o.Z K λh=>h).cell (i:=1) rfl;have q2:wr.cell? ⟨g,2,none⟩=some (.string t):=(HG.o.Z K λh=>h).cell (i:=2) rfl;clear K;by_cases h1:50<k.size;{have b1:(50:Int)<(k.size:Int):=vO;(clear h1;go_wp2);go_ret;exact⟨⟨false,rfl,λh=>by cases h⟩,O.o⟩};have b1:¬(50:Int)<(k.size:Int):=vO;by_cases h2:50<t.size;{have b2:(50:Int)<(t.size:Int):=vO;(clear h1 h2;go_wp2);go_ret;exact⟨⟨false,rfl,λh=>by cases h⟩,O.o⟩};have b2:¬(50:Int)<(t.size:Int):=vO;(have q:=J h1;have A:=J h2;clear h1 h2;go_wp2);go_roundw;(case rel=>exact⟨.inr ⟨by go_num,kL q.o,kL A.o⟩,O.o⟩);case measure=>simp[intOf]};have Z:=J q;(clear K q A;go_wp2_with fail);refine (HF.o wr O.o).mono ?_;rintro e w2 ⟨⟨r,rfl,hr⟩,X⟩;have H:=J (O.o.trans X);have HR:=J hr;clear X hr;cases r with| false =>(go_wp2);go_ret;exact⟨⟨_,rfl,λh=>by cases h⟩,H.o⟩| true =>by_cases h10:l.length<=10;{have b3:(l.length:Int)<=10:=vO;(have a0:=J h10;clear h10;go_wp2);go_ret;exact⟨⟨_,rfl,λ_=>⟨HR.o (by first|rfl|trivial),a0.o,Z.o⟩⟩,H.o⟩};have b3:¬(l.length:Int)<=10:=vO;(clear h10;go_wp2);go_ret;exact⟨⟨false,rfl,λh=>by cases h⟩,H.o⟩
end
section
open Go Go.RowKit
theorem Ue:Xq (prog.underlying 24)=true:=vY
theorem Uk:(prog.info? 24).map (·.size)=some 4:=vY
theorem T_(vs:List vV)(hl:vs.length=4){T:TypeId}(hB:Ae W b (.cells vs.toArray T fz)):(Instr.loadAt 24 b).run prog W=.ok (.agg vs.toArray) W:=by
 obtain⟨A,e⟩:=Yo Ue
 exact Yr e (by rw[hl];exact Uk) (λj v q=>by rw[Go.WideShapes.add_plain,bX];exact hB.z1 q)
end
section
open Go Go.RowKit
attribute [local go_sem] Oper.semAt_some
theorem V9(m:vL)(key:vB):∃ val er,CJ m key=.tuple #[.string val,.int .i64 er]:=by
 unfold CJ;split
 ·exact⟨_,_,rfl⟩
 ·exact⟨_,_,rfl⟩
end
section
open Go Go.RowKit
def QU(l:List Eu):List vV:=l.flatMap λp=>[.int .i64 p.k,p.v,.int .i64 p.n]
theorem m_:∀ l:List Eu,(QU l).length=l.length*3
 |[]=>rfl
 |p::l=>by
  have:=m_ l
  have e:(QU (p::l)).length=3+(QU l).length:=by unfold QU;rw[dJ,bK];rfl
  rw[e,this,bQ];omega
theorem jC0(a b:List Eu):QU (a++b)=QU a++QU b:=by unfold QU;rw[dS]
theorem m2{p:Eu}(h:l[j]?=some p)(hu:([.int .i64 p.k,p.v,.int .i64 p.n]:List vV)[i]?=some u):(QU l)[j*3+i]?=some u:=by
 induction l generalizing j with
 |nil=>simp at h
 |cons q l ih =>(have e:QU (q::l)=[.int .i64 q.k,q.v,.int .i64 q.n]++QU l:=by unfold QU;rw[dJ]);rw[e];cases j with| zero =>simp at h;subst h;have A:=(bI.1 hu).1;rw[iS,bX,cJ A];exact hu| succ j =>rw[cN (by show 3<=_;omega)];have:=ih (j:=j) (by simpa using h);rw[show (j+1)*3+i-([.int .i64 q.k,q.v,.int .i64 q.n]:List vV).length=j*3+i by show (j+1)*3+i-3=_;omega];exact this
theorem jC1{x:Nat}(h:(QU l)[x]?=some u):∃ p,l[x / 3]?=some p/\([.int .i64 p.k,p.v,.int .i64 p.n]:List vV)[x % 3]?=some u:=by
 have H:=(bI.1 h).1;rw[m_]at H
 obtain⟨p,q⟩:∃ p,l[x / 3]?=some p:=⟨_,bB vO⟩
 refine⟨p,q,?_⟩
 obtain⟨A,e⟩:∃ A,([.int .i64 p.k,p.v,.int .i64 p.n]:List vV)[x % 3]?=some A:=⟨_,bB (by show x % 3<3;omega)⟩
 have:=m2 q e
 rw[show x / 3*3+x % 3=x by omega,h]at this;rw[e, <-this]
theorem Ar.acts{w:vW}(h:Ar 37 3 w0 w v l.length (QU l))(hc:∀ p∈l,Jj w p.v p.cs):AI w v l:=by
 obtain⟨_,⟨rfl,H⟩|⟨g,A,K,rfl,H,Z,O,h6,h7⟩⟩:=h.own
 ·exact .inl ⟨none,0,rfl,bF H⟩
 ·(have e:∀ (j:Nat) (p:Eu) (i:Nat) (u:vV),l[j]?=some p->([.int .i64 p.k,p.v,.int .i64 p.n]:List vV)[i]?=some u->w.cell? ⟨g,0+j*3+i,none⟩=some u:=λj p i u q X=>by have:=h.own.cells (g:=g) rfl (j*3+i) u (m2 q X);rw[Addr.add_lit]at this;rw[show 0+j*3+i=0+(j*3+i) by omega];exact this);exact .inr ⟨g,0,A,rfl,h.lt g rfl,O,λj p q=>⟨e j p 0 _ q rfl,e j p 1 _ q rfl,e j p 2 _ q rfl,hc p (bD q)⟩⟩
theorem Jg:Mn prog 22 37 3 40:=Mn.mk' underlying22 (show (prog.info? 37).map (λi=>(i.zero,i.size,i.bytes))=some (some (.agg #[qa,qe,qa]),3,40) by kernel_rfl) rfl vI
theorem jCz{t e ty:TypeId}{i:TypeInfo}(ht:P.underlying t=some (.slice e))(hi:P.info? e=some i)(base x0:Option Addr)(n c:Nat)(hle:n<=c)(c2:Nat)(w:vW):(Builtin.append_ #[t,t] ty #[.slice base n c,.slice x0 0 c2]).run P w=.ok (.slice base n c) w:=by
 have q:(sizeOf e).run P w=.ok i.size w:=by simp[sizeOf,typeInfo,hi]
 have A:∀ w,(Builtin.lenOf (.slice x0 0 c2)).run P w=.ok 0 w:=λw=>rfl;have H:∀ (x:Addr) (w:vW),(loadCellsFrom x 0 0 #[]).run P w=.ok #[] w:=λ_ _=>rfl;cases base<;>cases x0<;>simp[Builtin.append_,bS,Result.andThen,run_underlying ht,q,A,cT,Builtin.firstCells,hle,storeCells,loadCells,H]
theorem jC2(l:List Eu)(h:∀ p∈l,∃ a n c,p.v=.slice a n c):∀ u∈QU l,u.oneCell'=true:=λu q=>by
 obtain⟨p,A,q⟩:=dE.1 q
 obtain⟨a,n,c,e⟩:=h p A
 rw[e]at q;simp only[bU,gU,or_false]at q;rcases q with rfl|rfl|rfl<;>rfl
theorem R_{ty:TypeId}{a:Act}{w:vW}{s x:Operand}{n:Nat}{xs:List vV}
  (hR:Ar 37 3 w0 w v n xs) (hP:AI w pv ys) (hN:n+ys.length=N) (hs:a.eval s=v) (hx:a.eval x=pv) (h63:N<=1000)
  (h:∀ H w',Ar 37 3 w0 w' H N (xs++QU ys)->Ad (λb=>v.ownBlock=some b) w w'->(H.ownBlock=v.ownBlock\/∀ b,H.ownBlock=some b->(w:Nat)<=b)->wpList prog ops Q rest (a.put d H) w') :
  wpList prog ops Q (⟨d,.call { callee:=.builtin .append,args:=#[s,x],argTypes:=#[22,22] },ty,pos,af,none⟩::rest) a w:=by
 subst hN
 obtain⟨i,z,e1,e2,e3,e4,e5⟩:=Jg.hi
 rcases hP with⟨a0,c0,rfl,rfl⟩|⟨bb,oo,cc,rfl,hb,hl,hc⟩
 ·obtain⟨ad,c,rfl⟩:=hR.sl;(have O:n<=c:=by obtain⟨_,⟨e,e2⟩|⟨g,a3,a4,e,_,_,k5,_⟩⟩:=hR.own;{omega};obtain⟨_,_,e⟩:=dF e;omega);refine wpList_plain rfl λK X=>Ro (JQ (jCz Jg.ht e1 ad a0 n c O c0 w) (by simp[hs,hx])) (X _ _ (h _ _ ?_ (Ad.refl _ _) (.inl rfl)));simpa [QU]using hR
 ·refine wpList_plain rfl λK X=>?_;refine MQ w s x _ rfl _ i z 3 40 Jg.ht e1 e2 e3 e4 e5 Jg.hsz v n xs hs hR.own ⟨bb,oo,none⟩ ys.length cc (QU ys) hx (m_ ys) (λj u q=>?_) (jC2 ys λp Z=>?_) zi vO (λH w' r1 r2 r3=>X _ _ (h H w' (hR.step r1 r2 r3) r2 r3));{obtain⟨p,Z,q⟩:=jC1 q;obtain⟨c1,c2,c3,_⟩:=hc _ p Z;rw[Addr.add_lit];have hm:j % 3<3:=Nat.mod_lt _ vI;have A:oo+j / 3*3+j % 3=oo+j:=vO;rcases (show j % 3=0\/j % 3=1\/j % 3=2 by omega)with e|e|e;{rw[e]at q A;cases q;rw[<-A];exact c1};{rw[e]at q A;cases q;rw[<-A];exact c2};rw[e]at q A;cases q;rw[<-A];exact c3};obtain⟨j,A⟩:=dP Z;obtain⟨_,_,_,a2⟩:=hc j p A;obtain⟨a1,c1,e⟩:=a2.sl;exact⟨a1,_,c1,e⟩
end
section
open Go Go.RowKit
attribute [local go_sem] Oper.semAt_some
theorem jDe(o:Option vB):∃ val er,Kg o=.tuple #[.string val,.int .i64 er]/\(er≠0->val=⟨#[]⟩):=by
 cases o with
 |none=>exact⟨_,_,rfl,λ_=>rfl⟩
 |some u=>exact⟨_,_,rfl,λh=>absurd rfl h⟩
def HoR(w0:vW)(all:List Eu)(n:Nat)(b rm sb cb mb bm:Nat)(U:vM)(iv:vV)(W:vW):Prop:=∃ k:Nat,k<=n/\iv=.int .i64 (k:Int)/\∃ M es S c p,Gw (AS cb mb none) w0 W b rm sb cb bm U [] (Iw all k) M es S k/\Rx W cb mb 3/\c+p<=k/\M.all.length<=1+c/\Ke M<=p
def HoS(w0:vW)(all:List Eu)(n m:Nat)(b rm sb cb mb bm:Nat)(U:vM)(at':Int)(th val:vB)(er:Int)(iv:vV)(W:vW):Prop:=∃ k:Nat,k<=m/\iv=.int .i64 (k:Int)/\∃ M es S o,Gw (AS cb mb o) w0 W b rm sb cb bm U [(at',Iw all n)] (Iw all (n+k)) M es S (n+1+k)/\Pm W cb mb (k+1) th val er o/\(∀ z,AS cb mb o z->(w0:Nat)<=z)/\Ke M<=6
theorem Rx.hold{W:vW}{val:vB}(h:Rx W cb mb 3):Pm W cb mb 0 th val er none:=⟨h.nought,λx e=>by cases e⟩
theorem AI.each{w:vW}(h:AI w v xs):∀ p∈xs,Jj w p.v p.cs:=λp e=>by
 rcases h with⟨_,_,_,rfl⟩|⟨b,o,c,_,_,_,hc⟩
 ·cases e
 ·obtain⟨j,q⟩:=dP e
  exact (hc j p q).2.2.2
theorem jCM(hc:Ha w)(he:Gh w)(wi:Int)(v1:vV)(l:List Eu)(hv1:AI w v1 l)(hn1:l.length<=9223372036854775807)(hs1:KR l)(v2:vV)(more:List Eu)(hv2:AI w v2 more)(hn2:more.length<=9223372036854775807)(hs2:KR more)(bk lm:Int)(key to:vB)(hk:key.size<=9223372036854775807)(ht:to.size<=9223372036854775807):vR 3 #[.int .i64 wi,v1,v2,.agg #[.int .i64 bk,key,to,.int .i64 lm]] w true:=by
 have HC:=J (bA hc he);have HV:=J hv1;have h6:=J hv2;have HS:=J (kY hn1 hs1 hk ht hn2 hs2)
 obtain⟨a0,c0,rfl⟩:=hv1.sl
 obtain⟨a9,c9,rfl⟩:=hv2.sl
 obtain⟨ln,h7⟩:=vE l.length
 obtain⟨mn,h8⟩:=vE more.length
 have a8:=J h7;have c5:=J h8;rw[<-h7, <-h8];have j7:=(Aa w).alloc (.cells #[.int .i64 bk,key,to,.int .i64 lm] 24);have h9:=Ae.new w (.cells #[.int .i64 bk,key,to,.int .i64 lm] 24)
 obtain⟨ga,i0⟩:=vE w.heap.size
 rw[<-i0]at h9;have H0:=J (bA j7 h9);have m9:=J i0;clear hc he hv1 hv2 hn1 hs1 hk ht hn2 hs2 h7 h8 j7 h9 i0;unfold vR vQ;go_in;go_wp2_with fail
 refine vC (E1 _ (HC.o.1.ext H0.o.1) (HC.o.2.ext H0.o.1)) λw1 i1=>?_;rw[<-m9.o];have H1:=J (bA (H0.o.1.trans i1) (H0.o.2.Z i1 λh=>h));clear i1 H0;go_wp2_with fail
 refine (WC w1 (HC.o.1.ext H1.o.1) (HC.o.2.ext H1.o.1) wi 2000 3 vI vI vI).mono ?_;rintro e w2 ⟨D,b,a,c,rm,sb,A,mb,bm,z,rfl,hI,g8,hC,d7,j8,g2,j9, -⟩;have H2:=J (kU g8 j9 hC (bA (λx hx=>(d7 x hx).2.1) λ(U:vM) (hU:Gf∈U)=>Gw.first (w0:=w1) (Aa w1) hU hI g8 hC d7 j8 g2));have n0:=J (H1.o.2.Z g8 λh=>h);clear hI g8 hC d7 j8 g2 j9;go_wp2_with (refine Gz 24 (.tmp 7) rfl rfl (.agg #[.int .i64 bk,key,to,.int .i64 lm]) ga rfl (T_ _ _ [.int .i64 bk,key,to,.int .i64 lm] rfl n0.o) ?_)
 have e5:=(Aa w2).alloc (.cells #[.int .i64 bk,key,to,.int .i64 lm] 24);have i2:=Ae.new w2 (.cells #[.int .i64 bk,key,to,.int .i64 lm] 24);generalize w2.alloc (.cells #[.int .i64 bk,key,to,.int .i64 lm] 24)=w4 at e5 i2 ⊢;have hf:=F8 w4 _ l (HV.o.ext (H1.o.1.trans (H2.o.1.trans e5))) HS.o.1 HS.o.b w2 bk lm key to HS.o.c HS.o.d i2;rw[<-a8.o]at hf;refine hf.mono ?_;rintro e w5 ⟨⟨r,rfl,hr⟩,i3⟩;have HF:=J hr;have H5:=J (bA (H2.o.1.trans (e5.trans i3)) (e5.trans i3));clear e5 i2 hf hr i3;cases r with
 |false =>(go_wp2);go_ret;exact⟨rfl,H1.o.1.trans H5.o.1⟩
 |true =>
 have d1:=J (HF.o rfl);clear HF;go_wp2_with fail
 have hf:=jDd w5 _ more (h6.o.ext (H1.o.1.trans H5.o.1)) HS.o.e HS.o.I;rw[<-c5.o]at hf;refine hf.mono ?_;rintro e w6 ⟨⟨r,rfl,hr⟩,i4⟩;have HF:=J hr;have H6:=J (bA (H5.o.1.trans i4) (H5.o.2.trans i4));clear hf hr i4;cases r with
 |false =>(go_wp2);go_ret;exact⟨rfl,H1.o.1.trans H6.o.1⟩
 |true =>
 have e6:=J (HF.o rfl);clear HF
 obtain⟨an,k0⟩:=vE (ln+mn)
 have d2:=J k0;have k1:=J (show AI w (.slice a0 ln c0) l by rw[a8.o];exact HV.o);have k2:=J (show AI w (.slice a9 mn c9) more by rw[c5.o];exact h6.o);have k3:=J (show Ar 37 3 w6 (w6.alloc (.cells #[] 37)) (.slice (some w6) 0 0) 0 []from Ar.lit #[] (Aa w6) vI rfl);have k4:=J (k1.o.ext (H1.o.1.trans (H6.o.1.trans ((Aa w6).alloc (.cells #[] 37)))));have n1:ln<=1000:=by have:=d1.o.b;have:=a8.o;omega
 have n2:an<=1000:=by have:=d1.o.b;have:=a8.o;have:=e6.o.2;have:=c5.o;omega
 clear k0;go_wp2_with (first|(at_builtin;(refine R_ k3.o k4.o (N:=ln) (by rw[a8.o];exact bX _) rfl rfl n1 ?_;intro v8 w8 r1 r2 r3;have i5:=J r1;clear r1 r2 r3))|(at_builtin;(refine R_ i5.o (k2.o.ext (H1.o.1.trans (H6.o.1.trans i5.o.ext))) (N:=an) (by rw[d2.o,c5.o]) rfl rfl n2 ?_;intro v9 w9 r1 r2 r3;have e7:=J r1;obtain⟨aa,ac,n3⟩:=r1.sl;subst n3;clear r1 r2 r3)))
 obtain⟨K,b4⟩:=vE (l++more)
 have i6:an=K.length:=by rw[b4,bK,d2.o,a8.o,c5.o]
 have n4:=J (show AI w9 (.slice aa an ac) K by have hx:Af w w9:=H1.o.1.trans (H6.o.1.trans e7.o.ext);have h:=e7.o;rw[cL, <-jC0, <-b4]at h;rw[i6]at h ⊢;refine Ar.acts h λp hp=>?_;rw[b4]at hp;rcases bR.1 hp with hp|hp;{exact (k1.o.each p hp).ext hx};exact (k2.o.each p hp).ext hx)
 have b5:=J (bA b4 i6);have H9:=J (bA (H6.o.1.trans e7.o.ext) (H6.o.2.trans e7.o.ext));clear b4 i6 i5 e7 k3 k4;have k5:=jC5 w9 (HC.o.1.ext (H1.o.1.trans H9.o.1)) _ K n4.o (by have:=b5.o.2;have:=d1.o.b;have:=a8.o;have:=e6.o.2;have:=c5.o;have:=d2.o;omega) (λp hp=>by rw[b5.o.1]at hp;rcases bR.1 hp with hp|hp;{exact d1.o.1 p hp};exact e6.o.1 p hp)
 refine k5.mono ?_;rintro e n5 ⟨r,rfl,hr,d8⟩;have k6:=J hr;have i7:=J (bA (H9.o.1.trans d8) (H9.o.2.trans d8));clear k5 hr d8;cases r with
 |false =>(go_wp2);go_ret;exact⟨rfl,H1.o.1.trans i7.o.1⟩
 |true =>
 obtain⟨U,hU⟩:=vE (Df K K.length)
 have HU:=J (show Gi U by rw[hU];exact k6.o rfl);have HN:=J (show IQ U by rw[hU];exact ZM _);have e2:Hid (∀ j,j<=an->∀ t∈Ld (Iw K j),t∈U):=(λj hj t ht=>by rw[hU];exact UM (by rw[<-b5.o.2];exact hj) (bO _) t ht);have i8:=H2.o.E U (e2.o 0 (cD _) Gf (by have:Iw K 0=[]:=rfl;rw[this,eL];exact bG.2 rfl));have g9:=J (kT (i8.1.grow i7.o.2) i8.2 (show Rx n5 A mb 3 from(show Rx w2 A mb 3 from H2.o.c).Z i7.o.2 kI λh=>h));clear hU k6 i8;go_wp2
 go_loopw [15] (λiv wr=>HoR w1 K ln b rm sb A mb bm U iv wr) (λiv _=>ln-(intOf iv).toNat)
 case atStart=>exact⟨0,cD _,rfl,Js wi,Tv,Pn z,0,0,g9.o.1,g9.o.C,bO _,g9.o.2.1.1,by rw[g9.o.2.1.2];exact bO _⟩
 case round =>obtain⟨k,hk,rfl,M,es,S,cc,pp,hF,e8,k7,k8,e9⟩:=hrel;(have j4:k<=10:=by have:=d1.o.b;have:=a8.o;omega);have HK:=J (kU j4 k7 k8 e9);have b0:=J (bA hF e8);clear hF e8 k7 k8 e9;by_cases hlt:k<ln;{have b1:(k:Int)<(ln:Int):=vO;obtain⟨p,hp⟩:∃ p,l[k]?=some p:=⟨_,bB (by rw[<-a8.o];exact hlt)⟩;(have f0:K[k]?=some p:=by rw[b5.o.1,cJ (by rw[<-a8.o];exact hlt)];exact hp);rcases HV.o with⟨_,_,_,h0⟩|⟨vb,vo,vc,hh,hvb,hvc,hcell⟩;{rw[a8.o,h0]at hlt;cases hlt};obtain⟨rfl, -,rfl⟩:=dF hh;obtain⟨h0,h1,h2,f1⟩:=hcell k p hp;(have c7:Af w wr:=H1.o.1.trans b0.o.1.ext;have p0:=Am h0 c7;have p1:=Am h1 c7;have p2:=Am h2 c7;have P0:=J (kT p0 p1 p2);have i9:=J f1;have f2:=J (eE (d1.o.1 p (bD hp)));have HP:=J f0;clear hcell hh hvb hvc h0 h1 h2 f1 hp f0 c7 p0 p1 p2;go_wp2_with (refine Gz 37 (.tmp 77) rfl rfl (.agg #[.int .i64 p.k,p.v,.int .i64 p.n]) ⟨vb,vo+k*3,none⟩ rfl (jCn _ _ _ _ _ _ P0.o.1 P0.o.b P0.o.C) ?_));refine (WO (AS A mb none) w1 wr (HC.o.1.ext H1.o.1) (HC.o.2.ext H1.o.1) b rm sb A bm U HU.o HN.o [] _ M es S k b0.o.1 (kL HK.o) p (.inr rfl) (.inr (.inl (kL HK.o))) (i9.o.ext H1.o.1) f2.o.1 f2.o.2 (e2.o k (kL d2.o)) (λh0 h1=>by have:=(JW HP.o h0 h1).2;rw[<-this];exact e2.o (k+1) (kL d2.o))).mono ?_;rintro e e3 ⟨x,g,rfl,b6,M',k9,S',l0,l1,l2⟩;have HD:=J (kU (show Gw (AS A mb none) w1 e3 b rm sb A bm U [] (Iw K (k+1)) M' k9 S' (k+1) by rw[NU HP.o];exact l0) (show Rx e3 A mb 3 by obtain⟨D1,a1,c1,f3,e4,d6⟩:=b0.o.1.inv;exact b0.o.2.Z b6 (d6 A (.inl rfl)).2.1 (d6 mb (.inr (.inl rfl))).2.1) l1 l2);(clear b6 l0 l1 l2;go_wp2);go_roundw;(case rel=>exact⟨k+1,by omega,by go_num,M',k9,S',cc+(if p.k=0 then 1 else 0),pp+(if p.k=0 then 0 else 1),HD.o.1,HD.o.b,by have:=HK.o;split<;>omega,by have:=HK.o;have:=HD.o;omega,by have:=HK.o;have:=HD.o;omega⟩);case measure=>exact vJ};have n6:k=ln:=vO;subst n6;have b1:¬(k:Int)<(k:Int):=vO;(have e9:=jDb b0.o.1.ok (λv hv=>kL (b0.o.1.pb v hv));have l3:=λW (hF:Gw (AS A mb none) w1 W b rm sb A bm U [] (Iw K k) (Gd M (-1)).1 es S (k+1))=>hF.keep b0.o.1.ok (λv hv=>kL (b0.o.1.pb v hv));have l4:Ke (Gd M (-1)).1<=6:=by have q1:=P7 (M:=M) (x := -1);have q2:Ke (Gd M (-1)).1<=(Gd M (-1)).1.all.length:=List.countP_le_length;rw[i_]at q2;have:=HK.o;omega);(have f4:=J (kT e9.1 l3 l4);clear e9 l3 l4;go_wp2_with fail);refine (ZC (AS A mb none) w1 wr b rm sb A bm U _ M es S k b0.o.1 (-1)).mono ?_;rintro e e3 ⟨rfl,b6,g3⟩;rw[show (Gd M (-1)).2.1=(Nu M).block by rw[f4.o.1],show (Gd M (-1)).2.2=0 by rw[f4.o.1]];obtain⟨O,l5⟩:∃ x:Int,x=((Nu M).block:Int):=⟨_,rfl⟩;have f5:=f4.o.b e3 g3;rw[<-l5]at f5 ⊢;obtain⟨M1,j0⟩:=vE (Gd M (-1)).1;(rw[<-j0]at f5;have n7:=J (show Ke M1<=6 by rw[j0];exact f4.o.C);have e8:Rx e3 A mb 3:=by obtain⟨D1,a1,c1,f3,e4,d6⟩:=b0.o.1.inv;exact b0.o.2.Z b6 (d6 A (.inl rfl)).2.1 (d6 mb (.inr (.inl rfl))).2.1);obtain⟨L0,f6⟩:=vE (Iw K k);(have l6:Em L0=0:=by rw[f6];exact NM k);(have l7:∀ t∈Ld L0,t∈U:=by rw[f6];exact e2.o k (kL d2.o));rw[<-f6]at f5;obtain⟨val,er,hV,l8⟩:=jDe (Dt (Cq L0) (Bw key));obtain⟨pv,pe,hP⟩:=V9 L0 key;obtain⟨th,l9⟩:∃ th,Bi L0++⟨#[32]⟩++key=th:=⟨_,rfl⟩;obtain⟨rt,m0⟩:=vE (Bi L0);(have Z:=J (kR l6 l7 hV l8 hP l9 m0 f6);have d3:∀ (o:Option (Nat × Nat × vB)) (M:Dm) (es:List (Ce Int)) (S:vT) (L:vL) (i:Nat) (W:vW),Gw (AS A mb o) w1 W b rm sb A bm U [(O,L0)] L M es S i->vQ 10 #[b,.int .i64 O] W λe W'=>e=.returned (.tuple #[rt,qa])/\Af W W':=λo M es S L i W h=>by obtain⟨j,v,h1,h2,h3,_⟩:=h.there W HU.o (bM _ (bG.2 rfl)) Z.o.1 Z.o.b;obtain⟨D1,a1,c1,f3,e4,_⟩:=h.inv;rw[Z.o.2.2.2.2.2.2.1];exact mE W D1 b M a1 c1 rm sb A es f3 e4.m (kL h.len) O j v (Bi L0) h1 h2 h3);(have c3:∀ (o:Option (Nat × Nat × vB)) (M:Dm) (es:List (Ce Int)) (S:vT) (L:vL) (i:Nat) (W:vW),Gw (AS A mb o) w1 W b rm sb A bm U [(O,L0)] L M es S i->vQ 12 #[b,.int .i64 O,key] W λe W'=>e=.returned (.tuple #[pv,.int .i64 pe])/\Af W W':=λo M es S L i W h=>by obtain⟨j,v,h1,h2,h3,h4⟩:=h.there W HU.o (bM _ (bG.2 rfl)) Z.o.1 Z.o.b;obtain⟨D1,a1,c1,f3,e4,_⟩:=h.inv;rw[<-Z.o.e];exact tJ e4 (kL h.len) O L0 j v h1 h2 h3 h4 key);have d4:∀ (o:Option (Nat × Nat × vB)) (M:Dm) (es:List (Ce Int)) (S:vT) (L:vL) (i n:Nat) (W:vW),Gw (AS A mb o) w1 W b rm sb A bm U [(O,L0)] L M es S i->(∀ z,AS A mb o z->(w1:Nat)<=z)->n<=12->Pm W A mb n th val er o->vQ 11 #[b,.int .i64 O,key] W λe w'=>e=.returned (.tuple #[val,.int .i64 er])/\Af w1 w'/\∃ o',Pm w' A mb (n+1) th val er o'/\Gw (AS A mb o') w1 w' b rm sb A bm U [(O,L0)] L M es S i/\∀ z,AS A mb o' z->(w1:Nat)<=z:=λo M es S L i n W h n8 hn hc =>TD A mb o w1 W b rm sb bm U HU.o [(O,L0)] L M es S i h n8 H2.o.b O L0 (bM _ (bG.2 rfl)) Z.o.1 Z.o.b key (kL d1.o.C) th Z.o.i val er Z.o.c Z.o.d n hn hc;(have a2:=J (kT d3 d4 c3);have HQ:=J (λW (e:Af w1 W)=>(H1.o.2.Z e λh=>h).cell (i:=1) (v:=.string key) rfl);have HB:=J (bA f5 (Rx.hold (th:=th) (val:=val) (er:=er) e8));clear b6 g3 l5 f5 e8 j0 f6 l6 l7 hV l8 hP l9 m0 d3 d4 c3 f4 b0;go_wp2_with fail);(refine vC (a2.o.1 none M1 es S L0 (k+1) e3 HB.o.1) λm1 d9=>?_;have c8:=J (bA (HB.o.1.grow d9) (HB.o.2.Z d9 λ_ _ h=>h));have g1:=HQ.o m1 c8.o.1.ext;clear d9 HB;go_wp2_with fail);(refine (a2.o.b none M1 es S L0 (k+1) 0 m1 c8.o.1 (λz hz=>by have h:=H2.o.d z (zZ hz);exact h) vI c8.o.2).mono ?_;rintro e m2 ⟨rfl,g4,o,g5,g6,d5⟩;have b7:=J (kT g6 g5 d5);have g1:=HQ.o m2 g4;clear g4 g5 g6 d5 c8;go_wp2_with fail);(refine vC (a2.o.C o M1 es S L0 (k+1) m2 b7.o.1) λn9 e0=>?_;have e1:=J (kT (b7.o.1.grow e0) (b7.o.2.1.Z e0 λ_ _ h=>h) b7.o.C);clear e0 b7 g1;go_wp2);(go_loopw [24] (λiv wr=>HoS w1 K k mn b rm sb A mb bm U O th val er iv wr) (λiv _=>mn-(intOf iv).toNat));(case atStart=>exact⟨0,cD _,rfl,M1,es,S,o,by show Gw (AS A mb o) w1 n9 b rm sb A bm U [(O,Iw K k)] (Iw K k) M1 es S (k+1);rw[<-Z.o.2.2.2.2.2.2.2];exact e1.o.1,e1.o.b,e1.o.C,n7.o⟩);case round =>obtain⟨n,hn,rfl,M2,Gb,S2,o2,j1,m3,g7,j2⟩:=hrel;(rw[<-Z.o.2.2.2.2.2.2.2]at j1;have j5:n<=10:=by have:=e6.o.2;have:=c5.o;omega);have f7:=J (bA j5 j2);have c4:=J (kU j1 m3 g7 j2);clear j1 m3 g7 j2;by_cases hlt2:n<mn;{have b2:(n:Int)<(mn:Int):=vO;obtain⟨p,hp⟩:∃ p,more[n]?=some p:=⟨_,bB (by rw[<-c5.o];exact hlt2)⟩;(have f0:K[k+n]?=some p:=by rw[b5.o.1,cN (by rw[<-a8.o];omega), <-a8.o,Nat.add_sub_cancel_left];exact hp);rcases h6.o with⟨_,_,_,h0⟩|⟨vb,vo,vc,hh,hvb,hvc,hcell⟩;{rw[c5.o,h0]at hlt2;cases hlt2};obtain⟨rfl, -,rfl⟩:=dF hh;obtain⟨h0,h1,h2,f1⟩:=hcell n p hp;have c7:Af w wr:=H1.o.1.trans c4.o.1.ext;have p0:=Am h0 c7;have p1:=Am h1 c7;have p2:=Am h2 c7;have P0:=J (kT p0 p1 p2);have i9:=J f1;have f2:=J (eE (e6.o.1 p (bD hp)));have HP:=J f0;clear hcell hh hvb hvc h0 h1 h2 f1 hp f0 c7 p1 p2;by_cases hpk:p.k=0;{have m4:=J hpk;(have o0:(p.k == 0)=true:=by simpa using hpk);(clear hpk;go_wp2_with (refine Gz 37 (.tmp 128) rfl rfl (.agg #[.int .i64 p.k,p.v,.int .i64 p.n]) ⟨vb,vo+n*3,none⟩ rfl (jCn _ _ _ _ _ _ P0.o.1 P0.o.b P0.o.C) ?_));refine (WO (AS A mb o2) w1 wr (HC.o.1.ext H1.o.1) (HC.o.2.ext H1.o.1) b rm sb A bm U HU.o HN.o [(O,L0)] _ M2 Gb S2 (k+1+n) c4.o.1 (by have:=f7.o;have:=d1.o.b;have:=a8.o;omega) p (.inl m4.o) (.inr (.inr f7.o.2)) (i9.o.ext H1.o.1) f2.o.1 f2.o.2 (e2.o (k+n) (kL d2.o)) (λh0 h1=>by have:=(JW HP.o h0 h1).2;rw[<-this];exact e2.o (k+n+1) (kL d2.o))).mono ?_;rintro e j3 ⟨x,g,rfl,d0,M3,b3,S3,f8,o1,m5⟩;have H:=J (kU (show Gw (AS A mb o2) w1 j3 b rm sb A bm U [(O,L0)] (Iw K (k+(n+1))) M3 b3 S3 (k+1+(n+1)) by rw[show k+(n+1)=k+n+1 from rfl,NU HP.o];exact f8) (c4.o.2.1.Z d0 λz hz=>by obtain⟨D1,a1,c1,f3,e4,d6⟩:=c4.o.1.inv;exact (d6 z hz).2.1) c4.o.c (show Ke M3<=6 by have:=f7.o;rw[if_pos m4.o]at m5;omega));(clear d0 f8 o1 m5 p0;go_wp2_with fail);(refine vC (a2.o.1 o2 M3 b3 S3 _ _ j3 H.o.1) λf9 a5=>?_;have q:=J (kT (H.o.1.grow a5) (H.o.2.1.Z a5 λ_ _ h=>h) H.o.C);have g1:=HQ.o f9 q.o.1.ext;clear a5 H;go_wp2_with fail);(refine (a2.o.b o2 M3 b3 S3 _ _ (n+1) f9 q.o.1 q.o.c (kL f7.o) q.o.b).mono ?_;rintro e g0 ⟨rfl,b8,o3,b9,c2,a4⟩;have X:=J (kU c2 b9 a4 q.o.D);have g1:=HQ.o g0 b8;clear b8 b9 c2 a4 q;go_wp2_with fail);(refine vC (a2.o.C o3 M3 b3 S3 _ _ g0 X.o.1) λo4 a7=>?_;have a3:=J (kT (X.o.1.grow a7) (X.o.2.1.Z a7 λ_ _ h=>h) X.o.C);clear a7 X g1;go_wp2);go_roundw;(case rel=>exact⟨n+1,by omega,by go_num,M3,b3,S3,o3,by rw[<-Z.o.2.2.2.2.2.2.2];exact a3.o.1,a3.o.b,a3.o.c,a3.o.D⟩);case measure=>exact vJ};(have o0:(p.k == 0)=false:=by simpa using hpk);have H:=J (bA (show Gw (AS A mb o2) w1 wr b rm sb A bm U [(O,L0)] (Iw K (k+(n+1))) M2 Gb S2 (k+1+(n+1)) by rw[show k+(n+1)=k+n+1 from rfl,(UN HP.o λh=>hpk h.1).2];exact c4.o.1.up vO) c4.o.2);obtain⟨M3,m6⟩:=vE M2;obtain⟨b3,m7⟩:=vE Gb;obtain⟨S3,m8⟩:=vE S2;(rw[<-m6, <-m7, <-m8]at H;clear hpk m6 m7 m8;go_wp2_with fail);(refine vC (a2.o.1 o2 M3 b3 S3 _ _ wr H.o.1) λf9 a5=>?_;have q:=J (kT (H.o.1.grow a5) (H.o.2.1.Z a5 λ_ _ h=>h) H.o.C);have g1:=HQ.o f9 q.o.1.ext;clear a5 H;go_wp2_with fail);(refine (a2.o.b o2 M3 b3 S3 _ _ (n+1) f9 q.o.1 q.o.c (kL f7.o) q.o.b).mono ?_;rintro e g0 ⟨rfl,b8,o3,b9,c2,a4⟩;have X:=J (kU c2 b9 a4 q.o.D);have g1:=HQ.o g0 b8;clear b8 b9 c2 a4 q;go_wp2_with fail);(refine vC (a2.o.C o3 M3 b3 S3 _ _ g0 X.o.1) λo4 a7=>?_;have a3:=J (kT (X.o.1.grow a7) (X.o.2.1.Z a7 λ_ _ h=>h) X.o.C);clear a7 X g1;go_wp2);go_roundw;(case rel=>exact⟨n+1,by omega,by go_num,M3,b3,S3,o3,by rw[<-Z.o.2.2.2.2.2.2.2];exact a3.o.1,a3.o.b,a3.o.c,a3.o.D⟩);case measure=>exact vJ};have b2:¬(n:Int)<(mn:Int):=vO;(have h5:=jDc c4.o.1.ok (c4.o.1.pin _ (bG.2 rfl));have h5:(Nv M2 O).2=0:=h5;have o5:=J h5;clear h5;go_wp2_with fail);(refine (jDi (AS A mb o2) w1 wr b rm sb A bm U HU.o _ _ M2 Gb S2 _ c4.o.1 O).mono ?_;rintro e j3 ⟨rfl,d0,b3,S3,f8⟩;rw[o5.o];have j6:=J (H1.o.1.trans f8.ext);clear d0 f8;go_wp2);go_ret;exact⟨rfl,j6.o⟩
end
section
open Go Go.ChangeShapes Go.WideShapes Go.ChangeAt Go.RowKit Go.Deep
theorem Ws:ownKnob prog.godebug=none:=vY
theorem Kl:laidOutB prog=true:=vY
theorem Ps:prog.cellsOf 9=1:=vY
theorem Oa:prog.cellsOf 4=1:=vY
theorem FY:maxLen<=9223372036854775807:=by unfold maxLen;omega
section
variable {H:Type} {enc:TypeId × vV->H} {w:vW} {base:Nat} {spare:Nat->Bool} {held:Bool}
theorem qV{α:Type}(n:Nat)(d:α)(P:Nat->α->Prop)(h:∀ i,i<n->∃ x,P i x):∃ l:List α,l.length=n/\∀ i x,l[i]?=some x->P i x:=by
 induction n with
 |zero=>exact⟨[],rfl,λi x q=>by simp at q⟩
 |succ n ih =>obtain⟨l,A,H⟩:=ih λi K=>h i vO;obtain⟨x,q⟩:=h n vO;refine⟨l++[x],by simp[A],λi y e=>?_⟩;by_cases K:i<n;{rw[cJ vO]at e;exact H i y e};rw[cN vO]at e;(have:i-l.length=0:=by have:=(bI.1 e).1;simp at this;omega);rw[this]at e;simp at e;subst e;rw[show i=n by omega];exact q
end
end
section
open Go Go.ChangeShapes Go.WideShapes Go.ChangeAt Go.RowKit Go.Deep
theorem Pr:prog.cellsOf 46=3:=vY
section
variable {H:Type} {enc:TypeId × vV->H} {w:vW} {base:Nat} {spare:Nat->Bool} {held:Bool}
theorem N7{n:Nat}{a:Addr}{cs:List vV}{x:DataW H × List MemPlace}(hc:w.cells? base a 3=some cs)(h:DataW.trod enc prog w base spare held n 46 cs=some x):∃ p:Br,w.cell? (a.add 0)=some (.string p.key)/\w.cell? (a.add 1)=some (.string p.value)/\w.cell? (a.add 2)=some (.bool p.gone)/\p.key.size<=9223372036854775807/\p.value.size<=9223372036854775807:=by
 obtain⟨_,hl,K⟩:=World.cells?_some hc
 obtain⟨xs,m,_,_,_,O,X⟩:=DataW.trod_struct underlying46 h
 match cs,hl with
 |[c0,c1,c2],_ =>have e:DataW.trod enc prog w base spare held m 9 (([c0,c1,c2].drop 0).take (prog.cellsOf 9))=xs[0]?:=X 0 _ rfl;have q:DataW.trod enc prog w base spare held m 9 (([c0,c1,c2].drop 1).take (prog.cellsOf 9))=xs[1]?:=X 1 _ rfl;have A:DataW.trod enc prog w base spare held m 4 (([c0,c1,c2].drop 2).take (prog.cellsOf 4))=xs[2]?:=X 2 _ rfl;rw[Ps]at e q;rw[Oa]at A;dsimp only[List.drop,List.take]at e q A;have Z:∀ i,i<3->∃ y,xs[i]?=some y:=λi hi=>⟨_,bB (by rw[O];exact hi)⟩;obtain⟨y0,e0⟩:=Z 0 vO;obtain⟨y1,e1⟩:=Z 1 vO;obtain⟨y2,e2⟩:=Z 2 vO;rw[e0]at e;rw[e1]at q;rw[e2]at A;obtain⟨r,q0,_,w0⟩:=DataW.trod_string underlying9 e;obtain⟨s,q1,_,w1⟩:=DataW.trod_string underlying9 q;obtain⟨b,q2,_⟩:=DataW.trod_bool underlying4 A;simp only[List.cons.injEq,and_true]at q0 q1 q2;subst q0 q1 q2;exact⟨⟨r,s,b⟩,K 0 vO,K 1 vO,K 2 vO,bH w0 FY,bH w1 FY⟩
theorem a7{v:vV}{d:DataW H}{p:List MemPlace}(hv:∃ a n c,v=.slice a n c)(h:DataW.Trod enc prog w 0 spare held 35 v d p):∃ l:List Br,Jj w v l/\l.length<=9223372036854775807/\∀ p∈l,p.key.size<=9223372036854775807/\p.value.size<=9223372036854775807:=by
 obtain⟨a0,n0,c0,rfl⟩:=hv
 obtain⟨a2,hf⟩:=h
 rcases open_slice underlying35 hf with⟨hcs,_⟩|⟨a,len,cap,m,n,D,Pl,hcs,_,hl,hm,hmm,_,Z⟩
 ·simp only[Value.cells]at hcs;(have e:Value.slice a0 n0 c0=.slice none 0 0:=by simpa using hcs);rw[e];exact⟨[],.inl ⟨none,0,rfl,rfl⟩,by simp,by simp⟩
 ·(have e:Value.slice a0 n0 c0=.slice (some a) len cap:=by simpa [Value.cells]using hcs);(rw[e];have a3:len<=m:=by rw[hmm];split<;>omega);obtain⟨l,K,A⟩:=qV len (⟨⟨#[]⟩,⟨#[]⟩,false⟩:Br) (λi p=>w.cell? ((a.add (i*3)).add 0)=some (.string p.key)/\w.cell? ((a.add (i*3)).add 1)=some (.string p.value)/\w.cell? ((a.add (i*3)).add 2)=some (.bool p.gone)/\p.key.size<=9223372036854775807/\p.value.size<=9223372036854775807) (λi a4=>by obtain⟨a5,h1,h2⟩:=Z i vO;rw[Pr]at h1;exact N7 h1 h2);(have a1:∀ p∈l,p.key.size<=9223372036854775807/\p.value.size<=9223372036854775807:=λp hp=>by obtain⟨i,Z⟩:=dP hp;exact (A i p Z).2.2.2);have O:l.length<=9223372036854775807:=kL FY;refine⟨l,?_,O,a1⟩;by_cases h0:len=0;{subst h0;exact .inl ⟨some a,cap,rfl,bF K⟩};obtain⟨p0,X⟩:∃ p,l[0]?=some p:=⟨_,bB vO⟩;(have q:a.spot=none:=by simpa [Addr.add]using World.cell?_spot (A 0 p0 X).1);obtain⟨b,o,sp⟩:=a;dsimp only at q;subst q;refine .inr ⟨b,o,cap,by rw[K],dX w _ (A 0 p0 X).1,by omega,λj x hx=>?_⟩;obtain⟨q1,q2,q3,_⟩:=A j x hx;rw[Go.Deep.add_add,Go.WideShapes.add_plain]at q1 q2 q3;exact⟨q1,q2,q3⟩
end
end
section
open Go Go.ChangeShapes Go.WideShapes Go.ChangeAt Go.RowKit Go.Deep
theorem Nf:prog.cellsOf 37=3:=vY
theorem Nh:prog.cellsOf 3=1:=vY
theorem Ni:prog.cellsOf 35=1:=vY
section
variable {H:Type} {enc:TypeId × vV->H} {w:vW} {spare:Nat->Bool} {held:Bool}
theorem k0{n:Nat}{a:Addr}{cs:List vV}{x:DataW H × List MemPlace}(hc:w.cells? 0 a 3=some cs)(h:DataW.trod enc prog w 0 spare held n 37 cs=some x):∃ p:Eu,w.cell? (a.add 0)=some (.int .i64 p.k)/\w.cell? (a.add 1)=some p.v/\w.cell? (a.add 2)=some (.int .i64 p.n)/\Jj w p.v p.cs/\p.cs.length<=9223372036854775807/\∀ c∈p.cs,c.key.size<=9223372036854775807/\c.value.size<=9223372036854775807:=by
 obtain⟨_,hl,K⟩:=World.cells?_some hc
 obtain⟨xs,m,_,_,_,O,X⟩:=DataW.trod_struct underlying37 h
 match cs,hl with
 |[c0,c1,c2],_ =>have q:DataW.trod enc prog w 0 spare held m 3 (([c0,c1,c2].drop 0).take (prog.cellsOf 3))=xs[0]?:=X 0 _ rfl;have e:DataW.trod enc prog w 0 spare held m 35 (([c0,c1,c2].drop 1).take (prog.cellsOf 35))=xs[1]?:=X 1 _ rfl;have A:DataW.trod enc prog w 0 spare held m 3 (([c0,c1,c2].drop 2).take (prog.cellsOf 3))=xs[2]?:=X 2 _ rfl;rw[Nh]at q A;rw[Ni]at e;dsimp only[List.drop,List.take]at q e A;have Z:∀ i,i<3->∃ y,xs[i]?=some y:=λi hi=>⟨_,bB (by rw[O];exact hi)⟩;obtain⟨y0,e0⟩:=Z 0 vO;obtain⟨y1,e1⟩:=Z 1 vO;obtain⟨y2,e2⟩:=Z 2 vO;rw[e0]at q;rw[e1]at e;rw[e2]at A;obtain⟨k,q0,_,_⟩:=DataW.trod_int underlying3 q;obtain⟨r,q2,_,_⟩:=DataW.trod_int underlying3 A;(simp only[List.cons.injEq,and_true]at q0 q2;subst q0 q2;have hs:∃ a n c,c1=.slice a n c:=by rcases open_slice underlying35 e with⟨hcs,_⟩|⟨b,len,cap,_,_,_,_,hcs,_⟩;{exact⟨none,0,0,by simpa [Value.cells]using hcs⟩};exact⟨some b,len,cap,by simpa [Value.cells]using hcs⟩);obtain⟨l,r1,r2,r3⟩:=a7 (v:=c1) (d:=y1.1) (p:=y1.2) hs ⟨m,by obtain⟨a1,n1,a0,rfl⟩:=hs;exact e⟩;exact⟨⟨k,c1,l,r⟩,K 0 vO,K 1 vO,K 2 vO,r1,r2,r3⟩
theorem jnA{v:vV}{d:DataW H}{p:List MemPlace}(hv:∃ a n c,v=.slice a n c)(h:DataW.Trod enc prog w 0 spare held 22 v d p):∃ l:List Eu,AI w v l/\l.length<=9223372036854775807/\KR l:=by
 obtain⟨a0,n0,c0,rfl⟩:=hv
 obtain⟨a2,hf⟩:=h
 rcases open_slice underlying22 hf with⟨hcs,_⟩|⟨a,len,cap,m,n,D,Pl,hcs,_,hl,hm,hmm,_,Z⟩
 ·simp only[Value.cells]at hcs;(have e:Value.slice a0 n0 c0=.slice none 0 0:=by simpa using hcs);rw[e];exact⟨[],.inl ⟨none,0,rfl,rfl⟩,by simp,λp hp=>by cases hp⟩
 ·(have e:Value.slice a0 n0 c0=.slice (some a) len cap:=by simpa [Value.cells]using hcs);(rw[e];have a3:len<=m:=by rw[hmm];split<;>omega);obtain⟨l,K,A⟩:=qV len (⟨0,false,[],0⟩:Eu) (λi p=>w.cell? ((a.add (i*3)).add 0)=some (.int .i64 p.k)/\w.cell? ((a.add (i*3)).add 1)=some p.v/\w.cell? ((a.add (i*3)).add 2)=some (.int .i64 p.n)/\Jj w p.v p.cs/\p.cs.length<=9223372036854775807/\∀ c∈p.cs,c.key.size<=9223372036854775807/\c.value.size<=9223372036854775807) (λi a4=>by obtain⟨a5,h1,h2⟩:=Z i vO;rw[Nf]at h1;exact k0 h1 h2);(have a1:KR l:=λp hp=>by obtain⟨i,Z⟩:=dP hp;exact (A i p Z).2.2.2.2);have O:l.length<=9223372036854775807:=kL FY;refine⟨l,?_,O,a1⟩;by_cases h0:len=0;{subst h0;exact .inl ⟨some a,cap,rfl,bF K⟩};obtain⟨p0,X⟩:∃ p,l[0]?=some p:=⟨_,bB vO⟩;(have q:a.spot=none:=by simpa [Addr.add]using World.cell?_spot (A 0 p0 X).1);obtain⟨b,o,sp⟩:=a;dsimp only at q;subst q;refine .inr ⟨b,o,cap,by rw[K],dX w _ (A 0 p0 X).1,by omega,λj x hx=>?_⟩;obtain⟨q1,q2,q3,q4,_⟩:=A j x hx;rw[Go.Deep.add_add,Go.WideShapes.add_plain]at q1 q2 q3;exact⟨q1,q2,q3,q4⟩
end
end
section
open Go Go.RowKit
def XE:List Int:=EZ.map λx=>(x.toNat:Int)
theorem k8:(Rows.laid_guilloche_sha_cubes:DataW Unit)=Lib.tabData .u32 XE:=vY
theorem Mw:prog.globalNamed "guilloche/sha.cubes"=some 1:=vY
theorem Nj:(prog.globals[1]?).map (·.type)=some 317:=vY
theorem Ta:prog.underlying 317=some (.array 64 260):=vY
theorem Pt:prog.cellsOf 260=1:=vY
theorem Ng:prog.cellsOf 317=64:=vY
theorem H8{W:vW}(h:laidMetH prog [("errors.errorType",Rows.laid_errors_errorType),("guilloche/sha.cubes",Rows.laid_guilloche_sha_cubes)] W):Ha W:=by
 have e:laidMet prog [("guilloche/sha.cubes",Rows.laid_guilloche_sha_cubes)] W:=(laidMetH_iff.1 h).1;rw[k8]at e;have q:=Lib.tabIs_of_head Mw Nj Ta Bl Pt Ng e;intro i A
 have:=q.cell Mw i (by unfold XE;rw[bT];exact A)
 rw[this];unfold XE wv;simp only[bL,bY];cases EZ[i]? <;> rfl
theorem Wq:prog.globalNamed "errors.errorType"=some 0:=vY
theorem Pw:(prog.cutTypes.find? (·.1 == "internal/reflectlite.rtype")).map (·.2)=some 232:=vY
theorem Sp:(List.range prog.types.size).all (λt => !(prog.rowNamed t [101,114,114,111,114]) || t == 93)=true:=vY
theorem Oc:typeHandle prog 93=.pointer (some ⟨3,93,none⟩):=vY
theorem xH{W:vW}(h:laidMetH prog [("errors.errorType",Rows.laid_errors_errorType),("guilloche/sha.cubes",Rows.laid_guilloche_sha_cubes)] W):Gh W:=by
 have H:=(laidMetH_iff.1 h).2 ("errors.errorType",Rows.laid_errors_errorType) (by simp[Rows.laid_errors_errorType,DataW.handleName?]);have K:∃ e u ty,(Rows.laid_errors_errorType:DataW Unit).handleName?=some e/\(prog.cutTypes.find? (·.1 == "internal/reflectlite.rtype")).map (·.2)=some u/\ty<prog.types.size/\prog.rowNamed ty e=true/\W.var? prog "errors.errorType"=some #[.iface u (.agg #[typeHandle prog ty])]:=H
 obtain⟨e,u,ty,O,X,Z,e4,q⟩:=K
 obtain rfl:u=232:=bV (X.symm.trans Pw);obtain rfl:e=[101,114,114,111,114]:=(bV (show some [101,114,114,111,114]=some e from O)).symm;have A:=fJ.1 Sp ty (dY.2 Z);rw[e4]at A;obtain rfl:ty=93:=by simpa using A
 rw[Oc]at q
 have:=World.var?_cell Wq q 0
 exact this
end
section
open Go Go.ChangeShapes Go.WideShapes Go.ChangeAt Go.RowKit
def L3:Obj->Obj
 |.cells _ t frozen=>.cells (EZ.map wv).toArray t frozen
 |o=>o
def zI:Obj->Obj
 |.cells _ t frozen=>.cells #[.iface 232 (.agg #[.pointer (some ⟨3,93,none⟩)])] t frozen
 |o=>o
noncomputable def Mq(os:Os):vW:=
 { World.holding prog os ⟨#[],#[],[]⟩with heap:=((World.holding prog os ⟨#[],#[],[]⟩).heap.modify 1 L3).modify 0 zI }
theorem E4(os:Os)(args:Array vV):laidMetH prog [("errors.errorType",Rows.laid_errors_errorType),("guilloche/sha.cubes",Rows.laid_guilloche_sha_cubes)] ((Mq os).forCall (λ_ _=>0) ⟨#[],args,[]⟩).memory:=
 laidMetH_of_parts (laidMet_of_run' 8 vY vY) vY
end
section
open Go Go.ChangeShapes Go.WideShapes Go.ChangeAt Go.RowKit Go.ChangeMaps
theorem h3:laidOutB Tryz.pinned.checked.prog=true:=vY
theorem V_:mapsRowed Tryz.pinned.checked.prog=true:=vY
theorem L5:(Tryz.pinned.checked.prog.stops == [])=true:=vY
theorem X_:(Tryz.pinned.checked.prog.stopKnobs == [])=true:=vY
theorem W_:(Rows.chainHoldsRow.plainKeys == Tryz.pinned.checked.prog.plainKeys)=true:=vY
theorem y_:Tryz.pinned.checked.prog.stopsHeard=true:=vY
theorem a5:Tryz.pinned.checked.prog.mayEnter=true:=vY
theorem t5:(Rows.chainHoldsRow.lifted == Tryz.pinned.checked.prog.liftsFinal)=true:=vY
theorem jzj:(Tryz.pinned.checked.prog.make == some Rows.chainHoldsRow.make)=true:=vY
theorem jzi:Tryz.pinned.checked.prog.mainIs=some (true, "ccb96fafcf2fe2376f1719c44547cfccdfb47f5cc73528a56ccbdce61cf288f8".toList):=vY
theorem L4:true=Tryz.pinned.checked.prog.looks []:=vY
end
