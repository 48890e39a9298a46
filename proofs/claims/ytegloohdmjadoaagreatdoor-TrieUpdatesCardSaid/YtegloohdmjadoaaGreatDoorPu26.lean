/- Lemmas; each is under no condition but those that it states. -/
import Derived.Test.YtegloohdmjadoaaGreatDoorPu25
namespace Go.Proofs.YtegloohdmjadoaaGreatDoor
set_option linter.unusedSimpArgs false
set_option linter.unusedVariables false
set_option maxRecDepth 100000
set_option maxHeartbeats 16000000
open Go Go.RowKit
section
attribute [local go_sem] Oper.semAt_some
def jgb(k:Key)(L:vT):vT:=L.map fun x=>if x.1=k then (x.1,x.2.1,putF 2 (x.2.2.used+1) x.2.2)else x
def jeE(T:vM)(L:vT):vT:=T.foldl (fun L r=>jgb r.data.toList L) L
theorem jpG(T:vM)(r:vB)(L:vT):jeE (T++[r]) L=jgb r.data.toList (jeE T L):=by unfold jeE;rw[dF];rfl
theorem jpF(k:Key)(L:vT):(jgb k L).map (·.1)=L.map (·.1):=by
 unfold jgb;rw[dO];refine dV (fun x _=>?_);simp only[Function.comp];split <;> rfl
theorem jpE(k:Key)(L:vT):(jgb k L).map (·.2.1)=L.map (·.2.1):=by
 unfold jgb;rw[dO];refine dV (fun x _=>?_);simp only[Function.comp];split <;> rfl
theorem jgT:∀ (T:vM) (L:vT),(jeE T L).map (·.1)=L.map (·.1)
 | [],_=>rfl
 | r :: T,L=>by
  show (jeE T (jgb r.data.toList L)).map (·.1)=_;rw[jgT T,jpF]
theorem jgS:∀ (T:vM) (L:vT),(jeE T L).map (·.2.1)=L.map (·.2.1)
 | [],_=>rfl
 | r :: T,L=>by
  show (jeE T (jgb r.data.toList L)).map (·.2.1)=_;rw[jgS T,jpE]
theorem jnX{A B:vT}(h:A.map (·.1)=B.map (·.1))(k:Key):(atL A k).isSome=(atL B k).isSome:=by
 have e:∀ L:vT,(atL L k).isSome=(L.map (·.1)).any (fun y=>decide (k=y)):=fun L=>by
  unfold atL;rw[List.isSome_find?,List.any_map];rfl
 rw[e,e,h]
theorem jjt:∀ (T:vM) (L:vT) (lo hi:Int),(∀ x∈L,lo<=x.2.2.used/\x.2.2.used<=hi)->∀ x∈jeE T L,lo<=x.2.2.used/\x.2.2.used<=hi+T.length
 | [],L,lo,hi,h=>fun x e=>by have:=h x e;simp;exact this
 | r :: T,L,lo,hi,h=>fun x e=>by
  have:=jjt T (jgb r.data.toList L) lo (hi+1) (fun y m=>by
   obtain⟨z,o,rfl⟩:=bI.1 m
   have:=h z o
   split
   ·simp only[putF,if_true];omega
   ·omega) x e
  rw[bP];omega
def kvR(x:Nd5):Nat × vB × vM:=(x.2.1,x.2.2.text,x.2.2.refs)
def Like(W:vW)(bg:Nat)(G:vT):Prop:=∃ G',jdn W bg G'/\∀ k,(atL G' k).map kvR=(atL G k).map kvR
theorem jtX(f c:Nat)(v:Int)(L:vT)(k:Key):atL (L.map (setB f c v)) k=(atL L k).map (setB f c v):=by
 unfold atL;rw[List.find?_map]
 congr 1
 refine congrFun (congrArg _ (funext fun x=>?_)) L;simp only[Function.comp,setB];split <;> rfl
theorem juP(f c:Nat)(v:Int)(x:Nd5):kvR (setB f c v x)=kvR x:=by
 unfold setB kvR putF
 by_cases e:x.2.1=c
 ·rw[if_pos e]
  by_cases e2:f=2
  ·rw[if_pos e2]
  ·rw[if_neg e2]
 ·rw[if_neg e]
theorem Like.setF{W:vW}{bg:Nat}{G:vT}(h:Like W bg G){c:Nat}{it:It}(hc:jeR W c it){f:Nat}(hf:f=2\/f=3)(v:Int):Like (W.setCell ⟨c,f,none⟩ (.int .i64 v)) bg G:=by
 obtain⟨o,e,m⟩:=h
 refine⟨_,e.setF hc hf v,fun k=>?_⟩
 rw[jtX,Option.map_map, <-m k]
 congr 1
 funext x
 exact juP f c v x
theorem jth{W:vW}{bm:Nat}{L:vT}(h:jdn W bm L){k:Key}{y:Nd5}(hy:atL L k=some y):L.map (setB 2 y.2.1 (y.2.2.used+1))=jgb k L:=by
 obtain⟨H,J,_,A⟩:=h.mp
 have m:=A.keys;rw[dO]at m;have m:(L.map (·.1)).Nodup:=m;unfold jgb;refine dV (fun x o=>?_);unfold setB
 by_cases e:x.2.1=y.2.1
 ·have:x=y:=jbq h.blks o (ja7 hy).1 e
  subst this;rw[if_pos rfl,if_pos (ja7 hy).2]
 ·rw[if_neg e,if_neg]
  intro E
  have:x=y:=jbq m o (ja7 hy).1 (E.trans (ja7 hy).2.symm)
  subst this;exact e rfl
structure Ad2(w5:World)(s bm bg:Nat)(room:Int)(S1 G:vT)(F:vM)(v:Value)(T:vM)(W:World):Prop where
 kp:jae (fun z=>z∈S1.map (·.2.1)) w5 W
 st:jaT W s bm room (jeE T S1)
 gv:Like W bg G
 row:W.ownsRow 0 9 1 v F.length (F.map Value.string)
theorem Ad2.bump{w5:vW}{s bm bg:Nat}{room:Int}{S1 G:vT}{F:vM}{v:vV}{T:vM}{W:vW}(h:Ad2 w5 s bm bg room S1 G F v T W)
  (hu:∀ x∈S1,0<=x.2.2.used/\x.2.2.used<=1000000000) (hT:T.length<=1000000) (r:vB) (hr:(atL S1 r.data.toList).isSome=true) :
  ∃ (zb:Nat) (u:Int),(Instr.lookup 71 (.map (some bm)) (.string r) false).run Tryz.prog W=.ok (.pointer (some ⟨zb,0,none⟩)) W/\W.cell? ⟨zb,2,none⟩=some (.int .i64 u)/\W.frozen? ⟨zb,2,none⟩=false/\0<=u/\u<=2000000000 /\
   Ad2 w5 s bm bg room S1 G F v (T++[r]) (W.setCell ⟨zb,2,none⟩ (.int .i64 (u+1)))/\∀ A n xs,W.ownsRow 0 9 1 A n xs->(W.setCell ⟨zb,2,none⟩ (.int .i64 (u+1))).ownsRow 0 9 1 A n xs:=by
 have Q:(atL (jeE T S1) r.data.toList).isSome=true:=by rw[jnX (jgT T S1)];exact hr
 obtain⟨y,H⟩:=dG.1 Q
 have m:=(ja7 H).1;have J:=h.st.mp.items y m
 obtain⟨A,hb,X⟩:=J.cells
 have o:=h.st.mp.look r false;rw[H]at o;simp only[cI,if_false]at o;have E:jae (fun z=>z=y.2.1) W (W.setCell ⟨y.2.1,2,none⟩ (.int .i64 (y.2.2.used+1))):=jae.oneSet W ⟨y.2.1,2,none⟩ _;have hN:jjf W (fun z=>z=y.2.1):=fun z Z fz e hz=>by
  have e:z=y.2.1:=e;subst e
  have:=hb.uniq hz;injection this with _ h2;exact absurd h2 vI
 have K:y.2.1∈S1.map (·.2.1):=by rw[<-jgS T S1];exact bI.2 ⟨y,m,rfl⟩
 have O:=jjt T S1 0 1000000000 hu y m
 refine⟨y.2.1,y.2.2.used,o,hb.cell (i:=2) vF,hb.frozen,O.1,by omega,⟨h.kp.trans (E.mono (fun z _ e=>by have e:z=_:=e;rw[e];exact K)),⟨h.st.st.keeps E (fun e=>?_),?_⟩,h.gv.setF J (.inl rfl) _,jgD h.row E hN⟩,fun A n xs hx=>jgD hx E hN⟩
 ·have e:s=y.2.1:=e
  rw[e]at h
  have:=hb.uniq h.st.st;injection this with _ h2;exact absurd h2 vI
 ·rw[jpG, <-jth h.st.mp H]
  exact h.st.mp.setF J (.inl rfl) _
def jkd(k:Key)(L:vT):vT:=L.map fun x=>if x.1=k then (x.1,x.2.1,putF 3 (x.2.2.held+1) x.2.2)else x
theorem jqr{W:vW}{bm:Nat}{L:vT}(h:jdn W bm L){k:Key}{y:Nd5}(hy:atL L k=some y):L.map (setB 3 y.2.1 (y.2.2.held+1))=jkd k L:=by
 obtain⟨H,J,_,A⟩:=h.mp
 have m:=A.keys;rw[dO]at m;have m:(L.map (·.1)).Nodup:=m;unfold jkd;refine dV (fun x o=>?_);unfold setB
 by_cases e:x.2.1=y.2.1
 ·have:x=y:=jbq h.blks o (ja7 hy).1 e
  subst this;rw[if_pos rfl,if_pos (ja7 hy).2]
 ·rw[if_neg e,if_neg]
  intro E
  have:x=y:=jbq m o (ja7 hy).1 (E.trans (ja7 hy).2.symm)
  subst this;exact e rfl
theorem jjs:∀ (T:vM) (L:vT) (lo hi:Int),(∀ x∈L,lo<=x.2.2.held/\x.2.2.held<=hi)->∀ x∈jeE T L,lo<=x.2.2.held/\x.2.2.held<=hi
 | [],L,lo,hi,h=>fun x e=>h x e
 | r :: T,L,lo,hi,h=>fun x e=>by
  refine jjs T (jgb r.data.toList L) lo hi (fun y m=>?_) x e
  obtain⟨z,o,rfl⟩:=bI.1 m
  have:=h z o
  split
  ·simp only[putF,if_true];exact this
  ·exact this
theorem Ad2.hold{w5:vW}{s bm bg:Nat}{room:Int}{S1 G:vT}{F:vM}{v:vV}{T:vM}{W:vW}(h:Ad2 w5 s bm bg room S1 G F v T W)
  (hu:∀ x∈S1,0<=x.2.2.held/\x.2.2.held<=1000000000) (r:vB) (hr:(atL S1 r.data.toList).isSome=true) :
  ∃ (zb:Nat) (u:Int),(Instr.lookup 71 (.map (some bm)) (.string r) false).run Tryz.prog W=.ok (.pointer (some ⟨zb,0,none⟩)) W/\W.cell? ⟨zb,3,none⟩=some (.int .i64 u)/\W.frozen? ⟨zb,3,none⟩=false/\0<=u/\u<=1000000000 /\
   jaT (W.setCell ⟨zb,3,none⟩ (.int .i64 (u+1))) s bm room (jkd r.data.toList (jeE T S1))/\jae (fun z=>z∈S1.map (·.2.1)) w5 (W.setCell ⟨zb,3,none⟩ (.int .i64 (u+1))):=by
 have O:(atL (jeE T S1) r.data.toList).isSome=true:=by rw[jnX (jgT T S1)];exact hr
 obtain⟨y,E⟩:=dG.1 O
 have m:=(ja7 E).1;have J:=h.st.mp.items y m
 obtain⟨X,hb,Q⟩:=J.cells
 have o:=h.st.mp.look r false;rw[E]at o;simp only[cI,if_false]at o;have K:jae (fun z=>z=y.2.1) W (W.setCell ⟨y.2.1,3,none⟩ (.int .i64 (y.2.2.held+1))):=jae.oneSet W ⟨y.2.1,3,none⟩ _;have H:y.2.1∈S1.map (·.2.1):=by rw[<-jgS T S1];exact bI.2 ⟨y,m,rfl⟩
 have A:=jjs T S1 0 1000000000 hu y m
 refine⟨y.2.1,y.2.2.held,o,hb.cell (i:=3) vF,hb.frozen,A.1,A.2,⟨h.st.st.keeps K (fun e=>?_),?_⟩,h.kp.trans (K.mono (fun z _ e=>by have e:z=_:=e;rw[e];exact H))⟩
 ·have e:s=y.2.1:=e
  rw[e]at h
  have:=hb.uniq h.st.st;injection this with _ h2;exact absurd h2 vI
 ·rw[<-jqr h.st.mp E]
  exact h.st.mp.setF J (.inr rfl) _
def jc1(G:vT)(F:vM):vT:=F.filterMap fun x=>atL G x.data.toList
theorem jqd{G:vT}{F:vM}{i:Nat}{x:vB}{y:Nd5}(hx:F[i]?=some x)(hy:atL G x.data.toList=some y):jc1 G (F.take (i+1))=jc1 G (F.take i)++[y]:=by
 unfold jc1;rw[bS,hx,List.filterMap_append];simp[hy]
theorem jbF{G:vT}{F:vM}{y:Nd5}(h:y∈jc1 G F):y∈G/\∃ x∈F,y.1=x.data.toList:=by
 obtain⟨x,m,e⟩:=List.mem_filterMap.1 h
 exact⟨(ja7 e).1,x,m,(ja7 e).2⟩
theorem jwJ{A B:vT}{k:Key}(h:∀ x∈B,k≠x.1):atL (A++B) k=atL A k:=by
 unfold atL;rw[iO]
 have:B.find? (fun x=>decide (k=x.1))=none:=by rw[List.find?_eq_none];simpa using h
 rw[this];simp
theorem jdn.notRow{W:vW}{bm:Nat}{L:vT}(h:jdn W bm L):jjf W (fun z=>z=bm):=fun z m E e o=>by
 obtain⟨H,J,A,_⟩:=h.mp
 have e:z=bm:=e;subst e
 have:=A.uniq o;cases this
structure Ad1(w4:World)(s bm bg:Nat)(room:Int)(S G:vT)(F:vM)(v:Value)(i:Nat)(W:World):Prop where
 kp:jae (fun z=>z=bm) w4 W
 st:jaT W s bm room (S++jc1 G (F.take i))
 gv:jdn W bg G
 row:W.ownsRow 0 9 1 v F.length (F.map Value.string)
theorem Ad1.ext{w4:vW}{s bm bg:Nat}{room:Int}{S G:vT}{F:vM}{v:vV}{i:Nat}{W W':vW}(h:Ad1 w4 s bm bg room S G F v i W)(e:Ext W W'):Ad1 w4 s bm bg room S G F v i W':=
 ⟨h.kp.trans (e.mono (fun _ _ g=>g.elim)),h.st.ext e,h.gv.ext e,jbl h.row e⟩
theorem Ad1.put{w4:vW}{s bm bg:Nat}{room:Int}{S G:vT}{F:vM}{v:vV}{i:Nat}{W:vW}(h:Ad1 w4 s bm bg room S G F v i W)
  (hSG:∀ x∈S,∀ y∈G,x.2.1≠y.2.1) (hbg:bg≠bm) (hv:∀ z,v.ownBlock=some z->z≠bm) (hnd:F.Nodup) (hFS:∀ x∈F,atL S x.data.toList=none)
  {x:vB} {y:Nd5} (hx:F[i]?=some x) (hy:atL G x.data.toList=some y) :
  ∃ o,(Instr.mapUpdate 71 (.map (some bm)) (.string x) (.pointer (some ⟨y.2.1,0,none⟩))).run Tryz.prog W=.ok () (W.putObj bm o)/\Ad1 w4 s bm bg room S G F v (i+1) (W.putObj bm o):=by
 have Z:∀ z∈jc1 G (F.take i),x.data.toList≠z.1:=fun z m e=>by
  obtain⟨_,x',K,e'⟩:=jbF m
  have:=jmX (e.trans e')
  subst this;exact jqa hnd hx K
 have hn:atL (S++jc1 G (F.take i)) x.data.toList=none:=by rw[jwJ Z];exact hFS x (bE hx)
 have A:=(ja7 hy).1;have E:=(ja7 hy).2;have H:∀ z∈S++jc1 G (F.take i),z.2.1≠y.2.1:=fun z m e=>by
  rcases bW.1 m with m | m
  ·exact hSG z m y A e
  ·have:=jbq h.gv.blks (jbF m).1 A e
   subst this;exact Z z m E.symm
 obtain⟨o,O,hA⟩:=h.st.mp.put x hn (h.gv.items y A) H
 have J:jae (fun z=>z=bm) W (W.putObj bm o):=jae.onePut W bm o;have hN:=h.st.mp.notRow;have Q:∀ {c:Nat} {it:It},jeR W c it->¬ c=bm:=fun hi e=>by
  obtain⟨_,hc,_⟩:=hi.cells
  obtain⟨es,ck,X,_⟩:=h.st.mp.mp
  subst e
  have:=X.uniq hc;cases this
 refine⟨o,O,h.kp.trans J,⟨h.st.st.keeps J (fun e=>?_),?_⟩,h.gv.keeps J hbg (fun z m=>Q (h.gv.items z m)) hN,ja2 h.row J (fun z m e=>hv z m e)⟩
 ·have e:s=bm:=e
  obtain⟨es,ck,X,_⟩:=h.st.mp.mp
  subst e
  have:=X.uniq h.st.st;cases this
 ·rw[jqd hx hy, <-cB]
  have e:(x.data.toList,y.2.1,y.2.2)=y:=by rw[<-E]
  rw[e]at hA;exact hA
theorem jyN(A B:vT)(k:Key):(atL (A++B) k).isSome=((atL A k).isSome ||(atL B k).isSome):=by
 unfold atL;rw[iO,Option.isSome_or]
def AdR2(w5:vW)(s bm bg:Nat)(room:Int)(S1 G:vT)(F:vM)(v iv:vV)(W:vW):Prop:=∃ i:Nat,i<=F.length/\iv=.int .i64 i/\Ad2 w5 s bm bg room S1 G F v ((F.take i).flatMap (jbZ G)) W
def AdR3(w5:vW)(s bm bg:Nat)(room:Int)(S1 G:vT)(F:vM)(v:vV)(T R:vM)(rv jv:vV)(W:vW):Prop:=∃ j:Nat,j<=R.length/\jv=.int .i64 j/\Ad2 w5 s bm bg room S1 G F v (T++R.take j) W/\W.ownsRow 0 9 1 rv R.length (R.map Value.string)
def AdR1(w4:vW)(s bm bg:Nat)(room:Int)(S G:vT)(F:vM)(v iv:vV)(W:vW):Prop:=∃ i:Nat,i<=F.length/\iv=.int .i64 i/\Ad1 w4 s bm bg room S G F v i W
theorem jtm(w:vW)(a:Option Addr)(c:Nat):vR 32 #[.slice a 0 c] w (.tuple #[.map none,.int .i64 2]):=by
 go_enter Tryz.func32,Tryz.ntmps32;go_wp2_with fail
 go_ret2
 exact⟨rfl,ExtR w⟩
theorem jwD(w:vW)(p:vV)(a:Option Addr)(c:Nat):vR 9 #[p,.slice a 0 c] w (.tuple #[.string ⟨#[]⟩,.int .i64 2]):=by
 go_enter Tryz.func9,Tryz.ntmps9;go_wp2_with fail
 refine vH (jtm w a c) fun w1 e=>?_;go_wp2_with fail
 go_ret2
 exact⟨rfl,e.o⟩
def InjL(l:vM):Prop:=∀ x∈l,∀ y∈l,shaB x=shaB y->x=y
theorem InjL.step{L:vM}{i:Nat}{t:vB}(h:InjL (L.take i))(ht:L[i]?=some t)(hs:∀ x∈L.take i,shaB x=shaB t->x=t):InjL (L.take (i+1)):=by
 intro x m y o e;rw[bS,ht]at m o;rcases bW.1 m with h1 | h1 <;> rcases bW.1 o with h2 | h2
 ·exact h x h1 y h2 e
 ·simp at h2;subst h2;exact hs x h1 e
 ·simp at h1;subst h1;exact (hs y h2 e.symm).symm
 ·simp at h1 h2;rw[h1,h2]
def ApR1(w:vW)(L:vM)(hv iv:vV)(W:vW):Prop:=∃ i:Nat,i<=L.length/\iv=.int .i64 i/\SRow w W hv i ((L.take i).map shaB)/\InjL (L.take i)
def ApR2(w4:vW)(L:vM)(t:vB)(i:Nat)(kv:vV)(W:vW):Prop:=∃ k:Nat,k<=i/\kv=.int .i64 k/\Ext w4 W/\∀ x∈L.take k,shaB x=shaB t->x=t
def ApP(L:vM)(w:vW)(e:Ending)(w':vW):Prop:=∃ b,e=.returned (.bool b)/\(b=true↔InjL L)/\Ext w w'
theorem jmV(w:vW)(hc:jbW w)(v:vV)(L:vM)(hv:RdS w v L)(hl:L.length<=1000000):vQ 13 #[v] w (ApP L w):=by
 obtain⟨a,c,rfl,_⟩:=hv.slice
 have HV:=Hd hv;have HC:=Hd hc;clear hv hc;go_enter Tryz.func13,Tryz.ntmps13;go_wp2_with fail
 go_loopw [3,4] (fun hv iv wr=>ApR1 w L hv iv wr) (fun _ iv _=>L.length - (intOf iv).toNat)
 case atStart=>exact⟨0,cD _,rfl,ORow.nil _ _ (ExtR w),fun x K=>by cases K⟩
 case round =>
  obtain⟨i,hi,rfl,hR,hI⟩:=hrel
  obtain⟨ah,ch,rfl⟩:=hR.sl
  have HR:=Hd hR;have HI:=Hd hI;clear hR hI
  by_cases hlt:i < L.length
  ·have b1:(i:Int) < (L.length:Int):=vO
   obtain⟨t,ht⟩:∃ t,L[i]?=some t:=⟨_,bA hlt⟩
   obtain⟨ax,cx,hh,m⟩:=HV.o.slice
   obtain⟨ba,oa,a9,X⟩:=m i t ht
   subst a9;cases hh;have q1:=jaa X HR.o.ext;have HT:=Hd ht;have b0:=Hd X;have b4:=Hd (show ∀ (j:Nat) x,L[j]?=some x->w.cell? ⟨ba,oa+j,none⟩=some (.string x)from fun j x K=>by
    obtain⟨b',o',e,h⟩:=m j x K
    cases e;exact h)
   clear m X ht;go_wp2_with fail
   refine vH (of_t _ _ [t] (by simp) (jdp wr [t] 9) (HC.o.ext (HR.o.ext.alloc _))) fun w4 hE=>?_;rw[jdX];have Z:=((ExtR wr).alloc (.cells #[.string t] 9)).trans hE;have a0:=Hd (HR.o.mono Z);have a1:=Hd (HR.o.ext.trans Z)
   obtain⟨sh,a2⟩:=vE (shaB t)
   have a3:=Hd a2;rw[<-a2];clear Z a2 q1 HR;go_wp2_with fail
   go_loopw [6] (fun kv b5=>ApR2 w4 L t i kv b5) (fun kv _=>i - (intOf kv).toNat)
   case atStart=>exact⟨0,cD _,rfl,ExtR w4,fun x K=>by cases K⟩
   case round =>
    obtain⟨k,hk,rfl,hE,hs⟩:=hrel
    have H:=Hd hE;have HS:=Hd hs;clear hE hs
    by_cases hlt2:k < i
    ·have b2:(k:Int) < (i:Int):=vO
     have b3:(k:Int) < (L.length:Int):=vO
     obtain⟨x,K⟩:∃ x,L[k]?=some x:=⟨_,bA vO⟩
     have O:((L.take i).map shaB)[k]?=some (shaB x):=by rw[bV,List.getElem?_take,if_pos hlt2,K];rfl
     have a7:=jjO a0.o.own;have A:∃ bh oh,ah=some ⟨bh,oh,none⟩/\w4.cell? ⟨bh,oh+k,none⟩=some (.string (shaB x)):=by
      rcases a7 with⟨_,_,_,h0⟩ |⟨bq,oq,cq,hh,_,_,m⟩
      ·rw[h0]at O;cases O
      ·exact⟨bq,oq,(cT hh).1,m k _ O⟩
     obtain⟨bh,oh,rfl,A⟩:=A
     obtain⟨sx,a4⟩:=vE (shaB x)
     rw[<-a4]at A;have a8:=Hd a4;have Q1:=Hd (jaa A H.o);have Q2:=Hd (jaa (b4.o k x K) (a1.o.trans H.o));have Q3:=Hd (jaa b0.o (a1.o.trans H.o));have HX:=Hd K;clear K O a7 A a4;go_wp2_with fail
     refine jah [0,1,2,3,4,5,6,7,8,9,10,11,12,13,14,15,16] Ext ExtR ExtT vY vY vY ?_;iterate 3 refine vK ?_
     refine qKL ⟨bh,oh+k,none⟩ _ rfl (fun w1 E=>jab Tryz.underlying9 rfl (jaa Q1.o ((jai _).trans E))) ?_;refine vS ?_;iterate 3 refine vK ?_
     cases hq:(sx.toList == sh.toList)with
     | false =>
      have HN:=Hd (show shaB x=shaB t->x=t from fun e=>by
       rw[<-a8.o, <-a3.o]at e;rw[e]at hq;simp at hq)
      clear hq;iterate 9 (refine qKS _ rfl ?_;refine vS ?_)
      refine vK ?_
      refine qKE (fun w5 Q=>?_);have J:=Hd (H.o.trans ((jai _).trans Q));have a5:=Hd (show ∀ z∈L.take (k+1),shaB z=shaB t->z=t from fun z hz e=>by
       rw[bS,HX.o]at hz;rcases bW.1 hz with E | E
       ·exact HS.o z E e
       ·simp at E;subst E;exact HN.o e)
      clear Q Q1 Q2 Q3 H HS;go_wp2_with fail
      go_roundw
      case rel=>exact⟨k+1,by omega,by go_num,J.o,a5.o⟩
      case measure=>exact vJ
     | true =>
      have b6:=Hd (show shaB x=shaB t by rw[<-a8.o, <-a3.o];exact jdE (by simpa using hq));clear hq;iterate 3 refine vK ?_
      refine qKL ⟨ba,oa+k,none⟩ _ rfl (fun w1 E=>jab Tryz.underlying9 rfl (jaa Q2.o ((jai _).trans E))) ?_;refine vS ?_;iterate 3 refine vK ?_
      refine qKL ⟨ba,oa+i,none⟩ _ rfl (fun w1 E=>jab Tryz.underlying9 rfl (jaa Q3.o ((jai _).trans E))) ?_;refine vS ?_
      refine vK ?_
      cases A:(x.toList == t.toList)with
      | true =>
       have HN:Hid (x=t):=(jdE (by simpa using A));have hb:(!true)=false:=rfl;clear A;rw[hb]
       refine vK ?_
       refine qKE (fun w5 Q=>?_);have J:=Hd (H.o.trans ((jai _).trans Q));have a5:=Hd (show ∀ z∈L.take (k+1),shaB z=shaB t->z=t from fun z hz e=>by
        rw[bS,HX.o]at hz;rcases bW.1 hz with E | E
        ·exact HS.o z E e
        ·simp at E;subst E;exact HN.o)
       clear Q Q1 Q2 Q3 H HS hb;go_wp2_with fail
       go_roundw
       case rel=>exact⟨k+1,by omega,by go_num,J.o,a5.o⟩
       case measure=>exact vJ
      | false =>
       have hb:(!false)=true:=rfl;have b7:=Hd (show ¬ InjL L from fun h=>by
        have:=h x (bE HX.o) t (bE HT.o) b6.o
        rw[this]at A;simp at A)
       clear A;rw[hb]
       refine vK ?_
       refine qKE (fun w5 Q=>?_);have J:=Hd (H.o.trans ((jai _).trans Q));clear Q Q1 Q2 Q3 H HS hb;go_wp2_with fail
       go_ret
       exact⟨false,rfl,⟨fun e=>(by cases e),fun h=>absurd h b7.o⟩,a1.o.trans J.o⟩
    ·have b8:k=i:=vO
     subst b8;have b9:=Hd (HI.o.step HT.o HS.o);have c0:=Hd (a0.o.mono H.o);have c1:=Hd (show (L.take (k+1)).map shaB=(L.take k).map shaB++[sh] by rw[bS,HT.o,bZ,a3.o];rfl);have c2:k+1<=maxLen:=by unfold maxLen;omega
     have c3:(k+1) * 16<=140737488355328:=vO
     clear HS HI H a0;go_wp2_with (at_builtin;refine jaS Tryz.sStrs (c0.o.mono ((ExtR wr).alloc _)) (.tmp 41) (.tmp 43) rfl rfl rfl (jaH (Blk.new wr _)) (news:=[.string sh]) (by intro u hu;simp at hu;rcases hu with rfl;rfl) rfl rfl c2 c3 ?_;intro v' w' r1 r2 r3)
     have a6:SRow w w' v' (k+1) ((L.take (k+1)).map shaB):=by unfold SRow;rw[c1.o,bZ];exact r1
     obtain⟨c7,c8,rfl⟩:=a6.sl
     have c4:=Hd a6;clear r1 r2 r3 a6;go_wp2_with fail
     go_roundw
     case rel=>exact⟨k+1,by omega,by go_num,c4.o,b9.o⟩
     case measure=>exact vJ
  ·have c5:i=L.length:=vO
   have c6:=Hd (show InjL L by have:=HI.o;rwa [c5,cE]at this);clear HI;go_wp2_with fail
   go_ret
   exact⟨true,rfl,⟨fun _=>c6.o,fun _=>rfl⟩,HR.o.ext⟩
end
def cK(T:vM)(k:Key):Nat:=(T.map (·.data.toList)).count k
theorem jyT(A B:vM)(k:Key):cK (A++B) k=cK A k+cK B k:=by unfold cK;rw[bZ,List.count_append]
theorem jke(r:vB)(B:vM)(k:Key):cK (r :: B) k=cK B k+(if k=r.data.toList then 1 else 0):=by
 unfold cK;rw[bT,List.count_cons]
 by_cases h:k=r.data.toList
 ·rw[if_pos h,h];simp
 ·rw[if_neg h,if_neg];simpa using fun e=>h e.symm
theorem jwQ{T:vM}{k:Key}(h:∀ r∈T,r.data.toList≠k):cK T k=0:=by
 unfold cK;rw[List.count_eq_zero];intro m
 obtain⟨r,o,e⟩:=bI.1 m
 exact h r o e
theorem jvZ{T:vM}{r:vB}(h:r∈T):1<=cK T r.data.toList:=by
 unfold cK;exact gT.2 (bI.2 ⟨r,h,rfl⟩)
def addU(n:Nat)(x:Nd5):Nd5:=(x.1,x.2.1,⟨x.2.2.text,x.2.2.refs,x.2.2.used+n,x.2.2.held⟩)
def addH(n:Nat)(x:Nd5):Nd5:=(x.1,x.2.1,⟨x.2.2.text,x.2.2.refs,x.2.2.used,x.2.2.held+n⟩)
theorem jn5:∀ (T:vM) (L:vT),jeE T L=L.map fun x=>addU (cK T x.1) x
 | [],L=>by
  show L=_
  have:(fun x:Nd5=>addU (cK [] x.1) x)=id:=by
   funext x
   obtain⟨a,b,⟨t,r,u,h⟩⟩:=x
   unfold addU cK;simp
  rw[this,List.map_id]
 | r :: T,L=>by
  show jeE T (jgb r.data.toList L)=_;rw[jn5 T,jgb,dO];refine dV fun x _=>?_;show addU (cK T (if x.1=r.data.toList then (x.1,x.2.1,putF 2 (x.2.2.used+1) x.2.2)else x).1) (if x.1=r.data.toList then (x.1,x.2.1,putF 2 (x.2.2.used+1) x.2.2)else x)=_;rw[jke]
  by_cases h:x.1=r.data.toList
  ·simp only[if_pos h]
   unfold addU putF;simp only[if_true];rw[show x.2.2.used+1+((cK T x.1:Nat):Int)=x.2.2.used+((cK T x.1+1:Nat):Int) by omega]
  ·simp only[if_neg h,fX]
theorem jub(r:vB)(L:vT):jkd r.data.toList L=L.map fun x=>addH (cK [r] x.1) x:=by
 unfold jkd;refine dV fun x _=>?_;rw[jke]
 by_cases h:x.1=r.data.toList
 ·rw[if_pos h,if_pos h];rfl
 ·rw[if_neg h,if_neg h]
  obtain⟨a,b,⟨t,r,u,h⟩⟩:=x
  unfold addH cK;simp
def jh8(T:vM)(r:vB)(x:Nd5):Nd5:=addH (cK [r] x.1) (addU (cK T x.1) x)
theorem jwO(T:vM)(r:vB)(L:vT):jkd r.data.toList (jeE T L)=L.map (jh8 T r):=by
 rw[jub,jn5,dO];rfl
theorem jra(T:vM)(r:vB)(L:vT):(L.map (jh8 T r)).map (·.1)=L.map (·.1):=by
 rw[dO];rfl
theorem jrb(T:vM)(r:vB)(L:vT):(L.map (jh8 T r)).flatMap (fun y=>y.2.2.refs)=L.flatMap (fun y=>y.2.2.refs):=by
 rw[List.flatMap_map];rfl
theorem jjR(G:vT):∀ F:vM,F.flatMap (jbZ G)=(jc1 G F).flatMap (fun y=>y.2.2.refs)
 | []=>rfl
 | x :: F=>by
  have e:=jjR G F;unfold jc1 at *;rw[dI,fW];cases h:atL G x.data.toList with
  | none=>rw[e];unfold jbZ;rw[h];rfl
  | some y=>rw[e,jfE h,dI]
theorem jdo{S:vT}{k:Key}:(atL S k).isSome=true↔k∈S.map (·.1):=by
 constructor
 ·intro h
  obtain⟨y,m⟩:=dG.1 h
  exact bI.2 ⟨y,(ja7 m).1,(ja7 m).2⟩
 ·intro h
  obtain⟨y,m,e⟩:=bI.1 h
  cases ha:atL S k with
  | some z=>rfl
  | none=>exact absurd e.symm (jj7.1 ha y m)
theorem jwK{S:vT}(hn:(S.map (·.1)).Nodup){x y:Nd5}{k:Key}(hx:x∈S)(e:x.1=k)(hy:atL S k=some y):y=x:=by
 obtain⟨m,o⟩:=ja7 hy
 exact jbq hn m hx (o.trans e.symm)
def jAr(L:vM)(top:vB):Prop:=∀ P:vB->Prop,(∀ t∈L,P (shaB t)->∀ h∈jaZ (nodeOf t),P h)->P (shaB top)->∀ t∈L,P (shaB t)
theorem jzj{U:vM}(hU:InjL U){s t:vB}(hs:s∈U)(ht:t∈U)(h:ky s=ky t):s=t:=hU s hs t ht (jmX h)
def addS(S G:vT)(M:vM)(top:vB):vT:=jkd (shaB top).data.toList (jeE ((frK S M).flatMap (jbZ G)) (S++jc1 G (frK S M)))
theorem jcw(S G:vT)(M:vM)(top:vB):addS S G M top=(S++jc1 G (frK S M)).map (jh8 ((frK S M).flatMap (jbZ G)) (shaB top)):=jwO _ _ _
theorem jAV(w:vW)(P:vB->Prop):∀ (f:Nat) (l:vL),jax f l->(∀ t∈jaB (jac (f+1) l),P (shaB t)->∀ h∈jaZ (nodeOf t),P h)->P (shaB (jaO (jao (jac f) l)))->∀ t∈jaB (jac (f+1) l),P (shaB t):=by
 intro f;induction f with
 | zero =>
  intro l h _ O t o;have X:jar (jac 0) l=[]:=by have:=jbM h;unfold jar;rw[if_pos vO]
  have E:jaB (jac (0+1) l)=[jaO (jao (jac 0) l)]:=by
   show jaB (.mk (jaO (jao (jac 0) l)) (jar (jac 0) l))=_;rw[jaB,X];simp[jaA]
  rw[E,cG]at o;subst o;exact O
 | succ f ih =>
  intro l h H O t o;have E:jaB (jac (f+1+1) l)=jaO (jao (jac (f+1)) l) :: jaA (jar (jac (f+1)) l):=by
   show jaB (.mk (jaO (jao (jac (f+1)) l)) (jar (jac (f+1)) l))=_;rw[jaB]
  have Z:=je9 (f+1) l h;have A:jbC (jaO (jao (jac (f+1)) l)) (jao (jac (f+1)) l):=⟨rfl,f+1,(good (f+1) l h).1⟩;rw[E]at o;rcases bX.1 o with rfl | o
  ·exact O
  obtain⟨K,Q,o⟩:=jbu.1 o
  obtain⟨g,m,eg,e,h1,a0⟩:=jlq h Q
  obtain rfl:f=g:=vO
  subst e;have J:∀ t∈jaB (jac (f+1) m),t∈jaB (jac (f+1+1) l):=fun t o=>by
   rw[E];exact bH _ (jbu.2 ⟨_,Q,o⟩)
  refine ih m h1 (fun t o=>H t (J t o)) ?_ t o;refine H _ (by rw[E];exact bK) O _ ?_;rw[jdz w (jci A) A,Z];exact bI.2 ⟨_,Q,rfl⟩
theorem jvs(w:vW){l:vL}(h:jaD l=0):jAr (jaU (jaB (jaF l))) (jaF l).text:=fun P m o t e =>
 jAV w P 12 (jaM l) (jbx (jaG h)) (fun t e=>m t ((jbb _ _).2 e)) o t ((jbb _ _).1 e)
theorem jqv(w:vW){l:vL}(h:jaD l=0)(hl:(jaU (jaB (jaF l))).length<=1000):jyD (jaU (jaB (jaF l))):=
 ⟨fun t m=>by obtain⟨n,e,_⟩:=(jk2 h).node t m;exact⟨n,e⟩,
  fun t m x o=>by
  obtain⟨n,e,A⟩:=(jk2 h).node t m
  rw[jdz w (jci e) e]at o;exact A x o,hl⟩
theorem jaT.nd{W:vW}{s bm:Nat}{room:Int}{S:vT}(h:jaT W s bm room S):(S.map (·.1)).Nodup:=by
 obtain⟨m,o,_,e⟩:=h.mp.mp
 have:=e.keys
 rw[dO]at this;exact this
section
attribute [local go_sem] Oper.semAt_some
def jaV(l:vL):vM:=jaU (jaB (jaF l))
theorem jb5{l:vL}(h:jaD l=0):(jaV l).length<=121:=by
 have e:=(jqw h).1;have m:=(jaG h).len;show (jaU (jaB (jaF l))).length<=_;omega
def jyo(l:vL)(w:vW)(e:Ending)(w':vW):Prop:=e=.returned (.tuple #[.pointer none,.string ⟨#[]⟩])/\Ext w w'/\¬(fewB l=true/\jaD l=0/\InjL (jaV l))
def jyw(l:vL)(w:vW)(e:Ending)(w':vW):Prop:=∃ a n c k,e=.returned (.tuple #[.slice a n c,.int .i64 k])/\Ext w w'/\k=jaD l/\(jaD l=0->n=(jaV l).length/\SRow w w' (.slice a n c) n (jaV l))
theorem jsB(w:vW)(hc:jbW w)(v:vV)(l:vL)(hv:RdP w v l)(hn:l.length<=9223372036854775807)(hs:jdH l) :
  vQ 8 #[v] w (jyw l w):=by
 by_cases h:jaD l=0
 ·refine (joN w v l hc hv h).mono ?_
  rintro e w' ⟨u,n,rfl,m⟩;have m:SRow w w' u n (jaV l):=m;have o:(jaV l).length=n:=by have:=m.len;simpa using this
  obtain⟨a,c,rfl⟩:=m.sl
  exact⟨a,n,c,0,rfl,m.ext,h.symm,fun _=>⟨o.symm,m⟩⟩
 ·refine (jl7 w v l hv hn hs h).mono ?_
  rintro e w' ⟨rfl,A⟩
  exact⟨none,0,0,jaD l,rfl,A,rfl,fun E=>absurd E h⟩
theorem jje{ops:Array Oper}{rest:List Oper}{d:Option Tmp}{ty:TypeId}{pos:String}{af:Array Edge}{a:Act}{w0 w1 w:vW}{Q:Exit->Act->vW->Prop}{s x:Operand}{v pv:vV}{n m N:Nat}{xs:List vV}{ys:vM}
  (hR:ORow 9 1 w0 w v n xs) (hP:SRow w1 w pv m ys) (hN:n+m=N) (hs:a.eval s=v) (hx:a.eval x=pv) (h63:N<=1000000)
  (h:∀ o w',ORow 9 1 w0 w' o N (xs++ys.map Value.string)->wpList Tryz.prog ops Q rest (a.put d o) w') :
  wpList Tryz.prog ops Q (⟨d,.call { callee:=.builtin .append,args:=#[s,x],argTypes:=#[30,30] },ty,pos,af,none⟩ :: rest) a w:=by
 subst hN
 obtain⟨h1,⟨rfl,A⟩ |⟨g,E,H,rfl,A,h4,h5,h6,h7⟩⟩:=hP.own
 ·have J:ys=[]:=by
   have:=hP.len
   rw[A]at this;exact bD (by simpa using this)
  subst J
  obtain⟨ad,c,rfl⟩:=hR.sl
  have K:n<=c:=by
   obtain⟨_,⟨e,e2⟩ |⟨g,E,H,e,_,_,k5,_⟩⟩:=hR.own
   ·omega
   ·obtain⟨_,_,e⟩:=cT e;omega
  refine jnP Tryz.sStrs hs hx K (h _ _ ?_);subst A;simpa using hR
 ·exact jaS Tryz.sStrs hR s x rfl hs hx (fun j u O=>hP.own.cells (g:=g) rfl j u O) (fun u X=>by obtain⟨y,_,rfl⟩:=bI.1 X;rfl) (by have:=hP.len;simpa using this) rfl (by unfold maxLen;omega) vO (fun o w' Z _ _=>h o w' Z)
theorem SRow.past{F:BSet}{w0 w w':vW}{v:vV}{n:Nat}{xs:vM}(h:SRow w0 w v n xs)(k:jae F w w')(hF:∀ b,F b->w0.heap.size<=b->w.heap.size<=b):w'.ownsRow 0 9 1 v n (xs.map Value.string):=
 ja2 h.own k fun b hb e=>by have:=h.new b hb;have:=h.lt b hb;have:=hF b e;omega
theorem joR{W:vW}{a:Option Addr}{n c:Nat}{xs:vM}(h:W.ownsRow 0 9 1 (.slice a n c) n (xs.map Value.string))(hn:0 < n):∃ g,a=some ⟨g,0,none⟩/\∀ (j:Nat) t,xs[j]?=some t->W.cell? ⟨g,j,none⟩=some (.string t):=by
 obtain⟨E,⟨e,A⟩ |⟨g,m,o,e,A⟩⟩:=h
 ·omega
 ·obtain⟨rfl,_,_⟩:=cT e
  refine⟨g,rfl,fun j t H=>?_⟩
  have h:W.ownsRow 0 9 1 (.slice (some ⟨g,0,none⟩) n c) n (xs.map Value.string):=⟨E,.inr ⟨g,m,o,e,A⟩⟩;have q:=h.cells (g:=g) rfl j (.string t) (by rw[bV,H];rfl)
  rwa [Addr.add_lit,cF]at q
end
section
section mixt
variable {P:Program} {l:List Oper} {E D:vW->vW->Prop}
def MixT(P:Program)(l:List Oper)(hd:List Nat)(E D:vW->vW->Prop)(Q:Act->vW->Prop):Nat->List Nat->Act->vW->Prop
 | 0,done,a,w=>∀ w1,E w w1->Region.ready .any l.toArray (jbc l done)=[]/\Q a w1
 | n+1,done,a,w =>
  (∃ k,k∈Region.ready .any l.toArray (jbc l done)/\Region.free .any l.toArray (jbc l done) k=true/\∃ o v,l[k]?=some o/\jb6 P l.toArray E D w o v a/\MixT P l hd E D Q n (k :: done) (a.put o.dst v) w) \/
  (Region.ready .any l.toArray (jbc l done)≠[]/\∀ k∈Region.ready .any l.toArray (jbc l done),k∈hd/\∀ w1,E w w1->wpOp P l.toArray NoQ k (fun a' w'=>D w1 w'/\MixT P l hd E D Q n (k :: done) a' w') a w1)
theorem je3(hE:∀ w,E w w)(hT:∀ x y z,E x y->E y z->E x z)(hD:∀ x y z,D x y->D y z->D x z)(hED:∀ x y,E x y->D x y)(hs:Region.noSelect l.toArray=true){hd:List Nat}{Q:Act->vW->Prop}:∀ (n:Nat) (done:List Nat) (a:Act) (w:vW),
  MixT P l hd E D Q n done a w->anyD P l.toArray hd E D Q n (jbc l done) a w
 | 0,_,_,_,h=>h
 | n+1,done,a,w,h=>by
  rcases h with⟨k,hr,hf,o,v,ho,hy,h⟩ |⟨hr,h⟩
  ·have e:l.toArray[k]?=some o:=by simpa using ho
   exact jjp hE hT hD hED e (gJ hs) n (jbc l done) a w (gZ e hf) hr hy (je3 hE hT hD hED hs n _ _ _ h)
  ·intro w1 A
   refine⟨fun H=>absurd H hr,fun i J=>?_⟩
   obtain⟨K,O⟩:=h i J
   exact wpOp_mono (fun Z w' m=>⟨m.1,fun X=>absurd K X,je3 hE hT hD hED hs n _ _ _ m.2⟩) (O w1 A)
theorem jdk{hd:List Nat}{Q:Act->vW->Prop}:∀ (ord done:List Nat) (a:Act) (w:vW),MixD P l hd E D Q ord done a w->MixT P l hd E D Q ord.length done a w
 | [],_,_,_,h=>h
 | k :: ord,done,a,w,h=>by
  rcases h with⟨hr,hf,o,v,ho,hy,h⟩ |⟨hr,hk,h⟩
  ·exact .inl ⟨k,hr,hf,o,v,ho,hy,jdk ord _ _ _ h⟩
  ·refine .inr ⟨by rw[hr];simp,fun i e=>?_⟩
   rw[hr]at e;obtain rfl:i=k:=by simpa using e
   exact⟨hk,fun w1 A=>wpOp_mono (fun H w' m=>⟨m.1,jdk ord _ _ _ m.2⟩) (h w1 A)⟩
theorem jjn(n:Nat)(hd:List Nat)(E D:vW->vW->Prop)(hE:∀ w,E w w)(hT:∀ x y z,E x y->E y z->E x z)(hD:∀ x y z,D x y->D y z->D x z)(hED:∀ x y,E x y->D x y){id:Nat}{Q:Exit->Act->vW->Prop}{a:Act}{w:vW}
  (hm:P.follows .mixedOrders=true) (hs:Region.noSelect l.toArray=true) (hl:n=l.toArray.size)
  (h:MixT P l hd E D (fun a w=>Q .normal a w) n [] a w.drew):(Code.region id l.toArray true).wp P Q a w:=by
 refine wp_region_any hm ?_;rw[<-hl]
 have:=je3 hE hT hD hED hs n _ _ _ h
 unfold jbc at this;rw[hl]at this ⊢;exact jgO hE (fun _ _ h=>h) _ _ _ _ this
variable {Q:Act->vW->Prop} {done hd:List Nat} {a:Act} {w:vW} {n:Nat}
theorem jgr(k:Nat)(o:Oper)(ho:l[k]?=some o)(hk:headD l done k=true)(hw:Region.wanted o (yielded l.toArray a.tmps)=true)(hq:jiH o.op=true)
  (h:∀ K:Act->Prop,(∀ a',MixT P l hd E D Q n (k :: done) a' w->K a')->o.quiet P a (fun _=>True) K):MixT P l hd E D Q (n+1) done a w:=by
 simp only[headD,cJ,cO]at hk
 obtain⟨v,A,H⟩:=h _ (fun _ h=>h)
 have m:jb6 P l.toArray E D w o v a:=by
  refine .inl ⟨hw,fun w1 _=>?_⟩;have e:=A w1 trivial;unfold Oper.quietAt at e;have J:=fun f args w'=>jiW (ρ:=a.eval) hq P w1 w' f args;generalize (execOp a.eval o).run P w1=r at *;cases r with
  | ok n w'=>cases n <;> simp only[Oper.quietUpon]at e <;> first | exact e | exact absurd rfl (J _ _ _)
  | halt x w'=>simp only[Oper.quietUpon]at e
 exact .inl ⟨k,hk.1,hk.2,o,v,ho,m,H⟩
theorem jsq(k:Nat)(p:Addr)(v:vV){t:TypeId}{x:Operand}{d:Option Tmp}{ty:TypeId}{pos:String}{af:Array Edge}{g:Option (Nat × Bool)}(ho:l[k]?=some ⟨d,.load t x,ty,pos,af,g⟩)(hk:headD l done k=true)
  (hw:Region.wanted ⟨d,.load t x,ty,pos,af,g⟩ (yielded l.toArray a.tmps)=true) (hx:a.eval x=.pointer (some p))
  (hv:∀ w1,D w w1->(Instr.loadAt t (.pointer (some p))).run P w1=.ok v w1) (h:MixT P l hd E D Q n (k :: done) (a.put d v) w):MixT P l hd E D Q (n+1) done a w:=by
 simp only[headD,cJ,cO]at hk;refine .inl ⟨k,hk.1,hk.2,_,v,ho,.inl ⟨hw,fun w1 e=>?_⟩,h⟩
 have:=hv w1 e
 simp only[execOp,hx,cA,this,Result.andThen,cR]
 exact⟨rfl,rfl⟩
def twoD(l:List Oper)(hd done:List Nat)(j k:Nat):Bool:=Region.ready .any l.toArray (jbc l done) == [j,k] && hd.contains j && hd.contains k
theorem joL(j k:Nat)(o1 o2:Oper)(m:twoD l hd done j k=true)(h01:l[j]?=some o1)(h02:l[k]?=some o2)
  (hw1:Region.wanted o1 (yielded l.toArray a.tmps)=true) (hw2:Region.wanted o2 (yielded l.toArray a.tmps)=true)
  (H:∀ w1,E w w1->∀ K:Act->vW->Prop,(∀ e w',D w1 w'->MixT P l hd E D Q n (j :: done) e w'->K e w')->o1.wp P a w1 K NoQ)
  (J:∀ w1,E w w1->∀ K:Act->vW->Prop,(∀ e w',D w1 w'->MixT P l hd E D Q n (k :: done) e w'->K e w')->o2.wp P a w1 K NoQ):MixT P l hd E D Q (n+1) done a w:=by
 simp only[twoD,cJ,beq_iff_eq,cO]at m
 obtain⟨⟨m,O⟩,X⟩:=m
 refine .inr ⟨by rw[m];simp,fun i A=>?_⟩;rw[m]at A;have go:∀ (i:Nat) (o:Oper),l[i]?=some o->Region.wanted o (yielded l.toArray a.tmps)=true->(∀ w1,E w w1->∀ K:Act->vW->Prop,(∀ e w',D w1 w'->MixT P l hd E D Q n (i :: done) e w'->K e w')->o.wp P a w1 K NoQ)->∀ w1,E w w1->wpOp P l.toArray NoQ i (fun e w'=>D w1 w'/\MixT P l hd E D Q n (i :: done) e w') a w1:=fun i o ho hw h w1 he=>by
  unfold wpOp;have Z:l.toArray[i]?=some o:=by simpa using ho
  simp only[Z,hw,if_true];exact .inl (h w1 he _ (fun _ _ H J=>⟨H,J⟩))
 rcases bX.1 A with rfl | A
 ·exact⟨O,go _ o1 h01 hw1 H⟩
 ·obtain rfl:=cG.1 A
  exact⟨X,go _ o2 h02 hw2 J⟩
end mixt
end
end Go.Proofs.YtegloohdmjadoaaGreatDoor
