/- Lemmas; each is under no condition but those that it states. -/
import Derived.Test.YtegloohdmjadoaaGreatDoorPu35
import Derived.Lib.SmallJoins
namespace Go.Proofs.YtegloohdmjadoaaGreatDoor
set_option linter.unusedSimpArgs false
set_option linter.unusedVariables false
set_option maxRecDepth 100000
set_option maxHeartbeats 16000000
section
open Go Go.RowKit
theorem jrW{T:PT}{t:vB}(h:t∈jaA (jbo T)):32<=T.text.size/\t∈jaB T:=by
 unfold jbo at h
 by_cases hs:T.text.size < 32
 ·rw[if_pos hs]at h;cases h
 ·rw[if_neg hs]at h
  refine⟨by omega,?_⟩
  simpa [jaA]using h
theorem jt2{f:Nat}{l:vL}(h:jax (f+1) l){t:vB}(e:t∈jaA (jar (jac (f+1)) l)):∃ p m q,jaz p=true/\goL l p=some (m,q)/\32<=(jac (f+1) m).text.size/\t∈jaB (jac (f+1) m):=by
 unfold jar at e
 by_cases h1:l.length<=1
 ·rw[if_pos h1]at e;cases e
 rw[if_neg h1]at e;have A:l.getD 0 pd∈l:=jdt vO
 by_cases hk:0 < comK l
 ·rw[if_pos hk]at e
  obtain⟨E,H⟩:=jrW e
  refine⟨(l.getD 0 pd).1,jak (comK l) l,(l.getD 0 pd).1.extract (comK l) (l.getD 0 pd).1.size,(h.size _ A).2.2.1,?_,E,H⟩
  unfold goL;rw[if_neg h1,if_pos hk,if_pos];refine (jiU _ _).2 ⟨(l.getD 0 pd).l.drop (comK l),?_⟩;rw[jgn];exact (cQ _ _).symm
 ·rw[if_neg hk]at e
  rw[jbu]at e
  obtain⟨T,o,e⟩:=e
  obtain⟨i,O,o⟩:=fA.1 o
  have K:i < 16:=by simpa using O
  by_cases hc:(cutL i l).length=0
  ·rw[if_pos hc]at o;cases o
  rw[if_neg hc]at o;have Q:t∈jaA (jbo (jac (f+1) (jak 1 (cutL i l)))):=jbu.2 ⟨T,o,e⟩
  obtain⟨E,H⟩:=jrW Q
  obtain⟨y,X⟩:=List.exists_mem_of_length_pos (by omega:0 < (cutL i l).length)
  obtain⟨J,x,r,Z,e2⟩:=jbB X
  refine⟨y.1,jak 1 (cutL i l),y.1.extract 1 y.1.size,(h.size _ J).2.2.1,?_,E,H⟩
  unfold goL;rw[if_neg h1,if_neg hk,show y.1.data.toList=x :: r from Z];show (if (cutL x.toNat l).length=0 then none else some (jak 1 (cutL x.toNat l),y.1.extract 1 y.1.size))=_;rw[e2,if_neg hc]
theorem jls:∀ (f:Nat) (l:vL),jax f l->∀ t∈jaA (jar (jac f) l),∃ g m,jAw f l t g m
 | 0,l,h,t,ht=>by
  unfold jar at ht;rw[if_pos (jbM h)]at ht;cases ht
 | f+1,l,h,t,ht=>by
  obtain⟨p,m,q,J,K,o,A⟩:=jt2 h ht
  have E:=jiB h J K;have O:jaB (jac (f+1) m)=jaO (jao (jac f) m) :: jaA (jar (jac f) m):=by
   show jaB (.mk (jaO (jao (jac f) m)) (jar (jac f) m))=_;rw[jaB]
  rw[O]at A;rcases bX.1 A with e | A
  ·exact⟨f,m,⟨Nat.lt_succ_self _,E.rows,E.ne,e,by rw[e];exact o,E.sum,E.flat⟩⟩
  ·obtain⟨g,n,H⟩:=jls f m E.rows t A
   exact⟨g,n,⟨Nat.lt_succ_of_lt H.lt,H.rows,H.ne,H.text,H.big,Nat.lt_trans H.sum E.sum,fun x Q o=>E.flat x (H.flat x Q o) o⟩⟩
theorem jtx(w:vW){m:vL}(h:jaD m=0)(hU:InjL (jaV m)):(jaF m).text ∉ belowM m:=fun J=>by
 rw[jfs h]at J;have K:=jbx (jaG h)
 obtain⟨g,n,o⟩:=jls 12 (jaM m) K _ J
 have O:=o.rows.mono (iJ o.lt);have e:=(jpC g 12 n o.rows (iJ o.lt)).2;have A:∀ x∈jaB (jac (12+1) (jaM m)),x∈jaV m:=fun x E=>(jbb _ _).2 E
 have:=jsH w 12 (jaM m) n K O (fun x E y H=>by
  rw[<-e]at H;refine hU x (A x E) y (A y (o.flat y H ?_));rcases juy o.rows H with e | e
  ·rw[e, <-o.text];exact o.big
  ·exact e) (by rw[<-e];exact o.text)
 have:=o.sum
 subst_vars
 omega
theorem jhe{l:vM}{x:vB}(h:x ∉ l):memB l x=false:=by
 rw[dC];exact fun e=>h ((jc0 l x).1 e)
theorem jlK{a:vB}:∀ (l acc:vM),a ∉ l->l.foldl addF (a :: acc)=a :: l.foldl addF acc
 | [],acc,_=>rfl
 | x :: l,acc,h=>by
  have m:x≠a:=fun e=>h (by rw[e];exact bK);have o:a ∉ l:=fun e=>h (bH _ e);rw[cN,cN];have e:addF (a :: acc) x=a :: addF acc x:=by
   unfold addF
   by_cases hm:x∈acc
   ·rw[if_pos ((jc0 _ _).2 hm),if_pos ((jc0 _ _).2 (bH _ hm))]
   ·rw[if_neg (by rw[jhe (fun e=>(bX.1 e).elim m hm)];decide),if_neg (by rw[jhe hm];decide)];rfl
  rw[e];exact jlK l _ o
theorem jnf{a:vB}{l:vM}(h:a ∉ l):jaU (a :: l)=a :: jaU l:=by
 unfold jaU;rw[cN];have e:addF [] a=[a]:=by unfold addF;rw[if_neg (by rw[jhe (by simp)];decide)];rfl
 rw[e];exact jlK l [] h
def txtO(S:vT)(k:vB):vB:=((atL S k.data.toList).map (·.2.2.text)).getD ⟨#[]⟩
def thL(S:vT):vM:=(baL (jea (S.map (·.1)))).map (txtO S)
theorem jpj{S:vT}(hn:(S.map (·.1)).Nodup){t:vB}:t∈thL S↔∃ x∈S,x.2.2.text=t:=by
 have m:(jea (S.map (·.1))).Perm (S.map (·.1)):=gE _ _;unfold thL baL;rw[dO,bI];constructor
 ·rintro⟨k,o,rfl⟩
  obtain⟨x,e⟩:=dG.1 (jdo.2 (m.mem_iff.1 o))
  refine⟨x,(ja7 e).1,?_⟩
  show x.2.2.text=txtO S _;unfold txtO;rw[show (⟨k.toArray⟩:vB).data.toList=k by simp,e];rfl
 ·rintro⟨x,e,rfl⟩
  refine⟨x.1,m.mem_iff.2 (bI.2 ⟨x,e,rfl⟩),?_⟩
  show txtO S _=x.2.2.text;unfold txtO;rw[show (⟨x.1.toArray⟩:vB).data.toList=x.1 by simp,jq3 hn e rfl];rfl
theorem jvO(w:vW){S:vT}(hn:(S.map (·.1)).Nodup)(hk:∀ x∈S,x.1=ky x.2.2.text){m:vL}(h:jaD m=0)(hU:InjL (thL S++jaV m)):upd8 (thL S) (jaV m)=newM S m:=by
 have A:InjL (jaV m):=fun x o y Q=>hU x (gY _ o) y (gY _ Q);have E:=jtx w h A;have e:jaB (jaF m)=(jaF m).text :: belowM m:=by rw[jfs h];show jaB (.mk _ _)=_;rw[jaB];rfl
 have K:jaV m=(jaF m).text :: jaU (belowM m):=by unfold jaV;rw[e,jnf E]
 unfold newM upd8 freshU;rw[K];show [(jaF m).text]++(jaU (belowM m)).filter _=_;rw[gI]
 congr 1
 refine List.filter_congr fun t E=>?_;have H:t∈jaV m:=by rw[K];exact bH _ E
 unfold lackB
 by_cases hin:t∈thL S
 ·obtain⟨x,o,X⟩:=(jpj hn).1 hin
  rw[jrZ hin]
  have:atL S (shaB t).data.toList=some x:=jq3 hn o (by rw[hk x o,X];rfl)
  rw[this];rfl
 ·rw[jv8 hin]
  cases ha:atL S (shaB t).data.toList with
  | none=>rfl
  | some x =>
   exfalso
   obtain⟨o,J⟩:=ja7 ha
   have O:x.2.2.text∈thL S:=(jpj hn).2 ⟨x,o,rfl⟩;have Z:shaB x.2.2.text=shaB t:=by
    have h3:(shaB x.2.2.text).data.toList=(shaB t).data.toList:=by rw[<-J,hk x o];rfl
    exact jbE h3
   exact hin (by rw[<-hU _ (iD _ O) _ (gY _ H) Z];exact O)
theorem jx2{W0 W W':vW}{s bm:Nat}{room:Int}{U:vM}{S:vT}{n k:Nat}{L:vM}{top:vB}{G:vT}{M:vM}{e:Ending}(h:Tst W0 W s bm room U S n)(hA:AddY W s bm room S L top G M e W')(hs:∀ t∈L,t∈U)(hl:L.length<=k)(hl2:L.length<=1000)(h1:1<=k):Tst W0 W' s bm room U (addS S G M top) (n+k):=by
 have E:=hA.given;have H:=hA.cntS hl2 h.kp.cnt h.kp.full
 refine⟨h.ext.trans' hA.kp (fun z m e=>?_),hA.st,⟨fun x o=>?_,H.1,H.2⟩,by have:=hA.len2;have:=h.len;omega,h.bnew,fun x o=>?_,fun x o=>?_⟩
 ·rcases e with e | e
  ·have:=h.bnew;omega
  ·obtain⟨y,A,e⟩:=bI.1 e
   have:=h.new y A;omega
 ·rw[jcw]at o
  obtain⟨z,m,rfl⟩:=bI.1 o
  rcases bW.1 m with m | m
  ·exact h.kp.is z m
  ·obtain⟨t,K,O,J⟩:=jcG E (jbF m).1
   exact⟨t,hs t K,O,by show z.2.2.text=t;rw[J];rfl,by show z.2.2.refs=_;rw[J];rfl⟩
 ·rcases hA.newS x o with e | e
  ·obtain⟨y,A,e⟩:=bI.1 e
   have:=h.new y A;omega
  ·have:=h.ext.size;omega
 ·have:=jov (n:=(n:Int)) h.hb vO E x o
  omega
theorem Tst.own{W0 W:vW}{s bm:Nat}{room:Int}{U:vM}{S:vT}{n:Nat}(h:Tst W0 W s bm room U S n):Tst W0 W s bm room (thL S) S n:=
 ⟨h.ext,h.st,⟨fun x e=>by
  obtain⟨t,_,o,m,A⟩:=h.kp.is x e
  exact⟨t,(jpj h.st.nd).2 ⟨x,e,m⟩,o,m,A⟩,h.kp.cnt,h.kp.full⟩,h.len,h.bnew,h.new,h.hb⟩
theorem Kp.keys{U:vM}{S:vT}(h:Kp U S):∀ x∈S,x.1=ky x.2.2.text:=fun x e=>by
 obtain⟨t,_,m,o,_⟩:=h.is x e
 rw[o];exact m
theorem Tst.up{W0 W:vW}{s bm:Nat}{room:Int}{U:vM}{S:vT}{n m:Nat}(h:Tst W0 W s bm room U S n)(hn:n<=m):Tst W0 W s bm room U S m:=
 ⟨h.ext,h.st,h.kp,bG h.len hn,h.bnew,h.new,fun x e=>by have:=h.hb x e;omega⟩
theorem ju9{W:vW}{s bm:Nat}{room:Int}{S:vT}(h:jaT W s bm room S){b i:Nat}{x y:vB}(h1:W.cell? ⟨b,i,none⟩=some (.string x))(h2:W.cell? ⟨b,i+1,none⟩=some (.string y)):¬(b=bm\/b∈S.map (·.2.1)):=by
 rintro (rfl | hb)
 ·obtain⟨K,O,o,_⟩:=h.mp.mp
  simp[World.cell?,show W.heap[b]?=_ from o]at h1
 ·obtain⟨z,A,rfl⟩:=bI.1 hb
  obtain⟨E,o,m⟩:=(h.mp.items z A).cells
  simp only[World.cell?,show W.heap[z.2.1]?=_ from o]at h1 h2
  match i with
  | 0 =>
   have e:E=.string y:=by simpa using h2
   subst e
   obtain⟨_,⟨e,_⟩ |⟨g,H,J,e,_⟩⟩:=m <;> cases e
  | 1=>simp at h2
  | 2=>simp at h1
  | 3=>simp at h1
  | n+4=>simp at h1
theorem jvk{W W':vW}{s bm:Nat}{room:Int}{S:vT}(h:jaT W s bm room S)(k:jae (fun z=>z=bm\/z∈S.map (·.2.1)) W W'){v:vV}{l:vL}(hv:RdP W v l):RdP W' v l:=by
 rcases hv with e |⟨b,o,c,e,hb,hc,hcell⟩
 ·exact .inl e
 ·refine .inr ⟨b,o,c,e,bJ hb k.size,hc,fun j x E=>?_⟩
  obtain⟨m,A⟩:=hcell j x E
  have:=ju9 h m A
  exact⟨jan m k this,jan A k this⟩
theorem jud{W0 W:vW}(hc:jbW W)(he:ErrT W){s bm:Nat}{room:Int}{U:vM}{S:vT}{n:Nat}(h:Tst W0 W s bm room U S n)(hn:n<=5000)(hU:InjL U)(hN:jtO U){l:vL}(hM:HasM S l)(u:vV)(cs:List Chg)(hu:RdC W u cs)(hnc:cs.length<=9223372036854775807)(hsc:jjo cs)(hr0:0<=room)(hr1:room<=9223372036854775807)(h0:jaY l cs=0)(hs:∀ t∈jaV (jby l cs),t∈U)(hroom:(n:Int)+119<=room) :
  vQ 18 #[.pointer (some ⟨s,0,none⟩),.string (rootM l),u] W fun e E=>e=.returned (.tuple #[.string (rootM (jby l cs)),.int .i64 0])/\∃ o,Tst W0 E s bm room U o (n+119)/\HasM o (jby l cs)/\jec o/\∀ v m,RdP W v m->RdP E v m:=by
 have hb:=h.bds hn;refine (jhK W hc he s bm room S h.st (h.kp.nodes hN) l hM u cs hu hnc hsc hr0 hr1 hb.1 hb.2.1 hb.2.2).mono ?_;intro e E H;have J:(newM S (jby l cs)).length<=119:=jkC (jca h0)
 obtain⟨o,A⟩:=jkh W hU h.kp h0 hs H (by have:=h.len;omega)
 refine⟨A.res,o,h.add J vI A,A.add.has hU (jca h0) hs,A.add.kp.nodes hN,fun v m K=>jvk h.st A.kp K⟩
end
section
open Go Go.RowKit
attribute [local go_sem] Oper.semAt_some
theorem jcO(w:vW)(n:Nat):Ext w (w.drewN n):=(ExtR w).drewN n
def jz9(z g L:Nat)(v:vV)(W:vW)(S:vT)(A:vM)(V:Option vB)(okv pv:vV)(wr:vW):Prop:=
 ∃ (p:vB) (T:vM) (v':vV),pv=.string p/\jd2 z g v W wr v' T/\v'.ownBlock≠some L /\
  ((okv=.bool true/\∃ f l,jax f l/\jaz p=true/\p.size<=2000/\T++wayL f l p=A/\valL l p=V/\Blk wr L (.cells (jao (jac f) l).cells.toArray 110)/\(∀ x∈jaB (jac (f+1) l),32<=x.size->HasS S x)) \/
  (okv=.bool false/\T=A/\V=none))
def foM:vV->vV->Nat | .bool true,pv=>jjm pv+1 | _,_=>0
def folV:Option vB->vV | some u=>.tuple #[.string u,.int .i64 0] | none=>.tuple #[.string ⟨#[]⟩,.int .i64 9]
def jyk(z g:Nat)(v:vV)(W:vW)(A:vM)(V:Option vB)(e:Ending)(w':vW):Prop:=e=.returned (folV V)/\∃ v',jd2 z g v W w' v' A
theorem jrN(w0 W:vW)(s bm:Nat)(room:Int)(S:vT)(hs:jaT w0 s bm room S)(hE0:Ext w0 W)(g:Nat)(v:vV)(h:jgM w0.heap.size g v [] W)(l:vL)(hM:HasM S l)(key:vB)(hk:key.size<=1000) :
  vQ 51 #[.pointer (some ⟨s,0,none⟩),.string (shaB (jaF l).text),.string key,.func (.func 54) #[] #[.pointer (some ⟨g,0,none⟩)]] W (jyk w0.heap.size g v W ((jaF l).text :: wayL 12 (jaM l) (jbf key)) (valL (jaM l) (jbf key))):=by
 have HS:=Hd hs;have g2:=Hd hE0;have HM:=Hd h;have a8:=jbx (jaG hM.ok);have d3:=Hd a8;have a1:=(good 12 (jaM l) a8).1
 obtain⟨n,hn⟩:=vE (jao (jac 12) (jaM l))
 rw[<-hn]at a1;have e3:=jwH w0 W s bm room S hs hE0 g v [] h (by simp) (jaF l).text (hM.has _ (jc2 _)) 12 n a1 (by rw[hn];rfl);have e4:=Hd e3;have HL:=Hd (n.cells_len (a1.one (inlP 12)).refs);have g3:=Hd hM.has;have HN:=Hd hn;have HK:=Hd hk
 obtain⟨A,hA⟩:=vE ((jaF l).text :: wayL 12 (jaM l) (jbf key))
 obtain⟨V,hV⟩:=vE (valL (jaM l) (jbf key))
 have HA:=Hd hA;have HV:=Hd hV;rw[<-hA, <-hV]
 obtain⟨k0,e5⟩:∃ k,k=shaB (jaF l).text:=⟨_,rfl⟩
 rw[<-e5]at e4 ⊢;clear hs hE0 h a8 a1 hn e3 hM hk hA hV e5;go_enter Tryz.func51,Tryz.ntmps51;go_wp2_with fail
 refine e4.o.mono ?_;rintro e w1 ⟨rfl,v1,e6⟩;have d4:=Hd e6;clear e6;unfold jad.V;go_wp2_with (first |(refine jaj Tryz.allocNode rfl rfl ?_;intro W5 e7 e8;refine jag (vs:=n.cells) rfl rfl rfl rfl e7 (by rw[HL.o];rfl) (by rw[HL.o];exact Tryz.szNode) n.one ?_;intro W6 e9 f0))
 refine vC (jjP _ key (by have:=HK.o;omega)) fun w7 H=>?_;have f1:Ext w1 W6:=e8.trans' f0 (fun x hx e=>by have e:x=w1.heap.size:=e;omega);have g4:=Hd ((d4.o.ext f1).ext H);have f2:=Hd (e9.keeps H (fun h=>h));have a3:=Hd (show w1.heap.size≠g/\v1.ownBlock≠some w1.heap.size from⟨by have:=d4.o.at'.var.lt;omega,fun e=>by have:=(d4.o.at'.own _ e).2.2;omega⟩);have a9:Hid (W.heap.size<=w1.heap.size):=d4.o.kp.size
 obtain⟨L,hL⟩:=vE w1.heap.size
 rw[<-hL]at f2 a3 a9 ⊢;clear hL H f1 e7 e8 e9 f0
 obtain⟨pk,d7⟩:=vE (jbf key)
 have d5:=Hd d7;rw[<-d7];clear d7;go_wp2_with fail
 go_loopw [11,12] (fun d8 pv wr=>jz9 w0.heap.size g L v W S A V d8 pv wr) (fun d8 pv _=>foM d8 pv)
 case atStart =>
  refine⟨pk,_,v1,rfl,g4.o,a3.o.2,.inl ⟨rfl,12,jaM l,d3.o,by rw[d5.o];exact jcS key,by rw[d5.o,jep];have:=HK.o;omega,?_,by rw[d5.o, <-HV.o],by rw[<-HN.o];exact f2.o,fun x hx _=>g3.o x hx⟩⟩
  rw[HA.o,d5.o];rfl
 case round =>
  obtain⟨p,T,v',rfl,hT,d2,hc⟩:=hrel
  have HT:=Hd hT;have O:=Hd d2;have HE:=Hd (HT.o.ext0 HM.o g2.o (bM _));clear hT d2;rcases hc with⟨rfl,f,l',h1,h2,h3,h4,h5,h6,h7⟩ |⟨rfl,h1,h2⟩
  case inr =>
   have HF:=Hd (bB h1 h2);clear h1 h2;go_wp2_with fail
   go_ret2
   refine⟨by rw[HF.o.2];rfl,v',?_⟩
   rw[<-HF.o.1];exact HT.o
  case inl =>
   have Z:=Hd (bB h1 (bB h2 (bB h3 (bB h4 (bB h5 h7)))));have c5:=(good f l' h1).1
   obtain⟨⟨k,pa,va,rs⟩,hn⟩:∃ n,n=jao (jac f) l':=⟨_,rfl⟩
   rw[<-hn]at c5 h6;have f3:=Hd c5;have HB:=Hd h6;have f4:=Hd hn;have g7:k<=3:=(c5.one (inlP f)).kind;have d9:rs.length=16:=(c5.one (inlP f)).refs;have g8:pa.size<=12:=(c5.one (inlP f)).path;have g9:=Hd d9;have a0:=Hd (jad.cells_len ⟨k,pa,va,rs⟩ d9);have i0:p.size<=1000000:=vO
   have q0:=h6.cellL (i:=0) (v:=.int .i64 k) vF;have q1:=h6.cellL (i:=1) (v:=.string pa) vF;have q2:=h6.cellL (i:=2) (v:=.string va) vF;have Q3:=Hd (show ∀ i r,rs[i]?=some r->wr.cell? ⟨L,3+i,none⟩=some (.string r)from fun i r hi=>h6.cellL (i:=3+i) (v:=.string r) (by
    show (_ :: _ :: _ :: rs.map Value.string)[3+i]?=_;rw[show 3+i=i+1+1+1 by omega];simp[hi]))
   clear hn d9 h1 h2 h4 h5 h6 h7 c5;have i1:(⟨#[]⟩:vB).toList.isEmpty=true:=by rw[bL];rfl
   cases hg:goL l' p with
   | none =>
    obtain⟨s1,s2⟩:=jiA Z.o.1 Z.o.2.1 hg
    rw[<-f4.o]at s1 s2;have f5:wayL f l' p=[]:=by
     cases f with
     | zero=>rfl
     | succ f=>exact jpq hg
    have b7:=Hd (show T=A by rw[<-Z.o.2.2.2.1,f5,cC]);have b1:=Hd (show V=jc3 ⟨k,pa,va,rs⟩ p by rw[s2,Z.o.2.2.2.2.1]);clear f5 hg s2;cases hcl:jc3 ⟨k,pa,va,rs⟩ p with
    | some u =>
     rw[hcl]at b1;have g5:=Hd (jtn hcl);clear s1 hcl;rcases g5.o with⟨rfl,rfl,rfl⟩ |⟨rfl,rfl,rfl,hz⟩
     ·have b0:wr.cell? ⟨L,0,none⟩=some (.int .i64 1):=q0
      clear q0;go_wp2_with fail
      go_ret2
      refine⟨by rw[b1.o];rfl,v',by rw[<-b7.o];exact HT.o⟩
     ·have b0:wr.cell? ⟨L,0,none⟩=some (.int .i64 3):=q0
      have i2:va.toList.isEmpty=false:=by
       rw[dC];intro e;rw[fB,bL]at e;exact hz (by rw[<-jaI,e];rfl)
      clear q0;go_wp2_with fail
      go_ret2
      refine⟨by rw[b1.o];rfl,v',by rw[<-b7.o];exact HT.o⟩
    | none =>
     rw[hcl]at b1;have g6:=Hd (jto f3.o Z.o.2.1 s1 hcl);clear s1 hcl;rcases g6.o with rfl |⟨rfl,f6⟩ |⟨rfl,hpre⟩ |⟨rfl,rfl,rfl⟩ |⟨rfl,x,t,hx,hr⟩
     ·have b0:wr.cell? ⟨L,0,none⟩=some (.int .i64 0):=q0
      clear q0;go_wp2_with fail
      refine vC (jb3 _) fun w2 H=>?_;have E:Hid (Ext wr w2):=Hd (by first | exact H | exact (jcO _ _).trans H);clear H;go_wp2_with fail
      refine vH (jcy w2) fun w3 H=>?_;have K:=Hd (E.o.trans H);have Q:=HB.o.keeps K.o (fun h=>h);clear E;unfold jad.V;go_wp2_with (refine jag (vs:=jav.cells) rfl rfl rfl rfl Q (by rw[a0.o];rfl) (by first | exact Tryz.szNode |(rw[a0.o];exact Tryz.szNode)) jav.one ?_;intro W8 a4 X)
      go_roundw
      case rel=>exact⟨_,T,v',rfl,(HT.o.ext K.o).fill X a3.o.1 O.o a9.o,O.o,.inr ⟨rfl,b7.o,b1.o⟩⟩
      case measure=>simp[foM]
     ·have b0:wr.cell? ⟨L,0,none⟩=some (.int .i64 1):=q0
      have f6:=jfq f6;clear q0;go_wp2_with fail
      refine vC (jb3 _) fun w2 H=>?_;have E:Hid (Ext wr w2):=Hd (by first | exact H | exact (jcO _ _).trans H);clear H;go_wp2_with fail
      refine vH (jcy w2) fun w3 H=>?_;have K:=Hd (E.o.trans H);have Q:=HB.o.keeps K.o (fun h=>h);clear E;unfold jad.V;go_wp2_with (refine jag (vs:=jav.cells) rfl rfl rfl rfl Q (by rw[a0.o];rfl) (by first | exact Tryz.szNode |(rw[a0.o];exact Tryz.szNode)) jav.one ?_;intro W8 a4 X)
      go_roundw
      case rel=>exact⟨_,T,v',rfl,(HT.o.ext K.o).fill X a3.o.1 O.o a9.o,O.o,.inr ⟨rfl,b7.o,b1.o⟩⟩
      case measure=>simp[foM]
     ·have b0:wr.cell? ⟨L,0,none⟩=some (.int .i64 2):=q0
      have c8:=Hd hpre;clear q0 hpre;go_wp2_with fail
      refine (jcK _ p pa vO vO).mono ?_;rintro e f7 ⟨rfl,b4⟩;rw[b4];clear b4;rw[c8.o];go_wp2_with fail
      refine vC (jb3 _) fun w2 H=>?_;have E:Hid (Ext wr w2):=Hd (by first | exact H | exact (jcO _ _).trans H);clear H;go_wp2_with fail
      refine vH (jcy w2) fun w3 H=>?_;have K:=Hd (E.o.trans H);have Q:=HB.o.keeps K.o (fun h=>h);clear E;unfold jad.V;go_wp2_with (refine jag (vs:=jav.cells) rfl rfl rfl rfl Q (by rw[a0.o];rfl) (by first | exact Tryz.szNode |(rw[a0.o];exact Tryz.szNode)) jav.one ?_;intro W8 a4 X)
      go_roundw
      case rel=>exact⟨_,T,v',rfl,(HT.o.ext K.o).fill X a3.o.1 O.o a9.o,O.o,.inr ⟨rfl,b7.o,b1.o⟩⟩
      case measure=>simp[foM]
     ·have b0:wr.cell? ⟨L,0,none⟩=some (.int .i64 3):=q0
      clear q0;go_wp2_with fail
      refine vC (jb3 _) fun w2 H=>?_;have E:Hid (Ext wr w2):=Hd (by first | exact H | exact (jcO _ _).trans H);clear H;go_wp2_with fail
      refine vH (jcy w2) fun w3 H=>?_;have K:=Hd (E.o.trans H);have Q:=HB.o.keeps K.o (fun h=>h);clear E;unfold jad.V;go_wp2_with (refine jag (vs:=jav.cells) rfl rfl rfl rfl Q (by rw[a0.o];rfl) (by first | exact Tryz.szNode |(rw[a0.o];exact Tryz.szNode)) jav.one ?_;intro W8 a4 X)
      go_roundw
      case rel=>exact⟨_,T,v',rfl,(HT.o.ext K.o).fill X a3.o.1 O.o a9.o,O.o,.inr ⟨rfl,b7.o,b1.o⟩⟩
      case measure=>simp[foM]
     ·have b0:wr.cell? ⟨L,0,none⟩=some (.int .i64 3):=q0
      obtain⟨h0,b5⟩:=jcF hx
      have a6:x.toNat < 16:=jcR (p:=(p,p)) Z.o.2.1 hx;have q3:=Q3.o _ _ hr;rw[<-b5]at q3 a6;have f8:p.toList.isEmpty=false:=by
       rw[dC];intro e;rw[fB,bL]at e;rw[hx]at e;cases e
      have c1:(0:Int) < (p.size:Int):=vO
      have c2:((p[0]'h0).toNat:Int) < 16:=vO
      have c3:(1:Int)<=(p.size:Int):=vO
      clear q0 hx hr b5;go_wp2_with fail
      go_quiet (fail)
      go_wp2_with fail
      refine vC (jb3 _) fun w2 H=>?_;have E:Hid (Ext wr w2):=Hd (by first | exact H | exact (jcO _ _).trans H);clear H;go_wp2_with fail
      refine vH (jcy w2) fun w3 H=>?_;have K:=Hd (E.o.trans H);have Q:=HB.o.keeps K.o (fun h=>h);clear E;unfold jad.V;go_wp2_with (refine jag (vs:=jav.cells) rfl rfl rfl rfl Q (by rw[a0.o];rfl) (by first | exact Tryz.szNode |(rw[a0.o];exact Tryz.szNode)) jav.one ?_;intro W8 a4 X)
      go_roundw
      case rel=>exact⟨_,T,v',rfl,(HT.o.ext K.o).fill X a3.o.1 O.o a9.o,O.o,.inr ⟨rfl,b7.o,b1.o⟩⟩
      case measure=>simp[foM]
   | some mq =>
    obtain⟨m,q⟩:=mq
    cases f with
    | zero=>rw[jps Z.o.1]at hg;cases hg
    | succ f =>
     have hK:=jiB Z.o.1 Z.o.2.1 hg;have c9:=(good f m hK.rows).2.1 hK.ne;have c0:=jkS hK.rows hK.ne;have a2:=hK.step;rw[<-f4.o]at a2;have hy:=jk1 f3.o Z.o.2.1 a2 c0;have b3:=jpr (f:=f) hg
     obtain⟨tx,b8⟩:=vE (jac (f+1) m).text
     obtain⟨m',c6⟩:∃ m',m'=jao (jac f) m:=⟨_,rfl⟩
     obtain⟨rt,c7⟩:=vE (refB (jac (f+1) m).text)
     have d6:=Hd c6;have e0:=Hd (show jbI (InlD f) m' by rw[c6];exact c9.good);have b6:=Hd (m'.cells_len (e0.o.one (inlP f)).refs);have f9:=Hd (show tx=jaO m' by rw[b8,c6];exact c9.text);rw[<-c7]at hy;have HY:=Hd hy;have J:=Hd hK;have g0:=Hd (show T.length<=100000 by have h8:=congrArg List.length Z.o.2.2.2.1;rw[HA.o,bF,bP]at h8;have:=jtB 12 (jaM l) (jbf key);omega)
     by_cases hz:(jac (f+1) m).text.size < 32
     ·have hI:=c9.may.2 hz
      obtain⟨qh,h1,h2⟩:=(inlP (f+1)).nohash _ _ hI
      rw[<-c7]at h1 h2 hI;have HH:=Hd (bB h1 h2);have d0:=Hd (show rt.size<=1000000000 by rw[c7,jet hz];omega);have e1:=Hd (fun w=>(inlP (f+1)).inl _ _ hI w);rw[<-c6]at e1;have d1:=Hd (show wayL (f+1) l' p=wayL f m q by rw[b3];unfold bigs;rw[if_pos hz];rfl);clear hK c9 c0 a2 hy b3 b8 c6 c7 hI h1 h2 hz hg;rcases HY.o with⟨rfl,hpre,hr,rfl,hle⟩ |⟨rfl,x,t,hx,hr,rfl⟩
      ·have b0:wr.cell? ⟨L,0,none⟩=some (.int .i64 2):=q0
       have c8:=Hd hpre;have q3:=Q3.o 0 _ hr;have c1:(pa.size:Int)<=(p.size:Int):=vO
       clear q0 hpre hr hle;go_wp2_with fail
       refine (jcK _ p pa vO vO).mono ?_;rintro e f7 ⟨rfl,b4⟩;rw[b4];clear b4;rw[c8.o];go_wp2_with fail
       go_quiet (fail)
       go_wp2_with fail
       refine vC (jei _ rt qh d0.o HH.o.1) fun w2 H=>?_;rw[HH.o.2];have E:Hid (Ext wr w2):=Hd (by first | exact H | exact (jcO _ _).trans H);clear H;unfold optV;go_wp2_with fail
       refine vH (e1.o w2) fun w3 H=>?_;have K:=Hd (E.o.trans H);have Q:=HB.o.keeps K.o (fun h=>h);clear E;unfold jad.V;go_wp2_with (refine jag (vs:=m'.cells) rfl rfl rfl rfl Q (by rw[a0.o,b6.o]) (by rw[b6.o];exact Tryz.szNode) m'.one ?_;intro W8 a4 X)
       go_roundw
       case rel=>exact⟨_,T,v',rfl,(HT.o.ext K.o).fill X a3.o.1 O.o a9.o,O.o,.inl ⟨rfl,f,m,J.o.rows,J.o.valid,by have:=J.o.less;have:=Z.o.2.2.1;omega,by rw[<-d1.o];exact Z.o.2.2.2.1,by rw[J.o.find];exact Z.o.2.2.2.2.1,by rw[<-d6.o];exact a4,fun x hx a5=>Z.o.2.2.2.2.2 x (J.o.flat x hx a5) a5⟩⟩
       case measure=>have h9:=J.o.less;simp only[foM,jjm];omega
      ·have b0:wr.cell? ⟨L,0,none⟩=some (.int .i64 3):=q0
       obtain⟨h0,b5⟩:=jcF hx
       have a6:x.toNat < 16:=jcR (p:=(p,p)) Z.o.2.1 hx;have q3:=Q3.o _ _ hr;rw[<-b5]at q3 a6;have f8:p.toList.isEmpty=false:=by
        rw[dC];intro e;rw[fB,bL]at e;rw[hx]at e;cases e
       have c1:(0:Int) < (p.size:Int):=vO
       have c2:((p[0]'h0).toNat:Int) < 16:=vO
       have c3:(1:Int)<=(p.size:Int):=vO
       clear q0 hx hr b5;go_wp2_with fail
       go_quiet (fail)
       go_wp2_with fail
       refine vC (jei _ rt qh d0.o HH.o.1) fun w2 H=>?_;rw[HH.o.2];have E:Hid (Ext wr w2):=Hd (by first | exact H | exact (jcO _ _).trans H);clear H;unfold optV;go_wp2_with fail
       refine vH (e1.o w2) fun w3 H=>?_;have K:=Hd (E.o.trans H);have Q:=HB.o.keeps K.o (fun h=>h);clear E;unfold jad.V;go_wp2_with (refine jag (vs:=m'.cells) rfl rfl rfl rfl Q (by rw[a0.o,b6.o]) (by rw[b6.o];exact Tryz.szNode) m'.one ?_;intro W8 a4 X)
       go_roundw
       case rel=>exact⟨_,T,v',rfl,(HT.o.ext K.o).fill X a3.o.1 O.o a9.o,O.o,.inl ⟨rfl,f,m,J.o.rows,J.o.valid,by have:=J.o.less;have:=Z.o.2.2.1;omega,by rw[<-d1.o];exact Z.o.2.2.2.1,by rw[J.o.find];exact Z.o.2.2.2.2.1,by rw[<-d6.o];exact a4,fun x hx a5=>Z.o.2.2.2.2.2 x (J.o.flat x hx a5) a5⟩⟩
       case measure=>have h9:=J.o.less;simp only[foM,jjm];omega
     ·obtain⟨qh,h1,h2⟩:=jej (shaB tx) (jbA _)
      have c4:rt=jap (shaB tx):=by rw[c7,jgA hz,b8]
      rw[<-c4]at h1 h2;have HH:=Hd (bB h1 h2);have d0:=Hd (show rt.size<=1000000000 by rw[c4];have:=jaQ (shaB tx);have:=jbA tx;omega);have d1:=Hd (show wayL (f+1) l' p=tx :: wayL f m q by rw[b3,b8];unfold bigs;rw[if_neg hz];rfl);have g1:Hid (HasS S tx):=(Z.o.2.2.2.2.2 tx (by rw[b8];exact hK.flat _ (jc2 _) vO) (by rw[b8];omega));clear hK c9 c0 a2 hy b3 b8 c6 c7 h1 h2 hz hg c4;rcases HY.o with⟨rfl,hpre,hr,rfl,hle⟩ |⟨rfl,x,t,hx,hr,rfl⟩
      ·have b0:wr.cell? ⟨L,0,none⟩=some (.int .i64 2):=q0
       have c8:=Hd hpre;have q3:=Q3.o 0 _ hr;have c1:(pa.size:Int)<=(p.size:Int):=vO
       clear q0 hpre hr hle;go_wp2_with fail
       refine (jcK _ p pa vO vO).mono ?_;rintro e f7 ⟨rfl,b4⟩;rw[b4];clear b4;rw[c8.o];go_wp2_with fail
       go_quiet (fail)
       go_wp2_with fail
       refine vC (jei _ rt qh d0.o HH.o.1) fun w2 H=>?_;rw[HH.o.2];have E:Hid (Ext wr w2):=Hd (by first | exact H | exact (jcO _ _).trans H);have b9:=Hd (HT.o.ext E.o);clear H;unfold optV;go_wp2_with fail
       refine (jwH w0 w2 s bm room S HS.o (HE.o.trans E.o) g v' T b9.o.at' (by have:=g0.o;omega) tx g1.o f m' e0.o f9.o).mono ?_;rintro e w3 ⟨rfl,v3,b2⟩;have Q:=b2.blk (HB.o.keeps E.o (fun h=>h)) a3.o.1 O.o;have a7:=Hd (show v3.ownBlock≠some L from fun e=>by
        rcases b2.sub L e with e | e
        ·exact O.o e
        ·have:=HB.o.lt;have:=E.o.size;omega)
       have e2:=Hd (b9.o.trans b2);clear b2 E b9;unfold jad.V;go_wp2_with (refine jag (vs:=m'.cells) rfl rfl rfl rfl Q (by rw[a0.o,b6.o]) (by rw[b6.o];exact Tryz.szNode) m'.one ?_;intro W8 a4 X)
       go_roundw
       case rel=>exact⟨_,_,v3,rfl,e2.o.fill X a3.o.1 a7.o a9.o,a7.o,.inl ⟨rfl,f,m,J.o.rows,J.o.valid,by have:=J.o.less;have:=Z.o.2.2.1;omega,by have h9:=Z.o.2.2.2.1;rw[d1.o]at h9;rw[cB];exact h9,by rw[J.o.find];exact Z.o.2.2.2.2.1,by rw[<-d6.o];exact a4,fun x hx a5=>Z.o.2.2.2.2.2 x (J.o.flat x hx a5) a5⟩⟩
       case measure=>have h9:=J.o.less;simp only[foM,jjm];omega
      ·have b0:wr.cell? ⟨L,0,none⟩=some (.int .i64 3):=q0
       obtain⟨h0,b5⟩:=jcF hx
       have a6:x.toNat < 16:=jcR (p:=(p,p)) Z.o.2.1 hx;have q3:=Q3.o _ _ hr;rw[<-b5]at q3 a6;have f8:p.toList.isEmpty=false:=by
        rw[dC];intro e;rw[fB,bL]at e;rw[hx]at e;cases e
       have c1:(0:Int) < (p.size:Int):=vO
       have c2:((p[0]'h0).toNat:Int) < 16:=vO
       have c3:(1:Int)<=(p.size:Int):=vO
       clear q0 hx hr b5;go_wp2_with fail
       go_quiet (fail)
       go_wp2_with fail
       refine vC (jei _ rt qh d0.o HH.o.1) fun w2 H=>?_;rw[HH.o.2];have E:Hid (Ext wr w2):=Hd (by first | exact H | exact (jcO _ _).trans H);have b9:=Hd (HT.o.ext E.o);clear H;unfold optV;go_wp2_with fail
       refine (jwH w0 w2 s bm room S HS.o (HE.o.trans E.o) g v' T b9.o.at' (by have:=g0.o;omega) tx g1.o f m' e0.o f9.o).mono ?_;rintro e w3 ⟨rfl,v3,b2⟩;have Q:=b2.blk (HB.o.keeps E.o (fun h=>h)) a3.o.1 O.o;have a7:=Hd (show v3.ownBlock≠some L from fun e=>by
        rcases b2.sub L e with e | e
        ·exact O.o e
        ·have:=HB.o.lt;have:=E.o.size;omega)
       have e2:=Hd (b9.o.trans b2);clear b2 E b9;unfold jad.V;go_wp2_with (refine jag (vs:=m'.cells) rfl rfl rfl rfl Q (by rw[a0.o,b6.o]) (by rw[b6.o];exact Tryz.szNode) m'.one ?_;intro W8 a4 X)
       go_roundw
       case rel=>exact⟨_,_,v3,rfl,e2.o.fill X a3.o.1 a7.o a9.o,a7.o,.inl ⟨rfl,f,m,J.o.rows,J.o.valid,by have:=J.o.less;have:=Z.o.2.2.1;omega,by have h9:=Z.o.2.2.2.1;rw[d1.o]at h9;rw[cB];exact h9,by rw[J.o.find];exact Z.o.2.2.2.2.1,by rw[<-d6.o];exact a4,fun x hx a5=>Z.o.2.2.2.2.2 x (J.o.flat x hx a5) a5⟩⟩
       case measure=>have h9:=J.o.less;simp only[foM,jjm];omega
end
section
open Go Go.RowKit
theorem jvE{d:Nat}{n:jad}{p r q:vB}(hg:jbI (InlD d) n)(hp:jaz p=true)(hs:jeQ n p=(r,q))(hr:r.size≠0):MayP (InlD d) r/\q.size < p.size/\jaz q=true:=by
 obtain⟨k,A,J,E⟩:=n
 have H:=jk1 hg hp hs hr;rcases H with⟨rfl,h1,h2,rfl,h3⟩ |⟨rfl,x,t,h1,h2,rfl⟩
 ·cases hg with
  | ext p' r' a1 a2 a3 =>
   have e:r'=r:=bN h2;subst e;have o:1<=A.size:=by
    unfold jad.pathOk at a1;simp only[cJ,decide_eq_true_eq]at a1;exact a1.1.1
   refine⟨a3.imp id (fun ⟨m,h,_⟩=>⟨m,h⟩),by rw[jaX];omega,jbi hp _ _⟩
 ·cases hg with
  | branch v E a1 a2 a3 a4 =>
   have o:0 < p.size:=by
    have:=congrArg List.length h1
    rw[jaI]at this;simp at this;omega
   exact⟨a3 r (bE h2) hr,by rw[jaX];omega,jbi hp _ _⟩
end
section
open Go Go.RowKit
attribute [local go_sem] Oper.semAt_some
theorem jzc(W:vW)(x:vB):vQ 52 #[.string x] W fun e w'=>e=.returned (.tuple #[])/\w'=W:=by
 go_enter Tryz.func52,Tryz.ntmps52;go_wp2_with fail
 refine bodyPost_end (results_none rfl _ _ _) rfl ?_
 exact⟨rfl,rfl⟩
theorem jvW(W:vW)(s bm:Nat)(room:Int)(S:vT)(hs:jaT W s bm room S)(k:vB)(y:Nd5)(hy:atL S k.data.toList=some y)(f:Nat)(n:jad)(hg:jbI (InlD f) n)(ht:y.2.2.text=jaO n) :
  vR 87 #[.pointer (some ⟨s,0,none⟩),.string k,.func (.func 52) #[] #[]] W (.tuple #[n.V,.bool true]):=by
 have hn:=(hg.one (inlP f)).refs;have HN:=Hd hn;have HG:=Hd hg;have HL:=Hd (n.cells_len hn);have m:=fun w (h:jaT w s bm room S)=>ji8 w s bm room S k h;rw[hy]at m;simp only[gB,optV]at m;have J:=Hd m;have HS:=Hd hs
 obtain⟨t,K⟩:=vE y.2.2.text
 rw[<-K]at J ht;have HT:=Hd ht;clear m hs hg ht hn hy K;go_enter Tryz.func87,Tryz.ntmps87;go_wp2_with (refine jaj Tryz.allocNode rfl rfl ?_;intro W1 O E)
 refine vC (J.o W1 (HS.o.ext E)) fun w3 H=>?_;have Q:=Hd (O.keeps H (fun h=>h));have X:=Hd (E.trans H);clear H O E;go_wp2_with fail
 refine (jzc w3 t).mono ?_;rintro e w4 ⟨rfl,rfl⟩;go_wp2_with fail
 rw[HT.o];refine vC (jiz (inlP f) w4 n HG.o) fun w5 H=>?_;rw[<-HT.o];have A:=Q.o.keeps H (fun h=>h);have Z:=Hd H;clear H Q;unfold jad.V;go_wp2_with (first |(refine jaj Tryz.allocNode rfl rfl ?_;intro W5 a3 a1;refine jag (vs:=n.cells) rfl rfl rfl rfl a3 (by rw[HL.o];rfl) (by rw[HL.o];exact Tryz.szNode) n.one ?_;intro W6 a4 a2;have a0:=(A.keeps a1 (fun h=>h)).keeps a2 (by have:=A.lt;omega)) |(refine jaf 110 (.tmp 10) rfl rfl _ _ rfl (jaq _ _ n HN.o a4) ?_) |(refine jag (vs:=n.cells) rfl rfl rfl rfl a0 (by rw[HL.o];rfl) (by rw[HL.o];exact Tryz.szNode) n.one ?_;intro W8 a5 a6))
 refine bodyPost_ret (jaC rfl rfl rfl (jas W8 _ n HN.o a5)) rfl ?_;have a7:Ext W W6:=(((X.o.trans Z.o).trans a1)).trans' a2 (fun x hx e=>by have e:x=w5.heap.size:=e;have:=Z.o.size;have:=X.o.size;omega)
 exact⟨rfl,a7.trans' a6 (fun x hx e=>by have e:x=W.heap.size:=e;omega)⟩
noncomputable def folN(S:vT):Nat->jad->vB->Option vB
 | 0,_,_=>none
 | f+1,n,p=>match jc3 n p with
  | some u=>some u
  | none=>if (jeQ n p).1.size=0 then none else (gRef S (jeQ n p).1).bind fun m=>folN S f m (jeQ n p).2
theorem jko{S:vT}{f:Nat}{n:jad}{p u:vB}(h:jc3 n p=some u):folN S (f+1) n p=some u:=by
 rw[folN,h]
theorem jhN{S:vT}{f:Nat}{n:jad}{p:vB}(h:jc3 n p=none):folN S (f+1) n p=if (jeQ n p).1.size=0 then none else (gRef S (jeQ n p).1).bind fun m=>folN S f m (jeQ n p).2:=by
 rw[folN,h]
def jz8(W:vW)(L:Nat)(S:vT)(V:Option vB)(okv pv:vV)(wr:vW):Prop:=
 ∃ (p:vB),pv=.string p/\Ext W wr /\
  ((okv=.bool true/\∃ f d n,jbI (InlD d) n/\jaz p=true/\p.size<=2000/\p.size < f/\folN S f n p=V/\Blk wr L (.cells n.cells.toArray 110)) \/
  (okv=.bool false/\V=none))
theorem jix{W W' W'':vW}{L:Nat}(h:Ext W W')(e:jae (fun b=>b=L) W' W'')(h3:W.heap.size<=L):Ext W W'':=
 h.trans' e (fun x m y=>by have y:x=L:=y;omega)
theorem jpV(W:vW)(s bm:Nat)(room:Int)(S:vT)(hs:jaT W s bm room S)(hN:jec S)(root:vB)(y:Nd5)(hy:atL S root.data.toList=some y)(key:vB)(hk:key.size<=1000) :
  vR 51 #[.pointer (some ⟨s,0,none⟩),.string root,.string key,.func (.func 52) #[] #[]] W (folV (folN S ((jbf key).size+1) (nodeOf y.2.2.text) (jbf key))):=by
 have e9:=Hd hN;have HS:=Hd hs
 obtain⟨n0,d4⟩:=hN y (ja7 hy).1
 obtain⟨ht,d,hg⟩:=jci d4
 obtain⟨n,hn⟩:=vE (nodeOf y.2.2.text)
 rw[<-hn]at ht hg ⊢;have HG:=Hd hg;have d5:=jvW W s bm room S hs root y hy d n hg ht;have f1:=Hd d5;have HL:=Hd (n.cells_len (hg.one (inlP d)).refs);have HK:=Hd hk
 obtain⟨V,hV⟩:=vE (folN S ((jbf key).size+1) n (jbf key))
 have HV:=Hd hV;rw[<-hV];clear hs hg hn d5 hk hV hN hy d4 ht;go_enter Tryz.func51,Tryz.ntmps51;go_wp2_with fail
 refine f1.o.mono ?_;rintro e w1 ⟨rfl,d6⟩;have d7:=Hd d6;clear d6;unfold jad.V;go_wp2_with (first |(refine jaj Tryz.allocNode rfl rfl ?_;intro W5 d8 d9;refine jag (vs:=n.cells) rfl rfl rfl rfl d8 (by rw[HL.o];rfl) (by rw[HL.o];exact Tryz.szNode) n.one ?_;intro W6 e0 e1))
 refine vC (jjP _ key (by have:=HK.o;omega)) fun w7 E=>?_;have e2:Ext w1 W6:=d9.trans' e1 (fun x hx e=>by have e:x=w1.heap.size:=e;omega);have f2:=Hd ((d7.o.trans e2).trans E);have e3:=Hd (e0.keeps E (fun h=>h));have a3:Hid (W.heap.size<=w1.heap.size):=d7.o.size
 obtain⟨L,hL⟩:=vE w1.heap.size
 rw[<-hL]at e3 a3 ⊢;clear hL E e2 d8 d9 e0 e1
 obtain⟨pk,c0⟩:=vE (jbf key)
 have c4:=Hd c0;rw[<-c0];clear c0;go_wp2_with fail
 go_loopw [11,12] (fun c5 pv wr=>jz8 W L S V c5 pv wr) (fun c5 pv _=>foM c5 pv)
 case atStart =>
  exact⟨pk,rfl,f2.o,.inl ⟨rfl,pk.size+1,d,n,HG.o,by rw[c4.o];exact jcS key,by rw[c4.o,jep];have:=HK.o;omega,Nat.lt_succ_self _,by rw[c4.o, <-HV.o],e3.o⟩⟩
 case round =>
  obtain⟨p,rfl,hT,hc⟩:=hrel
  have HE:=Hd hT;clear hT;rcases hc with⟨rfl,f0,dn,m0,h1,h2,h3,h3f,h4,h6⟩ |⟨rfl,h2⟩
  case inr =>
   have HF:=Hd h2;clear h2;go_wp2_with fail
   go_ret2
   exact⟨by rw[HF.o];rfl,HE.o⟩
  case inl =>
   obtain⟨f,rfl⟩:∃ f,f0=f+1:=⟨f0 - 1,by omega⟩
   obtain⟨k,pa,va,rs⟩:=m0
   have HC:=Hd (bB h2 (bB h3 h3f));have e4:=Hd h4;have c6:=Hd h1;have HB:=Hd h6;have f6:k<=3:=(h1.one (inlP dn)).kind;have c7:rs.length=16:=(h1.one (inlP dn)).refs;have f7:pa.size<=12:=(h1.one (inlP dn)).path;have f8:=Hd c7;have O:=Hd (jad.cells_len ⟨k,pa,va,rs⟩ c7);have f9:p.size<=1000000:=vO
   have q0:=h6.cellL (i:=0) (v:=.int .i64 k) vF;have q1:=h6.cellL (i:=1) (v:=.string pa) vF;have q2:=h6.cellL (i:=2) (v:=.string va) vF;have Q3:=Hd (show ∀ i r,rs[i]?=some r->wr.cell? ⟨L,3+i,none⟩=some (.string r)from fun i r hi=>h6.cellL (i:=3+i) (v:=.string r) (by
    show (_ :: _ :: _ :: rs.map Value.string)[3+i]?=_;rw[show 3+i=i+1+1+1 by omega];simp[hi]))
   clear c7 h1 h2 h3 h3f h4 h6;have g0:(⟨#[]⟩:vB).toList.isEmpty=true:=by rw[bL];rfl
   cases hcl:jc3 ⟨k,pa,va,rs⟩ p with
   | some u =>
    have a5:=Hd (show V=some u by rw[<-e4.o,jko hcl]);have f3:=Hd (jtn hcl);clear hcl;rcases f3.o with⟨rfl,rfl,rfl⟩ |⟨rfl,rfl,rfl,hz⟩
    ·have a4:wr.cell? ⟨L,0,none⟩=some (.int .i64 1):=q0
     clear q0;go_wp2_with fail
     go_ret2
     exact⟨by rw[a5.o];rfl,HE.o⟩
    ·have a4:wr.cell? ⟨L,0,none⟩=some (.int .i64 3):=q0
     have g1:va.toList.isEmpty=false:=by
      rw[dC];intro e;rw[fB,bL]at e;exact hz (by rw[<-jaI,e];rfl)
     clear q0;go_wp2_with fail
     go_ret2
     exact⟨by rw[a5.o];rfl,HE.o⟩
   | none =>
    have a6:=e4.o;rw[jhN hcl]at a6
    obtain⟨r,q,b0⟩:∃ r q,jeQ ⟨k,pa,va,rs⟩ p=(r,q):=⟨_,_,rfl⟩
    rw[b0]at a6;simp only at a6
    by_cases hr0:r.size=0
    ·rw[if_pos hr0]at a6
     have e5:=jbj hr0;rw[e5]at b0;have f4:=Hd (jto c6.o HC.o.1 b0 hcl);have a5:=Hd a6.symm;clear hcl a6 b0 hr0 e5;rcases f4.o with rfl |⟨rfl,e6⟩ |⟨rfl,hpre⟩ |⟨rfl,rfl,rfl⟩ |⟨rfl,x,t,hx,hr⟩
     ·have a4:wr.cell? ⟨L,0,none⟩=some (.int .i64 0):=q0
      clear q0;go_wp2_with fail
      refine vC (jb3 _) fun X E=>?_;have A:Hid (Ext wr X):=Hd (by first | exact E | exact (jcO _ _).trans E);clear E;go_wp2_with fail
      refine vH (jcy X) fun w3 E=>?_;have H:=Hd (A.o.trans E);have J:=HB.o.keeps H.o (fun h=>h);clear A;unfold jad.V;go_wp2_with (refine jag (vs:=jav.cells) rfl rfl rfl rfl J (by rw[O.o];rfl) (by first | exact Tryz.szNode |(rw[O.o];exact Tryz.szNode)) jav.one ?_;intro W8 Z K)
      go_roundw
      case rel=>exact⟨_,rfl,jix (HE.o.trans H.o) K a3.o,.inr ⟨rfl,a5.o⟩⟩
      case measure=>simp[foM]
     ·have a4:wr.cell? ⟨L,0,none⟩=some (.int .i64 1):=q0
      have e6:=jfq e6;clear q0;go_wp2_with fail
      refine vC (jb3 _) fun X E=>?_;have A:Hid (Ext wr X):=Hd (by first | exact E | exact (jcO _ _).trans E);clear E;go_wp2_with fail
      refine vH (jcy X) fun w3 E=>?_;have H:=Hd (A.o.trans E);have J:=HB.o.keeps H.o (fun h=>h);clear A;unfold jad.V;go_wp2_with (refine jag (vs:=jav.cells) rfl rfl rfl rfl J (by rw[O.o];rfl) (by first | exact Tryz.szNode |(rw[O.o];exact Tryz.szNode)) jav.one ?_;intro W8 Z K)
      go_roundw
      case rel=>exact⟨_,rfl,jix (HE.o.trans H.o) K a3.o,.inr ⟨rfl,a5.o⟩⟩
      case measure=>simp[foM]
     ·have a4:wr.cell? ⟨L,0,none⟩=some (.int .i64 2):=q0
      have b4:=Hd hpre;clear q0 hpre;go_wp2_with fail
      refine (jcK _ p pa vO vO).mono ?_;rintro e c8 ⟨rfl,a7⟩;rw[a7];clear a7;rw[b4.o];go_wp2_with fail
      refine vC (jb3 _) fun X E=>?_;have A:Hid (Ext wr X):=Hd (by first | exact E | exact (jcO _ _).trans E);clear E;go_wp2_with fail
      refine vH (jcy X) fun w3 E=>?_;have H:=Hd (A.o.trans E);have J:=HB.o.keeps H.o (fun h=>h);clear A;unfold jad.V;go_wp2_with (refine jag (vs:=jav.cells) rfl rfl rfl rfl J (by rw[O.o];rfl) (by first | exact Tryz.szNode |(rw[O.o];exact Tryz.szNode)) jav.one ?_;intro W8 Z K)
      go_roundw
      case rel=>exact⟨_,rfl,jix (HE.o.trans H.o) K a3.o,.inr ⟨rfl,a5.o⟩⟩
      case measure=>simp[foM]
     ·have a4:wr.cell? ⟨L,0,none⟩=some (.int .i64 3):=q0
      clear q0;go_wp2_with fail
      refine vC (jb3 _) fun X E=>?_;have A:Hid (Ext wr X):=Hd (by first | exact E | exact (jcO _ _).trans E);clear E;go_wp2_with fail
      refine vH (jcy X) fun w3 E=>?_;have H:=Hd (A.o.trans E);have J:=HB.o.keeps H.o (fun h=>h);clear A;unfold jad.V;go_wp2_with (refine jag (vs:=jav.cells) rfl rfl rfl rfl J (by rw[O.o];rfl) (by first | exact Tryz.szNode |(rw[O.o];exact Tryz.szNode)) jav.one ?_;intro W8 Z K)
      go_roundw
      case rel=>exact⟨_,rfl,jix (HE.o.trans H.o) K a3.o,.inr ⟨rfl,a5.o⟩⟩
      case measure=>simp[foM]
     ·have a4:wr.cell? ⟨L,0,none⟩=some (.int .i64 3):=q0
      obtain⟨h0,a8⟩:=jcF hx
      have a1:x.toNat < 16:=jcR (p:=(p,p)) HC.o.1 hx;have q3:=Q3.o _ _ hr;rw[<-a8]at q3 a1;have c9:p.toList.isEmpty=false:=by
       rw[dC];intro e;rw[fB,bL]at e;rw[hx]at e;cases e
      have c1:(0:Int) < (p.size:Int):=vO
      have c2:((p[0]'h0).toNat:Int) < 16:=vO
      have c3:(1:Int)<=(p.size:Int):=vO
      clear q0 hx hr a8;go_wp2_with fail
      go_quiet (fail)
      go_wp2_with fail
      refine vC (jb3 _) fun X E=>?_;have A:Hid (Ext wr X):=Hd (by first | exact E | exact (jcO _ _).trans E);clear E;go_wp2_with fail
      refine vH (jcy X) fun w3 E=>?_;have H:=Hd (A.o.trans E);have J:=HB.o.keeps H.o (fun h=>h);clear A;unfold jad.V;go_wp2_with (refine jag (vs:=jav.cells) rfl rfl rfl rfl J (by rw[O.o];rfl) (by first | exact Tryz.szNode |(rw[O.o];exact Tryz.szNode)) jav.one ?_;intro W8 Z K)
      go_roundw
      case rel=>exact⟨_,rfl,jix (HE.o.trans H.o) K a3.o,.inr ⟨rfl,a5.o⟩⟩
      case measure=>simp[foM]
    ·rw[if_neg hr0]at a6
     have b9:=Hd a6
     obtain⟨b8,a2,b2⟩:=jvE c6.o HC.o.1 b0 hr0
     have Q:=Hd (bB a2 b2);have f5:=Hd (show r.size<=1000000000 by have:=b8.size (inlP dn);omega);have HY:=Hd (jk1 c6.o HC.o.1 b0 hr0);have a0:=fun w=>jfB w r f5.o;rcases b8 with hh |⟨m,hi⟩
     case inr =>
      cases dn with
      | zero=>exact hi.elim
      | succ dn =>
      have b3:=jdM (inlP (dn+1)) hi;have b5:=Hd (show folN S f m q=V by
       rw[<-b9.o];unfold gRef;rw[b3];show _=folN S f (inlOf r) q;rw[jkw W hi])
      have e7:=Hd (fun w=>(inlP (dn+1)).inl _ _ hi w);have b6:=Hd hi.1;have b1:=Hd (m.cells_len (hi.1.one (inlP dn)).refs);rw[jiC,b3]at a0;simp only[optV]at a0;have HH:=Hd a0;clear a0 b3 hi hcl a6 a2 b2 hr0 b0;rcases HY.o with⟨rfl,hpre,hr,rfl,hle⟩ |⟨rfl,x,t,hx,hr,rfl⟩
      ·have a4:wr.cell? ⟨L,0,none⟩=some (.int .i64 2):=q0
       have b4:=Hd hpre;have q3:=Q3.o 0 _ hr;have c1:(pa.size:Int)<=(p.size:Int):=vO
       clear q0 hpre hr hle;go_wp2_with fail
       refine (jcK _ p pa vO vO).mono ?_;rintro e c8 ⟨rfl,a7⟩;rw[a7];clear a7;rw[b4.o];go_wp2_with fail
       go_quiet (fail)
       go_wp2_with fail
       refine vC (HH.o _) fun X E=>?_;have A:Hid (Ext wr X):=Hd (by first | exact E | exact (jcO _ _).trans E);clear E;go_wp2_with fail
       refine vH (e7.o X) fun w3 E=>?_;have H:=Hd (A.o.trans E);have J:=HB.o.keeps H.o (fun h=>h);clear A;unfold jad.V;go_wp2_with (refine jag (vs:=m.cells) rfl rfl rfl rfl J (by rw[O.o,b1.o]) (by rw[b1.o];exact Tryz.szNode) m.one ?_;intro W8 Z K)
       go_roundw
       case rel=>exact⟨_,rfl,jix (HE.o.trans H.o) K a3.o,.inl ⟨rfl,f,dn,m,b6.o,Q.o.2,by have:=Q.o.1;have:=HC.o.2.1;omega,by have:=Q.o.1;have:=HC.o.2.2;omega,b5.o,Z⟩⟩
       case measure=>have h9:=Q.o.1;simp only[foM,jjm];omega
      ·have a4:wr.cell? ⟨L,0,none⟩=some (.int .i64 3):=q0
       obtain⟨h0,a8⟩:=jcF hx
       have a1:x.toNat < 16:=jcR (p:=(p,p)) HC.o.1 hx;have q3:=Q3.o _ _ hr;rw[<-a8]at q3 a1;have c9:p.toList.isEmpty=false:=by
        rw[dC];intro e;rw[fB,bL]at e;rw[hx]at e;cases e
       have c1:(0:Int) < (p.size:Int):=vO
       have c2:((p[0]'h0).toNat:Int) < 16:=vO
       have c3:(1:Int)<=(p.size:Int):=vO
       clear q0 hx hr a8;go_wp2_with fail
       go_quiet (fail)
       go_wp2_with fail
       refine vC (HH.o _) fun X E=>?_;have A:Hid (Ext wr X):=Hd (by first | exact E | exact (jcO _ _).trans E);clear E;go_wp2_with fail
       refine vH (e7.o X) fun w3 E=>?_;have H:=Hd (A.o.trans E);have J:=HB.o.keeps H.o (fun h=>h);clear A;unfold jad.V;go_wp2_with (refine jag (vs:=m.cells) rfl rfl rfl rfl J (by rw[O.o,b1.o]) (by rw[b1.o];exact Tryz.szNode) m.one ?_;intro W8 Z K)
       go_roundw
       case rel=>exact⟨_,rfl,jix (HE.o.trans H.o) K a3.o,.inl ⟨rfl,f,dn,m,b6.o,Q.o.2,by have:=Q.o.1;have:=HC.o.2.1;omega,by have:=Q.o.1;have:=HC.o.2.2;omega,b5.o,Z⟩⟩
       case measure=>have h9:=Q.o.1;simp only[foM,jjm];omega
     case inl =>
      obtain⟨h,h1,h2⟩:=hh
      have b3:jcL r=some h:=by rw[h2];exact jeh h1
      rw[jiC,b3]at a0;simp only[optV]at a0;have HH:=Hd a0;have d0:gRef S r=gHash S h:=by unfold gRef;rw[b3];rfl
      rw[d0]at b9;cases ha:atL S h.data.toList with
      | none =>
       have a5:=Hd (show V=none by rw[<-b9.o];unfold gHash;rw[ha];rfl);have a9:=Hd (fun w (e:Ext W w)=>jq2 w s bm room S (HS.o.ext e) (.func (.func 52) #[] #[]) h ha);clear a0 b3 h1 h2 hcl a6 a2 b2 hr0 b0 d0 ha;rcases HY.o with⟨rfl,hpre,hr,rfl,hle⟩ |⟨rfl,x,t,hx,hr,rfl⟩
       ·have a4:wr.cell? ⟨L,0,none⟩=some (.int .i64 2):=q0
        have b4:=Hd hpre;have q3:=Q3.o 0 _ hr;have c1:(pa.size:Int)<=(p.size:Int):=vO
        clear q0 hpre hr hle;go_wp2_with fail
        refine (jcK _ p pa vO vO).mono ?_;rintro e c8 ⟨rfl,a7⟩;rw[a7];clear a7;rw[b4.o];go_wp2_with fail
        go_quiet (fail)
        go_wp2_with fail
        refine vC (HH.o _) fun X E=>?_;have A:Hid (Ext wr X):=Hd (by first | exact E | exact (jcO _ _).trans E);clear E;go_wp2_with fail
        refine vH (a9.o X (HE.o.trans A.o)) fun w3 E=>?_;have H:=Hd (A.o.trans E);have J:=HB.o.keeps H.o (fun h=>h);clear A;unfold jad.V;go_wp2_with (refine jag (vs:=jav.cells) rfl rfl rfl rfl J (by rw[O.o];rfl) (by first | exact Tryz.szNode |(rw[O.o];exact Tryz.szNode)) jav.one ?_;intro W8 Z K)
        go_roundw
        case rel=>exact⟨_,rfl,jix (HE.o.trans H.o) K a3.o,.inr ⟨rfl,a5.o⟩⟩
        case measure=>simp[foM]
       ·have a4:wr.cell? ⟨L,0,none⟩=some (.int .i64 3):=q0
        obtain⟨h0,a8⟩:=jcF hx
        have a1:x.toNat < 16:=jcR (p:=(p,p)) HC.o.1 hx;have q3:=Q3.o _ _ hr;rw[<-a8]at q3 a1;have c9:p.toList.isEmpty=false:=by
         rw[dC];intro e;rw[fB,bL]at e;rw[hx]at e;cases e
        have c1:(0:Int) < (p.size:Int):=vO
        have c2:((p[0]'h0).toNat:Int) < 16:=vO
        have c3:(1:Int)<=(p.size:Int):=vO
        clear q0 hx hr a8;go_wp2_with fail
        go_quiet (fail)
        go_wp2_with fail
        refine vC (HH.o _) fun X E=>?_;have A:Hid (Ext wr X):=Hd (by first | exact E | exact (jcO _ _).trans E);clear E;go_wp2_with fail
        refine vH (a9.o X (HE.o.trans A.o)) fun w3 E=>?_;have H:=Hd (A.o.trans E);have J:=HB.o.keeps H.o (fun h=>h);clear A;unfold jad.V;go_wp2_with (refine jag (vs:=jav.cells) rfl rfl rfl rfl J (by rw[O.o];rfl) (by first | exact Tryz.szNode |(rw[O.o];exact Tryz.szNode)) jav.one ?_;intro W8 Z K)
        go_roundw
        case rel=>exact⟨_,rfl,jix (HE.o.trans H.o) K a3.o,.inr ⟨rfl,a5.o⟩⟩
        case measure=>simp[foM]
      | some y2 =>
       obtain⟨n2,e8⟩:=e9.o y2 (ja7 ha).1
       obtain⟨d1,d2,b7⟩:=jci e8
       have d3:folN S f (nodeOf y2.2.2.text) q=V:=by rw[<-b9.o];unfold gHash;rw[ha];rfl
       obtain⟨m,hm⟩:=vE (nodeOf y2.2.2.text)
       rw[<-hm]at d1 b7 d3;have b5:=Hd d3;have a9:=Hd (fun w (e:Ext W w)=>jvW w s bm room S (HS.o.ext e) h y2 ha d2 m b7 d1);have b6:=Hd b7;have b1:=Hd (m.cells_len (b7.one (inlP d2)).refs);clear a0 b3 h1 h2 hcl a6 a2 b2 hr0 b0 d0 ha e8 d1 b7 d3 hm;rcases HY.o with⟨rfl,hpre,hr,rfl,hle⟩ |⟨rfl,x,t,hx,hr,rfl⟩
       ·have a4:wr.cell? ⟨L,0,none⟩=some (.int .i64 2):=q0
        have b4:=Hd hpre;have q3:=Q3.o 0 _ hr;have c1:(pa.size:Int)<=(p.size:Int):=vO
        clear q0 hpre hr hle;go_wp2_with fail
        refine (jcK _ p pa vO vO).mono ?_;rintro e c8 ⟨rfl,a7⟩;rw[a7];clear a7;rw[b4.o];go_wp2_with fail
        go_quiet (fail)
        go_wp2_with fail
        refine vC (HH.o _) fun X E=>?_;have A:Hid (Ext wr X):=Hd (by first | exact E | exact (jcO _ _).trans E);clear E;go_wp2_with fail
        refine vH (a9.o X (HE.o.trans A.o)) fun w3 E=>?_;have H:=Hd (A.o.trans E);have J:=HB.o.keeps H.o (fun h=>h);clear A;unfold jad.V;go_wp2_with (refine jag (vs:=m.cells) rfl rfl rfl rfl J (by rw[O.o,b1.o]) (by rw[b1.o];exact Tryz.szNode) m.one ?_;intro W8 Z K)
        go_roundw
        case rel=>exact⟨_,rfl,jix (HE.o.trans H.o) K a3.o,.inl ⟨rfl,f,d2,m,b6.o,Q.o.2,by have:=Q.o.1;have:=HC.o.2.1;omega,by have:=Q.o.1;have:=HC.o.2.2;omega,b5.o,Z⟩⟩
        case measure=>have h9:=Q.o.1;simp only[foM,jjm];omega
       ·have a4:wr.cell? ⟨L,0,none⟩=some (.int .i64 3):=q0
        obtain⟨h0,a8⟩:=jcF hx
        have a1:x.toNat < 16:=jcR (p:=(p,p)) HC.o.1 hx;have q3:=Q3.o _ _ hr;rw[<-a8]at q3 a1;have c9:p.toList.isEmpty=false:=by
         rw[dC];intro e;rw[fB,bL]at e;rw[hx]at e;cases e
        have c1:(0:Int) < (p.size:Int):=vO
        have c2:((p[0]'h0).toNat:Int) < 16:=vO
        have c3:(1:Int)<=(p.size:Int):=vO
        clear q0 hx hr a8;go_wp2_with fail
        go_quiet (fail)
        go_wp2_with fail
        refine vC (HH.o _) fun X E=>?_;have A:Hid (Ext wr X):=Hd (by first | exact E | exact (jcO _ _).trans E);clear E;go_wp2_with fail
        refine vH (a9.o X (HE.o.trans A.o)) fun w3 E=>?_;have H:=Hd (A.o.trans E);have J:=HB.o.keeps H.o (fun h=>h);clear A;unfold jad.V;go_wp2_with (refine jag (vs:=m.cells) rfl rfl rfl rfl J (by rw[O.o,b1.o]) (by rw[b1.o];exact Tryz.szNode) m.one ?_;intro W8 Z K)
        go_roundw
        case rel=>exact⟨_,rfl,jix (HE.o.trans H.o) K a3.o,.inl ⟨rfl,f,d2,m,b6.o,Q.o.2,by have:=Q.o.1;have:=HC.o.2.1;omega,by have:=Q.o.1;have:=HC.o.2.2;omega,b5.o,Z⟩⟩
        case measure=>have h9:=Q.o.1;simp only[foM,jjm];omega
def wayN(l:vL)(key:vB):vM:=(jaF l).text :: wayL 12 (jaM l) (jbf key)
def jAj(N:vM)(w:vW)(e:Ending)(w':vW):Prop:=∃ a c,e=.returned (.tuple #[.slice a N.length c,.int .i64 0])/\SRow w w' (.slice a N.length c) N.length N
theorem jxw(W:vW)(s bm:Nat)(room:Int)(S:vT)(hs:jaT W s bm room S)(l:vL)(hM:HasM S l)(key:vB)(hk:key.size<=1000) :
  vQ 26 #[.pointer (some ⟨s,0,none⟩),.string (shaB (jaF l).text),.string key] W (jAj (wayN l key) W):=by
 obtain⟨k0,A⟩:∃ k,k=shaB (jaF l).text:=⟨_,rfl⟩
 have Q:=Hd A;have HS:=Hd hs;have HM:=Hd hM;have HK:=Hd hk
 obtain⟨N,hN⟩:=vE (wayN l key)
 have HN:=Hd hN;rw[<-A, <-hN];clear A hs hM hk hN;go_enter Tryz.func26,Tryz.ntmps26;go_wp2_with fail
 have X:Ext W (W.alloc (.cells #[.slice none 0 0] 30)):=(ExtR W).alloc _;have hB:=Blk.new W (.cells #[.slice none 0 0] 30);have E:jgM W.heap.size W.heap.size (.slice none 0 0) [] (W.alloc (.cells #[.slice none 0 0] 30)):=⟨bM _,hB,⟨0,rfl,.inl ⟨rfl,rfl⟩⟩,fun b hb=>by cases hb⟩;have O:=jrN W _ s bm room S HS.o X W.heap.size (.slice none 0 0) E l HM.o key HK.o;rw[<-Q.o]at O;have Z:=Hd E;have HE:=Hd X
 obtain⟨V,hV⟩:=vE (valL (jaM l) (jbf key))
 rw[<-hV]at O;clear hB E X hV;refine O.mono ?_;rintro e w2 ⟨rfl,v',H⟩;have HT:=Hd H
 obtain⟨n,J⟩:=H.at'.row
 have a0:n=(wayN l key).length:=by have:=J.1;simpa [wayN]using this.symm
 subst a0
 obtain⟨a,c,K⟩:=jaR J
 have q:=H.at'.var.cell (i:=0) (v:=v') vF;have HO:=Hd J;have m:SRow W w2 v' (wayN l key).length (wayN l key):=⟨⟨a,c,K⟩,J,H.ext0 Z.o HE.o (bM _),fun b hb=>(H.at'.own b hb).1⟩;have HF:=Hd m;subst K;rw[<-HN.o]at q HF;clear O H J m HO HT;cases V with
 | none =>
  unfold folV;go_wp2_with fail
  go_ret2
  exact⟨_,_,rfl,HF.o⟩
 | some u =>
  unfold folV;go_wp2_with fail
  go_ret2
  exact⟨_,_,rfl,HF.o⟩
theorem jw3(w:vW)(S:vT):∀ (f:Nat) (l:vL) (p:vB) (g:Nat),jax f l->jaz p=true->p.size < g->(∀ x∈jaB (jac (f+1) l),32<=x.size->HasS S x)->folN S g (jao (jac f) l) p=valL l p:=by
 intro f;induction f with
 | zero =>
  intro l p g h A K E
  obtain⟨g,rfl⟩:∃ k,g=k+1:=⟨g - 1,by omega⟩
  obtain⟨H,J⟩:=jiA h A (jps h)
  rw[<-J];cases hc:jc3 (jao (jac 0) l) p with
  | some u=>rw[jko hc]
  | none=>rw[jhN hc,H];rfl
 | succ f ih =>
  intro l p g h A K E
  obtain⟨g,rfl⟩:∃ k,g=k+1:=⟨g - 1,by omega⟩
  cases hgo:goL l p with
  | none =>
   obtain⟨H,J⟩:=jiA h A hgo
   rw[<-J];cases hc:jc3 (jao (jac (f+1)) l) p with
   | some u=>rw[jko hc]
   | none=>rw[jhN hc,H];rfl
  | some mq =>
   obtain⟨m,q⟩:=mq
   have e:=jiB h A hgo;rw[jhN e.no,e.step,if_neg (jkS e.rows e.ne),jkq w e.rows e.ne (fun o=>E _ (e.flat _ (jc2 _) o) o)];show folN S g (jao (jac f) m) q=_;rw[ih m q g e.rows e.valid (by have:=e.less;omega) (fun x O o=>E x (e.flat x O o) o),e.find]
theorem jrO(W:vW)(s bm:Nat)(room:Int)(S:vT)(hs:jaT W s bm room S)(root key:vB)(f:FuncId)(bs:Array vV)(ha:atL S root.data.toList=none) :
  vR 51 #[.pointer (some ⟨s,0,none⟩),.string root,.string key,.func (.func f) #[] bs] W (.tuple #[.string ⟨#[]⟩,.int .i64 4]):=by
 have m:=Hd (jq2 W s bm room S hs (.func (.func f) #[] bs) root ha);clear hs ha;go_enter Tryz.func51,Tryz.ntmps51;go_wp2_with fail
 refine m.o.mono ?_;rintro e w1 ⟨rfl,K⟩;have O:=Hd K;clear K;unfold jad.V;go_wp2_with (first |(refine jaj Tryz.allocNode rfl rfl ?_;intro Z A E;refine jag (vs:=jav.cells) rfl rfl rfl rfl A rfl Tryz.szNode jav.one ?_;intro Q X H))
 go_ret2;have J:Ext W Q:=(O.o.trans E).trans' H (fun x hx e=>by have e:x=w1.heap.size:=e;have:=O.o.size;omega)
 exact⟨rfl,J⟩
theorem juC(W:vW)(s bm:Nat)(room:Int)(S:vT)(hs:jaT W s bm room S)(hN:jec S)(root:vB)(y:Nd5)(hy:atL S root.data.toList=some y)(key:vB)(hk:key.size<=1000) :
  vR 24 #[.pointer (some ⟨s,0,none⟩),.string root,.string key] W (folV (folN S ((jbf key).size+1) (nodeOf y.2.2.text) (jbf key))):=by
 have m:=Hd (jpV W s bm room S hs hN root y hy key hk)
 obtain⟨V,A⟩:=vE (folN S ((jbf key).size+1) (nodeOf y.2.2.text) (jbf key))
 rw[<-A]at m ⊢;clear A hs hN hy hk;go_enter Tryz.func24,Tryz.ntmps24;go_wp2_with fail
 refine m.o.mono ?_;rintro e J ⟨rfl,E⟩;have H:=Hd E;clear E;cases V with
 | none =>
  unfold folV;go_wp2_with fail
  go_ret2
  exact⟨rfl,H.o⟩
 | some u =>
  unfold folV;go_wp2_with fail
  go_ret2
  exact⟨rfl,H.o⟩
theorem jv4(W:vW)(s bm:Nat)(room:Int)(S:vT)(hs:jaT W s bm room S)(hN:jec S)(l:vL)(hM:HasM S l)(key:vB)(hk:key.size<=1000) :
  vR 24 #[.pointer (some ⟨s,0,none⟩),.string (shaB (jaF l).text),.string key] W (folV (valL (jaM l) (jbf key))):=by
 obtain⟨y,o,A⟩:=hM.has _ (jc2 _)
 have o:atL S (shaB (jaF l).text).data.toList=some y:=o;have E:=juC W s bm room S hs hN (shaB (jaF l).text) y o key hk;have m:=jbx (jaG hM.ok);have H:jbC (jaF l).text (jao (jac 12) (jaM l)):=⟨rfl,12,(good 12 (jaM l) m).1⟩;have e:nodeOf y.2.2.text=jao (jac 12) (jaM l):=by rw[A];exact jdz W (jci H) H
 rw[e,jw3 W S 12 (jaM l) (jbf key) _ m (jcS key) vO (fun x J _=>hM.has x J)]at E;exact E
theorem jw4(W:vW)(s bm:Nat)(room:Int)(S:vT)(hs:jaT W s bm room S)(root key:vB)(ha:atL S root.data.toList=none) :
  vR 24 #[.pointer (some ⟨s,0,none⟩),.string root,.string key] W (.tuple #[.string ⟨#[]⟩,.int .i64 4]):=by
 have A:=Hd (jrO W s bm room S hs root key 52 #[] ha);clear hs ha;go_enter Tryz.func24,Tryz.ntmps24;go_wp2_with fail
 refine A.o.mono ?_;rintro e H ⟨rfl,m⟩;have E:=Hd m;clear m;go_wp2_with fail
 go_ret2
 exact⟨rfl,E.o⟩
def twP:vL:=[(⟨#[97]⟩,⟨#[49]⟩),(⟨#[98]⟩,⟨#[50]⟩)]
def twQ:vL:=[(⟨#[98]⟩,⟨#[50]⟩)]
def twC:List Chg:=[⟨⟨#[97]⟩,⟨#[49]⟩,false⟩,⟨⟨#[98]⟩,⟨#[50]⟩,false⟩]
def twD:List Chg:=[⟨⟨#[97]⟩,⟨#[]⟩,true⟩]
theorem jmI:jaD ([]:vL)=0:=by decide +kernel
theorem tw_p:jaD twP=0:=by decide +kernel
theorem tw_q:jaD twQ=0:=by decide +kernel
theorem jja{m:vL}(h:jaD m=0):jb2 m=m:=jgC (jf6 (jge h).2.nodup) (jge h).2 (jl2 m)
theorem jA0:jaY [] twC=0:=by decide +kernel
theorem jx3:jby [] twC=twP:=by unfold jby;rw[show jbX [] twC=twP by decide +kernel,jja tw_p]
theorem jA1:jaY twP twD=0:=by decide +kernel
theorem jx4:jby twP twD=twQ:=by unfold jby;rw[show jbX twP twD=twQ by decide +kernel,jja tw_q]
theorem jA2:jaY twQ []=0:=by decide +kernel
theorem jAZ:jby twQ []=twQ:=by unfold jby;rw[show jbX twQ []=twQ by decide +kernel,jja tw_q]
def twU:vM:=[(jaF []).text,(jaF twP).text,(jaF twQ).text]
theorem jvK:jaV []=[(jaF []).text]:=by decide +kernel
theorem jzX:jaV twP=[(jaF twP).text]:=by decide +kernel
theorem jzY:jaV twQ=[(jaF twQ).text]:=by decide +kernel
theorem jzU:∀ t∈jaV [],t∈twU:=by rw[jvK];intro t e;rw[cG.1 e];simp[twU]
theorem jx6:∀ t∈jaV twP,t∈twU:=by rw[jzX];intro t e;rw[cG.1 e];simp[twU]
theorem jzV:∀ t∈jaV twQ,t∈twU:=by rw[jzY];intro t e;rw[cG.1 e];simp[twU]
theorem jjd:InjL twU:=by unfold InjL;decide +kernel
theorem jvI:jtO twU:=fun t e=>by
 unfold twU at e;rcases bX.1 e with rfl | e
 ·exact jcM jmI _ (by rw[jvK];simp)
 rcases bX.1 e with rfl | e
 ·exact jcM tw_p _ (by rw[jzX];simp)
 ·rw[cG.1 e];exact jcM tw_q _ (by rw[jzY];simp)
theorem jpk:(jaF []).text=⟨#[128]⟩:=by decide +kernel
theorem jzR:belowM twP=[]:=by rw[jfs tw_p];decide +kernel
theorem jx5:belowM twQ=[]:=by rw[jfs tw_q];decide +kernel
theorem jiM{S:vT}{m:vL}(h:belowM m=[]):newM S m=[(jaF m).text]:=by unfold newM;rw[h];rfl
theorem jA4:valL (jaM twP) (jbf ⟨#[97]⟩)=some ⟨#[49]⟩:=by decide +kernel
theorem jA5:valL (jaM twQ) (jbf ⟨#[97]⟩)=none:=by decide +kernel
theorem tw_w:wayN twQ ⟨#[98]⟩=[(jaF twQ).text]:=by decide +kernel
theorem jzW:(ky (jaF twQ).text=ky (jaF []).text)=False/\(ky (jaF twQ).text=ky (jaF twP).text)=False:=by
 constructor <;>(apply eq_false;decide +kernel)
theorem jzS:∀ c∈twC,c.key.size<=9223372036854775807/\c.value.size<=9223372036854775807:=by unfold twC;simp;decide
theorem jzT:∀ c∈twD,c.key.size<=9223372036854775807/\c.value.size<=9223372036854775807:=by unfold twD;simp;decide
theorem joZ(w:vW)(xs:List Chg)(T:TypeId):RdC (w.alloc (.cells (jeT xs).toArray T)) (.slice (some ⟨w.heap.size,0,none⟩) xs.length xs.length) xs:=
 .inr ⟨w.heap.size,0,xs.length,rfl,by simp,bM _,fun j x e=>by
  obtain⟨m,o,A⟩:=jfS xs j x e
  exact⟨by rw[cF];exact (Blk.new w _).cellL m,by rw[cF];exact (Blk.new w _).cellL o,by rw[cF];exact (Blk.new w _).cellL A⟩⟩
theorem jvj(w:vW)(xs:vL)(T:TypeId):RdP (w.alloc (.cells (jef xs).toArray T)) (.slice (some ⟨w.heap.size,0,none⟩) xs.length xs.length) xs:=by
 refine .inr ⟨_,0,_,rfl,(Blk.new w _).lt,bM _,fun j x e=>?_⟩
 obtain⟨m,o⟩:=jfu xs j x e
 exact⟨by rw[cF];exact (Blk.new w _).cellL m,by rw[cF];exact (Blk.new w _).cellL o⟩
theorem jAI{U:vM}{S:vT}(h:Kp U S){k:vB}(hk:k.size≠32):atL S k.data.toList=none:=by
 cases ha:atL S k.data.toList with
 | none=>rfl
 | some y =>
  obtain⟨o,A⟩:=ja7 ha
  obtain⟨t,_,e,_⟩:=h.is y o
  have m:=congrArg List.length (A.symm.trans e);have E:(ky t).length=32:=jbA t;rw[E,jaI]at m;exact absurd m hk
theorem jrG(w:vW)(hc:jbW w):vR 23 #[] w (.string (rootM [])):=by
 have E:=Hd (jnE w (.slice none 0 0) [] hc (.inl ⟨none,0,rfl,rfl⟩) jmI);have m:=Hd (show shaB (jaF []).text=rootM []from rfl);rw[m.o]at E
 obtain⟨K,A⟩:=vE (rootM [])
 rw[<-A]at E ⊢;clear m A hc;go_enter Tryz.func23,Tryz.ntmps23;go_wp2_with fail
 refine E.o.mono ?_;rintro e w1 ⟨rfl,H⟩;have J:=Hd H;clear H;go_wp2_with fail
 go_ret
 exact⟨rfl,J.o⟩
theorem jA3:(rootM [] == rootM [])=true/\(rootM twQ == rootM twQ)=true:=by
 constructor <;>(rw[jeS];exact decide_eq_true rfl)
theorem jvJ:Part [] [] [(⟨#[128]⟩:vB)]:=by
 have h:=joS [] jmI;rw[jvK,jpk]at h;exact h
structure TwS(w0 W:World)(s bm:Nat)(S:vT)(n:Nat):Prop where
 ext:Ext w0 W
 st:jaT W s bm 100 S
 kp:Kp twU S
 len:S.length<=n
 bnew:w0.heap.size<=bm
 new:∀ x∈S,w0.heap.size<=x.2.1
 hb:∀ x∈S,x.2.2.held<=n
theorem TwS.grow{w0 W W':vW}{s bm:Nat}{S:vT}{n:Nat}(h:TwS w0 W s bm S n)(k:Ext W W'):TwS w0 W' s bm S n:=
 ⟨h.ext.trans k,h.st.ext k,h.kp,h.len,h.bnew,h.new,h.hb⟩
theorem TwS.bds{w0 W:vW}{s bm:Nat}{S:vT}{n:Nat}(h:TwS w0 W s bm S n)(hn:n<=5):S.length<=100000/\(∀ x∈S,0<=x.2.2.used/\x.2.2.used<=1000000000)/\(∀ x∈S,0<=x.2.2.held/\x.2.2.held<=1000000000):=
 ⟨by have:=h.len;omega,h.kp.bd (by have:=h.len;omega),fun x e=>⟨h.kp.cnt.held x e,by have:=h.hb x e;omega⟩⟩
theorem TwS.nodes{w0 W:vW}{s bm:Nat}{S:vT}{n:Nat}(h:TwS w0 W s bm S n):jec S:=h.kp.nodes jvI
theorem TwS.add{w0 W W':vW}{s bm:Nat}{S S':vT}{n:Nat}{m:vL}{L:vM}{e:Ending}(h:TwS w0 W s bm S n)(hL:L.length=1)(hY:ComY W s bm 100 twU S m L e W' S'):TwS w0 W' s bm S' (n+1):=
 ⟨h.ext.trans' hY.kp (fun z E e=>by
  rcases e with e | e
  ·have:=h.bnew;omega
  ·obtain⟨y,o,e⟩:=bI.1 e
   have:=h.new y o;omega),hY.st,hY.add.kp,by have:=hY.add.len;have:=h.len;omega,h.bnew,fun x A=>by
  rcases hY.add.blk x A with e | e
  ·obtain⟨y,o,e⟩:=bI.1 e
   have:=h.new y o;omega
  ·have:=h.ext.size;omega,fun x A=>by
   have:=hY.add.bd n vO h.hb x A
   omega⟩
theorem jvP(w:vW)(hc:jbW w)(he:ErrT w):vR 4 #[] w (.bool true):=by
 have HC:=Hd hc;have a8:=Hd he;clear hc he;go_enter Tryz.func4,Tryz.ntmps4;go_wp2_with fail
 refine (jtk w 100).mono ?_;rintro e w1 ⟨s,X,rfl,J,hS,b4,c2,c3⟩;have b5:=Hd (show TwS w w1 s X [] 0 from⟨J,hS,Kp.none _,bM _,b4,(fun x hx=>by cases hx),(fun x hx=>by cases hx)⟩);clear J hS b4 c2 c3;have d3:∀ W:vW,(convert 52 9 (.slice (some ⟨W.heap.size,0,none⟩) 1 1)).run Tryz.prog (W.alloc (.cells #[.int .u8 128] 5))=.ok (.string ⟨#[128]⟩) (W.alloc (.cells #[.int .u8 128] 5)):=fun W =>
  jbr (l:=[128]) _ Tryz.uBytes Tryz.uU8 Tryz.uStr (World.ownsRow_lit W #[.int .u8 128] 1 (cD _) (by unfold maxLen;omega) rfl)
 go_wp2_with fail
 have b6:=((ExtR w1).alloc (.cells #[.int .u8 128] 5)).alloc (.cells #[.string ⟨#[128]⟩] 9);have b7:RdS ((w1.alloc (.cells #[.int .u8 128] 5)).alloc (.cells #[.string ⟨#[128]⟩] 9)) (.slice (some ⟨w1.heap.size+1,0,none⟩) 1 1) [⟨#[128]⟩]:=by
  have:=jdp (w1.alloc (.cells #[.int .u8 128] 5)) [⟨#[128]⟩] 9
  rwa [bR]at this
 have Z:=Hd (b5.o.grow b6);refine (jj4 _ (HC.o.ext Z.o.ext) (a8.o.ext Z.o.ext) s X 100 [] Z.o.st _ [⟨#[128]⟩] b7 False (jgQ (fun t ht=>by
  obtain⟨n,hn⟩:=jcM jmI t (by rw[jvK,jpk];exact ht)
  exact⟨n,hn⟩)) (by simp) ⟨#[128]⟩ rfl vI vI (by simp) (fun x hx=>by cases hx) (fun x hx=>by cases hx)).mono ?_
 intro e w3 hA;rcases jnT _ _ jjd (Kp.none twU) jvJ jzU (by simp) (ExtR _) hA with⟨_,_,h3⟩ |⟨S3,m⟩
 ·simp at h3
 have a4:=m.res;subst a4;have b1:=Hd (Z.o.add rfl m);have b8:=Hd (m.add.has jjd jmI jzU);have c4:=Hd (show jnm (atL S3 (ky (jaF twQ).text))=0 by rw[m.add.held,if_neg (by rw[jzW.1];exact fun e=>e)];rfl);clear hA m b7 b6 b5 Z;go_wp2_with fail
 refine vH (jrG w3 (HC.o.ext b1.o.ext)) fun w4 J=>?_;have b9:=Hd (b1.o.grow J);clear b1;go_wp2_with fail
 have K:=(ExtR w4).alloc (.cells (jeT twC).toArray 55);have E:=Hd (b9.o.grow K);have hb:=E.o.bds vI;refine (jhK _ (HC.o.ext E.o.ext) (a8.o.ext E.o.ext) s X 100 S3 E.o.st E.o.nodes [] b8.o _ twC (joZ w4 twC 55) vI jzS vI vI hb.1 hb.2.1 hb.2.2).mono ?_;intro e w6 a5
 obtain⟨S6,m⟩:=jkh _ jjd E.o.kp jA0 (by rw[jx3];exact jx6) a5 (by rw[jx3,jiM jzR];have:=E.o.len;simp;omega)
 rw[jx3,jiM jzR]at m;have a4:=m.res;subst a4;have c0:=Hd (E.o.add rfl m);have b2:=Hd (m.add.has jjd tw_p jx6);have c5:=Hd (show jnm (atL S6 (ky (jaF twQ).text))=0 by rw[m.add.held,c4.o,if_neg (by rw[jzW.2];exact fun e=>e)];rfl);clear hb a5 m K b9 E b8;go_wp2_with fail
 have K:=(ExtR w6).alloc (.cells (jeT twD).toArray 55);have H:=Hd (c0.o.grow K);have hb:=H.o.bds vI;refine (jhK _ (HC.o.ext H.o.ext) (a8.o.ext H.o.ext) s X 100 S6 H.o.st H.o.nodes twP b2.o _ twD (joZ w6 twD 55) vI jzT vI vI hb.1 hb.2.1 hb.2.2).mono ?_;intro e w8 a5
 obtain⟨S8,m⟩:=jkh _ jjd H.o.kp jA1 (by rw[jx4];exact jzV) a5 (by rw[jx4,jiM jx5];have:=H.o.len;simp;omega)
 rw[jx4,jiM jx5]at m;have a4:=m.res;subst a4;have a9:=Hd (H.o.add rfl m);have c6:=Hd (show jnm (atL S8 (ky (jaF twQ).text))=1 by rw[m.add.held,c5.o,if_pos rfl];rfl);have a6:=Hd (bB (m.add.more jjd jx6 b2.o) (m.add.has jjd tw_q jzV));clear hb a5 m K c0 H b2;go_wp2_with fail
 refine vH (jv4 w8 s X 100 S8 a9.o.st a9.o.nodes twP a6.o.1 ⟨#[97]⟩ vI) fun w9 J=>?_;have b0:=Hd (a9.o.grow J);rw[jA4];clear a9;unfold folV;go_wp2_with fail
 refine vH (jv4 w9 s X 100 S8 b0.o.st b0.o.nodes twQ a6.o.2 ⟨#[97]⟩ vI) fun c7 J=>?_;have O:=Hd (b0.o.grow J);rw[jA5];clear b0;unfold folV;go_wp2_with fail
 refine vH (jw4 c7 s X 100 S8 O.o.st ⟨#[120]⟩ ⟨#[97]⟩ (jAI O.o.kp vI)) fun c1 J=>?_;have a7:=Hd (O.o.grow J);clear O;go_wp2_with fail
 have K:=(ExtR c1).alloc (.cells (jef twQ).toArray 59);have a0:=Hd (a7.o.grow K);refine vH (jnE _ _ twQ (HC.o.ext a0.o.ext) (jvj c1 twQ 59) tw_q) fun c8 J=>?_;rw[show shaB (jaF twQ).text=rootM twQ from rfl];have Q:=Hd (a0.o.grow J);clear K a7 a0;go_wp2_with fail
 refine (jwh c8 s X 100 S8 Q.o.st Q.o.nodes twP a6.o.1).mono ?_;rintro e c9 ⟨d4,rfl,hR⟩;have a1:=Hd (Q.o.grow hR.ext)
 obtain⟨d5,d6,rfl⟩:=hR.sl
 clear hR Q;go_wp2_with fail
 have hP:=jxw c9 s X 100 S8 a1.o.st twQ a6.o.2 ⟨#[98]⟩ vI;rw[tw_w,show shaB (jaF twQ).text=rootM twQ from rfl]at hP;refine hP.mono ?_;rintro e d0 ⟨d7,d8,rfl,hR⟩;have A:=Hd (a1.o.grow hR.ext);clear hR hP a1;go_wp2_with fail
 refine (jx7 d0 (HC.o.ext A.o.ext) (a8.o.ext A.o.ext) s X 100 S8 A.o.st A.o.nodes twQ a6.o.2 (.slice none 0 0) [] (.inl ⟨none,0,rfl,rfl⟩) vI (fun c hc=>by cases hc)).mono ?_;intro e d1 hU;unfold UpdP at hU;rw[if_pos jA2,jAZ,jiM jx5]at hU
 obtain⟨r,rfl,hR⟩:=hU
 have a2:=Hd (A.o.grow hR.ext)
 obtain⟨d9,e0,rfl⟩:=hR.sl
 clear hR A;go_wp2_with fail
 refine vH (jrG d1 (HC.o.ext a2.o.ext)) fun d2 J=>?_;have a3:=Hd (a2.o.grow J);have hq:=jA3
 obtain⟨e1,e2⟩:=hq
 clear a2;go_wp2_with fail
 have hH:=jxV d2 s X 100 S8 (rootM twQ) a3.o.st;rw[show jnm (atL S8 (rootM twQ).data.toList)=1 from c6.o]at hH;refine hH.mono ?_;rintro e e3 ⟨rfl,J⟩;have b3:=Hd (a3.o.grow J);clear J a3 hH;go_wp2_with fail
 go_ret
 exact⟨rfl,b3.o.ext⟩
def jAt(w:vW)(n:Nat)(iv:vV)(W:vW)(l m:vM):Prop:=∃ i:Nat,i<=n/\iv=.int .i64 i/\l.take i=m.take i/\Ext w W
theorem jnJ(w:vW)(v u:vV)(l m:vM)(hv:RdS w v l)(hu:RdS w u m)(hn:l.length<=1000000)(hn2:m.length<=1000000):vR 17 #[v,u] w (.bool (decide (l=m))):=by
 obtain⟨a,c,rfl,_⟩:=hv.slice
 obtain⟨a2,c2,rfl,_⟩:=hu.slice
 have HV:=Hd hv;have HU:=Hd hu;clear hv hu
 by_cases hl:l.length=m.length
 ·have a5:(l.length:Int)=(m.length:Int):=vO
  obtain⟨n,E⟩:=vE l.length
  have X:m.length=n:=vO
  have Z:=Hd X;have a0:=Hd E;rw[X, <-E];rw[<-E]at hn;clear a5 hl X E hn2;go_enter Tryz.func17,Tryz.ntmps17;go_wp2_with fail
  go_loopw [5] (fun iv wr=>jAt w n iv wr l m) (fun iv _=>n - (intOf iv).toNat)
  case atStart=>exact⟨0,cD _,rfl,rfl,ExtR w⟩
  case round =>
   obtain⟨i,hi,rfl,a1,hE⟩:=hrel
   have HE:=Hd hE;have a3:=Hd a1;clear hE a1
   by_cases hlt:i < n
   ·have b1:(i:Int) < (n:Int):=vO
    have H:i < l.length:=by have:=a0.o;omega
    have J:i < m.length:=by have:=Z.o;omega
    obtain⟨x,hx⟩:∃ x,l[i]?=some x:=⟨_,bA H⟩
    obtain⟨y,hy⟩:∃ y,m[i]?=some y:=⟨_,bA J⟩
    have a6:RdS w (.slice a n c) l:=by have:=HV.o;rwa [<-a0.o]at this
    have a7:RdS w (.slice a2 n c2) m:=by have:=HU.o;rwa [Z.o]at this
    have K:∃ ba oa,a=some ⟨ba,oa,none⟩/\wr.cell? ⟨ba,oa+i,none⟩=some (.string x):=by
     rcases HV.o with⟨_,_,_,h0⟩ |⟨bq,oq,cq,hh,_,_,hcell⟩
     ·rw[h0]at H;cases H
     ·exact⟨bq,oq,(cT hh).1,jaa (hcell i x hx) HE.o⟩
    have O:∃ ba oa,a2=some ⟨ba,oa,none⟩/\wr.cell? ⟨ba,oa+i,none⟩=some (.string y):=by
     rcases HU.o with⟨_,_,_,h0⟩ |⟨bq,oq,cq,hh,_,_,hcell⟩
     ·rw[h0]at J;cases J
     ·exact⟨bq,oq,(cT hh).1,jaa (hcell i y hy) HE.o⟩
    obtain⟨ba,oa,rfl,K⟩:=K
    obtain⟨a8,a9,rfl,O⟩:=O
    have HX:=Hd hx;have HY:=Hd hy;have Q1:=Hd K;have Q2:=Hd O;clear a6 a7 H J hx hy K O;go_wp2_with fail
    refine jah [0,1,2,3,4,5,6,7,8] Ext ExtR ExtT vY vY vY ?_;iterate 3 refine vK ?_
    refine qKL ⟨ba,oa+i,none⟩ _ rfl (fun w1 Q=>jab Tryz.underlying9 rfl (jaa Q1.o ((jai wr).trans Q))) ?_;refine vS ?_;iterate 3 refine vK ?_
    refine qKL ⟨a8,a9+i,none⟩ _ rfl (fun w1 Q=>jab Tryz.underlying9 rfl (jaa Q2.o ((jai wr).trans Q))) ?_;refine vS ?_
    refine vK ?_
    refine qKE (fun w3 he=>?_);have a4:=Hd (HE.o.trans ((jai wr).trans he));clear he HE Q1 Q2
    by_cases hxy:x=y
    ·subst hxy
     have A:(!x.toList == x.toList)=false:=by simp
     rw[A];clear A;have HT:=Hd (show l.take (i+1)=m.take (i+1) by rw[bS,bS,HX.o,HY.o,a3.o]);go_wp2_with fail
     go_roundw
     case rel=>exact⟨i+1,by omega,by go_num,HT.o,a4.o⟩
     case measure=>exact vJ
    ·have A:(!x.toList == y.toList)=true:=by
      have:¬ x.toList=y.toList:=fun e=>hxy (jdE e)
      simpa using this
     rw[A];clear A;have HN:=Hd (show decide (l=m)=false from decide_eq_false (fun e=>by
      have Q:=HX.o;rw[e,HY.o]at Q;exact hxy (bN Q).symm))
     go_wp2_with fail
     go_ret
     exact⟨by rw[HN.o];rfl,a4.o⟩
   ·have b0:i=n:=vO
    have HD:=Hd (show decide (l=m)=true from decide_eq_true (by
     have Q:=a3.o;rw[b0,bQ (by rw[<-a0.o];exact bM _),bQ (by rw[Z.o];exact bM _)]at Q;exact Q))
    go_wp2_with fail
    go_ret
    exact⟨by rw[HD.o];rfl,HE.o⟩
 ·have HL:Hid (decide (l=m)=false):=(decide_eq_false (fun e=>hl (by rw[e])))
  have hb:((l.length:Int) ==(m.length:Int))=false:=by simp;omega
  have b2:¬(l.length:Int)=(m.length:Int):=vO
  rw[HL.o];go_enter Tryz.func17,Tryz.ntmps17;go_wp2_with fail
  go_ret
  exact⟨rfl,ExtR w⟩
def ThR(W:vW)(K:vM)(g:vB->vB)(tv iv bv nv:vV)(wr:vW):Prop:=∃ i:Nat,i<=K.length/\iv=.int .i64 i/\SRow W wr tv i ((K.take i).map g)
theorem jqx(w:vW)(hc:jbW w)(he:ErrT w)(v u o:vV)(l:vL)(cs:List Chg)(om:vL)(hv:RdP w v l)(hu:RdC w u cs)(ho:RdP w o om)(hn:l.length<=9223372036854775807)(hnc:cs.length<=9223372036854775807)(h3:om.length<=9223372036854775807)(hs:jdH l)(hsc:jjo cs)(hso:jdH om) :
  vR 3 #[v,u,o] w (.bool true):=by
 have HC:=Hd hc;have d2:=Hd he;have HV:=Hd hv;have HU:=Hd hu;have HO:=Hd ho;have HS:=Hd (bB hs (bB hsc hso));have HN:=Hd (bB hn (bB hnc h3))
 obtain⟨ad,c,rfl⟩:=hv.sl
 obtain⟨p7,c2,rfl⟩:=hu.sl
 obtain⟨p8,c3,rfl⟩:=ho.sl;clear hc hv hs hn he hu hsc hnc ho hso h3;go_enter Tryz.func3,Tryz.ntmps3;go_wp2_with fail
 refine vH (jvP w HC.o d2.o) fun w1 e7=>?_;go_wp2_with fail
 refine (juI w1 (HC.o.ext e7.o) (d2.o.ext e7.o) _ l (HV.o.ext e7.o) HN.o.1 HS.o.1).mono ?_;rintro e w2 (⟨rfl,m,h3⟩ |⟨s,bm,S,rfl,hH⟩)
 ·have e8:=Hd (e7.o.trans m)
  clear m h3;go_wp2_with fail
  refine vH (jv3 w2 _ cs (HU.o.ext e8.o) HN.o.2.1 HS.o.2.1) fun w3 m=>?_;have c4:=Hd (e8.o.trans m);cases fewC cs with
  | false =>
   go_wp2_with fail
   go_ret
   exact⟨rfl,c4.o⟩
  | true =>
   go_wp2_with fail
   refine vH (jrJ w3 _ om (HO.o.ext c4.o) HN.o.2.2 HS.o.2.2) fun w4 m=>?_;have d3:=Hd (c4.o.trans m);go_wp2_with fail
   go_ret
   exact⟨rfl,d3.o⟩
 have i0:=Hd hH.tst;have HM:=Hd hH.has;have f5:=Hd e7.o
 obtain⟨rt,i1⟩:=vE (rootM l)
 have i2:=Hd i1;rw[show shaB (jaF l).text=rootM l from rfl, <-i1];clear hH i1;go_wp2_with fail
 have e8:=Hd (e7.o.trans i0.o.ext);refine vH (jv3 w2 _ cs (HU.o.ext e8.o) HN.o.2.1 HS.o.2.1) fun w3 m=>?_;have c4:=Hd (e8.o.trans m);have k6:=Hd (i0.o.grow m);clear e8 i0;cases hfc:fewC cs with
 | false =>
  go_wp2_with fail
  go_ret
  exact⟨rfl,c4.o⟩
 | true =>
 have k7:=Hd (juw hfc);clear hfc;go_wp2_with fail
 refine vH (jrJ w3 _ om (HO.o.ext c4.o) HN.o.2.2 HS.o.2.2) fun w4 m=>?_;have d3:=Hd (c4.o.trans m);have i3:=Hd (k6.o.grow m);clear c4 k6;cases fewB om with
 | false =>
  go_wp2_with fail
  go_ret
  exact⟨rfl,d3.o⟩
 | true =>
 go_wp2_with fail
 refine (jsB w4 (HC.o.ext d3.o) _ om (HO.o.ext d3.o) HN.o.2.2 HS.o.2.2).mono ?_;rintro e w5 ⟨a5,n5,c5,k5,rfl,m,h4,f6⟩;have f1:=Hd (d3.o.trans m);have d4:=Hd ((i3.o.grow m).more (V:=jaV l++jaV om) (fun t ht=>iD _ ht));have h5:=Hd (bB h4 f6);have H:Hid (HasM S l/\jec S):=⟨HM.o,i3.o.kp.nodes (jcM HM.o.ok)⟩;clear m d3 i3 f6 HM
 by_cases hko:jaD om=0
 case' neg =>
  have k8:(k5 == 0)=false:=by rw[h5.o.1];simpa using hko
  have b5:Hid (Tst w1 w5 s bm 2000 (jaV l++jaV om) S 300):=d4.o.up vO;have e9:=f1
  obtain⟨w6,k9⟩:=vE w5
  obtain⟨E,l0⟩:=vE S
  rw[<-k9]at b5 e9 ⊢;rw[<-l0]at b5 H;clear hko h4 k9 l0 f1 d4 h5;go_wp2_with fail
 case' pos =>
  have k8:k5=0:=h4.trans hko;subst k8
  obtain⟨o1,l1⟩:=h5.o.2 hko
  have l2:=Hd l1;have f2:=Hd hko;clear o1 l1 hko h4;go_wp2_with fail
  have hb:=d4.o.bds vO;refine (jwC w5 (HC.o.ext f1.o) (d2.o.ext f1.o) s bm 2000 S d4.o.st _ (jaV om) (SRow.rd l2.o) (fun t ht=>.inl (jcM f2.o t ht)) (by have:=jb5 f2.o;omega) vI vI hb.1 hb.2.1 hb.2.2).mono ?_;intro e w6 f7
  obtain⟨x6,y6,E,rfl,l3,l4⟩:∃ x y E,e=.returned (.tuple #[x,y])/\Tst w1 w6 s bm 2000 (jaV l++jaV om) E 300/\HasM E l/\jec E:=by
   rcases f7 with⟨k,hk,rfl,m⟩ |⟨top,G,M,htop,hA⟩
   ·exact⟨_,_,S,rfl,(d4.o.grow m).up vO,H.o⟩
   ·exact⟨_,_,addS S G M top,hA.res,(jx2 (k:=130) d4.o hA (fun t ht=>gY _ ht) (by have:=jb5 f2.o;omega) (by have:=jb5 f2.o;omega) vO).up vO,jqL H.o.1,hA.nodesS H.o.2⟩
  have b5:=Hd l3;have H:=Hd l4;have e9:=Hd (f5.o.trans b5.o.ext);clear f7 l3 l4 f1 d4 h5 l2 f2 hb;go_wp2_with fail
 all_goals (
  refine (ji9 w6 s bm 2000 E b5.o.st (by have:=b5.o.len;omega)).mono ?_;rintro e w7 ⟨p9,rfl,X⟩
  obtain⟨K,hK⟩:=vE (baL (jea (E.map (·.1))))
  rw[<-hK]at X;have l5:K.length=E.length:=by rw[hK];unfold baL;rw[bU,jfp,bU]
  have HK:=Hd hK;have l6:=Hd (show ∀ (i:Nat) k,K[i]?=some k->∃ y,atL E k.data.toList=some y from fun i k hk=>by
   rw[hK]at hk;unfold baL at hk;rw[bV]at hk
   obtain⟨z,hz,rfl⟩:=dR.1 hk
   have hm:=(gE _ _).mem_iff.1 (bE hz);exact dG.1 (jdo.2 (by simpa using hm)))
  have o2:=Hd (show thL E=K.map (txtO E) by rw[hK];rfl);rw[<-l5]at X;have o0:K.length<=300:=by have:=b5.o.len;omega
  have i4:=Hd (b5.o.grow X.ext)
  obtain⟨a7,c7,rfl⟩:=X.sl;have i5:=Hd X;have p4:=Hd (bB (HC.o.ext (e9.o.trans X.ext)) (d2.o.ext (e9.o.trans X.ext)));have o3:=Hd (e9.o.trans X.ext);clear X hK l5 b5 e9;go_wp2_with fail
  go_loopw [13,15,16,17] (fun tv iv bv nv wr=>ThR w7 K (txtO E) tv iv bv nv wr) (fun _ iv _ _ _=>K.length - (intOf iv).toNat)
  case atStart=>exact⟨0,cD _,rfl,ORow.nil _ _ (ExtR w7)⟩
  case round =>
   obtain⟨i,hi,rfl,hT⟩:=hrel
   have HT:=Hd hT
   obtain⟨o4,ct,o5⟩:=hT.sl
   subst o5;clear hT
   by_cases hlt:i < K.length
   ·have b1:(i:Int) < (K.length:Int):=vO
    obtain⟨k,hk⟩:∃ k,K[i]?=some k:=⟨_,bA hlt⟩
    obtain⟨g,hg,c8⟩:=joR (SRow.past i5.o (ExtR w7) (fun b hb=>hb.elim)) vO
    subst hg;have q1:=jaa (c8 i k hk) HT.o.ext
    obtain⟨y,hy⟩:=l6.o i k hk
    have HY:=Hd (show txtO E k=y.2.2.text by unfold txtO;rw[hy];rfl);have o6:=Hd hk;have i6:=ji8 wr s bm 2000 E k (i4.o.st.ext HT.o.ext);rw[hy]at i6;have l7:=Hd i6;clear c8 hy hk i6;go_wp2_with fail
    refine l7.o.mono ?_;rintro e w8 ⟨rfl,m⟩;have h6:=Hd (HT.o.mono m);rw[show optV ((some y:Option Nd5).map (·.2.2.text))=.tuple #[.string y.2.2.text,.bool true]from rfl, <-HY.o]
    obtain⟨tx,i7⟩:=vE (txtO E k)
    have o7:=Hd i7;rw[<-i7];clear m i7 l7;have q0:i<=300:=vO
    go_wp2_with (at_builtin;go_loud (refine jaS Tryz.sStrs (h6.o.mono ((ExtR w8).alloc _)) (.tmp 77) (.tmp 79) rfl rfl rfl (jaH (Blk.new w8 _)) (news:=[.string tx]) (by intro u hu;simp at hu;rw[hu];rfl) rfl rfl (by unfold maxLen;omega) vO (fun v9 w9 r1 r2 r3=>?_);obtain⟨a9,c9,rfl⟩:=r1.sl;have h7:=Hd (show SRow w7 w9 (.slice a9 (i+1) c9) (i+1) ((K.take (i+1)).map (txtO E)) by unfold SRow;rw[bS,o6.o,bZ,bZ,show (some k).toList=[k]from rfl,bT,gN, <-o7.o];exact r1);clear r1 r2 r3))
    go_roundw
    case rel=>exact⟨i+1,by omega,by go_num,h7.o⟩
    case measure=>exact vJ
   ·have o8:i=K.length:=vO
    subst o8;have l8:=Hd (show SRow w7 wr (.slice o4 K.length ct) K.length (thL E) by have h:=HT.o;rw[cE, <-o2.o]at h;exact h);have h8:=Hd (o3.o.trans HT.o.ext);have h6:=Hd (i4.o.grow HT.o.ext);have l9:=Hd (i5.o.mono HT.o.ext);clear HT i4 i5 l6;go_wp2_with fail
    refine (joY wr _ _ l cs (HV.o.ext h8.o) (HU.o.ext h8.o) (by have:=(jaG H.o.1.ok).len;omega) k7.o HS.o.1 HS.o.2.1).mono ?_;intro e w9 d5
    obtain⟨x0,d6⟩:=vE (jaY l cs)
    obtain⟨mv,mm,rfl,f3,i8,m0,m1⟩:∃ mv mm,e=.returned (.tuple #[mv,.int .i64 x0])/\Ext wr w9/\RdP w9 mv mm/\jaD mm=0/\(jaY l cs=0->mm=jby l cs):=by
     obtain⟨m,d5⟩:=d5
     by_cases h0:jaY l cs=0
     ·rw[if_pos h0]at d5
      obtain⟨r,rfl,hr⟩:=d5
      exact⟨r,_,by rw[d6,h0],m,hr,jca h0,fun _=>rfl⟩
     ·rw[if_neg h0]at d5
      exact⟨_,[],by rw[d6];exact d5,m,.inl ⟨none,0,rfl,rfl⟩,by decide,fun h=>absurd h h0⟩
    have J:=Hd d6;have f0:=Hd (bB i8 (bB m0 m1));have m2:=Hd (h8.o.trans f3);have h7:=Hd (h6.o.grow f3);have m3:=Hd (l9.o.mono f3);have d8:=Hd (l8.o.mono f3)
    obtain⟨ma,mc,rfl⟩:=i8.sl;clear d5 d6 i8 m0 m1 f3 h8 h6 l9 l8;have j7:K.length<=1000000:=vO
    have m4:=Hd (show ORow 9 1 w9 (w9.alloc (.cells #[] 9)) (.slice (some ⟨w9.heap.size,0,none⟩) 0 0) 0 []from ORow.lit #[] (ExtR w9) vI rfl);have m5:=Hd (d8.o.mono ((ExtR w9).alloc (.cells #[] 9)));go_wp2_with (at_builtin;(refine jje m4.o m5.o (cF _) rfl rfl j7 ?_;intro q2 m6 r1;have i9:=Hd r1;clear r1))
    refine (jms m6 _ mm (f0.o.1.ext i9.o.ext) f0.o.2.1).mono ?_;rintro e o9 ⟨u11,h9,rfl,hN⟩;have hN:SRow m6 o9 u11 h9 (jaV mm):=hN;have j8:(jaV mm).length=h9:=by have:=hN.len;simpa using this
    have f8:K.length+h9<=1000000:=by have:=jb5 f0.o.2.1;omega
    have f9:=Hd hN;have g0:=Hd (i9.o.mono hN.ext)
    obtain⟨q3,q4,rfl⟩:=hN.sl
    obtain⟨N,j0⟩:∃ N,K.length+h9=N:=⟨_,rfl⟩
    have m7:=Hd j0;rw[j0]at f8;clear hN j8 j0 i9 m4 m5;go_wp2_with (at_builtin;(refine jje g0.o f9.o m7.o rfl rfl f8 ?_;intro q5 m8 r2;have m9:=Hd r2;obtain⟨aa,ac,p0⟩:=r2.sl;subst p0;clear r2))
    have a4:=Hd (show SRow w9 m8 (.slice aa N ac) N (thL E++jaV mm)from by have h:=m9.o;rw[cM, <-bZ]at h;exact h);have g1:=Hd (m2.o.trans a4.o.ext);clear g0 f9 m7 m9;refine (jmV m8 (HC.o.ext g1.o) _ (thL E++jaV mm) (SRow.rd a4.o) (by have:=a4.o.len;rw[bU]at this;omega)).mono ?_;rintro e n0 ⟨b,rfl,hb,m⟩;have n1:=Hd hb;have a2:=Hd (a4.o.ext.trans m);have O:=Hd (m2.o.trans a2.o);clear hb m g1 a4;cases b with
    | false =>
     go_wp2_with fail
     go_ret
     exact⟨rfl,O.o⟩
    | true =>
    have HI:=Hd (n1.o.1 rfl);have Z:=Hd (h7.o.grow a2.o);have d9:=Hd (m3.o.mono a2.o);have b4:=Hd (d8.o.mono a2.o);have d0:=Hd (f0.o.1.ext a2.o);have c6:=Hd f0.o.2;clear n1 a2 h7 m3 d8 f0;go_wp2_with fail
    have j1:=jx7 n0 (HC.o.ext O.o) (d2.o.ext O.o) s bm 2000 E Z.o.st H.o.2 l H.o.1 _ cs (HU.o.ext O.o) HN.o.2.1 HS.o.2.1;rw[show rootM l=rt from i2.o.symm]at j1;refine j1.mono ?_;intro e f4 a0
    obtain⟨av,A,rfl,e0,g2,n2,n3⟩:∃ av A,e=.returned (.tuple #[av,.int .i64 x0])/\Ext n0 f4/\RdS f4 av A/\A.length<=119/\A=if x0=0 then newM E mm else []:=by
     unfold UpdP at a0
     by_cases h0:jaY l cs=0
     ·rw[if_pos h0]at a0
      obtain⟨r,rfl,hr⟩:=a0
      exact⟨r,newM E (jby l cs),by rw[J.o,h0],hr.ext,SRow.rd hr,jkC (jca h0),by rw[J.o,if_pos h0,c6.o.2 h0]⟩
     ·rw[if_neg h0]at a0
      exact⟨_,[],by rw[J.o];exact a0.1,a0.2,.inl ⟨none,0,rfl,rfl⟩,by simp,by rw[J.o,if_neg h0]⟩
    have b6:=Hd (O.o.trans e0);have e2:=Hd e0;have a6:=Hd (bB g2 (bB n2 n3));clear j1 a0 e0 g2 n2 n3;go_wp2_with fail
    have n4:=jxQ f4 _ _ _ l cs (thL E) (HV.o.ext b6.o) (HU.o.ext b6.o) (SRow.rd (b4.o.mono e2.o)) (by have:=(jaG H.o.1.ok).len;omega) k7.o HS.o.1 HS.o.2.1 (by have:=b4.o.len;rw[bU]at this;omega) (fun h=>jca h);refine n4.mono ?_;intro e j2 a1
    obtain⟨bv,rfl,b7,g3⟩:∃ bv,e=.returned (.tuple #[bv,.int .i64 x0])/\Ext f4 j2/\RdS j2 bv A:=by
     obtain⟨m,a1⟩:=a1
     by_cases h0:jaY l cs=0
     ·rw[if_pos h0]at a1
      obtain⟨r,rfl,hr⟩:=a1
      refine⟨r,by rw[J.o,h0],m,?_⟩
      have e1:jaU (jaB (jaF (jb2 (jbX l cs))))=jaV mm:=by rw[c6.o.2 h0];rfl
      rw[e1,jvO f4 Z.o.st.nd Z.o.kp.keys c6.o.1 HI.o]at hr;rw[a6.o.2.2,J.o,if_pos h0];exact Row0.rd hr
     ·rw[if_neg h0]at a1
      refine⟨_,by rw[J.o];exact a1,m,.inl ⟨none,0,rfl,?_⟩⟩
      rw[a6.o.2.2,J.o,if_neg h0]
    have j9:=Hd (b6.o.trans b7);have g4:=Hd (e2.o.trans b7);have a8:=Hd (bB (a6.o.1.ext b7) (bB g3 a6.o.2.1));clear n4 a1 b7 g3 a6 e2 b6;go_wp2_with fail
    refine vH (jnJ j2 av bv A A a8.o.1 a8.o.2.1 (by have:=a8.o.2.2;omega) (by have:=a8.o.2.2;omega)) fun p1 m=>?_;rw[show decide (A=A)=true from decide_eq_true rfl];have b8:=Hd (g4.o.trans m);have k0:=Hd (O.o.trans b8.o);have q6:(x0 != x0)=false:=by simp
    clear g4 j9 a8;go_wp2_with fail
    refine (ji9 p1 s bm 2000 E (Z.o.st.ext b8.o) (by have:=Z.o.len;omega)).mono ?_;rintro e p2 ⟨p5,rfl,X⟩;rw[<-HK.o]at X;have b9:=Hd (b8.o.trans X.ext);have k1:=Hd (O.o.trans b9.o);have g5:=Hd (SRow.rd X);clear X b8 k0;go_wp2_with fail
    refine vH (jnJ p2 _ _ K K g5.o (SRow.rd (d9.o.mono b9.o)) vO vO) fun p3 m=>?_;rw[show decide (K=K)=true from decide_eq_true rfl];have b0:=Hd (b9.o.trans m);have Q:=Hd (O.o.trans b0.o);clear b9 k1 g5;go_wp2_with fail
    have a3:=Hd (Z.o.grow b0.o);have k2:=Hd (d9.o.mono b0.o);have h2:=Hd (d0.o.ext b0.o);clear b0 d9 d0 b4 Z
    by_cases h0:jaY l cs=0
    case neg =>
     have hb:=a3.o.bds vI;have d7:=jhK p3 (HC.o.ext Q.o) (d2.o.ext Q.o) s bm 2000 E a3.o.st H.o.2 l H.o.1 _ cs (HU.o.ext Q.o) HN.o.2.1 HS.o.2.1 vI vI hb.1 hb.2.1 hb.2.2;rw[show rootM l=rt from i2.o.symm]at d7;refine d7.mono ?_;rintro e j3 (⟨_,rfl,m⟩ |⟨h1,_⟩)
     case inr=>exact absurd h1 h0
     have d6:(x0 != 0)=true:=by rw[J.o];simpa using h0
     have q7:¬ x0=0:=by rw[J.o];exact h0
     rw[show jaY l cs=x0 from J.o.symm];have e3:=Hd m;have c0:=Hd (Q.o.trans m);clear m d7 hb h0;go_wp2_with fail
     refine (ji9 j3 s bm 2000 E (a3.o.st.ext e3.o) (by have:=a3.o.len;omega)).mono ?_;rintro e j4 ⟨p6,rfl,X⟩;rw[<-HK.o]at X;have e4:=Hd (e3.o.trans X.ext);have b2:=Hd (Q.o.trans e4.o);have b3:=Hd (SRow.rd X);clear X e3 c0;go_wp2_with fail
     refine vH (jnJ j4 _ _ K K b3.o (SRow.rd (k2.o.mono e4.o)) vO vO) fun n6 m=>?_;rw[show decide (K=K)=true from decide_eq_true rfl];have c1:=Hd (b2.o.trans m);clear e4 b2 b3;go_wp2_with fail
     go_ret
     exact⟨rfl,c1.o⟩
    case pos =>
     have j5:mm=jby l cs:=c6.o.2 h0;have n7:jtO (thL E++jaV mm):=fun t ht=>by
      rcases bW.1 ht with ht | ht
      ·obtain⟨x,hx,rfl⟩:=(jpj a3.o.st.nd).1 ht
       exact H.o.2 x hx
      ·exact jcM c6.o.1 t ht
     have d7:=jud (HC.o.ext Q.o) (d2.o.ext Q.o) (a3.o.own.more (V:=thL E++jaV mm) (fun t ht=>iD _ ht)) vI HI.o n7 H.o.1 _ cs (HU.o.ext Q.o) HN.o.2.1 HS.o.2.1 vI vI h0 (by rw[<-j5];exact fun t ht=>gY _ ht) vI;rw[show rootM l=rt from i2.o.symm, <-j5]at d7;refine d7.mono ?_;rintro e j3 ⟨rfl,S9,hT,hM,n8,d1⟩;have d6:x0=0:=by rw[J.o];exact h0
     have k3:=Hd hT;have g6:=Hd (bB hM n8);have g7:=Hd (d1 _ _ h2.o);have c0:=Hd (f5.o.trans hT.ext)
     obtain⟨rm,j6⟩:=vE (rootM mm)
     have n9:=Hd j6;rw[<-j6];have q8:(rm == rm)=true:=by rw[jeS];exact decide_eq_true rfl
     clear hT hM n8 d1 d7 n7 j5 h0 j6 J;subst d6;go_wp2_with fail
     have e5:=jwh j3 s bm 2000 S9 k3.o.st g6.o.2 mm g6.o.1;rw[show rootM mm=rm from n9.o.symm]at e5;refine e5.mono ?_;rintro e j4 ⟨q9,rfl,X⟩;have b3:=Hd (ERow.rd X);have e6:=Hd (g7.o.ext X.ext);have b2:=Hd (c0.o.trans X.ext);clear X e5 g7 c0;go_wp2_with fail
     refine vH (jvu j4 _ mm e6.o c6.o.1) fun n6 m=>?_;rw[show shaB (jaF mm).text=rm from n9.o.symm];have g8:=Hd (b3.o.ext m);have g9:=Hd (e6.o.ext m);have c1:=Hd (b2.o.trans m);clear b3 e6 b2;go_wp2_with fail
     refine vH (jzN n6 _ _ mm mm g8.o g9.o (by have:=(jaG c6.o.1).len;omega) (by have:=(jaG c6.o.1).len;omega)) fun r0 m=>?_;rw[jqq];have k4:=Hd (c1.o.trans m);clear g8 g9 c1;go_wp2_with fail
     go_ret
     exact⟨rfl,k4.o⟩
 )
end
section
open Go Go.ChangeShapes Go.WideShapes Go.ChangeAt Go.RowKit Go.Deep
theorem Tryz.ownK:ownKnob Tryz.prog.godebug=none:=vY
theorem Tryz.laidOutK:laidOutB Tryz.prog=true:=vY
theorem Tryz.cellsEnt:Tryz.prog.cellsOf 59=2:=vY
theorem Tryz.cellsStr:Tryz.prog.cellsOf 9=1:=vY
theorem Tryz.cellsBool:Tryz.prog.cellsOf 4=1:=vY
theorem jdB:maxLen<=9223372036854775807:=by unfold maxLen;omega
section
variable {H:Type} {enc:TypeId × vV->H} {w:vW} {base:Nat} {spare:Nat->Bool} {held:Bool}
theorem ju6{n:Nat}{a:Addr}{cs:List vV}{x:DataW H × List MemPlace}(hc:w.cells? base a 2=some cs)(h:DataW.trod enc Tryz.prog w base spare held n 59 cs=some x) :
  ∃ p:Pair,w.cell? (a.add 0)=some (.string p.1)/\w.cell? (a.add 1)=some (.string p.2)/\p.1.size<=9223372036854775807/\p.2.size<=9223372036854775807:=by
 obtain⟨_,X,E⟩:=World.cells?_some hc
 obtain⟨xs,m,_,_,_,A,J⟩:=DataW.trod_struct Tryz.underlying59 h
 match cs,X with
 | [c0,c1],_ =>
  have e:DataW.trod enc Tryz.prog w base spare held m 9 (([c0,c1].drop 0).take (Tryz.prog.cellsOf 9))=xs[0]?:=J 0 _ rfl;have o:DataW.trod enc Tryz.prog w base spare held m 9 (([c0,c1].drop 1).take (Tryz.prog.cellsOf 9))=xs[1]?:=J 1 _ rfl;rw[Tryz.cellsStr]at e o;dsimp only[List.drop,List.take]at e o;have K:∀ i,i < 2->∃ y,xs[i]?=some y:=fun i Z=>⟨_,bA (by rw[A];exact Z)⟩
  obtain⟨y0,e0⟩:=K 0 vO
  obtain⟨y1,e1⟩:=K 1 vO
  rw[e0]at e;rw[e1]at o
  obtain⟨r,O,_,w0⟩:=DataW.trod_string Tryz.underlying9 e
  obtain⟨s,Q,_,w1⟩:=DataW.trod_string Tryz.underlying9 o
  simp only[List.cons.injEq,and_true]at O Q;subst O Q
  exact⟨(r,s),E 0 vO,E 1 vO,bG w0 jdB,bG w1 jdB⟩
theorem jr9{α:Type}(n:Nat)(d:α)(P:Nat->α->Prop)(h:∀ i,i < n->∃ x,P i x):∃ l:List α,l.length=n/\∀ i x,l[i]?=some x->P i x:=by
 induction n with
 | zero=>exact⟨[],rfl,fun i x m=>by simp at m⟩
 | succ n ih =>
  obtain⟨l,o,A⟩:=ih fun i E=>h i vO
  obtain⟨x,m⟩:=h n vO
  refine⟨l++[x],by simp[o],fun i y e=>?_⟩
  by_cases E:i < n
  ·rw[cP vO]at e;exact A i y e
  ·rw[cV vO]at e
   have:i - l.length=0:=by
    have:=(bO.1 e).1
    simp at this;omega
   rw[this]at e;simp at e;subst e;rw[show i=n by omega];exact m
theorem jhA{v:vV}{d:DataW H}{p:List MemPlace}(hv:∃ a n c,v=.slice a n c)(h:DataW.Trod enc Tryz.prog w 0 spare held 22 v d p) :
  ∃ l:vL,RdP w v l/\l.length<=9223372036854775807/\∀ p∈l,p.1.size<=9223372036854775807/\p.2.size<=9223372036854775807:=by
 obtain⟨Z,n0,c0,rfl⟩:=hv
 obtain⟨a1,hf⟩:=h
 rcases open_slice Tryz.underlying22 hf with⟨hcs,_⟩ |⟨a,len,cap,m,n,D,Pl,hcs,_,hl,hm,hmm,_,Q⟩
 ·simp only[Value.cells]at hcs
  have e:Value.slice Z n0 c0=.slice none 0 0:=by simpa using hcs
  rw[e]
  exact⟨[],.inl ⟨none,0,rfl,rfl⟩,by simp,by simp⟩
 ·have e:Value.slice Z n0 c0=.slice (some a) len cap:=by simpa [Value.cells]using hcs
  rw[e];have a2:len<=m:=by rw[hmm];split <;> omega
  obtain⟨l,J,E⟩:=jr9 len pd (fun i p=>w.cell? ((a.add (i * 2)).add 0)=some (.string p.1)/\w.cell? ((a.add (i * 2)).add 1)=some (.string p.2)/\p.1.size<=9223372036854775807/\p.2.size<=9223372036854775807) (fun i a3=>by
   obtain⟨a4,h1,h2⟩:=Q i vO
   rw[Tryz.cellsEnt]at h1;exact ju6 h1 h2)
  have X:∀ p∈l,p.1.size<=9223372036854775807/\p.2.size<=9223372036854775807:=fun p hp=>by
   obtain⟨i,Q⟩:=gK hp
   exact (E i p Q).2.2
  have K:l.length<=9223372036854775807:=by have:=jdB;omega
  refine⟨l,?_,K,X⟩
  by_cases h0:len=0
  ·subst h0
   exact .inl ⟨some a,cap,rfl,bD J⟩
  ·obtain⟨p0,O⟩:∃ p,l[0]?=some p:=⟨_,bA vO⟩
   have A:a.spot=none:=by simpa [Addr.add]using World.cell?_spot (E 0 p0 O).1
   obtain⟨b,o,sp⟩:=a
   dsimp only at A;subst A;refine .inr ⟨b,o,cap,by rw[J],fE w _ (E 0 p0 O).1,by omega,fun j x hx=>?_⟩
   obtain⟨q1,q2,_⟩:=E j x hx
   rw[Go.Deep.add_add,Go.WideShapes.add_plain]at q1 q2
   exact⟨q1,q2⟩
end
end
end Go.Proofs.YtegloohdmjadoaaGreatDoor
