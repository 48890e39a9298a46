/- Lemmas; each is under no condition but those that it states. -/
import Derived.Test.YtepbencaoiompaaGreatDoorPa39
namespace Go.Proofs.YtepbencaoiompaaGreatDoor
set_option linter.unusedSimpArgs false
set_option linter.unusedVariables false
set_option maxRecDepth 100000
set_option maxHeartbeats 16000000
open Go Go.RowKit
section
attribute [local go_sem] Oper.semAt_some
theorem jzk{S:vT}(hN:AllN S)(out:List Pl):∀ (k:Nat) (z:List Pl),(∀ t∈z,jw3 t.2/\t.1.size+13 * k<=9000)->∃ M R,jcq S out k z M R:=by
 intro k;induction k with
 | zero=>exact fun z _=>⟨[],[],.full z⟩
 | succ k ihk =>
  intro z;induction z with
  | nil=>exact fun _=>⟨[],[],.nil _⟩
  | cons t z ih =>
   intro h
   obtain⟨M,R,H⟩:=ih fun x q=>h x (bC _ q)
   obtain⟨Q,X⟩:=h t bD
   by_cases ht:t∈out
   ·exact⟨M,R,.skip k t z M R ht H⟩
   obtain⟨o,A⟩:=jAT hN Q
   cases o with
   | none=>exact⟨M,R,.no k t z M R ht A H⟩
   | some n =>
    obtain⟨d,J⟩:=A.good
    have Z:=(J.one (inlP d)).path
    obtain⟨K,O,E⟩:=ihk (jcE n t.1++z) fun x q=>by
     rcases bT.1 q with q | q
     ·obtain⟨i,_,q⟩:=cP.1 q
      by_cases hz:(n.refs.getD i ⟨#[]⟩).size=0
      ·rw[if_pos hz]at q;cases q
      rw[if_neg hz]at q;rw[bP.1 q]
      refine⟨⟨d,jkV J _ ?_ hz⟩,?_⟩
      ·rw[bE]at hz ⊢
       cases e:n.refs[i]? with
       | none=>rw[e]at hz;exact absurd rfl hz
       | some r=>exact bJ e
      ·show ((t.1++n.path)++_).size+_<=_
       rw[cC,cC]
       have:(if n.kind=3 then nib1 i else (⟨#[]⟩:vB)).size<=1:=by
        split
        ·exact bL _
        ·exact bY _
       omega
     ·have:=h x (bC _ q)
      exact⟨this.1,by omega⟩
    exact⟨t :: K,entN n t.1++O,.go k t z n K O ht vO A E⟩
theorem jg6{S:vT}(hN:AllN S)(out:List Pl){a:vB}(ha:a.size=32):∃ M R,jcq S out 400 [(⟨#[]⟩,jaz a)] M R:=
 jzk hN out 400 _ fun t e=>by
  rw[bP.1 e]
  exact⟨⟨0,.inl ⟨a,ha,rfl⟩⟩,by show 0+13 * 400<=9000;decide⟩
theorem AnT.root{w W:vW}{s bm:Nat}{S:vT}(h:AnT w s bm S W){a:vB}(ha:jbA S a=true):a.size=32:=by
 obtain⟨y,e⟩:=dV.1 ha
 obtain⟨o,q⟩:=jaU e
 have:=h.key y o
 rw[q]at this;exact this
def TelA(W:vW)(q:Bool)(e:Ending)(w':vW):Prop:=∃ (v:vV) (k:Int),e=.returned (.tuple #[v,.int .i64 k])/\(q=false->k=4)/\Ext W w'
theorem jpF{w W:vW}{s bm:Nat}{S:vT}(h:AnT w s bm S W)(a b:vB) :
  vQ 16 #[.pointer (some ⟨s,0,none⟩),.string a,.string b] W (TelA W (jbA S a && jbA S b)):=by
 cases hq:(jbA S a && jbA S b)with
 | false=>exact (jAK W s bm 100 S h.st a b hq).mono fun e w' k=>⟨_,4,k.1,fun _=>rfl,k.2⟩
 | true =>
  have o:=hq;rw[cI]at o;have q:=h.root o.1;have hb:=h.root o.2
  obtain⟨z,Q,A⟩:=jg6 h.all [] q
  obtain⟨X,Z,E⟩:=jg6 h.all z hb
  obtain⟨H,R4,J⟩:=jg6 h.all [] hb
  obtain⟨M1,R1,K⟩:=jg6 h.all H q
  refine (jxv W s bm 100 S h.st a b hq vO vO A E J K).mono ?_;rintro e w' ⟨v,rfl,O⟩
  exact⟨v,0,rfl,fun h=>(by cases h),O.ext⟩
theorem jkg{S:vT}(hN:AllN S)(out:vM){a:vB}(ha:a.size=32):∃ R,jci S out [] [a] R:=
 jlr hN out S.length [] [a] ⟨gW,fun h e=>by cases e⟩ (by simp) fun h e=>by rw[bP.1 e];exact ha
theorem jiJ{w W:vW}{s bm:Nat}{S:vT}(h:AnT w s bm S W)(a b:vB) :
  vQ 17 #[.pointer (some ⟨s,0,none⟩),.string a,.string b] W (TelA W (jbA S a && jbA S b)):=by
 cases hq:(jbA S a && jbA S b)with
 | false=>exact (jvD W s bm 100 S h.st a b hq).mono fun e w' k=>⟨_,4,k.1,fun _=>rfl,k.2⟩
 | true =>
  have o:=hq;rw[cI]at o
  obtain⟨A,z⟩:=jkg h.all [] (h.root o.1)
  obtain⟨B,q⟩:=jkg h.all A (h.root o.2)
  have H:=h.len
  have:=ji2 q
  refine (jmu W s bm 100 S h.st vO a b hq z q vO).mono ?_;rintro e w' ⟨v,rfl,E⟩
  exact⟨v,0,rfl,fun h=>(by cases h),E.ext⟩
def MakA(W:vW)(q:Bool)(e:Ending)(w':vW):Prop:=∃ k:Int,e=.returned (.int .i64 k)/\(q=false->k=4)/\Ext W w'
theorem jtf{w W:vW}(hc:jbN W)(he:ErrT W){s bm:Nat}{S:vT}(h:AnT w s bm S W)(a:vB)(ha:jbA S a=true)(u:vV)(cs:List Chg)(hu:RdC W u cs)(hnc:cs.length<=9223372036854775807)(hsc:∀ c∈cs,c.key.size<=9223372036854775807/\c.value.size<=9223372036854775807)(b:vB) :
  vQ 18 #[.pointer (some ⟨s,0,none⟩),.string a,u,.string b] W fun e w'=>(∃ k:Int,e=.returned (.int .i64 k))/\Ext W w':=by
 have hk:([a].all (jbA S))=true:=by simpa using ha
 have HC:=Hd (fun(v:vV) (W1:vW) (e:Ext W W1) (hv:RdS W1 v [a])=>jen W1 s bm 100 S (h.st.ext e) v [a] hv (show (1:Nat)<=1000 by decide));rw[hk]at HC;have HU:=Hd (fun(W1:vW) (e:Ext W W1)=>joF W1 (hc.ext e) (he.ext e) s bm 100 S (h.st.ext e) h.all a u cs (hu.ext e) hnc hsc);have X:=Hd hc
 obtain⟨o,ho⟩:=vE (readR S a)
 rw[<-ho]at HU;clear hk hu hc he h ha ho;go_enter Tryz.func18,Tryz.ntmps18;go_wp2_with fail
 refine vH (HC.o _ _ ((ExtR W).alloc _) (jbK W [a] _)) fun W2 hE=>?_;have Z:=Hd (((ExtR W).alloc (.cells ([a].map Value.string).toArray 9)).trans hE);go_wp2_with fail
 refine (jfq W2).mono ?_;rintro e W3 ⟨rfl,rfl⟩;go_wp2_with fail
 refine (HU.o W2 Z.o).mono ?_;rintro e W4 (⟨x,h0,_,rfl,J⟩ |⟨r,Q,_,rfl,_,H⟩)
 ·have q:=Hd (Z.o.trans J)
  clear J;have c1:(x != 0)=true:=by simpa using h0
  go_wp2_with fail
  go_ret
  exact⟨⟨_,rfl⟩,q.o⟩
 ·obtain⟨z,A⟩:=vE (newX S Q)
  rw[<-A]at H;have E:∃ t O,z=t :: O:=⟨_,_,A⟩;clear A
  obtain⟨t,O,rfl⟩:=E
  obtain⟨ra,rc,rfl⟩:=H.sl
  obtain⟨g,rfl⟩:=jfW H (by simp)
  have q1:=jdf H.own (j:=0) (u:=.string t) vF
  obtain⟨n,hn⟩:=vE O.length
  rw[show (t :: O).length=n+1 by rw[hn];rfl];have q:=Hd (Z.o.trans H.ext);clear H hn;have c1:¬(n:Int)+1=0:=vO
  have c2:((n:Int)+1 == 0)=false:=by simpa using c1
  go_wp2_with fail
  refine vH (of_t _ _ [t] (by simp) (jbK W4 [t] 9) ((X.o.ext q.o).ext ((ExtR W4).alloc _))) fun W5 a0=>?_;rw[jc1];have K:=Hd (q.o.trans (((ExtR W4).alloc (.cells ([t].map Value.string).toArray 9)).trans a0))
  by_cases hb:shaB t=b
  ·have hq:((shaB t).toList == b.toList)=true:=by rw[jej];exact decide_eq_true hb
   clear hb;go_wp2_with fail
   go_ret
   exact⟨⟨_,rfl⟩,K.o⟩
  ·have hq:((shaB t).toList == b.toList)=false:=by rw[jej];exact decide_eq_false hb
   clear hb;go_wp2_with fail
   go_ret
   exact⟨⟨_,rfl⟩,K.o⟩
theorem jiS{w W:vW}(hc:jbN W)(he:ErrT W){s bm:Nat}{S:vT}(h:AnT w s bm S W)(a:vB)(u:vV)(cs:List Chg)(hu:RdC W u cs)(hnc:cs.length<=9223372036854775807)(hsc:∀ c∈cs,c.key.size<=9223372036854775807/\c.value.size<=9223372036854775807)(b:vB) :
  vQ 18 #[.pointer (some ⟨s,0,none⟩),.string a,u,.string b] W (MakA W (jbA S a)):=by
 cases hq:jbA S a with
 | false=>exact (jvZ W s bm 100 S h.st a b u hq).mono fun e w' k=>⟨4,k.1,fun _=>rfl,k.2⟩
 | true=>exact (jtf hc he h a hq u cs hu hnc hsc b).mono fun e w' k=>⟨_,k.1.choose_spec,fun h=>(by cases h),k.2⟩
theorem jwU{w W:vW}{s bm:Nat}{S:vT}(h:AnT w s bm S W)(a:vB)(ha:jbA S a=true)(u:vV)(cs:List Chg)(hu:RdC W u cs)(hnc:cs.length<=9223372036854775807)(hsc:∀ c∈cs,c.key.size<=9223372036854775807/\c.value.size<=9223372036854775807) :
  vQ 19 #[.pointer (some ⟨s,0,none⟩),.string a,u] W fun e w'=>(∃ (v:vV) (k:Int),e=.returned (.tuple #[v,.int .i64 k]))/\Ext W w':=by
 have hk:([a].all (jbA S))=true:=by simpa using ha
 have HC:=Hd (fun(v:vV) (W1:vW) (e:Ext W W1) (hv:RdS W1 v [a])=>jen W1 s bm 100 S (h.st.ext e) v [a] hv (show (1:Nat)<=1000 by decide));rw[hk]at HC;have z:=Hd (fun(W1:vW) (e:Ext W W1)=>jrL W1 s bm 100 S (h.st.ext e) h.all a);have O:=Hd (fun(l:vL) (Q:l.length<=9223372036854775807/\∀ p∈l,p.1.size<=9223372036854775807/\p.2.size<=9223372036854775807) (W1:vW) (v:vV) (hv:RdP W1 v l) (e:Ext W W1)=>jky W1 v u l cs hv (hu.ext e) Q.1 hnc Q.2 hsc)
 obtain⟨o,ho⟩:=vE (readR S a)
 rw[<-ho]at z;clear hk hu h ha ho;go_enter Tryz.func19,Tryz.ntmps19;go_wp2_with fail
 refine vH (HC.o _ _ ((ExtR W).alloc _) (jbK W [a] _)) fun W2 hE=>?_;have HE:=Hd (((ExtR W).alloc (.cells ([a].map Value.string).toArray 9)).trans hE);go_wp2_with fail
 refine (jfq W2).mono ?_;rintro e W3 ⟨rfl,rfl⟩;go_wp2_with fail
 refine (z.o W2 HE.o).mono ?_;rintro e W4 (⟨_,rfl,X⟩ |⟨P,v,_,hA,rfl,hV⟩)
 ·have q:=Hd (HE.o.trans X)
  clear X;go_wp2_with fail
  go_ret2
  exact⟨⟨_,_,rfl⟩,q.o⟩
 have Z:=bH (jiD P ⟨#[]⟩) hA.cnt;have A:=jh4 P 2000 ⟨#[]⟩ hA.dp hA.sh
 obtain⟨l,Q⟩:=vE (entP P ⟨#[]⟩)
 rw[<-Q]at hV Z A;have E:=Hd (show (l.length<=9223372036854775807)/\∀ p∈l,p.1.size<=9223372036854775807/\p.2.size<=9223372036854775807 from⟨by omega,fun p hp=>by have:=A p hp;have e:(⟨#[]⟩:vB).size=0:=rfl;omega⟩);have a0:=Hd (O.o l E.o);have HV:=Hd hV;have q:=Hd (HE.o.trans hV.ext);clear hV hA Z A Q O;go_wp2_with fail
 refine (a0.o W4 v HV.o.rd q.o).mono ?_;intro e W5 hP;unfold jea at hP
 by_cases h0:ja8 l cs=0
 ·rw[if_pos h0]at hP
  have H0:=Hd h0
  obtain⟨r,rfl,hR⟩:=hP
  have HR:=Hd (show ERow W4 W5 r (ja0 l cs).length (ja0 l cs)from hR);have H:=Hd (q.o.trans hR.ext);have a1:jaD (ja0 l cs)=0:=jcP h0;have J:=jaE a1;have K:(ja0 l cs).length<=9223372036854775807/\∀ p∈ja0 l cs,p.1.size<=9223372036854775807/\p.2.size<=9223372036854775807:=⟨by have:=J.len;omega,fun p hp=>by have:=J.size p hp;omega⟩;have a3:=Hd (jmj W5 r v (ja0 l cs) l HR.o.rd (HV.o.rd.ext hR.ext) K.1 E.o.1 K.2 E.o.2);clear hR h0 a1 J K;go_wp2_with fail
  refine a3.o.mono ?_;rintro e W8 ⟨u2,rfl,hC⟩;have a4:=Hd hC;clear hC;go_wp2_with fail
  go_ret2
  exact⟨⟨_,_,rfl⟩,H.o.trans a4.o.ext⟩
 ·rw[if_neg h0]at hP
  obtain⟨rfl,a2⟩:=hP
  have H:=Hd (q.o.trans a2)
  obtain⟨x,hx⟩:=vE (ja8 l cs)
  rw[<-hx]at h0 ⊢;clear a2 hx;have c1:(x != 0)=true:=by simpa using h0
  go_wp2_with fail
  go_ret2
  exact⟨⟨_,_,rfl⟩,H.o⟩
theorem jlG{w W:vW}{s bm:Nat}{S:vT}(h:AnT w s bm S W)(a:vB)(u:vV)(cs:List Chg)(hu:RdC W u cs)(hnc:cs.length<=9223372036854775807)(hsc:∀ c∈cs,c.key.size<=9223372036854775807/\c.value.size<=9223372036854775807) :
  vQ 19 #[.pointer (some ⟨s,0,none⟩),.string a,u] W (TelA W (jbA S a)):=by
 cases hq:jbA S a with
 | false=>exact (jzi W s bm 100 S h.st a u hq).mono fun e w' k=>⟨_,4,k.1,fun _=>rfl,k.2⟩
 | true=>exact (jwU h a hq u cs hu hnc hsc).mono fun e w' ⟨⟨v,k,o⟩,q⟩=>⟨v,k,o,fun h=>(by cases h),q⟩
structure jg9(l:vL)(w:World)(s bm:Nat)(S:vT)(w':World):Prop where
 ext:Ext w w'
 st:jax w' s bm 2000 S
 add:∃ W,AddK W (jbr l) [] l (jbr l) S
 few:fewB l=true
 inj:InjL (jbr l)
 ok:jaD l=0
 bnew:w.heap.size<=bm
 snew:w.heap.size<=s
 ne:s≠bm
 new:∀ x∈S,w.heap.size<=x.2.1
def juM(l:vL)(w:vW)(e:Ending)(w':vW):Prop:=∃ s bm S,e=.returned (.tuple #[.pointer (some ⟨s,0,none⟩),.string (shaB (jay l).text)])/\jg9 l w s bm S w'
def jzF(l:vL)(w:vW)(e:Ending)(w':vW):Prop:=jzE l w e w'\/juM l w e w'
theorem jg9.key{l:vL}{w w':vW}{s bm:Nat}{S:vT}(h:jg9 l w s bm S w')(k:Key):k∈S.map (·.1)↔∃ t∈jbr l,k=ky t:=by
 obtain⟨W,e⟩:=h.add
 rw[e.key];simp
theorem jg9.kp{l:vL}{w w':vW}{s bm:Nat}{S:vT}(h:jg9 l w s bm S w'):Kp (jbr l) S:=by
 obtain⟨W,e⟩:=h.add
 exact e.kp
theorem jg9.has{l:vL}{w w':vW}{s bm:Nat}{S:vT}(h:jg9 l w s bm S w'):HasM S l:=
 h.kp.has w h.inj h.ok (fun _ h=>h) ((h.key _).2 ⟨_,bJ (jjg h.ok).head,rfl⟩)
theorem jg9.len{l:vL}{w w':vW}{s bm:Nat}{S:vT}(h:jg9 l w s bm S w'):S.length<=121:=by
 obtain⟨W,e⟩:=h.add
 have o:=e.len;have q:=jdW h.ok;simp at o;omega
theorem jg9.hb{l:vL}{w w':vW}{s bm:Nat}{S:vT}(h:jg9 l w s bm S w'):∀ x∈S,x.2.2.held<=1:=by
 obtain⟨W,e⟩:=h.add
 exact e.bd 0 vO (fun x o=>by cases o)
theorem jvM(w:vW)(hc:jbN w)(he:ErrT w)(v:vV)(l:vL)(hv:RdP w v l)(hn:l.length<=9223372036854775807)(hs:jw5 l) :
  vQ 35 #[v] w (jzF l w):=by
 have HC:=Hd hc;have b7:=Hd he;have HV:=Hd hv;have HS:=Hd hs;have HN:=Hd hn
 obtain⟨a,c,rfl⟩:=hv.sl;clear hc hv hs hn he;go_enter Tryz.func35,Tryz.ntmps35;go_wp2_with fail
 refine vH (jAn w _ l HV.o HN.o HS.o) fun w2 J=>?_
 obtain⟨fw,a0⟩:=vE (fewB l)
 have a7:=Hd a0;rw[<-a0];clear a0
 by_cases hcl:jaD l=0
 case neg =>
  go_wp2_with fail
  refine vH (jtE w2 _ l (HV.o.ext J.o) HN.o HS.o hcl) fun w3 H=>?_;have O:=Hd (J.o.trans H);have a8:=Hd hcl
  obtain⟨x,X⟩:=vE (jaD l)
  rw[<-X]at hcl ⊢;have c8:(x == 0)=false:=by simpa using hcl
  have c7:(x != 0)=true:=by simpa using hcl
  clear hcl X J;go_wp2_with fail
  refine (jnl w3 2000).mono ?_;rintro e w4 ⟨s,bm,rfl,H,_,_,_,_⟩;have K:=Hd (O.o.trans H);clear H O;go_wp2_with fail
  refine (jrV w4 (HC.o.ext K.o) _ [] (.inl ⟨none,0,rfl,rfl⟩) (by simp)).mono ?_;rintro e w5 ⟨b,rfl,_,H⟩;have A:=Hd (K.o.trans H);clear H K;cases fw with
  | false =>
   go_wp2_with fail
   go_ret2;exact .inl ⟨rfl,A.o,fun h=>a8.o h.2.1⟩
  | true =>
   go_wp2_with fail
   go_ret2;exact .inl ⟨rfl,A.o,fun h=>a8.o h.2.1⟩
 have q:=Hd hcl;clear hcl;go_wp2_with fail
 refine (jwb w2 _ l (HC.o.ext J.o) (HV.o.ext J.o) q.o).mono ?_;rintro e w3 ⟨u3,n3,rfl,Z⟩;have Z:SRow w2 w3 u3 n3 (jbr l):=Z
 obtain⟨L,hL⟩:=vE (jbr l)
 have a5:=jdW q.o;have Q:=Hd hL;rw[<-hL]at Z a5;have b8:L.length=n3:=by have:=Z.len;simpa using this
 have a9:=Z.rd
 obtain⟨a3,c3,e3⟩:=Z.sl
 have O:=Hd (J.o.trans Z.ext);subst e3;have b0:=Hd a9;subst b8;clear Z a9 J hL;go_wp2_with fail
 refine (jnl w3 2000).mono ?_;rintro e w4 ⟨s,bm,rfl,H,hS,b1,b2,b3⟩;have K:=Hd (O.o.trans H);have HZ:=Hd (bB O.o.size b1);have b4:=Hd (bB b2 b3);have b5:=Hd (show jax w4 s bm 2000 []from hS);have a1:=Hd (b0.o.ext H);clear H hS O b0 b1 b2 b3;go_wp2_with fail
 refine (jrV w4 (HC.o.ext K.o) _ L a1.o vO).mono ?_;rintro e w5 ⟨b,rfl,hb,H⟩;have A:=Hd (K.o.trans H);have b9:=Hd (b5.o.ext H);have c0:=Hd (a1.o.ext H);have HB:=Hd hb;clear H K b5 a1 hb;cases fw with
 | false =>
  go_wp2_with fail
  go_ret2;exact .inl ⟨rfl,A.o,fun h=>by have:=a7.o;rw[h.1]at this;cases this⟩
 | true =>
  cases b with
  | false =>
   go_wp2_with fail
   go_ret2;refine .inl ⟨rfl,A.o,fun h=>?_⟩
   have:=HB.o.2 (by rw[Q.o];exact h.2.2)
   cases this
  | true =>
   have HI:=Hd (show InjL (jbr l) by rw[<-Q.o];exact HB.o.1 rfl);have c1:=Hd (show jzW L by rw[Q.o];exact jrp w q.o (by have:=jdW q.o;exact bH this vI));have b6:=Hd (show L[0]?=some (jay l).text by rw[Q.o];exact (jjg q.o).head)
   obtain⟨tp,a2⟩:=vE (jay l).text
   rw[<-a2]at b6;have c9:=Hd a2;clear a2;go_wp2_with fail
   have c2:=Hd (jhd c1.o.node);refine (jkw w5 (HC.o.ext A.o) (b7.o.ext A.o) s bm 2000 [] b9.o _ L c0.o False c2.o (by have:=jdW q.o;rw[Q.o];omega) tp b6.o vI vI (by simp) (fun x X=>by cases X) (fun x X=>by cases X)).mono ?_;rintro e w6 hP;rw[Q.o]at hP;have E:=jpI [] q.o;rcases hP with⟨k,hwhy,_,_,_⟩ |⟨top,G,M,htop,hY⟩
   ·have h1:=(E.why w hwhy).2
    have h2:=jdW q.o;simp at h1;omega
   have a6:top=(jay l).text:=by have:=E.head;rw[htop]at this;exact bQ this
   subst a6;have hK:=E.add w5 HI.o (Kp.none _) (fun _ h=>h) (by have:=jdW q.o;omega) hY;have c4:=hY.res;subst c4;have HF:=Hd (bB hY.st hK);have a4:=hY.kp;have c5:=Hd (A.o.trans' a4 (fun z hz e=>by
    rcases e with e | e
    ·have:=HZ.o;omega
    ·simp at e))
   have c6:=Hd (bB A.o.size a4.size);clear hY hK a4 htop E;go_wp2_with fail
   go_ret2;exact .inr ⟨s,bm,_,rfl,⟨c5.o,HF.o.1,⟨w5,HF.o.2⟩,a7.o.symm,HI.o,q.o,by have:=HZ.o;omega,by have:=HZ.o;have:=b4.o;omega,b4.o.2,fun x X=>by
    rcases HF.o.2.blk x X with h | h
    ·simp at h
    ·have:=c6.o;omega⟩⟩
structure Tst(W0 W:World)(s bm:Nat)(room:Int)(U:vM)(S:vT)(n:Nat):Prop where
 ext:Ext W0 W
 st:jax W s bm room S
 kp:Kp U S
 len:S.length<=n
 bnew:W0.heap.size<=bm
 new:∀ x∈S,W0.heap.size<=x.2.1
 hb:∀ x∈S,x.2.2.held<=n
theorem Tst.grow{W0 W W':vW}{s bm:Nat}{room:Int}{U:vM}{S:vT}{n:Nat}(h:Tst W0 W s bm room U S n)(k:Ext W W'):Tst W0 W' s bm room U S n:=
 ⟨h.ext.trans k,h.st.ext k,h.kp,h.len,h.bnew,h.new,h.hb⟩
theorem Tst.more{W0 W:vW}{s bm:Nat}{room:Int}{U V:vM}{S:vT}{n:Nat}(h:Tst W0 W s bm room U S n)(hs:∀ t∈U,t∈V):Tst W0 W s bm room V S n:=
 ⟨h.ext,h.st,h.kp.mono hs,h.len,h.bnew,h.new,h.hb⟩
theorem Tst.bds{W0 W:vW}{s bm:Nat}{room:Int}{U:vM}{S:vT}{n:Nat}(h:Tst W0 W s bm room U S n)(hn:n<=5000):S.length<=100000/\(∀ x∈S,0<=x.2.2.used/\x.2.2.used<=1000000000)/\(∀ x∈S,0<=x.2.2.held/\x.2.2.held<=1000000000):=
 ⟨by have:=h.len;omega,h.kp.bd (by have:=h.len;omega),fun x e=>⟨h.kp.cnt.held x e,by have:=h.hb x e;omega⟩⟩
theorem Tst.add{W0 W W':vW}{s bm:Nat}{room:Int}{U:vM}{S S':vT}{n k:Nat}{m:vL}{L:vM}{e:Ending}(h:Tst W0 W s bm room U S n)(hL:L.length<=k)(h1:1<=k)(hY:ComY W s bm room U S m L e W' S'):Tst W0 W' s bm room U S' (n+k):=
 ⟨h.ext.trans' hY.kp (fun z A e=>by
  rcases e with e | e
  ·have:=h.bnew;omega
  ·obtain⟨y,o,e⟩:=bI.1 e
   have:=h.new y o;omega),hY.st,hY.add.kp,by have:=hY.add.len;have:=h.len;omega,h.bnew,fun x q=>by
  rcases hY.add.blk x q with e | e
  ·obtain⟨y,o,e⟩:=bI.1 e
   have:=h.new y o;omega
  ·have:=h.ext.size;omega,fun x q=>by
   have:=hY.add.bd n vO h.hb x q
   omega⟩
theorem jg9.tst{l:vL}{w w':vW}{s bm:Nat}{S:vT}(h:jg9 l w s bm S w'):Tst w w' s bm 2000 (jbr l) S 121:=
 ⟨h.ext,h.st,h.kp,h.len,h.bnew,h.new,fun x e=>by have:=h.hb x e;omega⟩
end
def dwQ:vL:=[(⟨#[98]⟩,⟨#[50]⟩),(⟨#[99]⟩,⟨#[51]⟩)]
def dwC:List Chg:=[⟨⟨#[97]⟩,⟨#[]⟩,true⟩,⟨⟨#[99]⟩,⟨#[51]⟩,false⟩]
theorem dw_q:jaD dwQ=0:=by decide +kernel
theorem dw_e:ja8 twP dwC=0:=by decide +kernel
theorem dw_a:ja0 twP dwC=dwQ:=by unfold ja0;rw[show jdC twP dwC=dwQ by decide +kernel,jfE dw_q]
theorem jBL:ja8 twP []=0:=by decide +kernel
theorem jBH:ja0 twP []=twP:=by unfold ja0;rw[show jdC twP []=twP by decide +kernel,jfE tw_p]
def dwU:vM:=[(jay twP).text,(jay dwQ).text]
theorem dw_t:jbr dwQ=[(jay dwQ).text]:=by decide +kernel
theorem jsx:∀ t∈jbr twP,t∈dwU:=by rw[juw];intro t e;rw[bP.1 e];simp[dwU]
theorem jAe:∀ t∈jbr dwQ,t∈dwU:=by rw[dw_t];intro t e;rw[bP.1 e];simp[dwU]
theorem jjS:InjL dwU:=by unfold InjL;decide +kernel
theorem jpb:juP dwU:=fun t e=>by
 rcases bM.1 e with rfl | e
 ·exact jdh tw_p _ (by rw[juw];exact bD)
 ·rw[bP.1 e]
  exact jdh dw_q _ (by rw[dw_t];exact bD)
theorem dw_b:belowM dwQ=[]:=by rw[jgv dw_q];decide +kernel
theorem jAd:fewB twP=true:=by decide +kernel
theorem jyd:InjL (jbr twP):=fun x o y q e=>jjS x (jsx x o) y (jsx y q) e
theorem jAh:rootM dwQ≠rootM twP:=by unfold rootM;decide +kernel
theorem jAf:jb0 ⟨#[97]⟩ ⟨#[98]⟩=true:=by decide +kernel
theorem jqL:jb0 ⟨#[98]⟩ ⟨#[98]⟩=false:=by decide +kernel
theorem jBM:jb0 ⟨#[98]⟩ ⟨#[97]⟩=false:=by decide +kernel
theorem jAg:jb0 ⟨#[97]⟩ ⟨#[97]⟩=false:=by decide +kernel
theorem jye:((⟨#[50]⟩:vB).toList ==(⟨#[50]⟩:vB).toList)=true:=by decide +kernel
theorem jBP:((⟨#[49]⟩:vB).toList ==(⟨#[49]⟩:vB).toList)=true:=by decide +kernel
theorem jBI:jdz twP dwQ=dwC:=by
 unfold jdz;rw[if_pos ⟨tw_p,dw_q⟩];unfold twP dwQ dwC;rw[ja9,if_pos jAf,ja9,if_neg (by rw[jqL];simp),if_neg (by rw[jqL];simp),if_pos jye];simp[ja9]
theorem jBJ:jdz dwQ twP=[⟨⟨#[97]⟩,⟨#[49]⟩,false⟩,⟨⟨#[99]⟩,⟨#[]⟩,true⟩]:=by
 unfold jdz;rw[if_pos ⟨dw_q,tw_p⟩];unfold twP dwQ;rw[ja9,if_neg (by rw[jBM];simp),if_pos jAf,ja9,if_neg (by rw[jqL];simp),if_neg (by rw[jqL];simp),if_pos jye];simp[ja9]
theorem jBK:jdz twP twP=[]:=by
 unfold jdz;rw[if_pos ⟨tw_p,tw_p⟩];unfold twP;rw[ja9,if_neg (by rw[jAg];simp),if_neg (by rw[jAg];simp),if_pos jBP,ja9,if_neg (by rw[jqL];simp),if_neg (by rw[jqL];simp),if_pos jye];simp[ja9]
theorem jfM{l:vL}{t:vB}:t∈jau (jay l)↔t∈jbr l:=(jaQ _ _).symm
theorem dw_f{B:vM}(h:jzP twP dwQ B):B=[rootM dwQ]:=by
 have e:∀ k,k∈B↔k=rootM dwQ:=fun k=>by
  rw[h.2];constructor
  ·rintro⟨⟨t,o,rfl⟩,_⟩
   rw[jfM,dw_t]at o;rw[bP.1 o];rfl
  ·rintro rfl
   refine⟨⟨_,jbE _,rfl⟩,?_⟩
   rintro⟨t,o,e⟩
   rw[jfM,juw]at o;rw[bP.1 o]at e;exact jAh e
 have q:=h.1
 match B,q,e with
 | [],_,e=>exact absurd ((e (rootM dwQ)).2 rfl) cH
 | [x],_,e=>rw[(e x).1 bD]
 | x :: y :: r,q,e =>
  have z:=(e x).1 bD;have A:=(e y).1 (bC _ bD);rw[fA]at q;exact absurd (by rw[z, <-A];exact bD:x∈y :: r) q.1
theorem dw_s:baL (jeI ([rootM dwQ].map fun h=>h.data.toList))=[rootM dwQ]:=by
 unfold baL jeI
 simp
theorem jsw:∀ c∈dwC,c.key.size<=9223372036854775807/\c.value.size<=9223372036854775807:=by unfold dwC;simp;decide
theorem jAi:jw5 twP:=fun p e=>by have:=(jaE tw_p).size p e;omega
theorem jyl{d:Option TypeDesc}(h:jhl d [(false,9,0),(false,9,1),(false,4,2)]=true):∃ f g e:Field,d=some (.struct #[f,g,e])/\(f.name ≠ "_"/\f.type=9/\f.offset=0)/\(g.name ≠ "_"/\g.type=9/\g.offset=1)/\e.name ≠ "_"/\e.type=4/\e.offset=2:=by
 cases d with
 | none=>cases h
 | some d =>
  cases d <;> try (cases h;done)
  rename_i fs
  obtain⟨l⟩:=fs
  rcases l with _ |⟨f,_ |⟨g,_ |⟨e,_ |⟨z,r⟩⟩⟩⟩ <;> simp[jhl]at h
  obtain⟨o,q,A⟩:=h
  exact⟨f,g,e,rfl,o,q,A⟩
theorem Tryz.chgFields:jhl (Tryz.prog.underlying 50) [(false,9,0),(false,9,1),(false,4,2)]=true:=vY
theorem Tryz.chgHeld:Tryz.prog.stoodInHeld 50=false:=vY
theorem Tryz.boolAgg(w:vW):(isAgg 4).run Tryz.prog w=.ok false w:=vY
theorem jAk(d:Nat)(a b:Bool)(w:vW):(Op.equalIn (d+1) 4 (.bool a) (.bool b)).run Tryz.prog w=.ok (a == b) w:=by
 simp[Op.equalIn,bS,run_underlying Tryz.underlying4,Result.andThen,cJ]
theorem jwF(x:vB):(x == x)=true:=by rw[jhN];simp
theorem jyI(x y:vB)(g:Bool)(w:vW):(binOp .neq 50 (.agg #[.string x,.string y,.bool g]) (.agg #[.string x,.string y,.bool g])).run Tryz.prog w=.ok (.bool false) w:=by
 obtain⟨f,k,e,H,⟨J,K,O⟩,⟨Q,X,Z⟩,h7,h8,h9⟩:=jyl Tryz.chgFields
 have o:∀ (u v z:vV) w,(part 9 #[u,v,z] 0).run Tryz.prog w=.ok u w:=fun u v z w=>by
  simp[part,bS,Tryz.strAgg,Result.andThen,cJ]
 have q:∀ (u v z:vV) w,(part 9 #[u,v,z] 1).run Tryz.prog w=.ok v w:=fun u v z w=>by
  simp[part,bS,Tryz.strAgg,Result.andThen,cJ]
 have A:∀ (u v z:vV) w,(part 4 #[u,v,z] 2).run Tryz.prog w=.ok z w:=fun u v z w=>by
  simp[part,bS,Tryz.boolAgg,Result.andThen,cJ]
 have he:∀ d,(Op.equalIn (d+2) 50 (.agg #[.string x,.string y,.bool g]) (.agg #[.string x,.string y,.bool g])).run Tryz.prog w=.ok true w:=fun d=>by
  rw[Op.equalIn];simp only[bS,run_underlying H,Result.andThen];simp[bS,Result.andThen,Sem.run,Tryz.chgHeld,J,K,O,Q,X,Z,h7,h8,h9,o,q,A,jyi,jAk,jwF]
 have E:(Op.equal 50 (.agg #[.string x,.string y,.bool g]) (.agg #[.string x,.string y,.bool g])).run Tryz.prog w=.ok true w:=he 9998;simp only[binOp,bS,E,Result.andThen,cJ];rfl
theorem Tryz.isChange:jgI (Tryz.prog.underlying 50)=true:=vY
theorem Tryz.szChange:(Tryz.prog.info? 50).map (·.size)=some 3:=vY
theorem jpw{w:vW}{b o:Nat}{x y:vB}{g:Bool}(h1:w.cell? ⟨b,o,none⟩=some (.string x))(h2:w.cell? ⟨b,o+1,none⟩=some (.string y))(h3:w.cell? ⟨b,o+2,none⟩=some (.bool g)):(Instr.loadAt 50 (.pointer (some ⟨b,o,none⟩))).run Tryz.prog w=.ok (.agg #[.string x,.string y,.bool g]) w:=by
 obtain⟨z,q⟩:=jfY Tryz.isChange
 refine jel (xs:=[.string x,.string y,.bool g]) q Tryz.szChange (fun j v e=>?_);rw[Addr.add_lit]
 match j,e with
 | 0,e=>simp at e;subst e;exact h1
 | 1,e=>simp at e;subst e;exact h2
 | 2,e=>simp at e;subst e;exact h3
 | j+3,e=>simp at e
def jBs(w:vW)(l:List Chg)(v:vV)(wr:vW):Prop:=∃ i:Nat,i<=l.length/\v=.int .i64 i/\Ext w wr
theorem jy7(w:vW)(v u:vV)(l:List Chg)(hv:RdC w v l)(hu:RdC w u l)(hn:l.length<=1000000):vR 36 #[v,u] w (.bool true):=by
 obtain⟨a,c,A⟩:=hv.sl
 obtain⟨a',c',z⟩:=hu.sl
 have HV:=Hd hv;have HU:=Hd hu;subst A;subst z;clear hv hu;go_enter Tryz.func36,Tryz.ntmps36;go_wp2_with fail
 go_loopw [5] (fun i wr=>jBs w l i wr) (fun i _=>l.length - (intOf i).toNat)
 case atStart=>exact⟨0,by omega,rfl,ExtR w⟩
 case round =>
  obtain⟨i,hi,rfl,Q⟩:=hrel
  have q:=Hd Q;clear Q
  by_cases hlt:i < l.length
  ·rcases HV.o with⟨_,_,_,h0⟩ |⟨b,o,c1,hh,hb,hc,hcell⟩
   ·rw[h0]at hlt;cases hlt
   rcases HU.o with⟨_,_,_,h0⟩ |⟨b',o',c2,hh',hb',hc',hcell'⟩
   ·rw[h0]at hlt;cases hlt
   cases hh;cases hh'
   obtain⟨p,E⟩:∃ p,l[i]?=some p:=⟨_,bA hlt⟩
   obtain⟨X,Z,q3⟩:=hcell i p E
   obtain⟨q4,q5,q6⟩:=hcell' i p E
   have H:Hid (∀ w1,Ext wr w1->(Instr.loadAt 50 (.pointer (some ⟨b,o+i * 3,none⟩))).run Tryz.prog w1=.ok (.agg #[.string p.key,.string p.value,.bool p.gone]) w1):=fun w1 e=>jpw (jaa X (q.o.trans e)) (jaa Z (q.o.trans e)) (jaa q3 (q.o.trans e));have J:Hid (∀ w1,Ext wr w1->(Instr.loadAt 50 (.pointer (some ⟨b',o'+i * 3,none⟩))).run Tryz.prog w1=.ok (.agg #[.string p.key,.string p.value,.bool p.gone]) w1):=fun w1 e=>jpw (jaa q4 (q.o.trans e)) (jaa q5 (q.o.trans e)) (jaa q6 (q.o.trans e));have K:=Hd (fun w=>jyI p.key p.value p.gone w);have b1:(i:Int) < (l.length:Int):=vO
   clear hcell hcell' E X Z q3 q4 q5 q6 hc hc' hb hb';go_wp2_with fail
   refine jan [0,1,2,3,4,5,6,7,8] Ext ExtR ExtT vY vY vY ?_;iterate 3 refine vK ?_
   refine qKL ⟨b,o+i * 3,none⟩ _ rfl (fun w1 e=>H.o w1 ((jaq wr).trans e)) ?_;refine vS ?_;iterate 3 refine vK ?_
   refine qKL ⟨b',o'+i * 3,none⟩ _ rfl (fun w1 e=>J.o w1 ((jaq wr).trans e)) ?_;refine vS ?_;refine jcB _ (.bool false) rfl vY rfl (fun w1 e=>jvw rfl rfl vY (K.o w1)) ?_;refine vS ?_;refine qKE (fun w3 he=>?_);have O:=Hd ((q.o.trans (jaq wr)).trans he);clear he;go_wp2_with fail
   go_roundw
   case rel=>exact⟨i+1,by omega,by go_num,O.o⟩
   case measure=>exact vJ
  ·have b1:¬(i:Int) < (l.length:Int):=vO
   go_wp2_with fail
   go_ret
   exact⟨rfl,q.o⟩
end Go.Proofs.YtepbencaoiompaaGreatDoor
