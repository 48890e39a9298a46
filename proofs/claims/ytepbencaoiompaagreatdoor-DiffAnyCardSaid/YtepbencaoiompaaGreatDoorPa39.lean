/- Lemmas; each is under no condition but those that it states. -/
import Derived.Test.YtepbencaoiompaaGreatDoorPa38
namespace Go.Proofs.YtepbencaoiompaaGreatDoor
set_option linter.unusedSimpArgs false
set_option linter.unusedVariables false
set_option maxRecDepth 100000
set_option maxHeartbeats 16000000
open Go Go.RowKit
section
attribute [local go_sem] Oper.semAt_some
theorem jfV{S:vT}{l:vL}(h:HasM S l):jbA S (rootM l)=true:=by
 obtain⟨y,e,_⟩:=h.has _ (jbE _)
 unfold jbA rootM;rw[show (shaB (jay l).text).data.toList=ky (jay l).text from rfl,e];rfl
theorem ji2{S:vT}{out R:vM}{r:vB}(h:jci S out [] [r] R):R.length<=S.length:=
 jhM.len ⟨ji3 h gW,fun x e=>by
  rcases jm6 h (fun _=>True) (fun _ _ _ _ _ _ _ _=>trivial) (fun _ _=>trivial) x e with h | h
  ·exact (cH h).elim
  ·exact h.2.2⟩
def jzP(a b:vL)(B:vM):Prop:=B.Nodup/\∀ k,k∈B↔(∃ t∈jau (jay b),k=shaB t)/\¬ ∃ t∈jau (jay a),k=shaB t
theorem jsF(W:vW)(s bm:Nat)(room:Int)(S:vT)(hs:jax W s bm room S)(hN:AllN S)(hsl:S.length<=100000){a b:vL}(ha:HasM S a)(hb:HasM S b){U:vM}(hU:InjL U)(h1:∀ x∈jau (jay a),x∈U)(h2:∀ x∈jau (jay b),x∈U) :
  ∃ B,jzP a b B/\vQ 17 #[.pointer (some ⟨s,0,none⟩),.string (rootM a),.string (rootM b)] W (jrz W B):=by
 have q:jhM S []:=⟨gW,fun x H=>(cH H).elim⟩;have e:∀ l,∀ h∈[rootM l],h.size=32:=fun l h J=>by rw[bP.1 J];exact jbb _
 obtain⟨A,z⟩:=jlr hN [] S.length [] [rootM a] q (by simp) (e a)
 obtain⟨B,o⟩:=jlr hN A S.length [] [rootM b] q (by simp) (e b)
 have E:∀ k,k∈A↔∃ t∈jau (jay a),k=shaB t:=fun k=>by
  have:=jm7 W ha z (fun t _ h=>(cH h).elim) k
  rw[this]
  exact⟨fun h=>h.1,fun h=>⟨h,cH⟩⟩
 have K:∀ k,k∈B↔(∃ t∈jau (jay b),k=shaB t)/\¬ ∃ t∈jau (jay a),k=shaB t:=fun k=>by
  have:=jm7 W hb o (jwh W ha.ok hU h1 h2 E) k
  rw[this,E]
 refine⟨B,⟨ji3 o gW,K⟩,jmu W s bm room S hs hsl _ _ (by rw[jfV ha,jfV hb];rfl) z o ?_⟩
 have:=ji2 o
 omega
theorem jvZ(W:vW)(s bm:Nat)(room:Int)(S:vT)(hs:jax W s bm room S)(a b:vB)(u:vV)(h:jbA S a=false) :
  vR 18 #[.pointer (some ⟨s,0,none⟩),.string a,u,.string b] W (.int .i64 4):=by
 have q:([a].all (jbA S))=false:=by simpa using h
 have z:=Hd (fun(v:vV) (W1:vW) (e:Ext W W1) (hv:RdS W1 v [a])=>jen W1 s bm room S (hs.ext e) v [a] hv (show (1:Nat)<=1000 by decide));rw[q]at z;clear hs h q;go_enter Tryz.func18,Tryz.ntmps18;go_wp2_with fail
 refine vH (z.o _ _ ((ExtR W).alloc _) (jbK W [a] _)) fun A E=>?_;have H:=Hd (((ExtR W).alloc (.cells ([a].map Value.string).toArray 9)).trans E);go_wp2_with fail
 refine (jfP A).mono ?_;rintro e J ⟨rfl,rfl⟩;go_wp2_with fail
 go_ret
 exact⟨rfl,H.o⟩
noncomputable def makesN(l:vL)(cs:List Chg)(b:vB):Int:=if ja8 l cs=0 then (if rootM (ja0 l cs)=b then 0 else 9)else ja8 l cs
theorem jmM(W:vW)(hc:jbN W)(he:ErrT W)(s bm:Nat)(room:Int)(S:vT)(hs:jax W s bm room S)(hN:AllN S){l:vL}(hl:HasM S l)(u:vV)(cs:List Chg)(hu:RdC W u cs)(hnc:cs.length<=9223372036854775807)(hsc:∀ c∈cs,c.key.size<=9223372036854775807/\c.value.size<=9223372036854775807)(b:vB) :
  vR 18 #[.pointer (some ⟨s,0,none⟩),.string (rootM l),u,.string b] W (.int .i64 (makesN l cs b)):=by
 obtain⟨a,ha⟩:=vE (rootM l)
 have hk:([a].all (jbA S))=true:=by rw[ha];simpa using jfV hl
 have HC:=Hd (fun(v:vV) (W1:vW) (e:Ext W W1) (hv:RdS W1 v [a])=>jen W1 s bm room S (hs.ext e) v [a] hv (show (1:Nat)<=1000 by decide));rw[hk]at HC;have HU:=Hd (fun(W1:vW) (e:Ext W W1)=>jzj W1 (hc.ext e) (he.ext e) s bm room S (hs.ext e) hN l hl u cs (hu.ext e) hnc hsc);rw[<-ha]at HU ⊢;have a0:=Hd hc;clear hs hk hu hc he ha;go_enter Tryz.func18,Tryz.ntmps18;go_wp2_with fail
 refine vH (HC.o _ _ ((ExtR W).alloc _) (jbK W [a] _)) fun W2 hE=>?_;have HE:=Hd (((ExtR W).alloc (.cells ([a].map Value.string).toArray 9)).trans hE);go_wp2_with fail
 refine (jfq W2).mono ?_;rintro e W3 ⟨rfl,rfl⟩;go_wp2_with fail
 refine (HU.o W2 HE.o).mono ?_;intro e W4 K;unfold UpdP at K
 by_cases h0:ja8 l cs=0
 ·rw[if_pos h0]at K
  obtain⟨r,rfl,z⟩:=K
  obtain⟨A,E⟩:=vE (newM S (ja0 l cs))
  rw[<-E]at z;have H:∃ Z,A=(jay (ja0 l cs)).text :: Z:=⟨_,E⟩;clear E
  obtain⟨Z,rfl⟩:=H
  obtain⟨t,ht⟩:=vE (jay (ja0 l cs)).text
  rw[<-ht]at z
  obtain⟨ra,rc,rfl⟩:=z.sl
  obtain⟨g,rfl⟩:=jfW z (by simp)
  have q1:=jdf z.own (j:=0) (u:=.string t) vF
  obtain⟨n,hn⟩:=vE Z.length
  rw[show (t :: Z).length=n+1 by rw[hn];rfl];have q:=Hd (HE.o.trans z.ext);have O:makesN l cs b=if shaB t=b then 0 else 9:=by unfold makesN rootM;rw[if_pos h0,ht]
  have J:=Hd O;clear z O hn ht h0;have c1:¬(n:Int)+1=0:=vO
  have c2:((n:Int)+1 == 0)=false:=by simpa using c1
  go_wp2_with fail
  refine vH (of_t _ _ [t] (by simp) (jbK W4 [t] 9) ((a0.o.ext q.o).ext ((ExtR W4).alloc _))) fun W5 a1=>?_;rw[jc1];have Q:=Hd (q.o.trans (((ExtR W4).alloc (.cells ([t].map Value.string).toArray 9)).trans a1))
  by_cases hb:shaB t=b
  ·have hq:((shaB t).toList == b.toList)=true:=by rw[jej];exact decide_eq_true hb
   rw[if_pos hb]at J;clear hb;go_wp2_with fail
   go_ret
   exact⟨by rw[J.o];rfl,Q.o⟩
  ·have hq:((shaB t).toList == b.toList)=false:=by rw[jej];exact decide_eq_false hb
   rw[if_neg hb]at J;clear hb;go_wp2_with fail
   go_ret
   exact⟨by rw[J.o];rfl,Q.o⟩
 ·rw[if_neg h0]at K
  obtain⟨rfl,X⟩:=K
  have q:=Hd (HE.o.trans X);have O:makesN l cs b=ja8 l cs:=by unfold makesN;rw[if_neg h0]
  have J:=Hd O
  obtain⟨x,hx⟩:=vE (ja8 l cs)
  rw[<-hx]at J h0 ⊢;clear O X hx;have c1:(x != 0)=true:=by simpa using h0
  go_wp2_with fail
  go_ret
  exact⟨by rw[J.o];rfl,q.o⟩
theorem jzi(W:vW)(s bm:Nat)(room:Int)(S:vT)(hs:jax W s bm room S)(a:vB)(u:vV)(h:jbA S a=false) :
  vR 19 #[.pointer (some ⟨s,0,none⟩),.string a,u] W (.tuple #[.slice none 0 0,.int .i64 4]):=by
 have q:([a].all (jbA S))=false:=by simpa using h
 have z:=Hd (fun(v:vV) (W1:vW) (e:Ext W W1) (hv:RdS W1 v [a])=>jen W1 s bm room S (hs.ext e) v [a] hv (show (1:Nat)<=1000 by decide));rw[q]at z;clear hs h q;go_enter Tryz.func19,Tryz.ntmps19;go_wp2_with fail
 refine vH (z.o _ _ ((ExtR W).alloc _) (jbK W [a] _)) fun A E=>?_;have H:=Hd (((ExtR W).alloc (.cells ([a].map Value.string).toArray 9)).trans E);go_wp2_with fail
 refine (jfP A).mono ?_;rintro e J ⟨rfl,rfl⟩;go_wp2_with fail
 go_ret2
 exact⟨rfl,H.o⟩
def juR(W:vW)(l:vL)(cs:List Chg)(e:Ending)(w':vW):Prop:=
 if ja8 l cs=0 then OfP W (ja0 l cs) l e w' else e=.returned (.tuple #[.slice none 0 0,.int .i64 (ja8 l cs)])/\Ext W w'
theorem jwT(W:vW)(s bm:Nat)(room:Int)(S:vT)(hs:jax W s bm room S)(hN:AllN S){l:vL}(hl:HasM S l)(u:vV)(cs:List Chg)(hu:RdC W u cs)(hnc:cs.length<=9223372036854775807)(hsc:∀ c∈cs,c.key.size<=9223372036854775807/\c.value.size<=9223372036854775807) :
  vQ 19 #[.pointer (some ⟨s,0,none⟩),.string (rootM l),u] W (juR W l cs):=by
 obtain⟨a,ha⟩:=vE (rootM l)
 have hk:([a].all (jbA S))=true:=by rw[ha];simpa using jfV hl
 have z:=jaE hl.ok;have q:l.length<=9223372036854775807/\∀ p∈l,p.1.size<=9223372036854775807/\p.2.size<=9223372036854775807:=⟨by have:=z.len;omega,fun p hp=>by have:=z.size p hp;omega⟩;have HC:=Hd (fun(v:vV) (W1:vW) (e:Ext W W1) (hv:RdS W1 v [a])=>jen W1 s bm room S (hs.ext e) v [a] hv (show (1:Nat)<=1000 by decide));rw[hk]at HC;have H:=Hd (fun(W1:vW) (e:Ext W W1)=>jxA W1 s bm room S (hs.ext e) hN l hl);rw[<-ha]at H ⊢;have K:=Hd (fun(W1:vW) (v:vV) (hv:RdP W1 v l) (e:Ext W W1)=>jky W1 v u l cs hv (hu.ext e) q.1 hnc q.2 hsc);have O:=Hd (bB hl.ok q);clear hs hk hu ha z q;go_enter Tryz.func19,Tryz.ntmps19;go_wp2_with fail
 refine vH (HC.o _ _ ((ExtR W).alloc _) (jbK W [a] _)) fun W2 hE=>?_;have HE:=Hd (((ExtR W).alloc (.cells ([a].map Value.string).toArray 9)).trans hE);go_wp2_with fail
 refine (jfq W2).mono ?_;rintro e W3 ⟨rfl,rfl⟩;go_wp2_with fail
 refine (H.o W2 HE.o).mono ?_;rintro e W4 ⟨v,rfl,hV⟩;have HV:=Hd hV;have J:=Hd (HE.o.trans hV.ext);clear hV;go_wp2_with fail
 refine (K.o W4 v HV.o.rd J.o).mono ?_;intro e W5 Q;unfold jea at Q
 by_cases h0:ja8 l cs=0
 ·rw[if_pos h0]at Q
  have H0:=Hd h0
  obtain⟨r,rfl,hR⟩:=Q
  have HR:=Hd (show ERow W4 W5 r (ja0 l cs).length (ja0 l cs)from hR);have A:=Hd (J.o.trans hR.ext);have X:jaD (ja0 l cs)=0:=jcP h0;have z:=jaE X;have q:(ja0 l cs).length<=9223372036854775807/\∀ p∈ja0 l cs,p.1.size<=9223372036854775807/\p.2.size<=9223372036854775807:=⟨by have:=z.len;omega,fun p hp=>by have:=z.size p hp;omega⟩;have a0:=Hd (jmj W5 r v (ja0 l cs) l HR.o.rd (HV.o.rd.ext hR.ext) q.1 O.o.2.1 q.2 O.o.2.2);clear hR h0 X z q;go_wp2_with fail
  refine a0.o.mono ?_;rintro e W8 ⟨u2,rfl,hC⟩;have E:=Hd hC;clear hC;go_wp2_with fail
  go_ret2;unfold juR;rw[if_pos H0.o]
  exact⟨_,rfl,E.o.sl,E.o.own,A.o.trans E.o.ext,fun b hb=>bH A.o.size (E.o.new b hb)⟩
 ·rw[if_neg h0]at Q
  have H0:=Hd h0
  obtain⟨rfl,Z⟩:=Q
  have A:=Hd (J.o.trans Z)
  obtain⟨x,hx⟩:=vE (ja8 l cs)
  have HX:=Hd hx;rw[<-hx]at h0 ⊢;clear Z hx;have c1:(x != 0)=true:=by simpa using h0
  go_wp2_with fail
  go_ret2;unfold juR;rw[if_neg H0.o, <-HX.o]
  exact⟨rfl,A.o⟩
end
end Go.Proofs.YtepbencaoiompaaGreatDoor
