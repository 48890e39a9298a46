/- Lemmas; each is under no condition but those that it states. -/
import Derived.Test.YtnkdaacmpceghaaGreatDoorPa24
namespace Go.Proofs.YtnkdaacmpceghaaGreatDoor
set_option linter.unusedSimpArgs false
set_option linter.unusedVariables false
set_option maxRecDepth 100000
set_option maxHeartbeats 16000000
open Go Go.RowKit
variable (args:Array vV)(w0 W w:vW)(n:jae){old vs:List vV}{k d k' c b rm sb cb ck bm:Nat}{y x:Operand}{P Q:PA}{t r:vB}{I J:vB->jae->Prop}{S:vT}
section
attribute [local go_sem] Oper.semAt_some
def jnA(n:jae):Prop:=∀ w,ErrT w->vR 154 #[n.V] w (.bool false)
theorem jwe(hG:ErrT w)(n:jae)(hr:n.refs.length=16)(hV:jnA n):vR 136 #[n.V] w (.tuple #[.string ⟨#[]⟩,.int .i64 1]):=by
 have q:=jap (w.alloc (.cells n.cells.toArray 206)) _ n hr (Blk.new w _);have H:=Hd (hV (w.alloc (.cells n.cells.toArray 206)) (hG.ext ((ExtR w).alloc _)));clear hr hV hG;unfold jae.V at q H ⊢;unfold vR vQ;go_in;go_wp2_with (refine jaf 206 (.tmp 1) rfl rfl _ _ rfl q ?_)
 refine H.o.mono ?_;rintro e w1 ⟨rfl,J⟩;have A:=Hd (((ExtR w).alloc _).trans J);clear q J;go_wp2_with fail
 go_ret2
 exact⟨rfl,A.o⟩
theorem jlG{n:jae}(hr:n.refs.length=16)(h:jaW (InlD d) n\/jnA n):jla n:=by
 by_cases hg:∃ d,jaW (InlD d) n
 ·obtain⟨d,q⟩:=hg;exact jkO q
 ·refine⟨hr,fun w _ A=>?_⟩
  rcases h with h | h
  ·exact absurd ⟨d,h⟩ hg
  ·rw[jjy hg]
   exact (jwe w A n hr h).mono fun e w' k=>⟨⟨1,k.1⟩,k.2⟩
theorem jsX(hr:n.refs.length=16)(hp:n.pathOk 1=true)(h0:n.value=⟨#[]⟩)(hb:n.behindN=0):vR 199 #[n.V] w (.bool false):=by
 have J:n.path.size<=1000000:=by
  simp only[jae.pathOk,cC,decide_eq_true_eq]at hp;omega
 have q:=jbH w n hr;have X:n.cells[2]?=some (.string ⟨#[]⟩):=by rw[<-h0];rfl
 have Z:=Hd hp;have HB:=Hd hb;clear hp hb h0;unfold jae.V at q ⊢;unfold vR vQ;go_in;go_wp2_with (refine jaf 298 (.tmp 1) rfl rfl _ _ rfl q ?_)
 refine vC (jfi _ n hr 1 J) fun w1 A=>?_;rw[Z.o];have K:=(Blk.new w (.cells n.cells.toArray 298)).keeps A (fun h=>h);have q2:=K.cellL X;have e:=ja7 w1 _ n hr K;have H:=Hd (((ExtR w).alloc _).trans A);unfold jae.V at e;clear q A K;go_wp2_with (refine jaf 298 (.tmp 1) rfl rfl _ _ rfl e ?_)
 refine vH (jgR _ n hr) fun w2 A=>?_;rw[HB.o];have O:=Hd (H.o.trans A);clear e q2 H;go_wp2_with fail
 go_ret
 exact⟨rfl,O.o⟩
theorem jiA(h:∀ r m,I r m->J r m){n:jae}(hn:jaW I n):jaW J n:=by
 cases hn with
 | none=>exact .none
 | leaf p v h1 h2 h3=>exact .leaf p v h1 h2 h3
 | ext p r h1 h2 h3=>exact .ext p r h1 h2 (h3.imp id fun ⟨m,e,q⟩=>⟨m,h _ _ e,q⟩)
 | branch v rs h1 h2 h3 h4=>exact .branch v rs h1 h2 (fun r A H=>(h3 r A H).imp id fun ⟨m,k⟩=>⟨m,h _ _ k⟩) h4
theorem jqs:∀ {d d':Nat},d<=d'->∀ r m,InlD d r m->InlD d' r m
 | 0,_,_,_,_,h=>h.elim
 | d+1,0,hl,_,_,_=>absurd hl vO
 | d+1,d'+1,hl,r,m,⟨h1,h2⟩=>⟨jiA (jqs (Nat.le_of_succ_le_succ hl)) h1,h2⟩
def PutD(k:Nat)(t:vB):Prop:=(∃ n,jaW (InlD k) n/\t=jaV n)\/t=⟨#[]⟩
theorem PutD.up(h:PutD k t)(hl:k<=k'):PutD k' t:=h.imp (fun ⟨n,e,q⟩=>⟨n,jiA (jqs hl) e,q⟩) id
theorem jm7:∃ k,PutD k (putN n):=by
 by_cases h:∃ d,jaW (InlD d) n
 ·obtain⟨d,e⟩:=h
  exact⟨d,.inl ⟨n,e,jeC e⟩⟩
 ·exact⟨0,.inr (jjy h)⟩
theorem jrO:∀ P:PA,∃ k,PutD k (textP P)
 | .nil=>⟨0,.inr rfl⟩
 | .no=>jm7 _
 | .leaf _ _=>jm7 _
 | .ext _ _=>jm7 _
 | .br _ _=>jm7 _
def RefD(k:Nat)(r:vB):Prop:=r.size<=33/\(r.size < 32->PutD k r)/\CutE r
theorem RefD.up(h:RefD k r)(hl:k<=k'):RefD k' r:=⟨h.1,fun e=>(h.2.1 e).up hl,h.2.2⟩
theorem jyu(P:PA):∃ k,RefD k (refB (textP P)):=by
 obtain⟨k,e⟩:=jrO P
 refine⟨k,jlJ _,fun h=>?_,jjC P⟩
 unfold refB at h ⊢
 by_cases hs:(textP P).size < 32
 ·rw[if_pos hs];exact e
 ·rw[if_neg hs]at h
  have q:32<=(jam (shaB (textP P))).size:=by
   have A:=jbg (textP P);unfold jam;split
   ·omega
   ·rw[cD];omega
  omega
theorem juO{α:Type}(f:α->vB)(h:∀ x,∃ k,RefD k (f x)):∀ l:List α,∃ k,∀ r∈l.map f,RefD k r
 | []=>⟨0,by simp⟩
 | x :: l=>by
  obtain⟨q,A⟩:=h x
  obtain⟨H,J⟩:=juO f h l
  refine⟨max q H,fun r e=>?_⟩
  rcases bZ.1 e with rfl | e
  ·exact A.up (Nat.le_max_left _ _)
  ·exact (J r e).up (Nat.le_max_right _ _)
theorem jqt(k:Nat)(r:vB)(h:RefD k r):(∃ m,InlD (k+1) r m)\/InlE r:=by
 by_cases hs:32<=r.size
 ·exact .inr fun w _=>jvJ w r hs
 ·rcases h.2.1 (by omega)with⟨n,hn,rfl⟩ | rfl
  ·by_cases h0:n.kind=0
   ·rw[jkq hn h0]
    exact .inr fun w _=>jtl w
   ·exact .inl ⟨n,hn,rfl,by omega,h0⟩
  ·exact .inr fun w _=>jdH w
theorem jvV(k:Nat)(r:vB)(h:RefD k r):(MayP (InlD (k+1)) r/\MayD true r)\/(¬ MayP (InlD (k+1)) r/\MayD false r):=by
 have q:=h.1
 by_cases hm:MayP (InlD (k+1)) r
 ·exact .inl ⟨hm,fun w _=>jx9 (inlP _) w r hm⟩
 ·refine .inr ⟨hm,?_⟩
  have e:jed r=none:=by
   cases e:jed r with
   | none=>rfl
   | some x=>exact absurd (.inl (jlp e)) hm
  rcases jqt k r h with⟨m,hm'⟩ | hi
  ·exact absurd (.inr ⟨m,hm'⟩) hm
  ·exact jya r (fun w=>jdf w r vO h.2.2) e hi
theorem jtt(p v:vB)(hps:p.size<=1000000)(hvs:v.size<=80):jaW (InlD 0) ⟨1,p,v,jaw 16⟩\/jnA ⟨1,p,v,jaw 16⟩:=by
 by_cases h1:(⟨1,p,v,jaw 16⟩:jae).pathOk 0=true
 ·by_cases e:v.size=0
  ·have e:=ja5 e
   subst e;exact .inr fun w q=>jeZ false w q _ rfl (show (1:Nat)<=3 by decide) 198 rfl (vX 198) fun w _=>jkx w _ rfl hps h1 rfl
  ·exact .inl (jaW.leaf p v h1 vO hvs)
 ·exact .inr fun w q=>jeZ false w q _ rfl (show (1:Nat)<=3 by decide) 198 rfl (vX 198) fun w _=>jlv w _ rfl hps (by simpa using h1)
theorem jxB(k:Nat)(v:vB)(rs:vM)(hrl:rs.length=16)(hvs:v.size<=80)(hrs:∀ r∈rs,RefD k r):jaW (InlD (k+1)) ⟨3,⟨#[]⟩,v,rs⟩\/jnA ⟨3,⟨#[]⟩,v,rs⟩:=by
 open Classical in
 obtain⟨M,A⟩:∃ M:vB->Bool,M=fun r=>decide (MayP (InlD (k+1)) r):=⟨_,rfl⟩
 have X:∀ r∈rs,r.size≠0->MayD (M r) r:=fun r H K=>by
  rcases jvV k r (hrs r H)with⟨h1,q⟩ |⟨h1,q⟩
  ·have e:M r=true:=by rw[A];exact decide_eq_true h1
   rw[e];exact q
  ·have e:M r=false:=by rw[A];exact decide_eq_false h1
   rw[e];exact q
 cases hb:braN M ⟨3,⟨#[]⟩,v,rs⟩with
 | true =>
  unfold braN at hb;rw[cC]at hb
  obtain⟨q,O⟩:=hb
  rw[dI]at O;refine .inl (jaW.branch v rs hrl hvs (fun r H K=>?_) (of_decide_eq_true q))
  obtain⟨j,Z⟩:=jna rs 0 r H K
  have:M r=true:=O (j,r) Z
  rw[A]at this;exact of_decide_eq_true this
 | false =>
  refine .inr fun w J=>jeZ false w J _ hrl (show (3:Nat)<=3 by decide) 200 rfl (vX 200) fun w J=>?_
  have:=jsu w J ⟨3,⟨#[]⟩,v,rs⟩ hrl rfl hvs M X
  rwa [hb]at this
theorem jvz(k:Nat)(p y:vB)(hps:p.size<=1000000)(hr:RefD k y):jaW (InlD (k+1)) ⟨2,p,⟨#[]⟩,y :: jaw 15⟩\/jnA ⟨2,p,⟨#[]⟩,y :: jaw 15⟩:=by
 have Z:=hr.1
 by_cases h1:(⟨2,p,⟨#[]⟩,y :: jaw 15⟩:jae).pathOk 1=true
 ·by_cases h0:y.size=0
  ·refine .inr fun w q=>jeZ false w q _ rfl (show (2:Nat)<=3 by decide) 199 rfl (vX 199) fun w q=>?_
   refine jsX w _ rfl h1 rfl ?_;have e:jav 0 (y :: jaw 15)=[]:=by unfold jav;rw[if_pos h0,jdh]
   unfold jae.behindN;have K:jae.refsL ⟨2,p,⟨#[]⟩,y :: jaw 15⟩=[]:=e;rw[K];rfl
  ·cases hh:jed y with
   | some x=>exact .inl (jaW.ext p y h1 h0 (.inl (jlp hh)))
   | none =>
    have J:∀ (m:jae) (H:Bool),m.refs.length=16->(∀ w,ErrT w->vR 120 #[.string y] w (.tuple #[m.V,.bool H]))->(H=true->m.kind≠3)->jnA (⟨2,p,⟨#[]⟩,y :: jaw 15⟩:jae):=fun m H A O X =>
     fun w q=>jeZ false w q _ rfl (show (2:Nat)<=3 by decide) 199 rfl (vX 199) fun w q=>jp2 w q _ y m H rfl h1 rfl (jn1 p y h0) rfl (fun w=>jdf w y vO hr.2.2) hh A O X
    rcases jqt k y hr with⟨m,A⟩ | hi
    ·by_cases h3:m.kind=3
     ·exact .inl (jaW.ext p y h1 h0 (.inr ⟨m,A,h3⟩))
     ·exact .inr (J m true ((inlP _).refs y m A) (fun w _=>(inlP _).inl y m A w) (fun _=>h3))
    ·exact .inr (J jas false rfl hi (fun h=>by cases h))
 ·exact .inr fun w q=>jeZ false w q _ rfl (show (2:Nat)<=3 by decide) 199 rfl (vX 199) fun w _=>jn3 w _ rfl hps (by simpa using h1)
theorem jjz:∀ (P:PA) (k:Nat),k<=900000->VaP P->ShP P->Dp P k->PutP P
 | .nil,_,_,_,_,_=>trivial
 | .no,_,_,_,_,_=>jkO (d:=0) jaW.none
 | .leaf q v,k,hk,hv,e,A=>by
  have A:q.size<=k:=A;have e:v.size<=80:=e;exact jlG rfl (jtt q v vO e)
 | .ext q n,k,hk,hv,e,A=>by
  obtain⟨K,J⟩:=A
  obtain⟨d,A⟩:=jyu n
  exact⟨jlG rfl (jvz d q _ vO A),jjz n (k - q.size) vO hv.2 e J⟩
 | .br v ks,k,hk,hv,e,A=>by
  obtain⟨d,H⟩:=juO (fun i=>if (ks i).isNil then ⟨#[]⟩else refB (textP (ks i))) (fun i=>by
   split
   ·exact⟨0,by show 0<=33;decide,fun _=>.inr rfl,fun _=>rfl⟩
   ·exact jyu _) (List.range 16)
  refine⟨jlG (by simp[nodeP]) (jxB d v _ (by simp) e.1 H),fun i=>?_⟩
  ·cases hn:(ks i).isNil with
   | true=>rw[jcW hn];trivial
   | false=>exact jjz (ks i) k hk (hv i) (e.2 i) (jbt _ _ _ (A i hn).2 vO)
theorem AnyP.top{n:Nat}(h:AnyP P k n)(hk:k<=900000):TopC P:=by
 have e:=jjz P k hk h.va h.sh h.dp;exact jr0 P h.there e (jjr P e)
noncomputable def newX(S:vT)(Q:PA):vM:=textP Q :: freshU S (underP Q)
def jxs(o:Option (PA × Nat))(rt:vB)(cs:List Chg)(k:Int):Prop:=(o=none/\k=4)\/∃ P k0,o=some (P,k0)/\(jbL (entP P ⟨#[]⟩) cs=k\/shaB (jlR (entP P ⟨#[]⟩)).text≠rt)
noncomputable def updP(P:PA)(cs:List Chg):PA:=(jdd (entP P ⟨#[]⟩) (jbV (jca (entP P ⟨#[]⟩) cs))).foldl jcv P
def jy6(w:vW)(S:vT)(o:Option (PA × Nat))(rt:vB)(cs:List Chg)(e:Ending)(w':vW):Prop:=
 (∃ k:Int,k≠0/\jxs o rt cs k/\e=.returned (.tuple #[.slice none 0 0,.int .i64 k])/\Ext w w')\/∃ r P k0,o=some (P,k0)/\jbL (entP P ⟨#[]⟩) cs=0/\e=.returned (.tuple #[r,.int .i64 0])/\AnyP (updP P cs) 2000 400/\SRow w w' r (newX S (updP P cs)).length (newX S (updP P cs))
theorem ji9:∀ (P:PA) (k:Nat) (p:vB),Dp P k->ShP P->∀ x∈entP P p,x.1.size<=p.size+k/\x.2.size<=80
 | .nil,_,_,_,_,x,h=>by cases h
 | .no,_,_,_,_,x,h=>by cases h
 | .leaf q v,k,p,e,A,x,h=>by
  have e:q.size<=k:=e;have A:v.size<=80:=A;have h:x∈keyR (p++q) v:=h
  obtain⟨H,J⟩:=keyR_size h
  rw[cD]at H
  exact⟨by omega,by omega⟩
 | .ext q n,k,p,e,A,x,h=>by
  have:=ji9 n (k - q.size) (p++q) e.2 A x h
  rw[cD]at this
  have:=e.1
  omega
 | .br v ks,k,p,e,A,x,h=>by
  have h:x∈(if v.size=0 then []else keyR p v)++(List.range 16).flatMap fun i=>if (ks i).isNil then []else entP (ks i) (p++nib1 i):=h
  rcases bQ.1 h with h | h
  ·split at h
   ·cases h
   ·obtain⟨H,J⟩:=keyR_size h
    have:=A.1
    exact⟨by omega,by omega⟩
  ·obtain⟨i,_,h⟩:=fI.1 h
   cases hn:(ks i).isNil with
   | true=>rw[hn,if_pos rfl]at h;cases h
   | false =>
    rw[hn,if_neg ff]at h;have H:=e i hn
    have:=ji9 (ks i) (k - 1) (p++nib1 i) H.2 (A.2 i) x h
    rw[cD,show (nib1 i).size=1 from rfl]at this;omega
where
 keyR_size {p v:vB} {x:Pair} (h:x∈keyR p v):x.1.size<=p.size/\x.2.size<=v.size:=by
  unfold keyR at h;split at h
  ·rw[bM.1 h]
   exact⟨by show (jbF p).size<=_;rw[jhI];omega,bL _⟩
  ·cases h
theorem jxw(hA:AnyP P k 1000)(hk:k<=800000)(T:TypeId)(x:vV)(D:Nat->Prop)(hp:PaO P (.iface T x) D w0)(hE:Ext w0 W) :
  vQ (jfI P) #[x,.string ⟨#[]⟩,.slice none 0 0] W fun e w'=>∃ v,e=.returned v/\ERow w0 w' v (entP P ⟨#[]⟩).length (entP P ⟨#[]⟩):=by
 have A:=hA.cnt;refine (jlC P w0 W T x D ⟨#[]⟩ (.slice none 0 0) 0 k [] hp (ORow.nil _ _ hE) hA.dp (by have:(⟨#[]⟩:vB).size=0:=rfl;omega) vO).mono ?_;rintro e w' ⟨v,n,rfl,q⟩;rw[cN]at q
 have:=q.len'
 subst this
 exact⟨v,rfl,q⟩
theorem AnyP.more(h:AnyP P k c)(e:c<=d):AnyP P k d:=⟨h.va,h.sh,h.dp,h.there,bE h.cnt e⟩
theorem jwH(hc:jbA w)(he:ErrT w)(s bm:Nat)(room:Int)(S:vT)(hs:jax w s bm room S)(hN:jfn S)(rt:vB)(u:vV)(cs:List Chg)(hu:RdC w u cs)(hnc:cs.length<=9223372036854775807)(hsc:∀ c∈cs,c.key.size<=9223372036854775807/\c.value.size<=9223372036854775807) :
  vQ 82 #[.pointer (some ⟨s,0,none⟩),.string rt,u] w (jy6 w S (readR S rt) rt cs):=by
 have HR:=Hd (jwG w s bm room S hs hN rt);have e0:=Hd (bA hc he);have l8:=Hd hs;have l9:=Hd (fun(l:vL) (hl:l.length<=9223372036854775807/\∀ p∈l,p.1.size<=9223372036854775807/\p.2.size<=9223372036854775807) (w2:vW) (v:vV) (hv:RdP w2 v l) (e:Ext w w2)=>jo3 w2 v u l cs hv (hu.ext e) hl.1 hnc hl.2 hsc)
 obtain⟨a,c,n8⟩:=hu.sl
 subst n8;have d4:=Hd (fun(P:PA) (k:Nat) (h:readR S rt=some (P,k))=>jrm hN h)
 obtain⟨o,ho⟩:=vE (readR S rt)
 rw[<-ho]at HR d4 ⊢;clear hs hN hc he hu hsc ho;go_enter Tryz.func82,Tryz.ntmps82;go_wp2_with fail
 refine HR.o.mono ?_;rintro e w1 ⟨m0,hO⟩;have i5:=Hd m0;clear m0;cases o with
 | none =>
  obtain⟨v,rfl,rfl |⟨T,x,rfl⟩⟩:=hO
  ·go_wp2_with fail
   go_ret2;exact .inl ⟨4,by decide,.inl ⟨rfl,rfl⟩,rfl,i5.o⟩
  ·go_wp2_with fail
   go_ret2;exact .inl ⟨4,by decide,.inl ⟨rfl,rfl⟩,rfl,i5.o⟩
 | some Pk =>
 obtain⟨P,k0⟩:=Pk
 obtain⟨T,x,rfl,hM⟩:=hO
 have HM:=Hd (show PaO P (.iface T x) (jjT w w1) w1 from⟨hM,fun z hz=>hz.2⟩);have hA:=d4.o P k0 rfl;have f4:=Hd hA;have p9:=jeo P;have d8:=hM.meth;have n9:∀ w,(Go.method (520+1) T x "guilloche/trie.entries").run Tryz.prog w=.ok (jfI P,x) w:=d8.ent;have HC:=Hd (jxw w1 w1 (hA.more vI) vI T x _ HM.o (ExtR w1));have m1:=bE (ji8 P ⟨#[]⟩) hA.cnt;have i6:=ji9 P 2000 ⟨#[]⟩ hA.dp hA.sh
 obtain⟨l,hl⟩:=vE (entP P ⟨#[]⟩)
 rw[<-hl]at HC m1 i6;have g6:=Hd hl;have i7:=Hd (show (l.length<=9223372036854775807)/\∀ p∈l,p.1.size<=9223372036854775807/\p.2.size<=9223372036854775807 from⟨by omega,fun p hp=>by have:=i6 p hp;have e:(⟨#[]⟩:vB).size=0:=rfl;omega⟩);have f5:=Hd (l9.o l i7.o);clear hM d8 hA m1 i6 hl d4 l9;go_wp2_with fail
 refine HC.o.mono ?_;rintro e w2 ⟨v,rfl,h1⟩;have H1:=Hd h1;have i8:=Hd (i5.o.trans h1.ext);have f6:=Hd (bA (HM.o.ext h1.ext) h1.ext.size);have HA:=Hd (f5.o w2 v h1.rd i8.o)
 obtain⟨a1,c1,hv⟩:=h1.sl
 subst hv;clear h1 n9 f5 HC;go_wp2_with fail
 refine HA.o.mono ?_;rintro e w3 e2;unfold jd8 at e2
 by_cases h0:jbL l cs=0
 case neg =>
  rw[if_neg h0]at e2
  obtain⟨rfl,hE⟩:=e2
  have HX:=Hd (i8.o.trans hE)
  obtain⟨x0,i9⟩:=vE (jbL l cs)
  have o0:=Hd i9.symm;rw[<-i9]at h0 ⊢;clear hE i9;go_wp2_with fail
  go_ret2;exact .inl ⟨x0,h0,.inr ⟨P,k0,rfl,.inl (by rw[<-g6.o];exact o0.o)⟩,rfl,HX.o⟩
 rw[if_pos h0]at e2
 obtain⟨r,rfl,h3⟩:=e2
 have HK:=Hd (jg8 h0).1;have g7:=je7 h0;have o1:=Hd h0
 obtain⟨m,hm⟩:=vE (jbV (jca l cs))
 have o2:=Hd hm;rw[<-hm]at h3 g7;have m2:=Hd g7;have j0:=ja1 g7;have f7:=Hd (show (m.length<=9223372036854775807)/\∀ p∈m,p.1.size<=9223372036854775807/\p.2.size<=9223372036854775807 from⟨by have:=j0.len;omega,fun p hp=>by have:=j0.size p hp;omega⟩);have m3:=Hd (i8.o.trans h3.ext);have f8:=Hd (bA (f6.o.1.ext h3.ext) (bE f6.o.2 h3.ext.size));have HV:=Hd (bA (ERow.rd (H1.o.mono h3.ext)) h3.rd)
 obtain⟨a2,c2,hr⟩:=h3.sl
 subst hr;have g8:=Hd (jrv w3 _ l (e0.o.1.ext m3.o) HV.o.1 HK.o)
 obtain⟨rm,j1⟩:=vE (shaB (jlR l).text)
 rw[<-j1]at g8;have o3:=Hd j1;clear h3 j0 g7 hm h0 HA H1 j1;go_wp2_with fail
 refine g8.o.mono ?_;rintro e w4 ⟨rfl,hE⟩;have m4:=Hd (m3.o.trans hE)
 by_cases hrt:rm=rt
 case neg =>
  have q0:=jeJ hrt;have o4:Hid (shaB (jlR l).text≠rt):=fun e=>hrt (o3.o.trans e);clear hE g8;go_wp2_with fail
  go_ret2;exact .inl ⟨4,by decide,.inr ⟨P,k0,rfl,.inr (by rw[<-g6.o];exact o4.o)⟩,rfl,m4.o⟩
 subst hrt;have d5:=Hd (bA (f8.o.1.ext hE) (bE f8.o.2 hE.size));have m5:=Hd (juy w4 _ _ l m (HV.o.1.ext hE) (HV.o.2.ext hE) i7.o.1 f7.o.1 i7.o.2 f7.o.2);clear hE g8;go_wp2_with fail
 refine m5.o.mono ?_;rintro e w5 ⟨dv,rfl,hd⟩;have HD:=Hd hd;have o5:=Hd (m4.o.trans hd.ext);have l2:=Hd (bA (d5.o.1.ext hd.ext) (bE d5.o.2 hd.ext.size));have j2:=jit HK.o m2.o;have m6:=jnW (ja1 HK.o).len (ja1 m2.o).len
 obtain⟨ds,g9⟩:=vE (jdd l m)
 have o6:=Hd g9;rw[<-g9]at HD j2 m6;have j3:=Hd j2;have o7:=Hd m6
 obtain⟨a3,c3,m7⟩:=hd.sl
 rw[<-g9]at m7;subst m7;clear hd j2 g9 m5;have l3:=Hd HD.o.rdT;go_wp2_with fail
 go_loopw [8,56] (fun pv iv wr=>jxq w5 (jjT w w1) P ds pv iv wr) (fun _ iv _=>ds.length - (intOf iv).toNat)
 case atStart=>exact⟨0,T,x,jjT w w1,by omega,rfl,rfl,l2.o.1,fun z hz=>.inl hz,(ExtR w5).mono (fun _ _ e=>e.elim)⟩
 case round =>
  obtain⟨k,Tk,xk,D,hk,rfl,rfl,b9,hD,c8⟩:=hrel
  by_cases hlt:k < ds.length
  ·rcases l3.o with⟨_,_,_,hz⟩ |⟨b,o,cd,hh,hb,hcd,hcell⟩
   ·rw[hz]at hlt;cases hlt
   cases hh
   obtain⟨p,hp⟩:∃ p,ds[k]?=some p:=⟨_,bB hlt⟩
   obtain⟨q1,q2,q3⟩:=hcell k p hp
   have h4:¬ jjT w w1 b:=fun e=>by have h1:=HD.o.new b rfl;have h2:=d5.o.2;have h3:=e.2;omega
   have q1:=jai q1 c8 h4;have q2:=jai q2 c8 h4;have q3:=jai q3 c8 h4;have O:p.bad=false:=by
    cases e:p.bad with
    | false=>rfl
    | true=>exact absurd (jut hp e) (by rw[j3.o.fine];simp)
   have j4:=jmE O;have b1:(k:Int) < (ds.length:Int):=vO
   have b4:=f4.o.takes vI ds j3.o.fine k;have b0:(ds.take (k+1)).foldl jcv P=jcv ((ds.take k).foldl jcv P) p:=by rw[jlQ hp,dX];rfl
   obtain⟨Q,hQ⟩:=vE ((ds.take k).foldl jcv P)
   rw[<-hQ]at b9 b4 b0;have d9:=Hd (bA b4 (b4.step vI O));have c5:=Hd b0;have d8:=b9.at'.meth;have K:=Hd (bA b9 (bA hD c8))
   obtain⟨ky,vl,gn⟩:=p
   simp only at q1 q2 q3 j4;clear hcell hp hb hcd h4 O b4 b0 b9 hD c8 hQ;have q4:=jeT Q;have q5:=jhq Q;have q6:∀ w,(Go.method (520+1) Tk xk "guilloche/trie.drop").run Tryz.prog w=.ok (jey Q,xk) w:=d8.drop;have q8:∀ w,(Go.method (520+1) Tk xk "guilloche/trie.put").run Tryz.prog w=.ok (jjq Q,xk) w:=d8.put;clear d8;go_wp2_with fail
   have q9:=Hd j4;clear q1 q2 q3;refine vC (je3 _ ky vO) fun w6 c9=>?_;have j5:=(Blk.new wr (.cells #[.string ky,.string vl,.bool gn] 49)).keeps c9 (fun e=>e);have f9:=((ExtR wr).alloc (.cells #[.string ky,.string vl,.bool gn] 49)).trans c9;have q1:w6.cell? ⟨wr.heap.size,1,none⟩=some (.string vl):=j5.cell (i:=1) vF;have q2:w6.cell? ⟨wr.heap.size,2,none⟩=some (.bool gn):=j5.cell (i:=2) vF;have c0:=Hd f9;have m8:(jaJ ky).size<=900000:=by have:=jeA ky;omega
   have m9:=Hd m8;clear c9 j5 f9 j4 m8;cases gn with
   | true =>
    have X:=Hd (jg5 Q d9.o.1.va w6 Tk xk D (jaJ ky) (K.o.1.ext c0.o) m9.o (jc7 ky) (jbt _ _ _ d9.o.1.dp vI))
    obtain⟨pb,O⟩:=vE (jaJ ky)
    have e4:=Hd O;rw[<-O]at X ⊢;clear O;go_wp2_with fail
    refine X.o.mono ?_;rintro e J ⟨v7,rfl,d0,d1⟩;have a4:(ds.take (k+1)).foldl jcv P=jbh Q pb:=by rw[c5.o,e4.o];rfl
    have d2:=d9.o.2.there;rw[show jcv Q ⟨ky,vl,true⟩=jbh Q pb by rw[e4.o];rfl]at d2
    obtain⟨T7,x7,rfl⟩:=d0.form d2
    have HF:=Hd (show PaO ((ds.take (k+1)).foldl jcv P) (.iface T7 x7) (Grow D w6 J) J from by rw[a4];exact PaTo.own d0 d1 (K.o.1.ext c0.o).lt);have j6:=Hd d1;clear d0 d1 a4 d2;go_wp2_with fail
    go_roundw
    case rel=>exact⟨k+1,T7,x7,_,by omega,by go_num,rfl,HF.o,fun z hz=>by
     rcases hz with hz | hz
     ·exact K.o.2.1 z hz
     ·exact .inr (bE K.o.2.2.size (bE c0.o.size hz.1)),K.o.2.2.trans' ((c0.o.mono (fun _ _ e=>e.elim)).trans j6.o) (fun z hz e=>(K.o.2.1 z e).resolve_right vO)⟩
    case measure=>exact vJ
   | false =>
    have X:=Hd (jlE Q d9.o.1.va w6 Tk xk D (jaJ ky) vl (K.o.1.ext c0.o) m9.o (jc7 ky) (jbt _ _ _ d9.o.1.dp vI))
    obtain⟨pb,O⟩:=vE (jaJ ky)
    have e4:=Hd O;rw[<-O]at X ⊢;clear O;go_wp2_with fail
    refine X.o.mono ?_;rintro e J ⟨v7,rfl,d0,d1⟩;have a4:(ds.take (k+1)).foldl jcv P=putP Q pb vl:=by rw[c5.o,e4.o];rfl
    have d2:=d9.o.2.there;rw[show jcv Q ⟨ky,vl,false⟩=putP Q pb vl by rw[e4.o];rfl]at d2
    obtain⟨T7,x7,rfl⟩:=d0.form d2
    have HF:=Hd (show PaO ((ds.take (k+1)).foldl jcv P) (.iface T7 x7) (Grow D w6 J) J from by rw[a4];exact PaTo.own d0 d1 (K.o.1.ext c0.o).lt);have j6:=Hd d1;clear d0 d1 a4 d2;go_wp2_with fail
    go_roundw
    case rel=>exact⟨k+1,T7,x7,_,by omega,by go_num,rfl,HF.o,fun z hz=>by
     rcases hz with hz | hz
     ·exact K.o.2.1 z hz
     ·exact .inr (bE K.o.2.2.size (bE c0.o.size hz.1)),K.o.2.2.trans' ((c0.o.mono (fun _ _ e=>e.elim)).trans j6.o) (fun z hz e=>(K.o.2.1 z e).resolve_right vO)⟩
    case measure=>exact vJ
  ·obtain rfl:k=ds.length:=vO
   have hQ:=f4.o.takes vI ds j3.o.fine ds.length;rw[cG]at b9 hQ
   obtain⟨Q,j7⟩:=vE (ds.foldl jcv P)
   rw[<-j7]at b9 hQ;have hQ:=hQ.more (show 160+3 * ds.length<=400 by have:=o7.o;omega);have HQ:=Hd hQ;have n0:=Hd (show Q=updP P cs from by rw[j7,o6.o,o2.o,g6.o];rfl);clear j7;have j8:Hid (Ext w wr):=(o5.o.trans' c8 (fun z hz e=>by have:=e.1;omega))
   obtain⟨W6,h7⟩:=vE (wr.alloc (.cells #[.slice none 0 0] 247))
   have c9:Ext wr W6:=by rw[h7];exact (ExtR wr).alloc _
   have j9:WrAt wr.heap.size wr.heap.size (.slice none 0 0) [] W6:=⟨bL _,by rw[h7];exact Blk.new wr _,fE _ _ _ _,fun b hb=>(by cases hb),fun _=>rfl⟩;have b5:=(hQ.top vI) wr W6 Tk xk D wr.heap.size (.slice none 0 0) [] (e0.o.1.ext j8.o) (e0.o.2.ext j8.o) b9 c9 j9 (by have:=hQ.cnt;have:([]:vM).length=0:=rfl;omega);rw[cN]at b5;have n1:=jdk Q hQ.there;have h8:=Hd (show (underP Q).length<=400 by have:=hQ.cnt;omega);have g0:=Hd (show newX S Q=textP Q :: freshU S (underP Q)from rfl)
   obtain⟨t,ht⟩:=vE (textP Q)
   obtain⟨U,hU⟩:=vE (underP Q)
   rw[<-ht, <-hU]at g0;rw[<-hU]at h8;rw[<-ht, <-hU]at b5;have l4:=Hd b5;have k1:=Hd (bA j9 (bA c9 h7));clear b9 hD c8 c9 j9 b5 ht hU h7 n1 hQ;go_wp2_with fail
   rw[<-k1.o.2.2];refine l4.o.mono ?_;rintro e J ⟨rfl,v7,h9⟩;have b3:=Hd (bA h9.at' (bA (j8.o.trans (h9.ext0 k1.o.1 k1.o.2.1 (bL _))) h9.at'.var.lt))
   obtain⟨g,hg⟩:=vE wr.heap.size
   rw[<-hg]at b3 ⊢;clear h9 hg
   obtain⟨a7,c7,n2⟩:=jaD b3.o.1.row
   obtain⟨n7,k2⟩:∃ n,n=U.length:=⟨_,rfl⟩
   have b2:=Hd b3.o.1.row;rw[<-k2]at n2 b2;subst n2;have k3:=Hd k2;have q7:=b3.o.1.var.cell (i:=0) (v:=.slice a7 n7 c7) vF;clear k2;have o8:(Instr.makeMap 124 none).run Tryz.prog (J.alloc (.cells #[.string t] 9))=.ok (.map (some (J.heap.size+1))) ((J.alloc (.cells #[.string t] 9)).alloc (.map #[] 0)):=by
    rw[<-bF J (.cells #[.string t] 9)];exact Tryz.makeMapSI _
   obtain⟨W8,e5⟩:=vE ((J.alloc (.cells #[.string t] 9)).alloc (.map #[] 0))
   obtain⟨mb,k4⟩:=vE (J.heap.size+1)
   rw[<-e5, <-k4]at o8;have n3:Ext J W8:=by rw[e5];exact ((ExtR J).alloc _).alloc _
   have n4:Blk W8 mb (.map (Tryz.ES.arr []) 0):=by
    rw[e5,k4, <-bF J (.cells #[.string t] 9)];exact Blk.new _ _
   have i0:SRow J (J.alloc (.cells #[.string t] 9)) (.slice (some ⟨J.heap.size,0,none⟩) 1 1) 1 [t]:=ORow.lit (n:=1) #[.string t] (ExtR J) vI rfl;have i0:SRow J W8 (.slice (some ⟨J.heap.size,0,none⟩) 1 1) 1 [t]:=by rw[e5];exact i0.mono ((ExtR _).alloc _)
   have o9:=Hd (show UpB J S mb t U 0 (.slice (some ⟨J.heap.size,0,none⟩) 1 1) W8 from⟨⟨1,i0⟩,fun e=>by injection e with e;have e:J.heap.size=mb:=e;omega,[],0,n4,fun y=>rfl⟩);have q7:=jaa q7 n3;have p0:=Hd (show J.heap.size<=mb by omega);clear e5 k4 n3 n4 i0;go_wp2_with fail
   go_loopw [19,86] (fun rv iv wr=>jxr J S mb t U rv iv wr) (fun _ iv _=>U.length - (intOf iv).toNat)
   case atStart=>exact⟨0,by omega,rfl,o9.o⟩
   case round =>
    obtain⟨k,hk,rfl,n5⟩:=hrel
    by_cases hlt:k < U.length
    ·rcases Nat.eq_zero_or_pos n7 with h0 | h0
     ·have:=k3.o;omega
     obtain⟨b7,rfl⟩:=jgp b2.o vO
     obtain⟨x,hx⟩:∃ x,U[k]?=some x:=⟨_,bB hlt⟩
     obtain⟨⟨n,q⟩,d6,es,ck,h5,h6⟩:=n5
     obtain⟨ar,cr,k5⟩:=q.sl
     subst k5;have HX:=Hd q.ext;have qx:=jaa (jb3 b2.o (j:=k) (u:=.string x) (by rw[bV,hx];rfl)) q.ext
     obtain⟨cn,e8⟩:=vE (cntB (U.take k) x)
     have r0:cn<=1000000:=by
      rw[e8];unfold cntB;refine bE List.count_le_length ?_;rw[bS,cQ];have:=h8.o;omega
     have e6:=h6 x;rw[<-e8]at e6;have k6:(Instr.lookup 124 (.map (some mb)) (.string x) false).run Tryz.prog wr=.ok (.int .i64 (cn:Int)) wr:=by
      have:=jbQ Tryz.ES Tryz.uMapSI h5 (Tryz.zeroI wr) x.data.toList false
      rw[e6]at this;unfold cntV at this
      by_cases h0:cn=0
      ·rw[if_pos h0]at this;rw[h0];exact this
      ·rw[if_neg h0]at this;exact this
     obtain⟨a5,b6⟩:∃ es2,es2=jba es x.data.toList (.int .i64 ((cn:Int)+1)) ck:=⟨_,rfl⟩
     obtain⟨b8,g2⟩:∃ ck2,ck2=(if (jay es x.data.toList).isSome then ck else ck+1):=⟨_,rfl⟩
     obtain⟨W2,i1⟩:=vE (wr.putObj mb (.map (Tryz.ES.arr a5) b8))
     have k7:(Instr.mapUpdate 124 (.map (some mb)) (.string x) (.int .i64 ((cn:Int)+1))).run Tryz.prog wr=.ok () W2:=by
      have:=jbj Tryz.ES Tryz.uMapSI h5 x.data.toList (.int .i64 ((cn:Int)+1))
      rw[<-b6, <-g2, <-i1]at this;exact this
     have B2:Blk W2 mb (.map (Tryz.ES.arr a5) b8):=by rw[i1];exact h5.put_same _
     have e7:∀ y:vB,jay a5 y.data.toList=cntV (cntB (U.take (k+1)) y):=fun y=>by
      rw[b6,jdD,h6 y,jlQ hx,jnT]
      by_cases hxy:y.data.toList=x.data.toList
      ·have p1:y=x:=ByteArray.ext (Array.ext' hxy)
       subst p1;rw[if_pos rfl,if_pos rfl, <-e8];unfold cntV;rw[if_neg vO];simp
      ·rw[if_neg hxy,if_neg (fun e=>hxy e.symm)];rfl
     have g3:∀ W3,Ext W2 W3->(Instr.lookup 124 (.map (some mb)) (.string x) false).run Tryz.prog W3=.ok (.int .i64 ((cn:Int)+1)) W3:=fun W3 e3=>by
      have:=jbQ Tryz.ES Tryz.uMapSI (B2.keeps e3 (fun e=>e)) (Tryz.zeroI W3) x.data.toList false
      rw[b6,jdD,if_pos rfl]at this;exact this
     have K2:jac (fun z=>z=mb) wr W2:=by rw[i1];exact jac.onePut _ _ _
     have O2:SRow J W2 (.slice ar n cr) n (t :: freshU S (U.take k)):=q.keeps K2 (fun b hb e=>d6 (by rw[hb];exact congrArg some e)) (fun b hb e=>by have e:b=mb:=e;have:=p0.o;omega);have g4:=Hd (show n<=401 by
      have h1:=q.len;rw[bS,bU]at h1;have h2:=jko S (U.take k);rw[cQ]at h2
      have:=h8.o;omega)
     have g5:=Hd (show memB (jb6 (U.take k)) x=true↔cn≠0 from by
      rw[jfF,jc4,e8];unfold cntB;rw[<-Nat.pos_iff_ne_zero,gK,bD]
      exact⟨fun hm=>⟨x,hm,rfl⟩,fun ⟨y,hy,e⟩=>by rw[<-show y=x from ByteArray.ext (Array.ext' e)];exact hy⟩)
     have i2:=Hd (jn8 S (U.take k) x);rw[<-jlQ hx]at i2;have d7:=Hd (show ∀ W3,Ext W2 W3->∃ es ck,Blk W3 mb (.map (Tryz.ES.arr es) ck)/\∀ y:vB,jay es y.data.toList=cntV (cntB (U.take (k+1)) y)from fun W3 e3=>⟨a5,b8,B2.keeps e3 (fun e=>e),e7⟩);have k8:=Hd (bA B2 e7);have k9:=Hd g3;have c4:=Hd O2;have a8:=Hd d6;have b1:(k:Int) < (n7:Int):=by have:=k3.o;omega
     have i3:=Hd (bA hk hlt);have n1:=h8.o;clear q d6 h5 h6 hx e8 e6 b6 g2 i1 B2 e7 g3 K2 O2 h0
     by_cases hc0:cn=0
     ·subst hc0
      have i4:=Hd (show memB (jb6 (U.take k)) x=false by
       cases hm:memB (jb6 (U.take k)) x with
       | false=>rfl
       | true=>exact absurd rfl (g5.o.1 hm))
      have p7:(Instr.lookup 124 (.map (some mb)) (.string x) false).run Tryz.prog wr=.ok (.int .i64 0) wr:=k6;have p8:(Instr.mapUpdate 124 (.map (some mb)) (.string x) (.int .i64 1)).run Tryz.prog wr=.ok () W2:=k7;have l5:Hid (∀ W3,Ext W2 W3->(Instr.lookup 124 (.map (some mb)) (.string x) false).run Tryz.prog W3=.ok (.int .i64 1) W3):=k9.o;clear k6 k7 k9;go_wp2_with fail
      refine vC (of_t _ _ [x] (by simp) (jeD W2 [x] 9) (e0.o.1.ext (b3.o.2.1.trans (c4.o.ext.alloc _)))) fun w8 Z=>?_;rw[jdS];have Z:=((ExtR W2).alloc (.cells #[.string x] 9)).trans Z;have e9:=Hd Z;have A:=Hd (jfR w8 s bm room S (shaB x) (l8.o.ext (b3.o.2.1.trans (c4.o.ext.trans Z))));have l0:Hid (lackB S x=(atL S (shaB x).data.toList).isNone):=rfl
      obtain⟨ag,f0⟩:=vE (atL S (shaB x).data.toList)
      rw[<-f0]at A l0
      obtain⟨sx,f1⟩:=vE (shaB x)
      rw[<-f1]at A ⊢;clear Z f0 f1 qx;cases ag with
      | some y =>
       obtain⟨ty,f2⟩:=vE y.2.2.text
       have d3:=Hd (show vQ 89 #[.pointer (some ⟨s,0,none⟩),.string sx] w8 (fun e w'=>e=.returned (.tuple #[.string y.2.2.text,.bool true])/\Ext w8 w')from A.o);go_wp2_with fail
       refine d3.o.mono ?_;rintro e w9 ⟨rfl,a0⟩;have H:=Hd (e9.o.trans a0);clear a0;rw[<-f2];clear f2;have f3:freshU S (U.take (k+1))=freshU S (U.take k):=by rw[i2.o];rw[if_neg (by rw[i4.o];simp),if_neg (by rw[l0.o];simp),cA]
       have HF:=Hd f3;clear f3;go_wp2_with fail
       go_roundw
       case rel=>exact⟨k+1,by have:=i3.o;omega,by go_num,⟨n,by rw[HF.o];exact c4.o.mono H.o⟩,a8.o,d7.o w9 H.o⟩
       case measure=>exact vJ
      | none =>
       have d3:=Hd (show vQ 89 #[.pointer (some ⟨s,0,none⟩),.string sx] w8 (fun e w'=>e=.returned (.tuple #[.string ⟨#[]⟩,.bool false])/\Ext w8 w')from A.o);go_wp2_with fail
       refine d3.o.mono ?_;rintro e w9 ⟨rfl,a0⟩;have H:=Hd (e9.o.trans a0);clear a0;have l6:=l5.o w9 H.o;have p2:n+1<=maxLen:=by have:=g4.o;unfold maxLen;omega
       have p3:(n+1) * 16<=140737488355328:=by have:=g4.o;omega
       go_wp2_with (at_builtin;refine ja0 Tryz.sStrs ((c4.o.mono H.o).mono ((ExtR w9).alloc _)) (.tmp 110) (.tmp 112) rfl rfl rfl (jaN (Blk.new w9 _)) (news:=[.string x]) (by intro u hu;simp at hu;rcases hu with rfl;rfl) rfl rfl p2 p3 ?_;intro v' w' r1 r2 r3)
       have l1:SRow J w' v' (n+1) (t :: freshU S (U.take (k+1))):=by
        have e1:freshU S (U.take (k+1))=freshU S (U.take k)++[x]:=by rw[i2.o,if_neg (by rw[i4.o];simp),if_pos (by rw[l0.o];rfl)]
        unfold SRow;rw[e1, <-cY,bY];exact r1
       obtain⟨p4,p5,rfl⟩:=l1.sl
       have l7:=(k8.o.1.keeps H.o (fun e=>e)).lt;have n6:=Hd (bA l1 (show (Value.slice p4 (n+1) p5).ownBlock≠some mb from fun e=>by
        rcases r3 with r3 | r3
        ·exact a8.o (r3 ▸ e)
        ·have:=r3 mb e;rw[bF]at this;omega))
       have p6:=Hd (((k8.o.1.keeps H.o (fun e=>e)).alloc (.cells #[.string x] 9)).keeps r2 (fun e=>a8.o e));clear r1 r2 r3 l1 l7;go_wp2_with fail
       go_roundw
       case rel=>exact⟨k+1,by have:=i3.o;omega,by go_num,⟨n+1,n6.o.1⟩,n6.o.2,a5,b8,p6.o,k8.o.2⟩
       case measure=>exact vJ
     ·have r4:¬((cn:Int)+1=1):=vO
      have r5:(((cn:Int)+1) == 1)=false:=by simp;omega
      have i4:=Hd (g5.o.2 hc0);go_wp2_with fail
      refine vC (of_t _ _ [x] (by simp) (jeD W2 [x] 9) (e0.o.1.ext (b3.o.2.1.trans (c4.o.ext.alloc _)))) fun w8 Z=>?_;rw[jdS];have Z:=((ExtR W2).alloc (.cells #[.string x] 9)).trans Z;have e9:=Hd Z;have A:=Hd (jfR w8 s bm room S (shaB x) (l8.o.ext (b3.o.2.1.trans (c4.o.ext.trans Z))))
      obtain⟨ag,f0⟩:=vE (atL S (shaB x).data.toList)
      rw[<-f0]at A
      obtain⟨sx,f1⟩:=vE (shaB x)
      rw[<-f1]at A ⊢;clear Z f0 f1 qx k6 k7;have f3:freshU S (U.take (k+1))=freshU S (U.take k):=by rw[i2.o,if_pos i4.o,cA]
      have HF:=Hd f3;clear f3;cases ag with
      | some y =>
       obtain⟨ty,f2⟩:=vE y.2.2.text
       have d3:=Hd (show vQ 89 #[.pointer (some ⟨s,0,none⟩),.string sx] w8 (fun e w'=>e=.returned (.tuple #[.string y.2.2.text,.bool true])/\Ext w8 w')from A.o);go_wp2_with fail
       refine d3.o.mono ?_;rintro e w9 ⟨rfl,a0⟩;have H:=Hd (e9.o.trans a0);clear a0;rw[<-f2];clear f2;go_wp2_with fail
       go_roundw
       case rel=>exact⟨k+1,by have:=i3.o;omega,by go_num,⟨n,by rw[HF.o];exact c4.o.mono H.o⟩,a8.o,d7.o w9 H.o⟩
       case measure=>exact vJ
      | none =>
       have d3:=Hd (show vQ 89 #[.pointer (some ⟨s,0,none⟩),.string sx] w8 (fun e w'=>e=.returned (.tuple #[.string ⟨#[]⟩,.bool false])/\Ext w8 w')from A.o);go_wp2_with fail
       refine d3.o.mono ?_;rintro e w9 ⟨rfl,a0⟩;have H:=Hd (e9.o.trans a0);clear a0;have l6:=k9.o w9 H.o;go_wp2_with fail
       go_roundw
       case rel=>exact⟨k+1,by have:=i3.o;omega,by go_num,⟨n,by rw[HF.o];exact c4.o.mono H.o⟩,a8.o,d7.o w9 H.o⟩
       case measure=>exact vJ
    ·obtain rfl:k=U.length:=vO
     obtain⟨⟨n,q⟩, -, -⟩:=n5
     obtain⟨ar,cr,k5⟩:=q.sl
     subst k5;rw[cG]at q;have a9:=Hd q;have r6:¬((U.length:Int) < (n7:Int)):=by have:=k3.o;omega
     clear q;go_wp2_with fail
     go_ret2;refine .inr ⟨_,P,k0,rfl,by rw[<-g6.o];exact o1.o,rfl,by rw[<-n0.o];exact HQ.o,?_⟩;rw[<-n0.o,g0.o];have hn:(t :: freshU S U).length=n:=by have:=a9.o.len;simpa using this
     rw[hn]
     exact⟨a9.o.sl,a9.o.own,b3.o.2.1.trans a9.o.ext,fun b hb=>bE b3.o.2.1.size (a9.o.new b hb)⟩
theorem jrN:∀ t∈underP Q,t.size<=2000:=by
 have e:∀ t u:vB,t.size<=2000->u∈bigs t->u.size<=2000:=fun t u h A=>by
  unfold bigs at A;split at A
  ·cases A
  ·rw[bM.1 A];exact h
 induction Q with
 | nil=>intro t h;cases h
 | no=>intro t h;cases h
 | leaf q v=>intro t h;cases h
 | ext q n ih =>
  intro t h;rcases bQ.1 h with h | h
  ·exact e _ t jgx h
  ·exact ih t h
 | br v ks ih =>
  intro t h
  obtain⟨i,_,h⟩:=fI.1 h
  split at h
  ·cases h
  ·rcases bQ.1 h with h | h
   ·exact e _ t jgx h
   ·exact ih i t h
theorem jta:GetE ⟨#[]⟩:=fun w _=>jqg w _ jkS
theorem jjK(P:PA):(∃ n,jbd (textP P) n)\/textP P=⟨#[]⟩:=by
 obtain⟨k,e⟩:=jrO P
 exact e.imp (fun ⟨n,q,A⟩=>⟨n,A,k,q⟩) id
theorem jpd{x:vB}(h:t∈bigs x):t=x:=by
 unfold bigs at h
 by_cases e:x.size < 32
 ·rw[if_pos e]at h;cases h
 ·rw[if_neg e]at h;exact bM.1 h
theorem jtH(h:AnyP Q 2000 400):(newX S Q).length<=401/\∀ t∈newX S Q,t.size<=400000:=by
 refine⟨?_,fun t e=>?_⟩
 ·unfold newX
  rw[bU];have q:=jko S (underP Q);have A:=jdk Q h.there;have H:=h.cnt;omega
 ·rcases bZ.1 e with rfl | e
  ·exact bE jgx vI
  ·unfold freshU at e
   exact bE (jrN t ((jc4 _ _).1 (cI.1 e).1)) vI
theorem jhW:∀ (P:PA) (t:vB),t∈underP P->(∃ n,jbd t n)\/t=⟨#[]⟩
 | .nil,t,h=>absurd h (by simp[underP])
 | .no,t,h=>absurd h (by simp[underP])
 | .leaf _ _,t,h=>absurd h (by simp[underP])
 | .ext _ n,t,h=>by
  have h:t∈bigs (textP n)++underP n:=h;rcases bQ.1 h with h | h
  ·rw[jpd h];exact jjK n
  ·exact jhW n t h
 | .br _ ks,t,h=>by
  have h:t∈(List.range 16).flatMap fun i=>if (ks i).isNil then []else bigs (textP (ks i))++underP (ks i):=h
  obtain⟨i,_,h⟩:=fI.1 h
  split at h
  ·cases h
  ·rcases bQ.1 h with h | h
   ·rw[jpd h];exact jjK (ks i)
   ·exact jhW (ks i) t h
theorem jtG(S:vT)(Q:PA):AnyL (newX S Q):=fun t e=>by
 have h:(∃ n,jbd t n)\/t=⟨#[]⟩:=by
  rcases bZ.1 e with rfl | e
  ·exact jjK Q
  ·unfold freshU at e
   exact jhW Q t ((jc4 _ _).1 (cI.1 e).1)
 rcases h with h | rfl
 ·exact .inl h
 ·exact .inr jta
end
theorem ChI.back{w0 W W':vW}{D:Nat->Prop}{M:MdN}{a:Option Addr}{es:List (Ent Int)}{room:Int}{n:Nat}(h:ChI w0 D W b M a c rm sb cb es ck bm room S n)(k:jac (fun z=>z=b) W W')(hB:Blk W' b (.cells (chC M a c rm sb cb).toArray 81)):ChI w0 D W' b M a c rm sb cb es ck bm room S n:=by
 have q:=h.sep b (.inl rfl)
 refine⟨⟨hB,h.m.ver.keeps k (fun z A e=>h.db (by have e:z=b:=e;rw[<-e];exact A)),h.m.map.keeps k h.rb⟩,h.s.keeps k (fun e=>q.2.1 e.symm) (fun e=>q.1 e.symm) (fun x J e=>q.2.2 (bD.2 ⟨x,J,e⟩)) (fun z K O e H=>?_),h.sep,h.rb,h.db,fun z A=>⟨(h.dr z A).1,bC (h.dr z A).2 k.size⟩,h.ok,h.st,h.kn,h.lt,h.val⟩
 have e:z=b:=e;subst e
 have:=h.m.blk.uniq H
 injection this with _ e _;exact absurd e vI
theorem Tryz.enterMCommit:(callFunc 40 args).run Tryz.prog w=.ok (.enter 40 args) w:=vY
theorem jlV{P:Program}{o:Oper}{a:Act}{w:vW}{K:Act->vW->Prop}{Q:Exit->Act->vW->Prop}{T T2:TypeId}(ho:o.op=.store T x y)(hx:a.eval x=.pointer (some ⟨b,0,none⟩))(hy:a.eval y=.agg vs.toArray)
  (hB:Blk w b (.cells old.toArray T2)) (hl:vs.length<=old.length) (hi:(P.info? T).map (·.size)=some vs.length) (h1:∀ v∈vs,v.oneCell'=true)
  (h:∀ W,Blk W b (.cells (vs++old.drop vs.length).toArray T2)->jac (fun z=>z=b) w W->K (a.put o.dst undef) W):o.wp P a w K Q:=by
 refine wp_store_mid T x y ho b 0 vs.toArray hx hy (by have:=jg9 hB (o:=0) (n:=vs.length) vO;simpa using this) (by simpa using hi) (all_oneCell_toArray h1) (h _ ?_ (jac.oneSetCells b vs 0 w))
 have:=Blk.setCells vs 0 w old hB vO
 simpa using this
def CmN(room:Int)(S:vT)(rt:vB)(cs:List Chg)(k:Int):Prop:=jxs (readR S rt) rt cs k\/∃ P k0,readR S rt=some (P,k0)/\joI (∃ t∈newX S (updP P cs),¬ ∃ n,jbd t n) room S (newX S (updP P cs)) k
def CmR(S:vT)(rt:vB)(cs:List Chg)(t:vB)(S':vT):Prop:=∃ P k0 G M,readR S rt=some (P,k0)/\t=shaB (textP (updP P cs))/\G.map kvI=readG (newX S (updP P cs))/\jec S G t M (frK S M).length/\S'=addS S G M (textP (updP P cs))
def CcP(w0 w:vW)(s bm:Nat)(room:Int)(S:vT)(n:Nat)(N:Int->Prop)(R:vB->vT->Prop)(e:Ending)(w':vW):Prop:=
 (∃ k:Int,k≠0/\N k/\e=.returned (.tuple #[.string ⟨#[]⟩,.int .i64 k])/\Ext w w')\/∃ t S',R t S'/\e=.returned (.tuple #[.string t,.int .i64 0])/\ChS w0 s bm room S' w' (n+1000)/\jac (fun z=>z=bm\/z∈S.map (·.2.1)) w w'/\∀ x∈S',x.2.1∈S.map (·.2.1)\/w.heap.size<=x.2.1
theorem jo1{L:vM}(h:AnyL L):AnyQ (∃ t∈L,¬ ∃ n,jbd t n) L:=fun t e=>by
 by_cases hn:∃ n,jbd t n
 ·exact .inl hn
 ·exact .inr ⟨(h t e).resolve_left hn,t,e,hn⟩
theorem jj3(hc:jbA w)(he:ErrT w)(s bm:Nat)(room:Int)(S:vT)(n:Nat)(hA:ChS w0 s bm room S w n)(X:w0.heap.size<=w.heap.size)(hn:n<=20000)(hr:0<=room/\room<=9223372036854775807)(rt:vB)(u:vV)(cs:List Chg)(hu:RdC w u cs)(hnc:cs.length<=9223372036854775807)(hsc:∀ c∈cs,c.key.size<=9223372036854775807/\c.value.size<=9223372036854775807) :
  vQ 41 #[.pointer (some ⟨s,0,none⟩),.string rt,u] w (CcP w0 w s bm room S n (CmN room S rt cs) (CmR S rt cs)):=by
 have HU:=Hd (jwH w hc he s bm room S hA.st hA.all rt u cs hu hnc hsc);have a1:=Hd (bA hc he);have HA:=Hd hA;have a2:=Hd hr;have b0:=Hd hn;have b1:=Hd X
 obtain⟨a,c,b2⟩:=hu.sl
 subst b2
 obtain⟨o,ho⟩:=vE (readR S rt)
 have HO:=Hd ho;rw[<-ho]at HU;clear ho hA hc he hu hnc hsc hr hn X;go_enter Tryz.func41,Tryz.ntmps41;go_wp2_with fail
 refine HU.o.mono ?_;rintro e w1 (⟨k,h0,a4,rfl,hE⟩ |⟨r,P,k0,a5,_,rfl,hQ,hR⟩)
 ·have H:=Hd (bA a4 hE)
  have b4:(k != 0)=true:=by simpa using h0
  have b5:(k == 0)=false:=by simpa using h0
  have J:=Hd h0;clear hE a4 h0;go_wp2_with fail
  go_ret2;exact .inl ⟨_,J.o,.inl (by rw[<-HO.o];exact H.o.1),rfl,H.o.2⟩
 ·have a7:=Hd a5
  have HL:=Hd (jtH (S:=S) hQ);have a8:=Hd hR.rd;have H:=Hd hR.ext;have A:(newX S (updP P cs))[0]?=some (textP (updP P cs)):=rfl
  obtain⟨top,q⟩:=vE (textP (updP P cs))
  rw[<-q]at A
  obtain⟨L,hL⟩:=vE (newX S (updP P cs))
  rw[<-hL]at a8 HL hR A;have Z:=Hd hL;have K:=Hd (bA q A);clear q A
  obtain⟨a3,c3,e3⟩:=hR.sl
  subst e3;have hb:=HA.o.bds b0.o;clear hR hL hQ a5;go_wp2_with fail
  refine (joP w1 (a1.o.1.ext H.o) (a1.o.2.ext H.o) s bm room S (HA.o.st.ext H.o) _ L a8.o (∃ t∈L,¬ ∃ n,jbd t n) (jo1 (by rw[Z.o];exact jtG _ _)) (by have:=HL.o.1;omega) top K.o.2 a2.o.1 (by have:=a2.o.2;omega) hb.1 hb.2.1 hb.2.2).mono ?_;rintro e w2 (⟨k,a9,hk,rfl,hE⟩ |⟨a0,G,M,q,O⟩)
  ·have HE:=Hd (H.o.trans hE)
   have J:=Hd (bA hk a9);clear hE hb hk a9;go_wp2_with fail
   go_ret2;exact .inl ⟨_,J.o.1,.inr ⟨P,k0,by rw[<-HO.o];exact a7.o,by rw[<-Z.o];exact J.o.2⟩,rfl,HE.o⟩
  ·obtain rfl:top=a0:=by have:=K.o.2;rw[q]at this;injection this with this;exact this.symm
   have b3:=O.res;have HY:=Hd (bA q O);subst b3;clear O hb q;go_wp2_with fail
   go_ret2
   obtain⟨q,O⟩:=HY.o
   have b6:=H.o.size;have X:=b1.o;have h1:1<=L.length:=by
    have:=(bH.1 q).1
    omega
   have hl:=HL.o.1;refine .inr ⟨_,_,⟨P,k0,G,M,by rw[<-HO.o];exact a7.o,by rw[K.o.1],by rw[<-Z.o];exact O.given,O.path,by rw[K.o.1]⟩,rfl,((HA.o.ext H.o).add vO vO h1 O).mono vO,(H.o.mono fun _ _ e=>e.elim).trans O.kp,fun x hx=>?_⟩;rcases O.newS x hx with e | e
   ·exact .inl e
   ·exact .inr vO
