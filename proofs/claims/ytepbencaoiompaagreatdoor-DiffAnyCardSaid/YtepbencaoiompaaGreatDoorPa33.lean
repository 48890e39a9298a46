/- Lemmas; each is under no condition but those that it states. -/
import Derived.Test.YtepbencaoiompaaGreatDoorPa30
import Derived.Test.YtepbencaoiompaaGreatDoorPa32
import Derived.Lib.SmallJoins
namespace Go.Proofs.YtepbencaoiompaaGreatDoor
set_option linter.unusedSimpArgs false
set_option linter.unusedVariables false
set_option maxRecDepth 100000
set_option maxHeartbeats 16000000
section
open Go Go.RowKit
attribute [local go_sem] Oper.semAt_some
theorem jgW{S:vT}{root:vB}(h:atL S root.data.toList=none):readR S root=none:=by
 unfold readR gHash;rw[h];rfl
def jzo(w:vW)(o:Option (PA × Nat))(e:Ending)(w':vW):Prop:=
 (o=none/\e=.returned (.tuple #[.slice none 0 0,.int .i64 4])/\Ext w w')\/∃ P v,o≠none/\AnyP P 2000 160/\e=.returned (.tuple #[v,.int .i64 0])/\ERow w w' v (entP P ⟨#[]⟩).length (entP P ⟨#[]⟩)
theorem jrL(w:vW)(s bm:Nat)(room:Int)(S:vT)(hs:jax w s bm room S)(hN:jdn S)(rt:vB) :
  vQ 10 #[.pointer (some ⟨s,0,none⟩),.string rt] w (jzo w (readR S rt)):=by
 have Z:=Hd (joC w s bm room S hs hN rt);have q:=Hd (fun(P:PA) (k:Nat) (h:readR S rt=some (P,k))=>jna hN h)
 obtain⟨o,ho⟩:=vE (readR S rt)
 rw[<-ho]at Z q ⊢;clear hs hN ho;go_enter Tryz.func10,Tryz.ntmps10;go_wp2_with fail
 refine Z.o.mono ?_;rintro e w1 ⟨E,hO⟩;have A:=Hd E;clear E;cases o with
 | none =>
  obtain⟨v,rfl,rfl |⟨T,x,rfl⟩⟩:=hO
  ·go_wp2_with fail
   go_ret2;exact .inl ⟨rfl,rfl,A.o⟩
  ·go_wp2_with fail
   go_ret2;exact .inl ⟨rfl,rfl,A.o⟩
 | some Pk =>
 obtain⟨P,k0⟩:=Pk
 obtain⟨T,x,rfl,O⟩:=hO
 have HM:=Hd (show PaO P (.iface T x) (jha w w1) w1 from⟨O,fun z hz=>hz.2⟩);have Q:=q.o P k0 rfl;have HA:=Hd Q;have a0:=jdp P;have H:=O.meth;have a1:∀ w,(Go.method (403+1) T x "guilloche/trie.entries").run Tryz.prog w=.ok (jff P,x) w:=H.ent;have HC:=Hd (jw8 w1 w1 (Q.more vI) vI T x _ HM.o (ExtR w1));clear O H Q q;go_wp2_with fail
 refine HC.o.mono ?_;rintro e w2 ⟨v,rfl,X⟩;have J:=Hd X
 obtain⟨a,c,hv⟩:=X.sl
 obtain⟨n,K⟩:=vE (entP P ⟨#[]⟩).length
 rw[<-K]at hv;subst hv;rw[<-K]at J;have HN:=Hd K;clear X K;go_wp2_with fail
 go_ret2;refine .inr ⟨P,_,fun h=>(by cases h),HA.o,rfl,?_⟩;rw[<-HN.o]
 exact⟨⟨_,_,rfl⟩,J.o.own,A.o.trans J.o.ext,fun b hb=>bH A.o.size (J.o.new b hb)⟩
theorem juv{Q:PA}:∀ t∈underP Q,t.size<=2000:=by
 have e:∀ t u:vB,t.size<=2000->u∈bigs t->u.size<=2000:=fun t u h o=>by
  unfold bigs at o;split at o
  ·cases o
  ·rw[bP.1 o];exact h
 induction Q with
 | nil=>intro t h;cases h
 | no=>intro t h;cases h
 | leaf q v=>intro t h;cases h
 | ext q n ih =>
  intro t h;rcases bT.1 h with h | h
  ·exact e _ t jhH h
  ·exact ih t h
 | br v ks ih =>
  intro t h
  obtain⟨i,_,h⟩:=cP.1 h
  split at h
  ·cases h
  ·rcases bT.1 h with h | h
   ·exact e _ t jhH h
   ·exact ih i t h
theorem jv6{S:vT}{Q:PA}(h:AnyP Q 2000 400):(newX S Q).length<=401/\∀ t∈newX S Q,t.size<=400000:=by
 refine⟨?_,fun t e=>?_⟩
 ·unfold newX
  rw[bO];have o:=jgF S (underP Q);have q:=jdx Q h.there;have z:=h.cnt;omega
 ·rcases bM.1 e with rfl | e
  ·exact bH jhH vI
  ·unfold freshU at e
   exact bH (juv t ((jaQ _ _).1 (cN.1 e).1)) vI
structure AnT(w:World)(s bm:Nat)(S:vT)(W:World):Prop where
 st:jax W s bm 100 S
 all:jdn S
 ext:Ext w W
 bnew:w.heap.size<=bm
 new:∀ x∈S,w.heap.size<=x.2.1
 cnt:Cnt S
 len:S.length<=100
 held:∀ x∈S,x.2.2.held<=100
 key:∀ x∈S,x.1.length=32
theorem AnT.more{w W W':vW}{s bm:Nat}{S:vT}(h:AnT w s bm S W)(e:Ext W W'):AnT w s bm S W':=⟨h.st.ext e,h.all,h.ext.trans e,h.bnew,h.new,h.cnt,h.len,h.held,h.key⟩
theorem AnT.free{w W:vW}{s bm:Nat}{S:vT}(h:AnT w s bm S W){z:Nat}(e:z=bm\/z∈S.map (·.2.1)):w.heap.size<=z:=by
 rcases e with e | e
 ·have:=h.bnew;omega
 ·obtain⟨y,o,rfl⟩:=bI.1 e
  exact h.new y o
theorem AnT.bds{w W:vW}{s bm:Nat}{S:vT}(h:AnT w s bm S W):S.length<=100000/\(∀ x∈S,0<=x.2.2.used/\x.2.2.used<=1000000000)/\(∀ x∈S,0<=x.2.2.held/\x.2.2.held<=1000000000):=
 ⟨by have:=h.len;omega,fun x e=>by
  have o:=h.cnt.used x e;have q:=jx6 (jgn S) x.1;have z:=jne h.cnt.r16
  have:=h.len
  omega,fun x e=>⟨h.cnt.held x e,by have:=h.held x e;omega⟩⟩
theorem AnT.add{w W W':vW}{s bm:Nat}{S G:vT}{L M:vM}{top:vB}{e:Ending}{n:Int}(h:AnT w s bm S W)(hl:L.length<=1000)(hh:∀ x∈S,x.2.2.held<=n)(hn:0<=n/\n < 100)(hY:AddY W s bm 100 S L top G M e W'):AnT w s bm (addS S G M top) W':=
 ⟨hY.st,hY.nodesS h.all,h.ext.trans' hY.kp (fun z o e=>by have:=h.free e;omega),h.bnew,fun x q=>by
  rw[jcO]at q
  obtain⟨z,o,rfl⟩:=bI.1 q
  show w.heap.size<=z.2.1;rcases bT.1 o with o | o
  ·exact h.new z o
  ·exact bH h.ext.size (hY.news z (jbT o).1),jsf h.cnt hY.given (jhq hY.given hY.nodes hl) hY.path,by
  have A:=joj (S:=S) (G:=G) (M:=M) (top:=top);have E:=hY.fits;omega,fun x q=>by have:=jk1 (top:=top) (M:=M) hh hn.1 hY.given x q;omega,fun x q=>by
  rw[jcO]at q
  obtain⟨z,o,rfl⟩:=bI.1 q
  show z.1.length=32;rcases bT.1 o with o | o
  ·exact h.key z o
  ·obtain⟨t,_,e,_⟩:=jcL hY.given (jbT o).1
   rw[e];exact jbb t⟩
def jzw(w0:vW)(o:Option (PA × Nat))(e:Ending)(w':vW):Prop:=∃ (t:vB) (k:Int),e=.returned (.tuple #[.string t,.int .i64 k])/\(o=none->k=4)/\Ext w0 w'
theorem jjN(w0 w:vW)(hc:jbN w)(he:ErrT w)(s bm:Nat)(S:vT)(hA:AnT w0 s bm S w)(rt:vB)(u:vV)(cs:List Chg)(hu:RdC w u cs)(hnc:cs.length<=9223372036854775807)(hsc:∀ c∈cs,c.key.size<=9223372036854775807/\c.value.size<=9223372036854775807) :
  vQ 14 #[.pointer (some ⟨s,0,none⟩),.string rt,u] w (jzw w0 (readR S rt)):=by
 have HU:=Hd (joF w hc he s bm 100 S hA.st hA.all rt u cs hu hnc hsc);have E:=Hd (bB hc he);have A:=Hd hA
 obtain⟨a,c,a0⟩:=hu.sl
 subst a0
 obtain⟨o,ho⟩:=vE (readR S rt)
 rw[<-ho]at HU ⊢;clear ho hA hc he hu hnc hsc;go_enter Tryz.func14,Tryz.ntmps14;go_wp2_with fail
 refine HU.o.mono ?_;rintro e w1 (⟨k,h0,H,rfl,J⟩ |⟨r,Q,K,rfl,hQ,O⟩)
 ·have q:=Hd (bB H (A.o.ext.trans J))
  have a2:(k != 0)=true:=by simpa using h0
  have a4:(k == 0)=false:=by simpa using h0
  clear J H h0;go_wp2_with fail
  go_ret2
  exact⟨_,_,rfl,q.o.1,q.o.2⟩
 ·have X:=Hd K
  have HL:=Hd (jv6 (S:=S) hQ);have Z:=Hd O.rd;have q:=Hd O.ext
  obtain⟨L,hL⟩:=vE (newX S Q)
  rw[<-hL]at Z HL O
  obtain⟨a3,c3,e3⟩:=O.sl
  subst e3;have hb:=A.o.bds;clear O hL hQ K;go_wp2_with fail
  refine (jkv w1 (E.o.1.ext q.o) (E.o.2.ext q.o) s bm 100 S (A.o.st.ext q.o) _ L Z.o (jhY HL.o.2) (by have:=HL.o.1;omega) vI vI hb.1 hb.2.1 hb.2.2).mono ?_;rintro e w2 (⟨k,hk,rfl,J⟩ |⟨top,G,M,_,hY⟩)
  ·have HE:=Hd ((A.o.ext.trans q.o).trans J)
   clear J hb;go_wp2_with fail
   go_ret2
   exact⟨_,_,rfl,fun h=>absurd h X.o,HE.o⟩
  ·have a1:=hY.res
   have HE:=Hd ((A.o.ext.trans q.o).trans' hY.kp (fun z hz e=>by have:=A.o.free e;omega));subst a1;clear hY hb;go_wp2_with fail
   go_ret2
   exact⟨_,_,rfl,fun h=>absurd h X.o,HE.o⟩
theorem AnT.none{w W W':vW}{s bm:Nat}(h:jax W' s bm (max 100 0) [])(e:Ext w W')(hb:W.heap.size<=bm)(hw:w.heap.size<=W.heap.size):AnT w s bm [] W':=
 ⟨h,fun x o=>(by cases o),e,bH hw hb,fun x o=>(by cases o),Cnt.none,bY _,fun x o=>(by cases o),fun x o=>(by cases o)⟩
def AnR(w3:vW)(l:vM)(iv:vV)(wr:vW):Prop:=∃ i:Nat,i<=l.length/\iv=.int .i64 i/\wr=w3/\∀ t∈l.take i,t.size<=700
theorem UpdP.bad{w w':vW}{S:vT}{l:vL}{cs:List Chg}{x:Int}(h:ja8 l cs=x)(h0:x≠0)(he:Ext w w'):UpdP w S l cs (.returned (.tuple #[.slice none 0 0,.int .i64 x])) w':=by
 unfold UpdP;rw[h,if_neg h0];exact⟨rfl,he⟩
theorem jzj(w:vW)(hc:jbN w)(he:ErrT w)(s bm:Nat)(room:Int)(S:vT)(hs:jax w s bm room S)(hN:jdn S)(l:vL)(h:HasM S l)(u:vV)(cs:List Chg)(hu:RdC w u cs)(hnc:cs.length<=9223372036854775807)(hsc:∀ c∈cs,c.key.size<=9223372036854775807/\c.value.size<=9223372036854775807) :
  vQ 12 #[.pointer (some ⟨s,0,none⟩),.string (rootM l),u] w (UpdP w S l cs):=by
 have HR:=Hd (jtv w s bm room S hs hN l h);have HK:=Hd h.ok;have g2:=Hd (bB hc he);have k9:=Hd hs;have c4:=jaE h.ok;have g3:=Hd (show (l.length<=9223372036854775807)/\∀ p∈l,p.1.size<=9223372036854775807/\p.2.size<=9223372036854775807 from⟨by have:=c4.len;omega,fun p hp=>by have:=c4.size p hp;omega⟩);have f2:=Hd (fun(w2:vW) (v:vV) (hv:RdP w2 v l) (e:Ext w w2)=>jky w2 v u l cs hv (hu.ext e) g3.o.1 hnc g3.o.2 hsc)
 obtain⟨a,c,m3⟩:=hu.sl
 subst m3
 obtain⟨P,hP⟩:=vE (ja2 13 (jaO l))
 have HP:=Hd hP;have o3:=jdp P;have g4:=Hd (fun(w3:vW) (v:vV) (hv:RdP w3 v l) (e:Ext w w3)=>jlw w3 v l (hc.ext e) hv h.ok);have l0:Hid (shaB (jay l).text=rootM l):=rfl;rw[l0.o]at g4;clear hs hN h hP hc he c4 hu hsc l0
 obtain⟨rt,l1⟩:=vE (rootM l)
 rw[<-l1]at HR g4 ⊢;clear l1;go_enter Tryz.func12,Tryz.ntmps12;go_wp2_with fail
 refine HR.o.mono ?_;rintro e w1 ⟨T,x,rfl,hM⟩;have HM:=Hd hM;have c5:=hM.pa.at'.meth;rw[<-HP.o]at c5;have m4:∀ w,(Go.method (403+1) T x "guilloche/trie.entries").run Tryz.prog w=.ok (jff P,x) w:=c5.ent;have HC:=Hd (jxt w1 w1 l HK.o T x _ hM.pa (ExtR w1));rw[<-HP.o]at HC;clear hM c5;go_wp2_with fail
 refine HC.o.mono ?_;rintro e w2 ⟨v,rfl,h1⟩;have H1:=Hd h1;have i1:=Hd (HM.o.ext.trans h1.ext);have d4:=Hd (bB (HM.o.pa.ext h1.ext) h1.ext.size);rw[<-HP.o]at d4;have HA:=Hd (f2.o w2 v h1.rd i1.o)
 obtain⟨a1,c1,hv⟩:=h1.sl
 subst hv;clear h1 m4 f2 HC;go_wp2_with fail
 refine HA.o.mono ?_;rintro e w3 d9;unfold jea at d9
 by_cases h0:ja8 l cs=0
 case neg =>
  rw[if_neg h0]at d9
  obtain⟨rfl,hE⟩:=d9
  have HX:=Hd (i1.o.trans hE)
  obtain⟨x0,i2⟩:=vE (ja8 l cs)
  have m5:=Hd i2.symm;rw[<-i2]at h0 ⊢;clear hE i2;go_wp2_with fail
  go_ret2;exact UpdP.bad m5.o h0 HX.o
 rw[if_pos h0]at d9
 obtain⟨r,rfl,h3⟩:=d9
 have m6:=Hd h0;have g5:=jcP h0
 obtain⟨m,hm⟩:=vE (jc8 (jdC l cs))
 rw[<-hm]at h3 g5;have m7:=Hd hm;have b6:=Hd g5;have c4:=jaE g5;have f3:=Hd (show (m.length<=9223372036854775807)/\∀ p∈m,p.1.size<=9223372036854775807/\p.2.size<=9223372036854775807 from⟨by have:=c4.len;omega,fun p hp=>by have:=c4.size p hp;omega⟩);have l2:=Hd (i1.o.trans h3.ext);have f4:=Hd (bB (d4.o.1.ext h3.ext) (bH d4.o.2 h3.ext.size));have HV:=Hd (bB (ERow.rd (H1.o.mono h3.ext)) h3.rd)
 obtain⟨a2,c2,hr⟩:=h3.sl
 subst hr;have l3:=Hd (g4.o w3 _ HV.o.1 l2.o);clear h3 c4 g5 hm h0 HA H1 g4;go_wp2_with fail
 refine l3.o.mono ?_;rintro e w4 ⟨rfl,hE⟩;have m8:=Hd (l2.o.trans hE);have d5:=Hd (bB (f4.o.1.ext hE) (bH f4.o.2 hE.size));have l4:=Hd (jmj w4 _ _ l m (HV.o.1.ext hE) (HV.o.2.ext hE) g3.o.1 f3.o.1 g3.o.2 f3.o.2);clear hE l3;go_wp2_with fail
 refine l4.o.mono ?_;rintro e w5 ⟨dv,rfl,hd⟩;have HD:=Hd hd;have m9:=Hd (m8.o.trans hd.ext);have k2:=Hd (bB (d5.o.1.ext hd.ext) (bH d5.o.2 hd.ext.size));have i3:=jjQ HK.o b6.o;have n0:=jjP (jaE HK.o).len (jaE b6.o).len
 obtain⟨ds,i4⟩:=vE (jdz l m)
 rw[<-i4]at HD i3 n0;have i5:=Hd i3
 obtain⟨a3,c3,l5⟩:=hd.sl
 rw[<-i4]at l5;subst l5;clear hd i3 i4 l4;have f5:=Hd (jAM HK.o);rw[<-HP.o]at f5;have k3:=Hd HD.o.rdT;go_wp2_with fail
 go_loopw [8,56] (fun pv iv wr=>jw6 w5 (jha w w1) P ds pv iv wr) (fun _ iv _=>ds.length - (intOf iv).toNat)
 case atStart=>exact⟨0,T,x,jha w w1,by omega,rfl,rfl,k2.o.1,fun z hz=>.inl hz,(ExtR w5).mono (fun _ _ e=>e.elim)⟩
 case round =>
  obtain⟨k,Tk,xk,D,hk,rfl,rfl,c6,hD,c8⟩:=hrel
  by_cases hlt:k < ds.length
  ·rcases k3.o with⟨_,_,_,hz⟩ |⟨b,o,cd,hh,hb,hcd,hcell⟩
   ·rw[hz]at hlt;cases hlt
   cases hh
   obtain⟨p,hp⟩:∃ p,ds[k]?=some p:=⟨_,bA hlt⟩
   obtain⟨q1,q2,q3⟩:=hcell k p hp
   have g6:¬ jha w w1 b:=fun e=>by have h1:=HD.o.new b rfl;have h2:=d5.o.2;have h3:=e.2;omega
   have q1:=jaF q1 c8 g6;have q2:=jaF q2 c8 g6;have q3:=jaF q3 c8 g6;have K:p.bad=false:=by
    cases e:p.bad with
    | false=>rfl
    | true=>exact absurd (jrU hp e) (by rw[i5.o.fine];simp)
   have i6:=jia K;have b1:(k:Int) < (ds.length:Int):=vO
   have b2:=jvC f5.o ds i5.o.fine k;have a8:(ds.take (k+1)).foldl jbp P=jbp ((ds.take k).foldl jbp P) p:=by rw[jhG hp,fM];rfl
   obtain⟨Q,hQ⟩:=vE ((ds.take k).foldl jbp P)
   rw[<-hQ]at c6 b2 a8;have d8:=Hd (bB b2 (b2.step K));have c0:=Hd a8;have c5:=c6.at'.meth;have J:=Hd (bB c6 (bB hD c8))
   obtain⟨ky,vl,gn⟩:=p
   simp only at q1 q2 q3 i6;clear hcell hp hb hcd g6 K b2 a8 c6 hD c8 hQ;have o4:=jex Q;have o5:=jgC Q;have o6:∀ w,(Go.method (403+1) Tk xk "guilloche/trie.drop").run Tryz.prog w=.ok (jfc Q,xk) w:=c5.drop;have o7:∀ w,(Go.method (403+1) Tk xk "guilloche/trie.put").run Tryz.prog w=.ok (jjw Q,xk) w:=c5.put;clear c5;go_wp2_with fail
   have o8:=Hd i6;clear q1 q2 q3;refine vC (jft _ ky vO) fun w6 c9=>?_;have i7:=(Blk.new wr (.cells #[.string ky,.string vl,.bool gn] 50)).keeps c9 (fun e=>e);have f6:=((ExtR wr).alloc (.cells #[.string ky,.string vl,.bool gn] 50)).trans c9;have q1:w6.cell? ⟨wr.heap.size,1,none⟩=some (.string vl):=i7.cell (i:=1) vF;have q2:w6.cell? ⟨wr.heap.size,2,none⟩=some (.bool gn):=i7.cell (i:=2) vF;have b8:=Hd f6;have l6:(jaM ky).size<=900000:=by have:=jcJ ky;omega
   have l7:=Hd l6;clear c9 i7 f6 i6 l6;cases gn with
   | true =>
    have O:=Hd (jgO Q d8.o.1.va w6 Tk xk D (jaM ky) (J.o.1.ext b8.o) l7.o (jbL ky) d8.o.1.dp9)
    obtain⟨pb,K⟩:=vE (jaM ky)
    have e0:=Hd K;rw[<-K]at O ⊢;clear K;go_wp2_with fail
    refine O.o.mono ?_;rintro e H ⟨v7,rfl,d0,d1⟩;have a0:(ds.take (k+1)).foldl jbp P=jbn Q pb:=by rw[c0.o,e0.o];rfl
    have d2:=d8.o.2.there;rw[show jbp Q ⟨ky,vl,true⟩=jbn Q pb by rw[e0.o];rfl]at d2
    obtain⟨T7,x7,rfl⟩:=d0.form d2
    have HF:=Hd (show PaO ((ds.take (k+1)).foldl jbp P) (.iface T7 x7) (Grow D w6 H) H from by rw[a0];exact PaTo.own d0 d1 (J.o.1.ext b8.o).lt);have i8:=Hd d1;clear d0 d1 a0 d2;go_wp2_with fail
    go_roundw
    case rel=>exact⟨k+1,T7,x7,_,by omega,by go_num,rfl,HF.o,fun z hz=>by
     rcases hz with hz | hz
     ·exact J.o.2.1 z hz
     ·exact .inr (bH J.o.2.2.size (bH b8.o.size hz.1)),J.o.2.2.trans' ((b8.o.mono (fun _ _ e=>e.elim)).trans i8.o) (fun z hz e=>(J.o.2.1 z e).resolve_right vO)⟩
    case measure=>exact vJ
   | false =>
    have O:=Hd (jlh Q d8.o.1.va w6 Tk xk D (jaM ky) vl (J.o.1.ext b8.o) l7.o (jbL ky) d8.o.1.dp9)
    obtain⟨pb,K⟩:=vE (jaM ky)
    have e0:=Hd K;rw[<-K]at O ⊢;clear K;go_wp2_with fail
    refine O.o.mono ?_;rintro e H ⟨v7,rfl,d0,d1⟩;have a0:(ds.take (k+1)).foldl jbp P=putP Q pb vl:=by rw[c0.o,e0.o];rfl
    have d2:=d8.o.2.there;rw[show jbp Q ⟨ky,vl,false⟩=putP Q pb vl by rw[e0.o];rfl]at d2
    obtain⟨T7,x7,rfl⟩:=d0.form d2
    have HF:=Hd (show PaO ((ds.take (k+1)).foldl jbp P) (.iface T7 x7) (Grow D w6 H) H from by rw[a0];exact PaTo.own d0 d1 (J.o.1.ext b8.o).lt);have i8:=Hd d1;clear d0 d1 a0 d2;go_wp2_with fail
    go_roundw
    case rel=>exact⟨k+1,T7,x7,_,by omega,by go_num,rfl,HF.o,fun z hz=>by
     rcases hz with hz | hz
     ·exact J.o.2.1 z hz
     ·exact .inr (bH J.o.2.2.size (bH b8.o.size hz.1)),J.o.2.2.trans' ((b8.o.mono (fun _ _ e=>e.elim)).trans i8.o) (fun z hz e=>(J.o.2.1 z e).resolve_right vO)⟩
    case measure=>exact vJ
  ·obtain rfl:k=ds.length:=vO
   rw[cF,HP.o,jvB HK.o b6.o i5.o]at c6;have i9:Hid (Ext w wr):=(m9.o.trans' c8 (fun z hz e=>by have:=e.1;omega))
   obtain⟨W6,g7⟩:=vE (wr.alloc (.cells #[.slice none 0 0] 80))
   have c9:Ext wr W6:=by rw[g7];exact (ExtR wr).alloc _
   have j0:WrAt wr.heap.size wr.heap.size (.slice none 0 0) [] W6:=⟨bL _,by rw[g7];exact Blk.new wr _,fL _ _ _ _,fun b hb=>(by cases hb),fun _=>rfl⟩;have k4:cntP (ja2 13 (jaO m))=cntT 12 (jaO m):=jkH 12 _ (jbt (jaE b6.o));have b3:=jtN 12 (jaO m) (jbt (jaE b6.o)) wr W6 Tk xk D wr.heap.size (.slice none 0 0) [] (g2.o.1.ext i9.o) (g2.o.2.ext i9.o) c6 c9 j0 (by have:=jkG (jaE b6.o);have:([]:vM).length=0:=rfl;show 0+cntP (ja2 13 (jaO m))<=100000;omega);rw[cM,show textP (ja2 (12+1) (jaO m))=(jay m).text from jzd b6.o,show underP (ja2 (12+1) (jaO m))=belowM m from rfl]at b3;have g8:=Hd (jlZ b6.o);have f7:=Hd (show newM S (ja0 l cs)=(jay m).text :: freshU S (belowM m)from by unfold newM ja0;rw[<-m7.o])
   obtain⟨t,ht⟩:=vE (jay m).text
   obtain⟨U,hU⟩:=vE (belowM m)
   rw[<-ht, <-hU]at f7;rw[<-hU]at g8;rw[<-ht, <-hU]at b3;have k5:=Hd b3;have j1:=Hd (bB j0 (bB c9 g7));clear c6 hD c8 c9 j0 k4 b3 ht hU g7;go_wp2_with fail
   rw[<-j1.o.2.2];refine k5.o.mono ?_;rintro e H ⟨rfl,v7,g9⟩;have b0:=Hd (bB g9.at' (bB (i9.o.trans (g9.ext0 j1.o.1 j1.o.2.1 (bL _))) g9.at'.var.lt))
   obtain⟨g,hg⟩:=vE wr.heap.size
   rw[<-hg]at b0 ⊢;clear g9 hg
   obtain⟨a7,c7,l8⟩:=jaL b0.o.1.row
   obtain⟨n7,j2⟩:∃ n,n=U.length:=⟨_,rfl⟩
   have a9:=Hd b0.o.1.row;rw[<-j2]at l8 a9;subst l8;have j3:=Hd j2;have q7:=b0.o.1.var.cell (i:=0) (v:=.slice a7 n7 c7) vF;clear j2;have n1:(Instr.makeMap 82 none).run Tryz.prog (H.alloc (.cells #[.string t] 9))=.ok (.map (some (H.heap.size+1))) ((H.alloc (.cells #[.string t] 9)).alloc (.map #[] 0)):=by
    rw[<-bK H (.cells #[.string t] 9)];exact Tryz.makeMapSI _
   obtain⟨W8,e2⟩:=vE ((H.alloc (.cells #[.string t] 9)).alloc (.map #[] 0))
   obtain⟨mb,j4⟩:=vE (H.heap.size+1)
   rw[<-e2, <-j4]at n1;have l9:Ext H W8:=by rw[e2];exact ((ExtR H).alloc _).alloc _
   have m0:Blk W8 mb (.map (Tryz.ES.arr []) 0):=by
    rw[e2,j4, <-bK H (.cells #[.string t] 9)];exact Blk.new _ _
   have h4:SRow H (H.alloc (.cells #[.string t] 9)) (.slice (some ⟨H.heap.size,0,none⟩) 1 1) 1 [t]:=ORow.lit (n:=1) #[.string t] (ExtR H) vI rfl;have h4:SRow H W8 (.slice (some ⟨H.heap.size,0,none⟩) 1 1) 1 [t]:=by rw[e2];exact h4.mono ((ExtR _).alloc _)
   have n2:=Hd (show UpB H S mb t U 0 (.slice (some ⟨H.heap.size,0,none⟩) 1 1) W8 from⟨⟨1,h4⟩,fun e=>by injection e with e;have e:H.heap.size=mb:=e;omega,[],0,m0,fun y=>rfl⟩);have q7:=jaa q7 l9;have n3:=Hd (show H.heap.size<=mb by omega);clear e2 j4 l9 m0 h4;go_wp2_with fail
   go_loopw [19,86] (fun rv iv wr=>jw7 H S mb t U rv iv wr) (fun _ iv _=>U.length - (intOf iv).toNat)
   case atStart=>exact⟨0,by omega,rfl,n2.o⟩
   case round =>
    obtain⟨k,hk,rfl,m1⟩:=hrel
    by_cases hlt:k < U.length
    ·rcases Nat.eq_zero_or_pos n7 with h0 | h0
     ·have:=j3.o;omega
     obtain⟨b7,rfl⟩:=jlc a9.o vO
     obtain⟨x,hx⟩:∃ x,U[k]?=some x:=⟨_,bA hlt⟩
     obtain⟨⟨n,q⟩,d6,es,ck,h5,h6⟩:=m1
     obtain⟨ar,cr,j5⟩:=q.sl
     subst j5;have HX:=Hd q.ext;have qx:=jaa (jdf a9.o (j:=k) (u:=.string x) (by rw[cA,hx];rfl)) q.ext
     obtain⟨cn,e4⟩:=vE (cntB (U.take k) x)
     have o9:cn<=1000000:=by
      rw[e4];unfold cntB;refine bH iG ?_;rw[cB,dM];have:=g8.o;omega
     have e6:=h6 x;rw[<-e4]at e6;have j6:(Instr.lookup 82 (.map (some mb)) (.string x) false).run Tryz.prog wr=.ok (.int .i64 (cn:Int)) wr:=by
      have:=jcg Tryz.ES Tryz.uMapSI h5 (Tryz.zeroI wr) x.data.toList false
      rw[e6]at this;unfold cntV at this
      by_cases h0:cn=0
      ·rw[if_pos h0]at this;rw[h0];exact this
      ·rw[if_neg h0]at this;exact this
     obtain⟨a4,b4⟩:∃ es2,es2=jbo es x.data.toList (.int .i64 ((cn:Int)+1)) ck:=⟨_,rfl⟩
     obtain⟨b5,f8⟩:∃ ck2,ck2=(if (jaS es x.data.toList).isSome then ck else ck+1):=⟨_,rfl⟩
     obtain⟨W2,h7⟩:=vE (wr.putObj mb (.map (Tryz.ES.arr a4) b5))
     have j7:(Instr.mapUpdate 82 (.map (some mb)) (.string x) (.int .i64 ((cn:Int)+1))).run Tryz.prog wr=.ok () W2:=by
      have:=jb5 Tryz.ES Tryz.uMapSI h5 x.data.toList (.int .i64 ((cn:Int)+1))
      rw[<-b4, <-f8, <-h7]at this;exact this
     have B2:Blk W2 mb (.map (Tryz.ES.arr a4) b5):=by rw[h7];exact h5.put_same _
     have e7:∀ y:vB,jaS a4 y.data.toList=cntV (cntB (U.take (k+1)) y):=fun y=>by
      rw[b4,jcy,h6 y,jhG hx,jjM]
      by_cases hxy:y.data.toList=x.data.toList
      ·have n4:y=x:=ByteArray.ext (Array.ext' hxy)
       subst n4;rw[if_pos rfl,if_pos rfl, <-e4];unfold cntV;rw[if_neg vO];simp
      ·rw[if_neg hxy,if_neg (fun e=>hxy e.symm)];rfl
     have f9:∀ W3,Ext W2 W3->(Instr.lookup 82 (.map (some mb)) (.string x) false).run Tryz.prog W3=.ok (.int .i64 ((cn:Int)+1)) W3:=fun W3 e3=>by
      have:=jcg Tryz.ES Tryz.uMapSI (B2.keeps e3 (fun e=>e)) (Tryz.zeroI W3) x.data.toList false
      rw[b4,jcy,if_pos rfl]at this;exact this
     have K2:jag (fun z=>z=mb) wr W2:=by rw[h7];exact jag.onePut _ _ _
     have O2:SRow H W2 (.slice ar n cr) n (t :: freshU S (U.take k)):=q.keeps K2 (fun b hb e=>d6 (by rw[hb];exact congrArg some e)) (fun b hb e=>by have e:b=mb:=e;have:=n3.o;omega);have g0:=Hd (show n<=119 by
      have h1:=q.len;rw[cB,bO]at h1;have h2:=jgF S (U.take k);rw[dM]at h2
      have:=g8.o;omega)
     have g1:=Hd (show memB (ja7 (U.take k)) x=true↔cn≠0 from by
      rw[jeZ,jaQ,e4];unfold cntB;rw[<-jA,gG,bI]
      exact⟨fun hm=>⟨x,hm,rfl⟩,fun ⟨y,hy,e⟩=>by rw[<-show y=x from ByteArray.ext (Array.ext' e)];exact hy⟩)
     have h8:=Hd (jjZ S (U.take k) x);rw[<-jhG hx]at h8;have d7:=Hd (show ∀ W3,Ext W2 W3->∃ es ck,Blk W3 mb (.map (Tryz.ES.arr es) ck)/\∀ y:vB,jaS es y.data.toList=cntV (cntB (U.take (k+1)) y)from fun W3 e3=>⟨a4,b5,B2.keeps e3 (fun e=>e),e7⟩);have j8:=Hd (bB B2 e7);have j9:=Hd f9;have b9:=Hd O2;have a5:=Hd d6;have b1:(k:Int) < (n7:Int):=by have:=j3.o;omega
     have h9:=Hd (bB hk hlt);have p0:=g8.o;clear q d6 h5 h6 hx e4 e6 b4 f8 h7 B2 e7 f9 K2 O2 h0
     by_cases hc0:cn=0
     ·subst hc0
      have i0:=Hd (show memB (ja7 (U.take k)) x=false by
       cases hm:memB (ja7 (U.take k)) x with
       | false=>rfl
       | true=>exact absurd rfl (g1.o.1 hm))
      have o1:(Instr.lookup 82 (.map (some mb)) (.string x) false).run Tryz.prog wr=.ok (.int .i64 0) wr:=j6;have o2:(Instr.mapUpdate 82 (.map (some mb)) (.string x) (.int .i64 1)).run Tryz.prog wr=.ok () W2:=j7;have k6:Hid (∀ W3,Ext W2 W3->(Instr.lookup 82 (.map (some mb)) (.string x) false).run Tryz.prog W3=.ok (.int .i64 1) W3):=j9.o;clear j6 j7 j9;go_wp2_with fail
      refine vC (of_t _ _ [x] (by simp) (jbK W2 [x] 9) (g2.o.1.ext (b0.o.2.1.trans (b9.o.ext.alloc _)))) fun w8 X=>?_;rw[jc1];have X:=((ExtR W2).alloc (.cells #[.string x] 9)).trans X;have e5:=Hd X;have A:=Hd (jdF w8 s bm room S (shaB x) (k9.o.ext (b0.o.2.1.trans (b9.o.ext.trans X))));have k0:Hid (lackB S x=(atL S (shaB x).data.toList).isNone):=rfl
      obtain⟨ag,e8⟩:=vE (atL S (shaB x).data.toList)
      rw[<-e8]at A k0
      obtain⟨sx,e9⟩:=vE (shaB x)
      rw[<-e9]at A ⊢;clear X e8 e9 qx;cases ag with
      | some y =>
       obtain⟨ty,f0⟩:=vE y.2.2.text
       have d3:=Hd (show vQ 13 #[.pointer (some ⟨s,0,none⟩),.string sx] w8 (fun e w'=>e=.returned (.tuple #[.string y.2.2.text,.bool true])/\Ext w8 w')from A.o);go_wp2_with fail
       refine d3.o.mono ?_;rintro e w9 ⟨rfl,Z⟩;have E:=Hd (e5.o.trans Z);clear Z;rw[<-f0];clear f0;have f1:freshU S (U.take (k+1))=freshU S (U.take k):=by rw[h8.o];rw[if_neg (by rw[i0.o];simp),if_neg (by rw[k0.o];simp),bU]
       have HF:=Hd f1;clear f1;go_wp2_with fail
       go_roundw
       case rel=>exact⟨k+1,by have:=h9.o;omega,by go_num,⟨n,by rw[HF.o];exact b9.o.mono E.o⟩,a5.o,d7.o w9 E.o⟩
       case measure=>exact vJ
      | none =>
       have d3:=Hd (show vQ 13 #[.pointer (some ⟨s,0,none⟩),.string sx] w8 (fun e w'=>e=.returned (.tuple #[.string ⟨#[]⟩,.bool false])/\Ext w8 w')from A.o);go_wp2_with fail
       refine d3.o.mono ?_;rintro e w9 ⟨rfl,Z⟩;have E:=Hd (e5.o.trans Z);clear Z;have k7:=k6.o w9 E.o;have n5:n+1<=maxLen:=by have:=g0.o;unfold maxLen;omega
       have n6:(n+1) * 16<=140737488355328:=by have:=g0.o;omega
       go_wp2_with (at_builtin;refine jba Tryz.sStrs ((b9.o.mono E.o).mono ((ExtR w9).alloc _)) (.tmp 110) (.tmp 112) rfl rfl rfl (ja3 (Blk.new w9 _)) (news:=[.string x]) (by intro u hu;simp at hu;rcases hu with rfl;rfl) rfl rfl n5 n6 ?_;intro v' w' r1 r2 r3)
       have k1:SRow H w' v' (n+1) (t :: freshU S (U.take (k+1))):=by
        have e1:freshU S (U.take (k+1))=freshU S (U.take k)++[x]:=by rw[h8.o,if_neg (by rw[i0.o];simp),if_pos (by rw[k0.o];rfl)]
        unfold SRow;rw[e1, <-cQ,bZ];exact r1
       obtain⟨n8,n9,rfl⟩:=k1.sl
       have k8:=(j8.o.1.keeps E.o (fun e=>e)).lt;have m2:=Hd (bB k1 (show (Value.slice n8 (n+1) n9).ownBlock≠some mb from fun e=>by
        rcases r3 with r3 | r3
        ·exact a5.o (r3 ▸ e)
        ·have:=r3 mb e;rw[bK]at this;omega))
       have o0:=Hd (((j8.o.1.keeps E.o (fun e=>e)).alloc (.cells #[.string x] 9)).keeps r2 (fun e=>a5.o e));clear r1 r2 r3 k1 k8;go_wp2_with fail
       go_roundw
       case rel=>exact⟨k+1,by have:=h9.o;omega,by go_num,⟨n+1,m2.o.1⟩,m2.o.2,a4,b5,o0.o,j8.o.2⟩
       case measure=>exact vJ
     ·have p1:¬((cn:Int)+1=1):=vO
      have p2:(((cn:Int)+1) == 1)=false:=by simp;omega
      have i0:=Hd (g1.o.2 hc0);go_wp2_with fail
      refine vC (of_t _ _ [x] (by simp) (jbK W2 [x] 9) (g2.o.1.ext (b0.o.2.1.trans (b9.o.ext.alloc _)))) fun w8 X=>?_;rw[jc1];have X:=((ExtR W2).alloc (.cells #[.string x] 9)).trans X;have e5:=Hd X;have A:=Hd (jdF w8 s bm room S (shaB x) (k9.o.ext (b0.o.2.1.trans (b9.o.ext.trans X))))
      obtain⟨ag,e8⟩:=vE (atL S (shaB x).data.toList)
      rw[<-e8]at A
      obtain⟨sx,e9⟩:=vE (shaB x)
      rw[<-e9]at A ⊢;clear X e8 e9 qx j6 j7;have f1:freshU S (U.take (k+1))=freshU S (U.take k):=by rw[h8.o,if_pos i0.o,bU]
      have HF:=Hd f1;clear f1;cases ag with
      | some y =>
       obtain⟨ty,f0⟩:=vE y.2.2.text
       have d3:=Hd (show vQ 13 #[.pointer (some ⟨s,0,none⟩),.string sx] w8 (fun e w'=>e=.returned (.tuple #[.string y.2.2.text,.bool true])/\Ext w8 w')from A.o);go_wp2_with fail
       refine d3.o.mono ?_;rintro e w9 ⟨rfl,Z⟩;have E:=Hd (e5.o.trans Z);clear Z;rw[<-f0];clear f0;go_wp2_with fail
       go_roundw
       case rel=>exact⟨k+1,by have:=h9.o;omega,by go_num,⟨n,by rw[HF.o];exact b9.o.mono E.o⟩,a5.o,d7.o w9 E.o⟩
       case measure=>exact vJ
      | none =>
       have d3:=Hd (show vQ 13 #[.pointer (some ⟨s,0,none⟩),.string sx] w8 (fun e w'=>e=.returned (.tuple #[.string ⟨#[]⟩,.bool false])/\Ext w8 w')from A.o);go_wp2_with fail
       refine d3.o.mono ?_;rintro e w9 ⟨rfl,Z⟩;have E:=Hd (e5.o.trans Z);clear Z;have k7:=j9.o w9 E.o;go_wp2_with fail
       go_roundw
       case rel=>exact⟨k+1,by have:=h9.o;omega,by go_num,⟨n,by rw[HF.o];exact b9.o.mono E.o⟩,a5.o,d7.o w9 E.o⟩
       case measure=>exact vJ
    ·obtain rfl:k=U.length:=vO
     obtain⟨⟨n,q⟩, -, -⟩:=m1
     obtain⟨ar,cr,j5⟩:=q.sl
     subst j5;rw[cF]at q;have a6:=Hd q;have p3:¬((U.length:Int) < (n7:Int)):=by have:=j3.o;omega
     clear q;go_wp2_with fail
     go_ret2;unfold UpdP;rw[if_pos m6.o,f7.o];have hn:(t :: freshU S U).length=n:=by have:=a6.o.len;simpa using this
     rw[hn]
     exact⟨_,rfl,a6.o.sl,a6.o.own,b0.o.2.1.trans a6.o.ext,fun b hb=>bH b0.o.2.1.size (a6.o.new b hb)⟩
def ComP(w:vW)(s bm:Nat)(room:Int)(S:vT)(l:vL)(cs:List Chg)(e:Ending)(w':vW):Prop:=
 (ja8 l cs≠0/\e=.returned (.tuple #[.string ⟨#[]⟩,.int .i64 (ja8 l cs)])/\Ext w w')\/(ja8 l cs=0/\∃ w1,Ext w w1/\joJ False w1 s bm room S (newM S (ja0 l cs)) e w')
theorem ComP.bad{w w':vW}{s bm:Nat}{room:Int}{S:vT}{l:vL}{cs:List Chg}{x:Int}(h:ja8 l cs=x)(h0:x≠0)(hE:Ext w w'):ComP w s bm room S l cs (.returned (.tuple #[.string ⟨#[]⟩,.int .i64 x])) w':=by
 subst h;exact .inl ⟨h0,rfl,hE⟩
theorem ComP.go{w w1 w':vW}{s bm:Nat}{room:Int}{S:vT}{l:vL}{cs:List Chg}{L:vM}{e:Ending}(h:ja8 l cs=0)(hL:L=newM S (ja0 l cs))(hE:Ext w w1)(hA:joJ False w1 s bm room S L e w'):ComP w s bm room S l cs e w':=by
 subst hL;exact .inr ⟨h,w1,hE,hA⟩
theorem jtw{S:vT}{m:vL}(h:jaD m=0):(newM S m).length<=119:=by
 unfold newM;rw[bO];have e:=jgF S (belowM m);have o:=jlZ h;omega
theorem jtx{S:vT}{m:vL}(h:jaD m=0){t:vB}(ht:t∈newM S m):t∈jau (jay m):=by
 unfold newM at ht;have e:jau (jay m)=(jay m).text :: belowM m:=by rw[jgv h];show jau (.mk _ _)=_;rw[jau];rfl
 rw[e];rcases bM.1 ht with rfl | ht
 ·exact bD
 ·unfold freshU at ht
  exact bC _ ((jaQ _ _).1 (cN.1 ht).1)
theorem jty{S:vT}{m:vL}(h:jaD m=0):∀ t∈newM S m,∃ n,jbc t n:=fun t e=>by
 obtain⟨n,o,_⟩:=(jjg h).node t ((jaQ _ _).2 (jtx h e))
 exact⟨n,o⟩
theorem jkJ(w:vW)(hc:jbN w)(he:ErrT w)(s bm:Nat)(room:Int)(S:vT)(hs:jax w s bm room S)(hN:jdn S)(l:vL)(h:HasM S l)(u:vV)(cs:List Chg)(hu:RdC w u cs)(hnc:cs.length<=9223372036854775807)(hsc:∀ c∈cs,c.key.size<=9223372036854775807/\c.value.size<=9223372036854775807)(hr0:0<=room)(hr1:room<=9223372036854775807)(hS:S.length<=100000)(hSu:∀ x∈S,0<=x.2.2.used/\x.2.2.used<=1000000000)(hSh:∀ x∈S,0<=x.2.2.held/\x.2.2.held<=1000000000) :
  vQ 14 #[.pointer (some ⟨s,0,none⟩),.string (rootM l),u] w (ComP w s bm room S l cs):=by
 have HU:=Hd (jzj w hc he s bm room S hs hN l h u cs hu hnc hsc);have K:=Hd (bB hc he);have a2:=Hd hs;have HB:=Hd (bB hS (bB hSu hSh));have HR:=Hd (bB hr0 hr1)
 obtain⟨a,c,a4⟩:=hu.sl
 subst a4
 obtain⟨rt,O⟩:=vE (rootM l)
 rw[<-O]at HU ⊢;clear O hs hN h hc he hu hnc hsc hS hSu hSh hr0 hr1;go_enter Tryz.func14,Tryz.ntmps14;go_wp2_with fail
 refine HU.o.mono ?_;rintro e w1 Q;unfold UpdP at Q
 by_cases h0:ja8 l cs=0
 case neg =>
  rw[if_neg h0]at Q
  obtain⟨rfl,hE⟩:=Q
  have E:=Hd hE
  obtain⟨x0,H⟩:=vE (ja8 l cs)
  have a5:=Hd H.symm;rw[<-H]at h0 ⊢;have H0:=Hd h0;have a8:(x0 != 0)=true:=by simpa using h0
  have a9:(x0 == 0)=false:=by simpa using h0
  clear hE H h0;go_wp2_with fail
  go_ret2;exact ComP.bad a5.o H0.o E.o
 rw[if_pos h0]at Q
 obtain⟨r,rfl,X⟩:=Q
 have H0:=Hd h0;have q:=jcP h0;have q:jaD (ja0 l cs)=0:=q;have J:=jtw (S:=S) q;have Z:=Hd X.rd;have E:=Hd X.ext;have a0:=Hd (jhd (jty (S:=S) q));have z:Hid ((newM S (ja0 l cs))[0]?=some (jay (ja0 l cs)).text):=rfl
 obtain⟨L,hL⟩:=vE (newM S (ja0 l cs))
 rw[<-hL]at Z a0 z J X;have a1:=Hd hL;have a6:=Hd J
 obtain⟨a3,c3,e3⟩:=X.sl
 subst e3
 obtain⟨top,A⟩:=vE (jay (ja0 l cs)).text
 rw[<-A]at z;clear X hL h0 q J A;go_wp2_with fail
 refine (jkw w1 (K.o.1.ext E.o) (K.o.2.ext E.o) s bm room S (a2.o.ext E.o) _ L Z.o False a0.o (by have:=a6.o;omega) top z.o HR.o.1 HR.o.2 HB.o.1 HB.o.2.1 HB.o.2.2).mono ?_;intro e w2 hA;have HA:=Hd hA;rcases hA with⟨k,_,_,rfl,_⟩ |⟨_,_,_,_,hY⟩
 ·go_wp2_with fail
  go_ret2;exact ComP.go H0.o a1.o E.o HA.o
 ·have a7:=hY.res
  subst a7;clear hY;go_wp2_with fail
  go_ret2;exact ComP.go H0.o a1.o E.o HA.o
end
section
open Go Go.RowKit
theorem jqR{m:vL}(h:jaD m=0):jau (jay m)=(jay m).text :: belowM m:=by
 rw[jgv h];show jau (.mk _ _)=_;rw[jau];rfl
theorem jwm(S:vT){m:vL}(h:jaD m=0):Part S m (newM S m):=
 ⟨h,rfl,fun t e=>(jaQ _ _).2 (jtx h e),fun t e=>by
  have e:=(jaQ (jau (jay m)) t).1 e;rw[jqR h]at e;unfold newM;rcases bM.1 e with rfl | e
  ·exact .inl bD
  ·cases hl:lackB S t with
   | true=>exact .inl (bC _ (cN.2 ⟨(jaQ _ _).2 e,hl⟩))
   | false =>
    refine .inr (jeX.1 ?_);unfold lackB at hl;unfold ky;cases ha:atL S (shaB t).data.toList with
    | none=>rw[ha]at hl;cases hl
    | some x=>rfl⟩
theorem AddK.ahead{w w1:vW}{U:vM}{S:vT}{m:vL}{L:vM}{S':vT}(h:AddK w1 U S m L S')(hw:w.heap.size<=w1.heap.size):AddK w U S m L S':=
 ⟨h.kp,h.key,h.held,h.sum,h.len,fun x o=>(h.blk x o).imp id (fun e=>bH hw e),h.bd⟩
structure ComY(w:World)(s bm:Nat)(room:Int)(U:vM)(S:vT)(m:vL)(L:vM)(e:Ending)(w':World)(S':vT):Prop where
 res:e=.returned (.tuple #[.string (rootM m),.int .i64 0])
 st:jax w' s bm room S'
 add:AddK w U S m L S'
 kp:jag (fun z=>z=bm\/z∈S.map (·.2.1)) w w'
 fits:(S'.length:Int)<=room\/room < S.length
def ComF(w:vW)(room:Int)(S:vT)(L:vM)(e:Ending)(w':vW):Prop:=e=.returned (.tuple #[.string ⟨#[]⟩,.int .i64 3])/\Ext w w'/\room < (S.length:Int)+(L.length:Int)
theorem joL(w0 w:vW){U:vM}(hU:InjL U){S:vT}(hK:Kp U S){m:vL}{L:vM}(hp:Part S m L)(hs:∀ t∈jbr m,t∈U)(hl:L.length<=1000){s bm:Nat}{room:Int}{e:Ending}{w':vW}(hE:Ext w0 w)(h:joJ False w s bm room S L e w') :
  ComF w0 room S L e w'\/∃ S',ComY w0 s bm room U S m L e w' S':=by
 rcases h with⟨k,hwhy,_,rfl,hE2⟩ |⟨top,G,M,htop,hY⟩
 ·obtain⟨rfl,z⟩:=hp.why w hwhy
  exact .inl ⟨rfl,hE.trans hE2,z⟩
 ·have o:top=(jay m).text:=by have:=hp.head;rw[htop]at this;exact bQ this
  subst o;refine .inr ⟨_,hY.res,hY.st,(hp.add w hU hK hs hl hY).ahead hE.size,(hE.mono (fun _ _ e=>e.elim)).trans hY.kp,?_⟩;have A:=hY.fits;have q:=joj (S:=S) (G:=G) (M:=M) (top:=(jay m).text);have q:(jkE (shaB (jay m).text).data.toList (jeR ((frK S M).flatMap (jcp G)) (S++jc9 G (frK S M)))).length<=S.length+(frK S M).length:=q;omega
theorem jBG(w:vW){U:vM}(hU:InjL U){S:vT}(hK:Kp U S){l:vL}{cs:List Chg}(h0:ja8 l cs=0)(hs:∀ t∈jbr (ja0 l cs),t∈U){s bm:Nat}{room:Int}{e:Ending}{w':vW}(h:ComP w s bm room S l cs e w') :
  ComF w room S (newM S (ja0 l cs)) e w'\/∃ S',ComY w s bm room U S (ja0 l cs) (newM S (ja0 l cs)) e w' S':=by
 rcases h with⟨h1,_⟩ |⟨_,w1,hE,h⟩
 ·exact absurd h0 h1
 ·have o:jaD (ja0 l cs)=0:=jcP h0
  exact joL w w1 hU hK (jwm S o) hs (by have:=jtw (S:=S) o;omega) hE h
theorem jkI(w:vW){U:vM}(hU:InjL U){S:vT}(hK:Kp U S){l:vL}{cs:List Chg}(h0:ja8 l cs=0)(hs:∀ t∈jbr (ja0 l cs),t∈U){s bm:Nat}{room:Int}{e:Ending}{w':vW}(h:ComP w s bm room S l cs e w')(hr:(S.length:Int)+((newM S (ja0 l cs)).length:Int)<=room) :
  ∃ S',ComY w s bm room U S (ja0 l cs) (newM S (ja0 l cs)) e w' S':=by
 rcases jBG w hU hK h0 hs h with⟨_,_,h3⟩ | h3
 ·omega
 ·exact h3
theorem AddK.more{w:vW}{U:vM}(hU:InjL U){S:vT}{m:vL}{L:vM}{S':vT}(h:AddK w U S m L S'){l:vL}(hl:∀ t∈jbr l,t∈U)(hM:HasM S l):HasM S' l:=
 h.kp.has w hU hM.ok hl ((h.key _).2 (.inl (by
  obtain⟨x,e,_⟩:=hM.has _ (jbE _)
  exact jeX.1 (by rw[e];rfl))))
theorem AddK.has{w:vW}{U:vM}(hU:InjL U){S:vT}{m:vL}{L:vM}{S':vT}(h:AddK w U S m L S')(hm:jaD m=0)(hl:∀ t∈jbr m,t∈U):HasM S' m:=
 h.kp.has w hU hm hl ((h.key _).2 (.inr ⟨_,bJ (jjg hm).head,rfl⟩))
end
section
open Go Go.RowKit
attribute [local go_sem] Oper.semAt_some
theorem jbP(w:vW)(n:Nat):Ext w (w.drewN n):=(ExtR w).drewN n
def jBh(z g L:Nat)(v:vV)(W:vW)(S:vT)(A:vM)(V:Option vB)(okv pv:vV)(wr:vW):Prop:=
 ∃ (p:vB) (T:vM) (v':vV),pv=.string p/\jdY z g v W wr v' T/\v'.ownBlock≠some L /\
  ((okv=.bool true/\∃ f l,jav f l/\jaC p=true/\p.size<=2000/\T++wayL f l p=A/\valL l p=V/\Blk wr L (.cells (jao (jab f) l).cells.toArray 99)/\(∀ x∈jau (jab (f+1) l),32<=x.size->HasS S x)) \/
  (okv=.bool false/\T=A/\V=none))
def foM:vV->vV->Nat | .bool true,pv=>jgr pv+1 | _,_=>0
def folV:Option vB->vV | some u=>.tuple #[.string u,.int .i64 0] | none=>.tuple #[.string ⟨#[]⟩,.int .i64 9]
def jzA(z g:Nat)(v:vV)(W:vW)(A:vM)(V:Option vB)(e:Ending)(w':vW):Prop:=e=.returned (folV V)/\∃ v',jdY z g v W w' v' A
theorem jsE(w0 W:vW)(s bm:Nat)(room:Int)(S:vT)(hs:jax w0 s bm room S)(hE0:Ext w0 W)(g:Nat)(v:vV)(h:jfd w0.heap.size g v [] W)(l:vL)(hM:HasM S l)(key:vB)(hk:key.size<=1000) :
  vQ 27 #[.pointer (some ⟨s,0,none⟩),.string (shaB (jay l).text),.string key,.func (.func 30) #[] #[.pointer (some ⟨g,0,none⟩)]] W (jzA w0.heap.size g v W ((jay l).text :: wayL 12 (jaO l) (jaM key)) (valL (jaO l) (jaM key))):=by
 have HS:=Hd hs;have g1:=Hd hE0;have HM:=Hd h;have a7:=jbt (jaE hM.ok);have d2:=Hd a7;have a0:=(good 12 (jaO l) a7).1
 obtain⟨n,hn⟩:=vE (jao (jab 12) (jaO l))
 rw[<-hn]at a0;have e2:=jxX w0 W s bm room S hs hE0 g v [] h (by simp) (jay l).text (hM.has _ (jbE _)) 12 n a0 (by rw[hn];rfl);have e3:=Hd e2;have HL:=Hd (n.cells_len (a0.one (inlP 12)).refs);have g2:=Hd hM.has;have HN:=Hd hn;have HK:=Hd hk
 obtain⟨A,hA⟩:=vE ((jay l).text :: wayL 12 (jaO l) (jaM key))
 obtain⟨V,hV⟩:=vE (valL (jaO l) (jaM key))
 have HA:=Hd hA;have HV:=Hd hV;rw[<-hA, <-hV]
 obtain⟨k0,e4⟩:∃ k,k=shaB (jay l).text:=⟨_,rfl⟩
 rw[<-e4]at e3 ⊢;clear hs hE0 h a7 a0 hn e2 hM hk hA hV e4;go_enter Tryz.func27,Tryz.ntmps27;go_wp2_with fail
 refine e3.o.mono ?_;rintro e w1 ⟨rfl,v1,e5⟩;have d3:=Hd e5;clear e5;unfold jad.V;go_wp2_with (first |(refine jah Tryz.allocNode rfl rfl ?_;intro W5 e6 e7;refine jae (vs:=n.cells) rfl rfl rfl rfl e6 (by rw[HL.o];rfl) (by rw[HL.o];exact Tryz.szNode) n.one ?_;intro W6 e8 e9))
 refine vC (jft _ key (by have:=HK.o;omega)) fun w7 E=>?_;have f0:Ext w1 W6:=e7.trans' e9 (fun x hx e=>by have e:x=w1.heap.size:=e;omega);have g3:=Hd ((d3.o.ext f0).ext E);have f1:=Hd (e8.keeps E (fun h=>h));have a2:=Hd (show w1.heap.size≠g/\v1.ownBlock≠some w1.heap.size from⟨by have:=d3.o.at'.var.lt;omega,fun e=>by have:=(d3.o.at'.own _ e).2.2;omega⟩);have a8:Hid (W.heap.size<=w1.heap.size):=d3.o.kp.size
 obtain⟨L,hL⟩:=vE w1.heap.size
 rw[<-hL]at f1 a2 a8 ⊢;clear hL E f0 e6 e7 e8 e9
 obtain⟨pk,d6⟩:=vE (jaM key)
 have d4:=Hd d6;rw[<-d6];clear d6;go_wp2_with fail
 go_loopw [11,12] (fun d7 pv wr=>jBh w0.heap.size g L v W S A V d7 pv wr) (fun d7 pv _=>foM d7 pv)
 case atStart =>
  refine⟨pk,_,v1,rfl,g3.o,a2.o.2,.inl ⟨rfl,12,jaO l,d2.o,by rw[d4.o];exact jbL key,by rw[d4.o,jcJ];have:=HK.o;omega,?_,by rw[d4.o, <-HV.o],by rw[<-HN.o];exact f1.o,fun x hx _=>g2.o x hx⟩⟩
  rw[HA.o,d4.o];rfl
 case round =>
  obtain⟨p,T,v',rfl,hT,d1,hc⟩:=hrel
  have HT:=Hd hT;have K:=Hd d1;have HE:=Hd (HT.o.ext0 HM.o g1.o (bL _));clear hT d1;rcases hc with⟨rfl,f,l',h1,h2,h3,h4,h5,h6,h7⟩ |⟨rfl,h1,h2⟩
  case inr =>
   have HF:=Hd (bB h1 h2);clear h1 h2;go_wp2_with fail
   go_ret2
   refine⟨by rw[HF.o.2];rfl,v',?_⟩
   rw[<-HF.o.1];exact HT.o
  case inl =>
   have X:=Hd (bB h1 (bB h2 (bB h3 (bB h4 (bB h5 h7)))));have c4:=(good f l' h1).1
   obtain⟨⟨k,pa,va,rs⟩,hn⟩:∃ n,n=jao (jab f) l':=⟨_,rfl⟩
   rw[<-hn]at c4 h6;have f2:=Hd c4;have HB:=Hd h6;have f3:=Hd hn;have g6:k<=3:=(c4.one (inlP f)).kind;have d8:rs.length=16:=(c4.one (inlP f)).refs;have g7:pa.size<=12:=(c4.one (inlP f)).path;have g8:=Hd d8;have Z:=Hd (jad.cells_len ⟨k,pa,va,rs⟩ d8);have g9:p.size<=1000000:=vO
   have q0:=h6.cellL (i:=0) (v:=.int .i64 k) vF;have q1:=h6.cellL (i:=1) (v:=.string pa) vF;have q2:=h6.cellL (i:=2) (v:=.string va) vF;have Q3:=Hd (show ∀ i r,rs[i]?=some r->wr.cell? ⟨L,3+i,none⟩=some (.string r)from fun i r hi=>h6.cellL (i:=3+i) (v:=.string r) (by
    show (_ :: _ :: _ :: rs.map Value.string)[3+i]?=_;rw[show 3+i=i+1+1+1 by omega];simp[hi]))
   clear hn d8 h1 h2 h4 h5 h6 h7 c4;have i0:(⟨#[]⟩:vB).toList.isEmpty=true:=by rw[bN];rfl
   cases hg:goL l' p with
   | none =>
    obtain⟨s1,s2⟩:=jiK X.o.1 X.o.2.1 hg
    rw[<-f3.o]at s1 s2;have f4:wayL f l' p=[]:=by
     cases f with
     | zero=>rfl
     | succ f=>exact jqp hg
    have b6:=Hd (show T=A by rw[<-X.o.2.2.2.1,f4,bU]);have b0:=Hd (show V=jc3 ⟨k,pa,va,rs⟩ p by rw[s2,X.o.2.2.2.2.1]);clear f4 hg s2;cases hcl:jc3 ⟨k,pa,va,rs⟩ p with
    | some u =>
     rw[hcl]at b0;have g4:=Hd (joz hcl);clear s1 hcl;rcases g4.o with⟨rfl,rfl,rfl⟩ |⟨rfl,rfl,rfl,hz⟩
     ·have a9:wr.cell? ⟨L,0,none⟩=some (.int .i64 1):=q0
      clear q0;go_wp2_with fail
      go_ret2
      refine⟨by rw[b0.o];rfl,v',by rw[<-b6.o];exact HT.o⟩
     ·have a9:wr.cell? ⟨L,0,none⟩=some (.int .i64 3):=q0
      have i1:va.toList.isEmpty=false:=by
       rw[cU];intro e;rw[dQ,bN]at e;exact hz (by rw[<-jaI,e];rfl)
      clear q0;go_wp2_with fail
      go_ret2
      refine⟨by rw[b0.o];rfl,v',by rw[<-b6.o];exact HT.o⟩
    | none =>
     rw[hcl]at b0;have g5:=Hd (joA f2.o X.o.2.1 s1 hcl);clear s1 hcl;rcases g5.o with rfl |⟨rfl,f5⟩ |⟨rfl,hpre⟩ |⟨rfl,rfl,rfl⟩ |⟨rfl,x,t,hx,hr⟩
     ·have a9:wr.cell? ⟨L,0,none⟩=some (.int .i64 0):=q0
      clear q0;go_wp2_with fail
      refine vC (jbs _) fun w2 E=>?_;have z:Hid (Ext wr w2):=Hd (by first | exact E | exact (jbP _ _).trans E);clear E;go_wp2_with fail
      refine vH (jbR w2) fun w3 E=>?_;have J:=Hd (z.o.trans E);have O:=HB.o.keeps J.o (fun h=>h);clear z;unfold jad.V;go_wp2_with (refine jae (vs:=jak.cells) rfl rfl rfl rfl O (by rw[Z.o];rfl) (by first | exact Tryz.szNode |(rw[Z.o];exact Tryz.szNode)) jak.one ?_;intro W8 a3 Q)
      go_roundw
      case rel=>exact⟨_,T,v',rfl,(HT.o.ext J.o).fill Q a2.o.1 K.o a8.o,K.o,.inr ⟨rfl,b6.o,b0.o⟩⟩
      case measure=>simp[foM]
     ·have a9:wr.cell? ⟨L,0,none⟩=some (.int .i64 1):=q0
      have f5:=jb6 f5;clear q0;go_wp2_with fail
      refine vC (jbs _) fun w2 E=>?_;have z:Hid (Ext wr w2):=Hd (by first | exact E | exact (jbP _ _).trans E);clear E;go_wp2_with fail
      refine vH (jbR w2) fun w3 E=>?_;have J:=Hd (z.o.trans E);have O:=HB.o.keeps J.o (fun h=>h);clear z;unfold jad.V;go_wp2_with (refine jae (vs:=jak.cells) rfl rfl rfl rfl O (by rw[Z.o];rfl) (by first | exact Tryz.szNode |(rw[Z.o];exact Tryz.szNode)) jak.one ?_;intro W8 a3 Q)
      go_roundw
      case rel=>exact⟨_,T,v',rfl,(HT.o.ext J.o).fill Q a2.o.1 K.o a8.o,K.o,.inr ⟨rfl,b6.o,b0.o⟩⟩
      case measure=>simp[foM]
     ·have a9:wr.cell? ⟨L,0,none⟩=some (.int .i64 2):=q0
      have c7:=Hd hpre;clear q0 hpre;go_wp2_with fail
      refine (jbQ _ p pa vO vO).mono ?_;rintro e f6 ⟨rfl,b3⟩;rw[b3];clear b3;rw[c7.o];go_wp2_with fail
      refine vC (jbs _) fun w2 E=>?_;have z:Hid (Ext wr w2):=Hd (by first | exact E | exact (jbP _ _).trans E);clear E;go_wp2_with fail
      refine vH (jbR w2) fun w3 E=>?_;have J:=Hd (z.o.trans E);have O:=HB.o.keeps J.o (fun h=>h);clear z;unfold jad.V;go_wp2_with (refine jae (vs:=jak.cells) rfl rfl rfl rfl O (by rw[Z.o];rfl) (by first | exact Tryz.szNode |(rw[Z.o];exact Tryz.szNode)) jak.one ?_;intro W8 a3 Q)
      go_roundw
      case rel=>exact⟨_,T,v',rfl,(HT.o.ext J.o).fill Q a2.o.1 K.o a8.o,K.o,.inr ⟨rfl,b6.o,b0.o⟩⟩
      case measure=>simp[foM]
     ·have a9:wr.cell? ⟨L,0,none⟩=some (.int .i64 3):=q0
      clear q0;go_wp2_with fail
      refine vC (jbs _) fun w2 E=>?_;have z:Hid (Ext wr w2):=Hd (by first | exact E | exact (jbP _ _).trans E);clear E;go_wp2_with fail
      refine vH (jbR w2) fun w3 E=>?_;have J:=Hd (z.o.trans E);have O:=HB.o.keeps J.o (fun h=>h);clear z;unfold jad.V;go_wp2_with (refine jae (vs:=jak.cells) rfl rfl rfl rfl O (by rw[Z.o];rfl) (by first | exact Tryz.szNode |(rw[Z.o];exact Tryz.szNode)) jak.one ?_;intro W8 a3 Q)
      go_roundw
      case rel=>exact⟨_,T,v',rfl,(HT.o.ext J.o).fill Q a2.o.1 K.o a8.o,K.o,.inr ⟨rfl,b6.o,b0.o⟩⟩
      case measure=>simp[foM]
     ·have a9:wr.cell? ⟨L,0,none⟩=some (.int .i64 3):=q0
      obtain⟨h0,b4⟩:=jcc hx
      have a5:x.toNat < 16:=jco (p:=(p,p)) X.o.2.1 hx;have q3:=Q3.o _ _ hr;rw[<-b4]at q3 a5;have f7:p.toList.isEmpty=false:=by
       rw[cU];intro e;rw[dQ,bN]at e;rw[hx]at e;cases e
      have c1:(0:Int) < (p.size:Int):=vO
      have c2:((p[0]'h0).toNat:Int) < 16:=vO
      have c3:(1:Int)<=(p.size:Int):=vO
      clear q0 hx hr b4;go_wp2_with fail
      go_quiet (fail)
      go_wp2_with fail
      refine vC (jbs _) fun w2 E=>?_;have z:Hid (Ext wr w2):=Hd (by first | exact E | exact (jbP _ _).trans E);clear E;go_wp2_with fail
      refine vH (jbR w2) fun w3 E=>?_;have J:=Hd (z.o.trans E);have O:=HB.o.keeps J.o (fun h=>h);clear z;unfold jad.V;go_wp2_with (refine jae (vs:=jak.cells) rfl rfl rfl rfl O (by rw[Z.o];rfl) (by first | exact Tryz.szNode |(rw[Z.o];exact Tryz.szNode)) jak.one ?_;intro W8 a3 Q)
      go_roundw
      case rel=>exact⟨_,T,v',rfl,(HT.o.ext J.o).fill Q a2.o.1 K.o a8.o,K.o,.inr ⟨rfl,b6.o,b0.o⟩⟩
      case measure=>simp[foM]
   | some mq =>
    obtain⟨m,q⟩:=mq
    cases f with
    | zero=>rw[jqr X.o.1]at hg;cases hg
    | succ f =>
     have hK:=jkU X.o.1 X.o.2.1 hg;have c8:=(good f m hK.rows).2.1 hK.ne;have b9:=jhA hK.rows hK.ne;have a1:=hK.step;rw[<-f3.o]at a1;have hy:=jig f2.o X.o.2.1 a1 b9;have b2:=jqq (f:=f) hg
     obtain⟨tx,b7⟩:=vE (jab (f+1) m).text
     obtain⟨m',c5⟩:∃ m',m'=jao (jab f) m:=⟨_,rfl⟩
     obtain⟨rt,c6⟩:=vE (refB (jab (f+1) m).text)
     have d5:=Hd c5;have d9:=Hd (show jbd (InlD f) m' by rw[c5];exact c8.good);have b5:=Hd (m'.cells_len (d9.o.one (inlP f)).refs);have f8:=Hd (show tx=jaR m' by rw[b7,c5];exact c8.text);rw[<-c6]at hy;have HY:=Hd hy;have H:=Hd hK;have f9:=Hd (show T.length<=100000 by have h8:=congrArg List.length X.o.2.2.2.1;rw[HA.o,bF,bO]at h8;have:=juz 12 (jaO l) (jaM key);omega)
     by_cases hz:(jab (f+1) m).text.size < 32
     ·have hI:=c8.may.2 hz
      obtain⟨qh,h1,h2⟩:=(inlP (f+1)).nohash _ _ hI
      rw[<-c6]at h1 h2 hI;have HH:=Hd (bB h1 h2);have c9:=Hd (show rt.size<=1000000000 by rw[c6,jeH hz];omega);have e0:=Hd (fun w=>(inlP (f+1)).inl _ _ hI w);rw[<-c5]at e0;have d0:=Hd (show wayL (f+1) l' p=wayL f m q by rw[b2];unfold bigs;rw[if_pos hz];rfl);clear hK c8 b9 a1 hy b2 b7 c5 c6 hI h1 h2 hz hg;rcases HY.o with⟨rfl,hpre,hr,rfl,hle⟩ |⟨rfl,x,t,hx,hr,rfl⟩
      ·have a9:wr.cell? ⟨L,0,none⟩=some (.int .i64 2):=q0
       have c7:=Hd hpre;have q3:=Q3.o 0 _ hr;have c1:(pa.size:Int)<=(p.size:Int):=vO
       clear q0 hpre hr hle;go_wp2_with fail
       refine (jbQ _ p pa vO vO).mono ?_;rintro e f6 ⟨rfl,b3⟩;rw[b3];clear b3;rw[c7.o];go_wp2_with fail
       go_quiet (fail)
       go_wp2_with fail
       refine vC (jdE _ rt qh c9.o HH.o.1) fun w2 E=>?_;rw[HH.o.2];have z:Hid (Ext wr w2):=Hd (by first | exact E | exact (jbP _ _).trans E);clear E;unfold optV;go_wp2_with fail
       refine vH (e0.o w2) fun w3 E=>?_;have J:=Hd (z.o.trans E);have O:=HB.o.keeps J.o (fun h=>h);clear z;unfold jad.V;go_wp2_with (refine jae (vs:=m'.cells) rfl rfl rfl rfl O (by rw[Z.o,b5.o]) (by rw[b5.o];exact Tryz.szNode) m'.one ?_;intro W8 a3 Q)
       go_roundw
       case rel=>exact⟨_,T,v',rfl,(HT.o.ext J.o).fill Q a2.o.1 K.o a8.o,K.o,.inl ⟨rfl,f,m,H.o.rows,H.o.valid,by have:=H.o.less;have:=X.o.2.2.1;omega,by rw[<-d0.o];exact X.o.2.2.2.1,by rw[H.o.find];exact X.o.2.2.2.2.1,by rw[<-d5.o];exact a3,fun x hx a4=>X.o.2.2.2.2.2 x (H.o.flat x hx a4) a4⟩⟩
       case measure=>have h9:=H.o.less;simp only[foM,jgr];omega
      ·have a9:wr.cell? ⟨L,0,none⟩=some (.int .i64 3):=q0
       obtain⟨h0,b4⟩:=jcc hx
       have a5:x.toNat < 16:=jco (p:=(p,p)) X.o.2.1 hx;have q3:=Q3.o _ _ hr;rw[<-b4]at q3 a5;have f7:p.toList.isEmpty=false:=by
        rw[cU];intro e;rw[dQ,bN]at e;rw[hx]at e;cases e
       have c1:(0:Int) < (p.size:Int):=vO
       have c2:((p[0]'h0).toNat:Int) < 16:=vO
       have c3:(1:Int)<=(p.size:Int):=vO
       clear q0 hx hr b4;go_wp2_with fail
       go_quiet (fail)
       go_wp2_with fail
       refine vC (jdE _ rt qh c9.o HH.o.1) fun w2 E=>?_;rw[HH.o.2];have z:Hid (Ext wr w2):=Hd (by first | exact E | exact (jbP _ _).trans E);clear E;unfold optV;go_wp2_with fail
       refine vH (e0.o w2) fun w3 E=>?_;have J:=Hd (z.o.trans E);have O:=HB.o.keeps J.o (fun h=>h);clear z;unfold jad.V;go_wp2_with (refine jae (vs:=m'.cells) rfl rfl rfl rfl O (by rw[Z.o,b5.o]) (by rw[b5.o];exact Tryz.szNode) m'.one ?_;intro W8 a3 Q)
       go_roundw
       case rel=>exact⟨_,T,v',rfl,(HT.o.ext J.o).fill Q a2.o.1 K.o a8.o,K.o,.inl ⟨rfl,f,m,H.o.rows,H.o.valid,by have:=H.o.less;have:=X.o.2.2.1;omega,by rw[<-d0.o];exact X.o.2.2.2.1,by rw[H.o.find];exact X.o.2.2.2.2.1,by rw[<-d5.o];exact a3,fun x hx a4=>X.o.2.2.2.2.2 x (H.o.flat x hx a4) a4⟩⟩
       case measure=>have h9:=H.o.less;simp only[foM,jgr];omega
     ·obtain⟨qh,h1,h2⟩:=jdr (shaB tx) (jbb _)
      have c0:rt=jaz (shaB tx):=by rw[c6,jfT hz,b7]
      rw[<-c0]at h1 h2;have HH:=Hd (bB h1 h2);have c9:=Hd (show rt.size<=1000000000 by rw[c0];have:=jaZ (shaB tx);have:=jbb tx;omega);have d0:=Hd (show wayL (f+1) l' p=tx :: wayL f m q by rw[b2,b7];unfold bigs;rw[if_neg hz];rfl);have g0:Hid (HasS S tx):=(X.o.2.2.2.2.2 tx (by rw[b7];exact hK.flat _ (jbE _) vO) (by rw[b7];omega));clear hK c8 b9 a1 hy b2 b7 c5 c6 h1 h2 hz hg c0;rcases HY.o with⟨rfl,hpre,hr,rfl,hle⟩ |⟨rfl,x,t,hx,hr,rfl⟩
      ·have a9:wr.cell? ⟨L,0,none⟩=some (.int .i64 2):=q0
       have c7:=Hd hpre;have q3:=Q3.o 0 _ hr;have c1:(pa.size:Int)<=(p.size:Int):=vO
       clear q0 hpre hr hle;go_wp2_with fail
       refine (jbQ _ p pa vO vO).mono ?_;rintro e f6 ⟨rfl,b3⟩;rw[b3];clear b3;rw[c7.o];go_wp2_with fail
       go_quiet (fail)
       go_wp2_with fail
       refine vC (jdE _ rt qh c9.o HH.o.1) fun w2 E=>?_;rw[HH.o.2];have z:Hid (Ext wr w2):=Hd (by first | exact E | exact (jbP _ _).trans E);have b8:=Hd (HT.o.ext z.o);clear E;unfold optV;go_wp2_with fail
       refine (jxX w0 w2 s bm room S HS.o (HE.o.trans z.o) g v' T b8.o.at' (by have:=f9.o;omega) tx g0.o f m' d9.o f8.o).mono ?_;rintro e w3 ⟨rfl,v3,b1⟩;have O:=b1.blk (HB.o.keeps z.o (fun h=>h)) a2.o.1 K.o;have a6:=Hd (show v3.ownBlock≠some L from fun e=>by
        rcases b1.sub L e with e | e
        ·exact K.o e
        ·have:=HB.o.lt;have:=z.o.size;omega)
       have e1:=Hd (b8.o.trans b1);clear b1 z b8;unfold jad.V;go_wp2_with (refine jae (vs:=m'.cells) rfl rfl rfl rfl O (by rw[Z.o,b5.o]) (by rw[b5.o];exact Tryz.szNode) m'.one ?_;intro W8 a3 Q)
       go_roundw
       case rel=>exact⟨_,_,v3,rfl,e1.o.fill Q a2.o.1 a6.o a8.o,a6.o,.inl ⟨rfl,f,m,H.o.rows,H.o.valid,by have:=H.o.less;have:=X.o.2.2.1;omega,by have h9:=X.o.2.2.2.1;rw[d0.o]at h9;rw[bX];exact h9,by rw[H.o.find];exact X.o.2.2.2.2.1,by rw[<-d5.o];exact a3,fun x hx a4=>X.o.2.2.2.2.2 x (H.o.flat x hx a4) a4⟩⟩
       case measure=>have h9:=H.o.less;simp only[foM,jgr];omega
      ·have a9:wr.cell? ⟨L,0,none⟩=some (.int .i64 3):=q0
       obtain⟨h0,b4⟩:=jcc hx
       have a5:x.toNat < 16:=jco (p:=(p,p)) X.o.2.1 hx;have q3:=Q3.o _ _ hr;rw[<-b4]at q3 a5;have f7:p.toList.isEmpty=false:=by
        rw[cU];intro e;rw[dQ,bN]at e;rw[hx]at e;cases e
       have c1:(0:Int) < (p.size:Int):=vO
       have c2:((p[0]'h0).toNat:Int) < 16:=vO
       have c3:(1:Int)<=(p.size:Int):=vO
       clear q0 hx hr b4;go_wp2_with fail
       go_quiet (fail)
       go_wp2_with fail
       refine vC (jdE _ rt qh c9.o HH.o.1) fun w2 E=>?_;rw[HH.o.2];have z:Hid (Ext wr w2):=Hd (by first | exact E | exact (jbP _ _).trans E);have b8:=Hd (HT.o.ext z.o);clear E;unfold optV;go_wp2_with fail
       refine (jxX w0 w2 s bm room S HS.o (HE.o.trans z.o) g v' T b8.o.at' (by have:=f9.o;omega) tx g0.o f m' d9.o f8.o).mono ?_;rintro e w3 ⟨rfl,v3,b1⟩;have O:=b1.blk (HB.o.keeps z.o (fun h=>h)) a2.o.1 K.o;have a6:=Hd (show v3.ownBlock≠some L from fun e=>by
        rcases b1.sub L e with e | e
        ·exact K.o e
        ·have:=HB.o.lt;have:=z.o.size;omega)
       have e1:=Hd (b8.o.trans b1);clear b1 z b8;unfold jad.V;go_wp2_with (refine jae (vs:=m'.cells) rfl rfl rfl rfl O (by rw[Z.o,b5.o]) (by rw[b5.o];exact Tryz.szNode) m'.one ?_;intro W8 a3 Q)
       go_roundw
       case rel=>exact⟨_,_,v3,rfl,e1.o.fill Q a2.o.1 a6.o a8.o,a6.o,.inl ⟨rfl,f,m,H.o.rows,H.o.valid,by have:=H.o.less;have:=X.o.2.2.1;omega,by have h9:=X.o.2.2.2.1;rw[d0.o]at h9;rw[bX];exact h9,by rw[H.o.find];exact X.o.2.2.2.2.1,by rw[<-d5.o];exact a3,fun x hx a4=>X.o.2.2.2.2.2 x (H.o.flat x hx a4) a4⟩⟩
       case measure=>have h9:=H.o.less;simp only[foM,jgr];omega
end
section
open Go Go.RowKit
theorem jp2{d:Nat}{n:jad}{p r q:vB}(hg:jbd (InlD d) n)(hp:jaC p=true)(hs:jeJ n p=(r,q))(hr:r.size≠0):MayP (InlD d) r/\q.size < p.size/\jaC q=true:=by
 obtain⟨k,z,H,A⟩:=n
 have E:=jig hg hp hs hr;rcases E with⟨rfl,h1,h2,rfl,h3⟩ |⟨rfl,x,t,h1,h2,rfl⟩
 ·cases hg with
  | ext p' r' a1 a2 a3 =>
   have e:r'=r:=bQ h2;subst e;have o:1<=z.size:=by
    unfold jad.pathOk at a1;simp only[cI,decide_eq_true_eq]at a1;exact a1.1.1
   refine⟨a3.imp id (fun ⟨m,h,_⟩=>⟨m,h⟩),by rw[jaV];omega,jaW hp _ _⟩
 ·cases hg with
  | branch v A a1 a2 a3 a4 =>
   have o:0 < p.size:=by
    have:=congrArg List.length h1
    rw[jaI]at this;simp at this;omega
   exact⟨a3 r (bJ h2) hr,by rw[jaV];omega,jaW hp _ _⟩
end
section
open Go Go.RowKit
attribute [local go_sem] Oper.semAt_some
theorem jAr(W:vW)(x:vB):vQ 28 #[.string x] W fun e w'=>e=.returned (.tuple #[])/\w'=W:=by
 go_enter Tryz.func28,Tryz.ntmps28;go_wp2_with fail
 refine bodyPost_end (results_none rfl _ _ _) rfl ?_
 exact⟨rfl,rfl⟩
theorem jxb(W:vW)(s bm:Nat)(room:Int)(S:vT)(hs:jax W s bm room S)(k:vB)(y:Nd5)(hy:atL S k.data.toList=some y)(f:Nat)(n:jad)(hg:jbd (InlD f) n)(ht:y.2.2.text=jaR n) :
  vR 49 #[.pointer (some ⟨s,0,none⟩),.string k,.func (.func 28) #[] #[]] W (.tuple #[n.V,.bool true]):=by
 have hn:=(hg.one (inlP f)).refs;have HN:=Hd hn;have HG:=Hd hg;have HL:=Hd (n.cells_len hn);have q:=fun w (h:jax w s bm room S)=>jdF w s bm room S k h;rw[hy]at q;simp only[fZ,optV]at q;have H:=Hd q;have HS:=Hd hs
 obtain⟨t,J⟩:=vE y.2.2.text
 rw[<-J]at H ht;have HT:=Hd ht;clear q hs hg ht hn hy J;go_enter Tryz.func49,Tryz.ntmps49;go_wp2_with (refine jah Tryz.allocNode rfl rfl ?_;intro W1 K A)
 refine vC (H.o W1 (HS.o.ext A)) fun w3 E=>?_;have O:=Hd (K.keeps E (fun h=>h));have Q:=Hd (A.trans E);clear E K A;go_wp2_with fail
 refine (jAr w3 t).mono ?_;rintro e w4 ⟨rfl,rfl⟩;go_wp2_with fail
 rw[HT.o];refine vC (jf3 (inlP f) w4 n HG.o) fun w5 E=>?_;rw[<-HT.o];have z:=O.o.keeps E (fun h=>h);have X:=Hd E;clear E O;unfold jad.V;go_wp2_with (first |(refine jah Tryz.allocNode rfl rfl ?_;intro W5 a2 Z;refine jae (vs:=n.cells) rfl rfl rfl rfl a2 (by rw[HL.o];rfl) (by rw[HL.o];exact Tryz.szNode) n.one ?_;intro W6 a3 a1;have a0:=(z.keeps Z (fun h=>h)).keeps a1 (by have:=z.lt;omega)) |(refine jaf 99 (.tmp 10) rfl rfl _ _ rfl (jas _ _ n HN.o a3) ?_) |(refine jae (vs:=n.cells) rfl rfl rfl rfl a0 (by rw[HL.o];rfl) (by rw[HL.o];exact Tryz.szNode) n.one ?_;intro W8 a4 a5))
 refine bodyPost_ret (jaj rfl rfl rfl (jai W8 _ n HN.o a4)) rfl ?_;have a6:Ext W W6:=(((Q.o.trans X.o).trans Z)).trans' a1 (fun x hx e=>by have e:x=w5.heap.size:=e;have:=X.o.size;have:=Q.o.size;omega)
 exact⟨rfl,a6.trans' a5 (fun x hx e=>by have e:x=W.heap.size:=e;omega)⟩
noncomputable def folN(S:vT):Nat->jad->vB->Option vB
 | 0,_,_=>none
 | f+1,n,p=>match jc3 n p with
  | some u=>some u
  | none=>if (jeJ n p).1.size=0 then none else (gRef S (jeJ n p).1).bind fun m=>folN S f m (jeJ n p).2
theorem jkS{S:vT}{f:Nat}{n:jad}{p u:vB}(h:jc3 n p=some u):folN S (f+1) n p=some u:=by
 rw[folN,h]
theorem jh6{S:vT}{f:Nat}{n:jad}{p:vB}(h:jc3 n p=none):folN S (f+1) n p=if (jeJ n p).1.size=0 then none else (gRef S (jeJ n p).1).bind fun m=>folN S f m (jeJ n p).2:=by
 rw[folN,h]
def jBf(W:vW)(L:Nat)(S:vT)(V:Option vB)(okv pv:vV)(wr:vW):Prop:=
 ∃ (p:vB),pv=.string p/\Ext W wr /\
  ((okv=.bool true/\∃ f d n,jbd (InlD d) n/\jaC p=true/\p.size<=2000/\p.size < f/\folN S f n p=V/\Blk wr L (.cells n.cells.toArray 99)) \/
  (okv=.bool false/\V=none))
theorem jiH{W W' W'':vW}{L:Nat}(h:Ext W W')(e:jag (fun b=>b=L) W' W'')(h3:W.heap.size<=L):Ext W W'':=
 h.trans' e (fun x o y=>by have y:x=L:=y;omega)
theorem jqS(W:vW)(s bm:Nat)(room:Int)(S:vT)(hs:jax W s bm room S)(hN:jdn S)(root:vB)(y:Nd5)(hy:atL S root.data.toList=some y)(key:vB)(hk:key.size<=1000) :
  vR 27 #[.pointer (some ⟨s,0,none⟩),.string root,.string key,.func (.func 28) #[] #[]] W (folV (folN S ((jaM key).size+1) (nodeOf y.2.2.text) (jaM key))):=by
 have e8:=Hd hN;have HS:=Hd hs
 obtain⟨n0,d3⟩:=hN y (jaU hy).1
 obtain⟨ht,d,hg⟩:=jb3 d3
 obtain⟨n,hn⟩:=vE (nodeOf y.2.2.text)
 rw[<-hn]at ht hg ⊢;have HG:=Hd hg;have d4:=jxb W s bm room S hs root y hy d n hg ht;have e9:=Hd d4;have HL:=Hd (n.cells_len (hg.one (inlP d)).refs);have HK:=Hd hk
 obtain⟨V,hV⟩:=vE (folN S ((jaM key).size+1) n (jaM key))
 have HV:=Hd hV;rw[<-hV];clear hs hg hn d4 hk hV hN hy d3 ht;go_enter Tryz.func27,Tryz.ntmps27;go_wp2_with fail
 refine e9.o.mono ?_;rintro e w1 ⟨rfl,d5⟩;have d6:=Hd d5;clear d5;unfold jad.V;go_wp2_with (first |(refine jah Tryz.allocNode rfl rfl ?_;intro W5 d7 d8;refine jae (vs:=n.cells) rfl rfl rfl rfl d7 (by rw[HL.o];rfl) (by rw[HL.o];exact Tryz.szNode) n.one ?_;intro W6 d9 e0))
 refine vC (jft _ key (by have:=HK.o;omega)) fun w7 A=>?_;have e1:Ext w1 W6:=d8.trans' e0 (fun x hx e=>by have e:x=w1.heap.size:=e;omega);have f1:=Hd ((d6.o.trans e1).trans A);have e2:=Hd (d9.keeps A (fun h=>h));have a2:Hid (W.heap.size<=w1.heap.size):=d6.o.size
 obtain⟨L,hL⟩:=vE w1.heap.size
 rw[<-hL]at e2 a2 ⊢;clear hL A e1 d7 d8 d9 e0
 obtain⟨pk,b9⟩:=vE (jaM key)
 have c0:=Hd b9;rw[<-b9];clear b9;go_wp2_with fail
 go_loopw [11,12] (fun c4 pv wr=>jBf W L S V c4 pv wr) (fun c4 pv _=>foM c4 pv)
 case atStart =>
  exact⟨pk,rfl,f1.o,.inl ⟨rfl,pk.size+1,d,n,HG.o,by rw[c0.o];exact jbL key,by rw[c0.o,jcJ];have:=HK.o;omega,Nat.lt_succ_self _,by rw[c0.o, <-HV.o],e2.o⟩⟩
 case round =>
  obtain⟨p,rfl,hT,hc⟩:=hrel
  have HE:=Hd hT;clear hT;rcases hc with⟨rfl,f0,dn,m0,h1,h2,h3,h3f,h4,h6⟩ |⟨rfl,h2⟩
  case inr =>
   have HF:=Hd h2;clear h2;go_wp2_with fail
   go_ret2
   exact⟨by rw[HF.o];rfl,HE.o⟩
  case inl =>
   obtain⟨f,rfl⟩:∃ f,f0=f+1:=⟨f0 - 1,by omega⟩
   obtain⟨k,pa,va,rs⟩:=m0
   have HC:=Hd (bB h2 (bB h3 h3f));have e3:=Hd h4;have c5:=Hd h1;have HB:=Hd h6;have f5:k<=3:=(h1.one (inlP dn)).kind;have c6:rs.length=16:=(h1.one (inlP dn)).refs;have f6:pa.size<=12:=(h1.one (inlP dn)).path;have f7:=Hd c6;have K:=Hd (jad.cells_len ⟨k,pa,va,rs⟩ c6);have f8:p.size<=1000000:=vO
   have q0:=h6.cellL (i:=0) (v:=.int .i64 k) vF;have q1:=h6.cellL (i:=1) (v:=.string pa) vF;have q2:=h6.cellL (i:=2) (v:=.string va) vF;have Q3:=Hd (show ∀ i r,rs[i]?=some r->wr.cell? ⟨L,3+i,none⟩=some (.string r)from fun i r hi=>h6.cellL (i:=3+i) (v:=.string r) (by
    show (_ :: _ :: _ :: rs.map Value.string)[3+i]?=_;rw[show 3+i=i+1+1+1 by omega];simp[hi]))
   clear c6 h1 h2 h3 h3f h4 h6;have f9:(⟨#[]⟩:vB).toList.isEmpty=true:=by rw[bN];rfl
   cases hcl:jc3 ⟨k,pa,va,rs⟩ p with
   | some u =>
    have a4:=Hd (show V=some u by rw[<-e3.o,jkS hcl]);have f2:=Hd (joz hcl);clear hcl;rcases f2.o with⟨rfl,rfl,rfl⟩ |⟨rfl,rfl,rfl,hz⟩
    ·have a3:wr.cell? ⟨L,0,none⟩=some (.int .i64 1):=q0
     clear q0;go_wp2_with fail
     go_ret2
     exact⟨by rw[a4.o];rfl,HE.o⟩
    ·have a3:wr.cell? ⟨L,0,none⟩=some (.int .i64 3):=q0
     have g0:va.toList.isEmpty=false:=by
      rw[cU];intro e;rw[dQ,bN]at e;exact hz (by rw[<-jaI,e];rfl)
     clear q0;go_wp2_with fail
     go_ret2
     exact⟨by rw[a4.o];rfl,HE.o⟩
   | none =>
    have a5:=e3.o;rw[jh6 hcl]at a5
    obtain⟨r,q,a9⟩:∃ r q,jeJ ⟨k,pa,va,rs⟩ p=(r,q):=⟨_,_,rfl⟩
    rw[a9]at a5;simp only at a5
    by_cases hr0:r.size=0
    ·rw[if_pos hr0]at a5
     have e4:=ja1 hr0;rw[e4]at a9;have f3:=Hd (joA c5.o HC.o.1 a9 hcl);have a4:=Hd a5.symm;clear hcl a5 a9 hr0 e4;rcases f3.o with rfl |⟨rfl,e5⟩ |⟨rfl,hpre⟩ |⟨rfl,rfl,rfl⟩ |⟨rfl,x,t,hx,hr⟩
     ·have a3:wr.cell? ⟨L,0,none⟩=some (.int .i64 0):=q0
      clear q0;go_wp2_with fail
      refine vC (jbs _) fun Q A=>?_;have z:Hid (Ext wr Q):=Hd (by first | exact A | exact (jbP _ _).trans A);clear A;go_wp2_with fail
      refine vH (jbR Q) fun w3 A=>?_;have E:=Hd (z.o.trans A);have H:=HB.o.keeps E.o (fun h=>h);clear z;unfold jad.V;go_wp2_with (refine jae (vs:=jak.cells) rfl rfl rfl rfl H (by rw[K.o];rfl) (by first | exact Tryz.szNode |(rw[K.o];exact Tryz.szNode)) jak.one ?_;intro W8 X J)
      go_roundw
      case rel=>exact⟨_,rfl,jiH (HE.o.trans E.o) J a2.o,.inr ⟨rfl,a4.o⟩⟩
      case measure=>simp[foM]
     ·have a3:wr.cell? ⟨L,0,none⟩=some (.int .i64 1):=q0
      have e5:=jb6 e5;clear q0;go_wp2_with fail
      refine vC (jbs _) fun Q A=>?_;have z:Hid (Ext wr Q):=Hd (by first | exact A | exact (jbP _ _).trans A);clear A;go_wp2_with fail
      refine vH (jbR Q) fun w3 A=>?_;have E:=Hd (z.o.trans A);have H:=HB.o.keeps E.o (fun h=>h);clear z;unfold jad.V;go_wp2_with (refine jae (vs:=jak.cells) rfl rfl rfl rfl H (by rw[K.o];rfl) (by first | exact Tryz.szNode |(rw[K.o];exact Tryz.szNode)) jak.one ?_;intro W8 X J)
      go_roundw
      case rel=>exact⟨_,rfl,jiH (HE.o.trans E.o) J a2.o,.inr ⟨rfl,a4.o⟩⟩
      case measure=>simp[foM]
     ·have a3:wr.cell? ⟨L,0,none⟩=some (.int .i64 2):=q0
      have b3:=Hd hpre;clear q0 hpre;go_wp2_with fail
      refine (jbQ _ p pa vO vO).mono ?_;rintro e c7 ⟨rfl,a6⟩;rw[a6];clear a6;rw[b3.o];go_wp2_with fail
      refine vC (jbs _) fun Q A=>?_;have z:Hid (Ext wr Q):=Hd (by first | exact A | exact (jbP _ _).trans A);clear A;go_wp2_with fail
      refine vH (jbR Q) fun w3 A=>?_;have E:=Hd (z.o.trans A);have H:=HB.o.keeps E.o (fun h=>h);clear z;unfold jad.V;go_wp2_with (refine jae (vs:=jak.cells) rfl rfl rfl rfl H (by rw[K.o];rfl) (by first | exact Tryz.szNode |(rw[K.o];exact Tryz.szNode)) jak.one ?_;intro W8 X J)
      go_roundw
      case rel=>exact⟨_,rfl,jiH (HE.o.trans E.o) J a2.o,.inr ⟨rfl,a4.o⟩⟩
      case measure=>simp[foM]
     ·have a3:wr.cell? ⟨L,0,none⟩=some (.int .i64 3):=q0
      clear q0;go_wp2_with fail
      refine vC (jbs _) fun Q A=>?_;have z:Hid (Ext wr Q):=Hd (by first | exact A | exact (jbP _ _).trans A);clear A;go_wp2_with fail
      refine vH (jbR Q) fun w3 A=>?_;have E:=Hd (z.o.trans A);have H:=HB.o.keeps E.o (fun h=>h);clear z;unfold jad.V;go_wp2_with (refine jae (vs:=jak.cells) rfl rfl rfl rfl H (by rw[K.o];rfl) (by first | exact Tryz.szNode |(rw[K.o];exact Tryz.szNode)) jak.one ?_;intro W8 X J)
      go_roundw
      case rel=>exact⟨_,rfl,jiH (HE.o.trans E.o) J a2.o,.inr ⟨rfl,a4.o⟩⟩
      case measure=>simp[foM]
     ·have a3:wr.cell? ⟨L,0,none⟩=some (.int .i64 3):=q0
      obtain⟨h0,a7⟩:=jcc hx
      have a0:x.toNat < 16:=jco (p:=(p,p)) HC.o.1 hx;have q3:=Q3.o _ _ hr;rw[<-a7]at q3 a0;have c8:p.toList.isEmpty=false:=by
       rw[cU];intro e;rw[dQ,bN]at e;rw[hx]at e;cases e
      have c1:(0:Int) < (p.size:Int):=vO
      have c2:((p[0]'h0).toNat:Int) < 16:=vO
      have c3:(1:Int)<=(p.size:Int):=vO
      clear q0 hx hr a7;go_wp2_with fail
      go_quiet (fail)
      go_wp2_with fail
      refine vC (jbs _) fun Q A=>?_;have z:Hid (Ext wr Q):=Hd (by first | exact A | exact (jbP _ _).trans A);clear A;go_wp2_with fail
      refine vH (jbR Q) fun w3 A=>?_;have E:=Hd (z.o.trans A);have H:=HB.o.keeps E.o (fun h=>h);clear z;unfold jad.V;go_wp2_with (refine jae (vs:=jak.cells) rfl rfl rfl rfl H (by rw[K.o];rfl) (by first | exact Tryz.szNode |(rw[K.o];exact Tryz.szNode)) jak.one ?_;intro W8 X J)
      go_roundw
      case rel=>exact⟨_,rfl,jiH (HE.o.trans E.o) J a2.o,.inr ⟨rfl,a4.o⟩⟩
      case measure=>simp[foM]
    ·rw[if_neg hr0]at a5
     have b8:=Hd a5
     obtain⟨b7,a1,b1⟩:=jp2 c5.o HC.o.1 a9 hr0
     have O:=Hd (bB a1 b1);have f4:=Hd (show r.size<=1000000000 by have:=b7.size (inlP dn);omega);have HY:=Hd (jig c5.o HC.o.1 a9 hr0);have Z:=fun w=>jdK w r f4.o;rcases b7 with hh |⟨m,hi⟩
     case inr =>
      cases dn with
      | zero=>exact hi.elim
      | succ dn =>
      have b2:=jc4 (inlP (dn+1)) hi;have b4:=Hd (show folN S f m q=V by
       rw[<-b8.o];unfold gRef;rw[b2];show _=folN S f (inlOf r) q;rw[jk2 W hi])
      have e6:=Hd (fun w=>(inlP (dn+1)).inl _ _ hi w);have b5:=Hd hi.1;have b0:=Hd (m.cells_len (hi.1.one (inlP dn)).refs);rw[jgj,b2]at Z;simp only[optV]at Z;have HH:=Hd Z;clear Z b2 hi hcl a5 a1 b1 hr0 a9;rcases HY.o with⟨rfl,hpre,hr,rfl,hle⟩ |⟨rfl,x,t,hx,hr,rfl⟩
      ·have a3:wr.cell? ⟨L,0,none⟩=some (.int .i64 2):=q0
       have b3:=Hd hpre;have q3:=Q3.o 0 _ hr;have c1:(pa.size:Int)<=(p.size:Int):=vO
       clear q0 hpre hr hle;go_wp2_with fail
       refine (jbQ _ p pa vO vO).mono ?_;rintro e c7 ⟨rfl,a6⟩;rw[a6];clear a6;rw[b3.o];go_wp2_with fail
       go_quiet (fail)
       go_wp2_with fail
       refine vC (HH.o _) fun Q A=>?_;have z:Hid (Ext wr Q):=Hd (by first | exact A | exact (jbP _ _).trans A);clear A;go_wp2_with fail
       refine vH (e6.o Q) fun w3 A=>?_;have E:=Hd (z.o.trans A);have H:=HB.o.keeps E.o (fun h=>h);clear z;unfold jad.V;go_wp2_with (refine jae (vs:=m.cells) rfl rfl rfl rfl H (by rw[K.o,b0.o]) (by rw[b0.o];exact Tryz.szNode) m.one ?_;intro W8 X J)
       go_roundw
       case rel=>exact⟨_,rfl,jiH (HE.o.trans E.o) J a2.o,.inl ⟨rfl,f,dn,m,b5.o,O.o.2,by have:=O.o.1;have:=HC.o.2.1;omega,by have:=O.o.1;have:=HC.o.2.2;omega,b4.o,X⟩⟩
       case measure=>have h9:=O.o.1;simp only[foM,jgr];omega
      ·have a3:wr.cell? ⟨L,0,none⟩=some (.int .i64 3):=q0
       obtain⟨h0,a7⟩:=jcc hx
       have a0:x.toNat < 16:=jco (p:=(p,p)) HC.o.1 hx;have q3:=Q3.o _ _ hr;rw[<-a7]at q3 a0;have c8:p.toList.isEmpty=false:=by
        rw[cU];intro e;rw[dQ,bN]at e;rw[hx]at e;cases e
       have c1:(0:Int) < (p.size:Int):=vO
       have c2:((p[0]'h0).toNat:Int) < 16:=vO
       have c3:(1:Int)<=(p.size:Int):=vO
       clear q0 hx hr a7;go_wp2_with fail
       go_quiet (fail)
       go_wp2_with fail
       refine vC (HH.o _) fun Q A=>?_;have z:Hid (Ext wr Q):=Hd (by first | exact A | exact (jbP _ _).trans A);clear A;go_wp2_with fail
       refine vH (e6.o Q) fun w3 A=>?_;have E:=Hd (z.o.trans A);have H:=HB.o.keeps E.o (fun h=>h);clear z;unfold jad.V;go_wp2_with (refine jae (vs:=m.cells) rfl rfl rfl rfl H (by rw[K.o,b0.o]) (by rw[b0.o];exact Tryz.szNode) m.one ?_;intro W8 X J)
       go_roundw
       case rel=>exact⟨_,rfl,jiH (HE.o.trans E.o) J a2.o,.inl ⟨rfl,f,dn,m,b5.o,O.o.2,by have:=O.o.1;have:=HC.o.2.1;omega,by have:=O.o.1;have:=HC.o.2.2;omega,b4.o,X⟩⟩
       case measure=>have h9:=O.o.1;simp only[foM,jgr];omega
     case inl =>
      obtain⟨h,h1,h2⟩:=hh
      have b2:jcH r=some h:=by rw[h2];exact jdc h1
      rw[jgj,b2]at Z;simp only[optV]at Z;have HH:=Hd Z;have c9:gRef S r=gHash S h:=by unfold gRef;rw[b2];rfl
      rw[c9]at b8;cases ha:atL S h.data.toList with
      | none =>
       have a4:=Hd (show V=none by rw[<-b8.o];unfold gHash;rw[ha];rfl);have a8:=Hd (fun w (e:Ext W w)=>joN w s bm room S (HS.o.ext e) (.func (.func 28) #[] #[]) h ha);clear Z b2 h1 h2 hcl a5 a1 b1 hr0 a9 c9 ha;rcases HY.o with⟨rfl,hpre,hr,rfl,hle⟩ |⟨rfl,x,t,hx,hr,rfl⟩
       ·have a3:wr.cell? ⟨L,0,none⟩=some (.int .i64 2):=q0
        have b3:=Hd hpre;have q3:=Q3.o 0 _ hr;have c1:(pa.size:Int)<=(p.size:Int):=vO
        clear q0 hpre hr hle;go_wp2_with fail
        refine (jbQ _ p pa vO vO).mono ?_;rintro e c7 ⟨rfl,a6⟩;rw[a6];clear a6;rw[b3.o];go_wp2_with fail
        go_quiet (fail)
        go_wp2_with fail
        refine vC (HH.o _) fun Q A=>?_;have z:Hid (Ext wr Q):=Hd (by first | exact A | exact (jbP _ _).trans A);clear A;go_wp2_with fail
        refine vH (a8.o Q (HE.o.trans z.o)) fun w3 A=>?_;have E:=Hd (z.o.trans A);have H:=HB.o.keeps E.o (fun h=>h);clear z;unfold jad.V;go_wp2_with (refine jae (vs:=jak.cells) rfl rfl rfl rfl H (by rw[K.o];rfl) (by first | exact Tryz.szNode |(rw[K.o];exact Tryz.szNode)) jak.one ?_;intro W8 X J)
        go_roundw
        case rel=>exact⟨_,rfl,jiH (HE.o.trans E.o) J a2.o,.inr ⟨rfl,a4.o⟩⟩
        case measure=>simp[foM]
       ·have a3:wr.cell? ⟨L,0,none⟩=some (.int .i64 3):=q0
        obtain⟨h0,a7⟩:=jcc hx
        have a0:x.toNat < 16:=jco (p:=(p,p)) HC.o.1 hx;have q3:=Q3.o _ _ hr;rw[<-a7]at q3 a0;have c8:p.toList.isEmpty=false:=by
         rw[cU];intro e;rw[dQ,bN]at e;rw[hx]at e;cases e
        have c1:(0:Int) < (p.size:Int):=vO
        have c2:((p[0]'h0).toNat:Int) < 16:=vO
        have c3:(1:Int)<=(p.size:Int):=vO
        clear q0 hx hr a7;go_wp2_with fail
        go_quiet (fail)
        go_wp2_with fail
        refine vC (HH.o _) fun Q A=>?_;have z:Hid (Ext wr Q):=Hd (by first | exact A | exact (jbP _ _).trans A);clear A;go_wp2_with fail
        refine vH (a8.o Q (HE.o.trans z.o)) fun w3 A=>?_;have E:=Hd (z.o.trans A);have H:=HB.o.keeps E.o (fun h=>h);clear z;unfold jad.V;go_wp2_with (refine jae (vs:=jak.cells) rfl rfl rfl rfl H (by rw[K.o];rfl) (by first | exact Tryz.szNode |(rw[K.o];exact Tryz.szNode)) jak.one ?_;intro W8 X J)
        go_roundw
        case rel=>exact⟨_,rfl,jiH (HE.o.trans E.o) J a2.o,.inr ⟨rfl,a4.o⟩⟩
        case measure=>simp[foM]
      | some y2 =>
       obtain⟨n2,e7⟩:=e8.o y2 (jaU ha).1
       obtain⟨d0,d2,b6⟩:=jb3 e7
       have d1:folN S f (nodeOf y2.2.2.text) q=V:=by rw[<-b8.o];unfold gHash;rw[ha];rfl
       obtain⟨m,hm⟩:=vE (nodeOf y2.2.2.text)
       rw[<-hm]at d0 b6 d1;have b4:=Hd d1;have a8:=Hd (fun w (e:Ext W w)=>jxb w s bm room S (HS.o.ext e) h y2 ha d2 m b6 d0);have b5:=Hd b6;have b0:=Hd (m.cells_len (b6.one (inlP d2)).refs);clear Z b2 h1 h2 hcl a5 a1 b1 hr0 a9 c9 ha e7 d0 b6 d1 hm;rcases HY.o with⟨rfl,hpre,hr,rfl,hle⟩ |⟨rfl,x,t,hx,hr,rfl⟩
       ·have a3:wr.cell? ⟨L,0,none⟩=some (.int .i64 2):=q0
        have b3:=Hd hpre;have q3:=Q3.o 0 _ hr;have c1:(pa.size:Int)<=(p.size:Int):=vO
        clear q0 hpre hr hle;go_wp2_with fail
        refine (jbQ _ p pa vO vO).mono ?_;rintro e c7 ⟨rfl,a6⟩;rw[a6];clear a6;rw[b3.o];go_wp2_with fail
        go_quiet (fail)
        go_wp2_with fail
        refine vC (HH.o _) fun Q A=>?_;have z:Hid (Ext wr Q):=Hd (by first | exact A | exact (jbP _ _).trans A);clear A;go_wp2_with fail
        refine vH (a8.o Q (HE.o.trans z.o)) fun w3 A=>?_;have E:=Hd (z.o.trans A);have H:=HB.o.keeps E.o (fun h=>h);clear z;unfold jad.V;go_wp2_with (refine jae (vs:=m.cells) rfl rfl rfl rfl H (by rw[K.o,b0.o]) (by rw[b0.o];exact Tryz.szNode) m.one ?_;intro W8 X J)
        go_roundw
        case rel=>exact⟨_,rfl,jiH (HE.o.trans E.o) J a2.o,.inl ⟨rfl,f,d2,m,b5.o,O.o.2,by have:=O.o.1;have:=HC.o.2.1;omega,by have:=O.o.1;have:=HC.o.2.2;omega,b4.o,X⟩⟩
        case measure=>have h9:=O.o.1;simp only[foM,jgr];omega
       ·have a3:wr.cell? ⟨L,0,none⟩=some (.int .i64 3):=q0
        obtain⟨h0,a7⟩:=jcc hx
        have a0:x.toNat < 16:=jco (p:=(p,p)) HC.o.1 hx;have q3:=Q3.o _ _ hr;rw[<-a7]at q3 a0;have c8:p.toList.isEmpty=false:=by
         rw[cU];intro e;rw[dQ,bN]at e;rw[hx]at e;cases e
        have c1:(0:Int) < (p.size:Int):=vO
        have c2:((p[0]'h0).toNat:Int) < 16:=vO
        have c3:(1:Int)<=(p.size:Int):=vO
        clear q0 hx hr a7;go_wp2_with fail
        go_quiet (fail)
        go_wp2_with fail
        refine vC (HH.o _) fun Q A=>?_;have z:Hid (Ext wr Q):=Hd (by first | exact A | exact (jbP _ _).trans A);clear A;go_wp2_with fail
        refine vH (a8.o Q (HE.o.trans z.o)) fun w3 A=>?_;have E:=Hd (z.o.trans A);have H:=HB.o.keeps E.o (fun h=>h);clear z;unfold jad.V;go_wp2_with (refine jae (vs:=m.cells) rfl rfl rfl rfl H (by rw[K.o,b0.o]) (by rw[b0.o];exact Tryz.szNode) m.one ?_;intro W8 X J)
        go_roundw
        case rel=>exact⟨_,rfl,jiH (HE.o.trans E.o) J a2.o,.inl ⟨rfl,f,d2,m,b5.o,O.o.2,by have:=O.o.1;have:=HC.o.2.1;omega,by have:=O.o.1;have:=HC.o.2.2;omega,b4.o,X⟩⟩
        case measure=>have h9:=O.o.1;simp only[foM,jgr];omega
def wayN(l:vL)(key:vB):vM:=(jay l).text :: wayL 12 (jaO l) (jaM key)
def jBo(N:vM)(w:vW)(e:Ending)(w':vW):Prop:=∃ a c,e=.returned (.tuple #[.slice a N.length c,.int .i64 0])/\SRow w w' (.slice a N.length c) N.length N
theorem jyQ(W:vW)(s bm:Nat)(room:Int)(S:vT)(hs:jax W s bm room S)(l:vL)(hM:HasM S l)(key:vB)(hk:key.size<=1000) :
  vQ 11 #[.pointer (some ⟨s,0,none⟩),.string (shaB (jay l).text),.string key] W (jBo (wayN l key) W):=by
 obtain⟨k0,A⟩:∃ k,k=shaB (jay l).text:=⟨_,rfl⟩
 have Q:=Hd A;have HS:=Hd hs;have HM:=Hd hM;have HK:=Hd hk
 obtain⟨N,hN⟩:=vE (wayN l key)
 have HN:=Hd hN;rw[<-A, <-hN];clear A hs hM hk hN;go_enter Tryz.func11,Tryz.ntmps11;go_wp2_with fail
 have X:Ext W (W.alloc (.cells #[.slice none 0 0] 22)):=(ExtR W).alloc _;have hB:=Blk.new W (.cells #[.slice none 0 0] 22);have E:jfd W.heap.size W.heap.size (.slice none 0 0) [] (W.alloc (.cells #[.slice none 0 0] 22)):=⟨bL _,hB,⟨0,rfl,.inl ⟨rfl,rfl⟩⟩,fun b hb=>by cases hb⟩;have O:=jsE W _ s bm room S HS.o X W.heap.size (.slice none 0 0) E l HM.o key HK.o;rw[<-Q.o]at O;have Z:=Hd E;have HE:=Hd X
 obtain⟨V,hV⟩:=vE (valL (jaO l) (jaM key))
 rw[<-hV]at O;clear hB E X hV;refine O.mono ?_;rintro e w2 ⟨rfl,v',H⟩;have HT:=Hd H
 obtain⟨n,J⟩:=H.at'.row
 have a0:n=(wayN l key).length:=by have:=J.1;simpa [wayN]using this.symm
 subst a0
 obtain⟨a,c,K⟩:=jaL J
 have q:=H.at'.var.cell (i:=0) (v:=v') vF;have HO:=Hd J;have z:SRow W w2 v' (wayN l key).length (wayN l key):=⟨⟨a,c,K⟩,J,H.ext0 Z.o HE.o (bL _),fun b hb=>(H.at'.own b hb).1⟩;have HF:=Hd z;subst K;rw[<-HN.o]at q HF;clear O H J z HO HT;cases V with
 | none =>
  unfold folV;go_wp2_with fail
  go_ret2
  exact⟨_,_,rfl,HF.o⟩
 | some u =>
  unfold folV;go_wp2_with fail
  go_ret2
  exact⟨_,_,rfl,HF.o⟩
theorem jyn(w:vW)(S:vT):∀ (f:Nat) (l:vL) (p:vB) (g:Nat),jav f l->jaC p=true->p.size < g->(∀ x∈jau (jab (f+1) l),32<=x.size->HasS S x)->folN S g (jao (jab f) l) p=valL l p:=by
 intro f;induction f with
 | zero =>
  intro l p g h z J A
  obtain⟨g,rfl⟩:∃ k,g=k+1:=⟨g - 1,by omega⟩
  obtain⟨E,H⟩:=jiK h z (jqr h)
  rw[<-H];cases hc:jc3 (jao (jab 0) l) p with
  | some u=>rw[jkS hc]
  | none=>rw[jh6 hc,E];rfl
 | succ f ih =>
  intro l p g h z J A
  obtain⟨g,rfl⟩:∃ k,g=k+1:=⟨g - 1,by omega⟩
  cases hgo:goL l p with
  | none =>
   obtain⟨E,H⟩:=jiK h z hgo
   rw[<-H];cases hc:jc3 (jao (jab (f+1)) l) p with
   | some u=>rw[jkS hc]
   | none=>rw[jh6 hc,E];rfl
  | some mq =>
   obtain⟨m,q⟩:=mq
   have e:=jkU h z hgo;rw[jh6 e.no,e.step,if_neg (jhA e.rows e.ne),jkT w e.rows e.ne (fun o=>A _ (e.flat _ (jbE _) o) o)];show folN S g (jao (jab f) m) q=_;rw[ih m q g e.rows e.valid (by have:=e.less;omega) (fun x K o=>A x (e.flat x K o) o),e.find]
theorem jms(W:vW)(s bm:Nat)(room:Int)(S:vT)(hs:jax W s bm room S)(root key:vB)(f:FuncId)(bs:Array vV)(ha:atL S root.data.toList=none) :
  vR 27 #[.pointer (some ⟨s,0,none⟩),.string root,.string key,.func (.func f) #[] bs] W (.tuple #[.string ⟨#[]⟩,.int .i64 4]):=by
 have q:=Hd (joN W s bm room S hs (.func (.func f) #[] bs) root ha);clear hs ha;go_enter Tryz.func27,Tryz.ntmps27;go_wp2_with fail
 refine q.o.mono ?_;rintro e w1 ⟨rfl,J⟩;have K:=Hd J;clear J;unfold jad.V;go_wp2_with (first |(refine jah Tryz.allocNode rfl rfl ?_;intro X z A;refine jae (vs:=jak.cells) rfl rfl rfl rfl z rfl Tryz.szNode jak.one ?_;intro O Q E))
 go_ret2;have H:Ext W O:=(K.o.trans A).trans' E (fun x Z e=>by have e:x=w1.heap.size:=e;have:=K.o.size;omega)
 exact⟨rfl,H⟩
theorem jpk(W:vW)(s bm:Nat)(room:Int)(S:vT)(hs:jax W s bm room S)(hN:jdn S)(root:vB)(y:Nd5)(hy:atL S root.data.toList=some y)(key:vB)(hk:key.size<=1000) :
  vR 9 #[.pointer (some ⟨s,0,none⟩),.string root,.string key] W (folV (folN S ((jaM key).size+1) (nodeOf y.2.2.text) (jaM key))):=by
 have q:=Hd (jqS W s bm room S hs hN root y hy key hk)
 obtain⟨V,z⟩:=vE (folN S ((jaM key).size+1) (nodeOf y.2.2.text) (jaM key))
 rw[<-z]at q ⊢;clear z hs hN hy hk;go_enter Tryz.func9,Tryz.ntmps9;go_wp2_with fail
 refine q.o.mono ?_;rintro e H ⟨rfl,A⟩;have E:=Hd A;clear A;cases V with
 | none =>
  unfold folV;go_wp2_with fail
  go_ret2
  exact⟨rfl,E.o⟩
 | some u =>
  unfold folV;go_wp2_with fail
  go_ret2
  exact⟨rfl,E.o⟩
theorem jxo(W:vW)(s bm:Nat)(room:Int)(S:vT)(hs:jax W s bm room S)(hN:jdn S)(l:vL)(hM:HasM S l)(key:vB)(hk:key.size<=1000) :
  vR 9 #[.pointer (some ⟨s,0,none⟩),.string (shaB (jay l).text),.string key] W (folV (valL (jaO l) (jaM key))):=by
 obtain⟨y,q,z⟩:=hM.has _ (jbE _)
 have q:atL S (shaB (jay l).text).data.toList=some y:=q;have A:=jpk W s bm room S hs hN (shaB (jay l).text) y q key hk;have o:=jbt (jaE hM.ok);have E:jbc (jay l).text (jao (jab 12) (jaO l)):=⟨rfl,12,(good 12 (jaO l) o).1⟩;have e:nodeOf y.2.2.text=jao (jab 12) (jaO l):=by rw[z];exact jdR W (jb3 E) E
 rw[e,jyn W S 12 (jaO l) (jaM key) _ o (jbL key) vO (fun x H _=>hM.has x H)]at A;exact A
theorem jsG(W:vW)(s bm:Nat)(room:Int)(S:vT)(hs:jax W s bm room S)(root key:vB)(ha:atL S root.data.toList=none) :
  vR 9 #[.pointer (some ⟨s,0,none⟩),.string root,.string key] W (.tuple #[.string ⟨#[]⟩,.int .i64 4]):=by
 have z:=Hd (jms W s bm room S hs root key 28 #[] ha);clear hs ha;go_enter Tryz.func9,Tryz.ntmps9;go_wp2_with fail
 refine z.o.mono ?_;rintro e E ⟨rfl,q⟩;have A:=Hd q;clear q;go_wp2_with fail
 go_ret2
 exact⟨rfl,A.o⟩
theorem jwn(W:vW)(s bm:Nat)(room:Int)(S:vT)(hs:jax W s bm room S)(root key:vB)(ha:atL S root.data.toList=none) :
  vR 11 #[.pointer (some ⟨s,0,none⟩),.string root,.string key] W (.tuple #[.slice none 0 0,.int .i64 4]):=by
 have q:Ext W (W.alloc (.cells #[.slice none 0 0] 22)):=(ExtR W).alloc _;have A:=Hd (jms _ s bm room S (hs.ext q) root key 30 #[.pointer (some ⟨W.heap.size,0,none⟩)] ha);have z:=Hd q;clear hs ha q;go_enter Tryz.func11,Tryz.ntmps11;go_wp2_with fail
 refine A.o.mono ?_;rintro e H ⟨rfl,q⟩;have E:=Hd (z.o.trans q);clear q z;go_wp2_with fail
 go_ret2
 exact⟨rfl,E.o⟩
def twP:vL:=[(⟨#[97]⟩,⟨#[49]⟩),(⟨#[98]⟩,⟨#[50]⟩)]
def twQ:vL:=[(⟨#[98]⟩,⟨#[50]⟩)]
def twC:List Chg:=[⟨⟨#[97]⟩,⟨#[49]⟩,false⟩,⟨⟨#[98]⟩,⟨#[50]⟩,false⟩]
def twD:List Chg:=[⟨⟨#[97]⟩,⟨#[]⟩,true⟩]
theorem jnq:jaD ([]:vL)=0:=by decide +kernel
theorem tw_p:jaD twP=0:=by decide +kernel
theorem tw_q:jaD twQ=0:=by decide +kernel
theorem jfE{m:vL}(h:jaD m=0):jc8 m=m:=ji7 (jjb (jgx h).2.nodup) (jgx h).2 (jta m)
theorem jB3:ja8 [] twC=0:=by decide +kernel
theorem jze:ja0 [] twC=twP:=by unfold ja0;rw[show jdC [] twC=twP by decide +kernel,jfE tw_p]
theorem jB4:ja8 twP twD=0:=by decide +kernel
theorem jzf:ja0 twP twD=twQ:=by unfold ja0;rw[show jdC twP twD=twQ by decide +kernel,jfE tw_q]
theorem jB5:ja8 twQ []=0:=by decide +kernel
theorem jB2:ja0 twQ []=twQ:=by unfold ja0;rw[show jdC twQ []=twQ by decide +kernel,jfE tw_q]
def twU:vM:=[(jay []).text,(jay twP).text,(jay twQ).text]
theorem jwR:jbr []=[(jay []).text]:=by decide +kernel
theorem juw:jbr twP=[(jay twP).text]:=by decide +kernel
theorem jA8:jbr twQ=[(jay twQ).text]:=by decide +kernel
theorem jA5:∀ t∈jbr [],t∈twU:=by rw[jwR];intro t e;rw[bP.1 e];simp[twU]
theorem jzh:∀ t∈jbr twP,t∈twU:=by rw[juw];intro t e;rw[bP.1 e];simp[twU]
theorem jA6:∀ t∈jbr twQ,t∈twU:=by rw[jA8];intro t e;rw[bP.1 e];simp[twU]
theorem jjh:InjL twU:=by unfold InjL;decide +kernel
theorem jwP:juP twU:=fun t e=>by
 unfold twU at e;rcases bM.1 e with rfl | e
 ·exact jdh jnq _ (by rw[jwR];simp)
 rcases bM.1 e with rfl | e
 ·exact jdh tw_p _ (by rw[juw];simp)
 ·rw[bP.1 e];exact jdh tw_q _ (by rw[jA8];simp)
theorem jqc:(jay []).text=⟨#[128]⟩:=by decide +kernel
theorem jA2:belowM twP=[]:=by rw[jgv tw_p];decide +kernel
theorem jzg:belowM twQ=[]:=by rw[jgv tw_q];decide +kernel
theorem jhw{S:vT}{m:vL}(h:belowM m=[]):newM S m=[(jay m).text]:=by unfold newM;rw[h];rfl
theorem jB7:valL (jaO twP) (jaM ⟨#[97]⟩)=some ⟨#[49]⟩:=by decide +kernel
theorem jB8:valL (jaO twQ) (jaM ⟨#[97]⟩)=none:=by decide +kernel
theorem tw_w:wayN twQ ⟨#[98]⟩=[(jay twQ).text]:=by decide +kernel
theorem jA7:(ky (jay twQ).text=ky (jay []).text)=False/\(ky (jay twQ).text=ky (jay twP).text)=False:=by
 constructor <;>(apply eq_false;decide +kernel)
theorem jA3:∀ c∈twC,c.key.size<=9223372036854775807/\c.value.size<=9223372036854775807:=by unfold twC;simp;decide
theorem jA4:∀ c∈twD,c.key.size<=9223372036854775807/\c.value.size<=9223372036854775807:=by unfold twD;simp;decide
theorem jlq(w:vW)(xs:List Chg)(T:TypeId):RdC (w.alloc (.cells (jdD xs).toArray T)) (.slice (some ⟨w.heap.size,0,none⟩) xs.length xs.length) xs:=
 .inr ⟨w.heap.size,0,xs.length,rfl,by simp,bL _,fun j x e=>by
  obtain⟨o,q,z⟩:=jeT xs j x e
  exact⟨by rw[cR];exact (Blk.new w _).cellL o,by rw[cR];exact (Blk.new w _).cellL q,by rw[cR];exact (Blk.new w _).cellL z⟩⟩
theorem jpQ(w:vW)(xs:vL)(T:TypeId):RdP (w.alloc (.cells (jcl xs).toArray T)) (.slice (some ⟨w.heap.size,0,none⟩) xs.length xs.length) xs:=by
 refine .inr ⟨_,0,_,rfl,(Blk.new w _).lt,bL _,fun j x e=>?_⟩
 obtain⟨o,q⟩:=jdP xs j x e
 exact⟨by rw[cR];exact (Blk.new w _).cellL o,by rw[cR];exact (Blk.new w _).cellL q⟩
theorem jAx{U:vM}{S:vT}(h:Kp U S){k:vB}(hk:k.size≠32):atL S k.data.toList=none:=by
 cases ha:atL S k.data.toList with
 | none=>rfl
 | some y =>
  obtain⟨q,z⟩:=jaU ha
  obtain⟨t,_,e,_⟩:=h.is y q
  have o:=congrArg List.length (z.symm.trans e);have A:(ky t).length=32:=jbb t;rw[A,jaI]at o;exact absurd o hk
theorem jsy(w:vW)(hc:jbN w):vR 20 #[] w (.string (rootM [])):=by
 have A:=Hd (jlw w (.slice none 0 0) [] hc (.inl ⟨none,0,rfl,rfl⟩) jnq);have q:=Hd (show shaB (jay []).text=rootM []from rfl);rw[q.o]at A
 obtain⟨J,z⟩:=vE (rootM [])
 rw[<-z]at A ⊢;clear q z hc;go_enter Tryz.func20,Tryz.ntmps20;go_wp2_with fail
 refine A.o.mono ?_;rintro e w1 ⟨rfl,E⟩;have H:=Hd E;clear E;go_wp2_with fail
 go_ret
 exact⟨rfl,H.o⟩
end
section
open Go Go.RowKit
def jfD(c:Chg):Bool:=decide (c.key.size<=20) && decide (c.value.size<=100)
def fewC(l:List Chg):Bool:=l.all jfD && decide (l.length<=45)
def jzC(w:vW)(l:List Chg)(i:vV)(wr:vW):Prop:=∃ k:Nat,k<=l.length/\k<=46/\i=.int .i64 k/\Ext w wr/\(l.take k).all jfD=true
theorem jrN{l:List Chg}{k:Nat}{p:Chg}(h:l[k]?=some p):(l.take (k+1)).all jfD=((l.take k).all jfD && jfD p):=by
 rw[cE,h,List.all_append];simp
theorem joM{l:List Chg}{k:Nat}{p:Chg}(h:l[k]?=some p)(hb:jfD p=false):fewC l=false:=by
 unfold fewC
 have:l.all jfD=false:=by
  rw[cU];intro e
  have:=dN.1 e p (bJ h)
  rw[hb]at this;cases this
 rw[this];rfl
theorem jxn(w:vW)(v:vV)(l:List Chg)(hv:RdC w v l)(hn:l.length<=9223372036854775807)(hs:∀ p∈l,p.key.size<=9223372036854775807/\p.value.size<=9223372036854775807) :
  vR 7 #[v] w (.bool (fewC l)):=by
 have HV:=Hd hv;have HS:=Hd hs
 obtain⟨a,c,rfl⟩:=hv.sl;clear hv hs
 obtain⟨R,K⟩:=vE (fewC l)
 rw[<-K];have H:=Hd K;clear K;go_enter Tryz.func7,Tryz.ntmps7;go_wp2_with fail
 go_loopw [3] (fun i wr=>jzC w l i wr) (fun i _=>l.length - (intOf i).toNat)
 case atStart=>exact⟨0,by omega,by omega,rfl,ExtR w,rfl⟩
 case round =>
  obtain⟨k,hk,a1,rfl,hE,e⟩:=hrel
  have q:=Hd hE;have A:=Hd e;clear hE e
  by_cases hlt:k < l.length
  ·have b1:(k:Int) < (l.length:Int):=vO
   by_cases h45:k<=45
   ·have O:(k:Int)<=45:=vO
    obtain⟨p,J⟩:∃ p,l[k]?=some p:=⟨_,bA hlt⟩
    rcases HV.o with⟨_,_,_,h0⟩ |⟨b,o,c1,hh,hb,hc,hcell⟩
    ·rw[h0]at hlt;cases hlt
    cases hh
    obtain⟨Q,X,Z⟩:=hcell k p J
    have Q:=jaa Q q.o;have X:=jaa X q.o;have Z:=jaa Z q.o;have a0:=HS.o p (bJ J);have HP:=Hd J
    obtain⟨x,y,gn⟩:=p
    simp only at Q X Z a0;clear hcell hb hc J
    by_cases hx:20 < x.size
    ·have b3:(20:Int) < (x.size:Int):=vO
     have z:=Hd (show R=false by rw[H.o];exact joM HP.o (by unfold jfD;simp;omega));clear hx;go_wp2_with fail
     go_ret
     exact⟨by rw[z.o];rfl,q.o⟩
    ·have b3:¬(20:Int) < (x.size:Int):=vO
     by_cases hy:100 < y.size
     ·have b4:(100:Int) < (y.size:Int):=vO
      have z:=Hd (show R=false by rw[H.o];exact joM HP.o (by unfold jfD;simp;omega));clear hx hy;go_wp2_with fail
      go_ret
      exact⟨by rw[z.o];rfl,q.o⟩
     ·have b4:¬(100:Int) < (y.size:Int):=vO
      have HG:=Hd (show (l.take (k+1)).all jfD=true by rw[jrN HP.o,A.o];unfold jfD;simp;omega);clear hx hy;go_wp2_with fail
      go_roundw
      case rel=>exact⟨k+1,by omega,by omega,by go_num,q.o,HG.o⟩
      case measure=>exact vJ
   ·have O:¬(k:Int)<=45:=vO
    have b3:¬(l.length:Int)<=45:=vO
    have z:=Hd (show R=false by rw[H.o];unfold fewC;simp;omega);clear h45;go_wp2_with fail
    go_ret
    exact⟨by rw[z.o];rfl,q.o⟩
  ·have E:k=l.length:=vO
   have b1:¬(k:Int) < (l.length:Int):=vO
   have e:=A.o;rw[E,cF]at e
   by_cases h45:l.length<=45
   ·have O:(l.length:Int)<=45:=vO
    have z:=Hd (show R=true by rw[H.o];unfold fewC;rw[e];simp;omega);clear E e h45;go_wp2_with fail
    go_ret
    exact⟨by rw[z.o];rfl,q.o⟩
   ·have O:¬(l.length:Int)<=45:=vO
    have z:=Hd (show R=false by rw[H.o];unfold fewC;simp;omega);clear E e h45;go_wp2_with fail
    go_ret
    exact⟨by rw[z.o];rfl,q.o⟩
end
section
open Go Go.ChangeShapes Go.WideShapes Go.ChangeAt Go.RowKit Go.Deep
theorem Tryz.ownK:ownKnob Tryz.prog.godebug=none:=vY
theorem Tryz.laidOutK:laidOutB Tryz.prog=true:=vY
theorem Tryz.cellsStr:Tryz.prog.cellsOf 9=1:=vY
theorem Tryz.cellsBool:Tryz.prog.cellsOf 4=1:=vY
theorem jcW:maxLen<=9223372036854775807:=by unfold maxLen;omega
section
variable {H:Type} {enc:TypeId × vV->H} {w:vW} {base:Nat} {spare:Nat->Bool} {held:Bool}
theorem js9{α:Type}(n:Nat)(d:α)(P:Nat->α->Prop)(h:∀ i,i < n->∃ x,P i x):∃ l:List α,l.length=n/\∀ i x,l[i]?=some x->P i x:=by
 induction n with
 | zero=>exact⟨[],rfl,fun i x o=>by simp at o⟩
 | succ n ih =>
  obtain⟨l,q,z⟩:=ih fun i A=>h i vO
  obtain⟨x,o⟩:=h n vO
  refine⟨l++[x],by simp[q],fun i y e=>?_⟩
  by_cases A:i < n
  ·rw[cW vO]at e;exact z i y e
  ·rw[dA vO]at e
   have:i - l.length=0:=by
    have:=(bW.1 e).1
    simp at this;omega
   rw[this]at e;simp at e;subst e;rw[show i=n by omega];exact o
end
end
section
open Go Go.RowKit
attribute [local go_sem] Oper.semAt_some
end
end Go.Proofs.YtepbencaoiompaaGreatDoor
