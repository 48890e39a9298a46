/- Lemmas; each is under no condition but those that it states. -/
import Derived.Test.YtepbencaoiompaaGreatDoorPa34
namespace Go.Proofs.YtepbencaoiompaaGreatDoor
set_option linter.unusedSimpArgs false
set_option linter.unusedVariables false
set_option maxRecDepth 100000
set_option maxHeartbeats 16000000
section
open Go Go.ChangeShapes Go.WideShapes Go.ChangeAt Go.RowKit Go.ChangeMaps
theorem jhE:laidOutB Tryz.pinned.checked.prog=true:=vY
theorem jfz:mapsRowed Tryz.pinned.checked.prog=true:=vY
theorem jlA:(Tryz.pinned.checked.prog.stops == [])=true:=vY
theorem jfB:(Tryz.pinned.checked.prog.stopKnobs == [])=true:=vY
theorem jfA:(Rows.trieAnyRow.plainKeys == Tryz.pinned.checked.prog.plainKeys)=true:=vY
theorem je7:Tryz.pinned.checked.prog.stopsHeard=true:=vY
theorem jgq:Tryz.pinned.checked.prog.mayEnter=true:=vY
theorem jja:(Rows.trieAnyRow.lifted == Tryz.pinned.checked.prog.liftsFinal)=true:=vY
theorem jox:(Tryz.pinned.checked.prog.make == some Rows.trieAnyRow.make)=true:=vY
theorem jow:Tryz.pinned.checked.prog.mainIs=some (true, "087eabbfeb5a6d94cf76b150faf67893eed89f08030ca4e0b04361998624e316".toList):=vY
theorem jlz:true=Tryz.pinned.checked.prog.looks []:=vY
end
section
open Go Go.RowKit
attribute [local go_sem] Oper.semAt_some
theorem jxc(w0 W:vW)(s bm:Nat)(room:Int)(S:vT)(hs:jax w0 s bm room S)(hE0:Ext w0 W)(g:Nat)(v:vV)(T:vM)(h:jfd w0.heap.size g v T W)(hT:T.length<=1000000)(k:vB)(y:Nd5)(hy:atL S k.data.toList=some y)(f:Nat)(n:jad)(hg:jbd (InlD f) n)(ht:y.2.2.text=jaR n) :
  vQ 49 #[.pointer (some ⟨s,0,none⟩),.string k,.func (.func 30) #[] #[.pointer (some ⟨g,0,none⟩)]] W (jw1 w0.heap.size g v (T++[y.2.2.text]) W n):=by
 have HS:=Hd hs;have X:=Hd hE0;have Z:=Hd h
 obtain⟨t,J⟩:=vE y.2.2.text
 rw[<-J]at ht ⊢;have HT:=Hd ht;have HG:=Hd hg;have hn:=(hg.one (inlP f)).refs;have HN:=Hd hn;have HL:=Hd (n.cells_len hn);have a8:=Hd hT;have q:=fun w (h:jax w s bm room S)=>jdF w s bm room S k h;rw[hy]at q;simp only[fZ,optV, <-J]at q;have a9:=Hd q;clear h hs hE0 ht hg hn hy q hT J;go_enter Tryz.func49,Tryz.ntmps49;go_wp2_with (refine jah Tryz.allocNode rfl rfl ?_;intro W1 a0 K)
 refine vC (a9.o W1 (HS.o.ext (X.o.trans K))) fun w3 O=>?_;have a1:=Hd (a0.keeps O (fun h=>h));have z:=Hd (K.trans O);have b0:=Hd (Z.o.ext z.o);clear O a0 K;go_wp2_with fail
 refine (jti w0.heap.size g v T w3 b0.o (X.o.trans z.o).size a8.o t).mono ?_;rintro e w4 ⟨rfl,v',Q⟩;have a2:=Z.o.var.lt;have a3:=Hd (Q.blk a1.o vO (fun e=>by have:=(Z.o.own _ e).2.2;omega));have b1:=Hd Q;clear Q a2;go_wp2_with fail
 rw[HT.o];refine vC (jf3 (inlP f) w4 n HG.o) fun w5 O=>?_;rw[<-HT.o];have E:=a3.o.keeps O (fun h=>h);have a4:=Hd O;clear O a3;unfold jad.V;go_wp2_with (first |(refine jah Tryz.allocNode rfl rfl ?_;intro W5 b2 a5;refine jae (vs:=n.cells) rfl rfl rfl rfl b2 (by rw[HL.o];rfl) (by rw[HL.o];exact Tryz.szNode) n.one ?_;intro W6 b3 a6;have H:=(E.keeps a5 (fun h=>h)).keeps a6 (by have:=E.lt;omega)) |(refine jaf 99 (.tmp 10) rfl rfl _ _ rfl (jas _ _ n HN.o b3) ?_) |(refine jae (vs:=n.cells) rfl rfl rfl rfl H (by rw[HL.o];rfl) (by rw[HL.o];exact Tryz.szNode) n.one ?_;intro W8 b4 a7))
 refine bodyPost_ret (jaj rfl rfl rfl (jai W8 _ n HN.o b4)) rfl ?_;have b5:Ext w4 W6:=(a4.o.trans a5).trans' a6 (fun x hx e=>by have e:x=w5.heap.size:=e;have:=a4.o.size;omega);have A:=b1.o.ext b5;have b6:W.heap.size < W6.heap.size:=H.lt;have k8:jag (fun b=>b=g\/v.ownBlock=some b) W W8:=((z.o.mono (fun _ _ h=>h.elim):jag (fun b=>b=g\/v.ownBlock=some b) W w3).trans' A.kp (fun x hx e=>e)).trans' a7 (fun x hx e=>by have e:x=W.heap.size:=e;omega);have a2:=Z.o.var.lt
 refine⟨rfl,v',⟨A.at'.off a7 (fun e=>by have e:g=W.heap.size:=e;omega) (fun b hb e=>?_),k8,fun b hb=>(A.sub b hb).imp id (fun k=>bH z.o.size k)⟩⟩
 have e:b=W.heap.size:=e;rcases A.sub b hb with k | k
 ·have:=(Z.o.own b k).2.2;omega
 ·have:=a1.o.lt;omega
def jBg(z g L:Nat)(v:vV)(W:vW)(okv pv:vV)(wr:vW):Prop:=
 ∃ (p:vB) (T:vM) (v':vV),pv=.string p/\jdY z g v W wr v' T/\v'.ownBlock≠some L /\
  ((okv=.bool true/\∃ d n,jbd (InlD d) n/\jaC p=true/\p.size<=2000/\T.length+p.size<=5000/\Blk wr L (.cells n.cells.toArray 99))\/okv=.bool false)
def jzz(z g:Nat)(v:vV)(W:vW)(e:Ending)(w':vW):Prop:=∃ V v' T,e=.returned (folV V)/\jdY z g v W w' v' T
theorem jqT(w0 W:vW)(s bm:Nat)(room:Int)(S:vT)(hs:jax w0 s bm room S)(hE0:Ext w0 W)(g:Nat)(v:vV)(h:jfd w0.heap.size g v [] W)(hN:jdn S)(root:vB)(y:Nd5)(hy:atL S root.data.toList=some y)(key:vB)(hk:key.size<=1000) :
  vQ 27 #[.pointer (some ⟨s,0,none⟩),.string root,.string key,.func (.func 30) #[] #[.pointer (some ⟨g,0,none⟩)]] W (jzz w0.heap.size g v W):=by
 have f0:=Hd hN;have HS:=Hd hs;have f1:=Hd hE0;have HM:=Hd h
 obtain⟨n0,d8⟩:=hN y (jaU hy).1
 obtain⟨ht,d,hg⟩:=jb3 d8
 obtain⟨n,hn⟩:=vE (nodeOf y.2.2.text)
 rw[<-hn]at ht hg;have HG:=Hd hg;have c6:=jxc w0 W s bm room S hs hE0 g v [] h (by simp) root y hy d n hg ht
 obtain⟨ty,c7⟩:=vE ([]++[y.2.2.text])
 rw[<-c7]at c6;have f2:=Hd (show ty.length=1 by rw[c7];rfl);have f3:=Hd c6;have HL:=Hd (n.cells_len (hg.one (inlP d)).refs);have HK:=Hd hk;clear hs hE0 h hg hn c6 hk hN hy d8 ht c7;go_enter Tryz.func27,Tryz.ntmps27;go_wp2_with fail
 refine f3.o.mono ?_;rintro e w1 ⟨rfl,v1,d9⟩;have c5:=Hd d9;clear d9;unfold jad.V;go_wp2_with (first |(refine jah Tryz.allocNode rfl rfl ?_;intro W5 e0 e1;refine jae (vs:=n.cells) rfl rfl rfl rfl e0 (by rw[HL.o];rfl) (by rw[HL.o];exact Tryz.szNode) n.one ?_;intro W6 e2 e3))
 refine vC (jft _ key (by have:=HK.o;omega)) fun w7 A=>?_;have e4:Ext w1 W6:=e1.trans' e3 (fun x hx e=>by have e:x=w1.heap.size:=e;omega);have f4:=Hd ((c5.o.ext e4).ext A);have e5:=Hd (e2.keeps A (fun h=>h));have Z:=Hd (show w1.heap.size≠g/\v1.ownBlock≠some w1.heap.size from⟨by have:=c5.o.at'.var.lt;omega,fun e=>by have:=(c5.o.at'.own _ e).2.2;omega⟩);have a5:Hid (W.heap.size<=w1.heap.size):=c5.o.kp.size
 obtain⟨L,hL⟩:=vE w1.heap.size
 rw[<-hL]at e5 Z a5 ⊢;clear hL A e4 e0 e1 e2 e3
 obtain⟨pk,c8⟩:=vE (jaM key)
 have c9:=Hd c8;rw[<-c8];clear c8;go_wp2_with fail
 go_loopw [11,12] (fun d0 pv wr=>jBg w0.heap.size g L v W d0 pv wr) (fun d0 pv _=>foM d0 pv)
 case atStart =>
  exact⟨pk,ty,v1,rfl,f4.o,Z.o.2,.inl ⟨rfl,d,n,HG.o,by rw[c9.o];exact jbL key,by rw[c9.o,jcJ];have:=HK.o;omega,by rw[f2.o,c9.o,jcJ];have:=HK.o;omega,e5.o⟩⟩
 case round =>
  obtain⟨p,T,v',rfl,hT,b9,hc⟩:=hrel
  have HT:=Hd hT;have H:=Hd b9;have HE:=Hd (HT.o.ext0 HM.o f1.o (bL _));clear hT b9;rcases hc with⟨rfl,dn,m0,h1,h2,h3,hlen,h6⟩ | rfl
  case inr =>
   go_wp2_with fail
   go_ret2
   exact⟨none,v',T,rfl,HT.o⟩
  case inl =>
   obtain⟨k,pa,va,rs⟩:=m0
   have HC:=Hd (bB h2 (bB h3 hlen));have d1:=Hd h1;have HB:=Hd h6;have f8:k<=3:=(h1.one (inlP dn)).kind;have d3:rs.length=16:=(h1.one (inlP dn)).refs;have f9:pa.size<=12:=(h1.one (inlP dn)).path;have g0:=Hd d3;have O:=Hd (jad.cells_len ⟨k,pa,va,rs⟩ d3);have g1:p.size<=1000000:=vO
   have q0:=h6.cellL (i:=0) (v:=.int .i64 k) vF;have q1:=h6.cellL (i:=1) (v:=.string pa) vF;have q2:=h6.cellL (i:=2) (v:=.string va) vF;have Q3:=Hd (show ∀ i r,rs[i]?=some r->wr.cell? ⟨L,3+i,none⟩=some (.string r)from fun i r hi=>h6.cellL (i:=3+i) (v:=.string r) (by
    show (_ :: _ :: _ :: rs.map Value.string)[3+i]?=_;rw[show 3+i=i+1+1+1 by omega];simp[hi]))
   clear d3 h1 h2 h3 hlen h6;have g2:(⟨#[]⟩:vB).toList.isEmpty=true:=by rw[bN];rfl
   cases hcl:jc3 ⟨k,pa,va,rs⟩ p with
   | some u =>
    have f5:=Hd (joz hcl);clear hcl;rcases f5.o with⟨rfl,rfl,rfl⟩ |⟨rfl,rfl,rfl,hz⟩
    ·have a6:wr.cell? ⟨L,0,none⟩=some (.int .i64 1):=q0
     clear q0;go_wp2_with fail
     go_ret2
     exact⟨some _,v',T,rfl,HT.o⟩
    ·have a6:wr.cell? ⟨L,0,none⟩=some (.int .i64 3):=q0
     have g3:va.toList.isEmpty=false:=by
      rw[cU];intro e;rw[dQ,bN]at e;exact hz (by rw[<-jaI,e];rfl)
     clear q0;go_wp2_with fail
     go_ret2
     exact⟨some _,v',T,rfl,HT.o⟩
   | none =>
    obtain⟨r,q,b2⟩:∃ r q,jeJ ⟨k,pa,va,rs⟩ p=(r,q):=⟨_,_,rfl⟩
    by_cases hr0:r.size=0
    ·have e6:=ja1 hr0
     rw[e6]at b2;have f6:=Hd (joA d1.o HC.o.1 b2 hcl);clear hcl b2 hr0 e6;rcases f6.o with rfl |⟨rfl,e7⟩ |⟨rfl,hpre⟩ |⟨rfl,rfl,rfl⟩ |⟨rfl,x,t,hx,hr⟩
     ·have a6:wr.cell? ⟨L,0,none⟩=some (.int .i64 0):=q0
      clear q0;go_wp2_with fail
      refine vC (jbs _) fun X A=>?_;have z:Hid (Ext wr X):=Hd (by first | exact A | exact (jbP _ _).trans A);clear A;go_wp2_with fail
      refine vH (jbR X) fun w3 A=>?_;have E:=Hd (z.o.trans A);have J:=HB.o.keeps E.o (fun h=>h);clear z;unfold jad.V;go_wp2_with (refine jae (vs:=jak.cells) rfl rfl rfl rfl J (by rw[O.o];rfl) (by first | exact Tryz.szNode |(rw[O.o];exact Tryz.szNode)) jak.one ?_;intro W8 a2 K)
      go_roundw
      case rel=>exact⟨_,T,v',rfl,(HT.o.ext E.o).fill K Z.o.1 H.o a5.o,H.o,.inr rfl⟩
      case measure=>simp[foM]
     ·have a6:wr.cell? ⟨L,0,none⟩=some (.int .i64 1):=q0
      have e7:=jb6 e7;clear q0;go_wp2_with fail
      refine vC (jbs _) fun X A=>?_;have z:Hid (Ext wr X):=Hd (by first | exact A | exact (jbP _ _).trans A);clear A;go_wp2_with fail
      refine vH (jbR X) fun w3 A=>?_;have E:=Hd (z.o.trans A);have J:=HB.o.keeps E.o (fun h=>h);clear z;unfold jad.V;go_wp2_with (refine jae (vs:=jak.cells) rfl rfl rfl rfl J (by rw[O.o];rfl) (by first | exact Tryz.szNode |(rw[O.o];exact Tryz.szNode)) jak.one ?_;intro W8 a2 K)
      go_roundw
      case rel=>exact⟨_,T,v',rfl,(HT.o.ext E.o).fill K Z.o.1 H.o a5.o,H.o,.inr rfl⟩
      case measure=>simp[foM]
     ·have a6:wr.cell? ⟨L,0,none⟩=some (.int .i64 2):=q0
      have b3:=Hd hpre;clear q0 hpre;go_wp2_with fail
      refine (jbQ _ p pa vO vO).mono ?_;rintro e d4 ⟨rfl,a7⟩;rw[a7];clear a7;rw[b3.o];go_wp2_with fail
      refine vC (jbs _) fun X A=>?_;have z:Hid (Ext wr X):=Hd (by first | exact A | exact (jbP _ _).trans A);clear A;go_wp2_with fail
      refine vH (jbR X) fun w3 A=>?_;have E:=Hd (z.o.trans A);have J:=HB.o.keeps E.o (fun h=>h);clear z;unfold jad.V;go_wp2_with (refine jae (vs:=jak.cells) rfl rfl rfl rfl J (by rw[O.o];rfl) (by first | exact Tryz.szNode |(rw[O.o];exact Tryz.szNode)) jak.one ?_;intro W8 a2 K)
      go_roundw
      case rel=>exact⟨_,T,v',rfl,(HT.o.ext E.o).fill K Z.o.1 H.o a5.o,H.o,.inr rfl⟩
      case measure=>simp[foM]
     ·have a6:wr.cell? ⟨L,0,none⟩=some (.int .i64 3):=q0
      clear q0;go_wp2_with fail
      refine vC (jbs _) fun X A=>?_;have z:Hid (Ext wr X):=Hd (by first | exact A | exact (jbP _ _).trans A);clear A;go_wp2_with fail
      refine vH (jbR X) fun w3 A=>?_;have E:=Hd (z.o.trans A);have J:=HB.o.keeps E.o (fun h=>h);clear z;unfold jad.V;go_wp2_with (refine jae (vs:=jak.cells) rfl rfl rfl rfl J (by rw[O.o];rfl) (by first | exact Tryz.szNode |(rw[O.o];exact Tryz.szNode)) jak.one ?_;intro W8 a2 K)
      go_roundw
      case rel=>exact⟨_,T,v',rfl,(HT.o.ext E.o).fill K Z.o.1 H.o a5.o,H.o,.inr rfl⟩
      case measure=>simp[foM]
     ·have a6:wr.cell? ⟨L,0,none⟩=some (.int .i64 3):=q0
      obtain⟨h0,a8⟩:=jcc hx
      have a1:x.toNat < 16:=jco (p:=(p,p)) HC.o.1 hx;have q3:=Q3.o _ _ hr;rw[<-a8]at q3 a1;have d5:p.toList.isEmpty=false:=by
       rw[cU];intro e;rw[dQ,bN]at e;rw[hx]at e;cases e
      have c1:(0:Int) < (p.size:Int):=vO
      have c2:((p[0]'h0).toNat:Int) < 16:=vO
      have c3:(1:Int)<=(p.size:Int):=vO
      clear q0 hx hr a8;go_wp2_with fail
      go_quiet (fail)
      go_wp2_with fail
      refine vC (jbs _) fun X A=>?_;have z:Hid (Ext wr X):=Hd (by first | exact A | exact (jbP _ _).trans A);clear A;go_wp2_with fail
      refine vH (jbR X) fun w3 A=>?_;have E:=Hd (z.o.trans A);have J:=HB.o.keeps E.o (fun h=>h);clear z;unfold jad.V;go_wp2_with (refine jae (vs:=jak.cells) rfl rfl rfl rfl J (by rw[O.o];rfl) (by first | exact Tryz.szNode |(rw[O.o];exact Tryz.szNode)) jak.one ?_;intro W8 a2 K)
      go_roundw
      case rel=>exact⟨_,T,v',rfl,(HT.o.ext E.o).fill K Z.o.1 H.o a5.o,H.o,.inr rfl⟩
      case measure=>simp[foM]
    ·obtain⟨c0,a3,b1⟩:=jp2 d1.o HC.o.1 b2 hr0
     have Q:=Hd (bB a3 b1);have f7:=Hd (show r.size<=1000000000 by have:=c0.size (inlP dn);omega);have HY:=Hd (jig d1.o HC.o.1 b2 hr0);have a0:=fun w=>jdK w r f7.o;rcases c0 with hh |⟨m,hi⟩
     case inr =>
      cases dn with
      | zero=>exact hi.elim
      | succ dn =>
      have b5:=jc4 (inlP (dn+1)) hi;have e8:=Hd (fun w=>(inlP (dn+1)).inl _ _ hi w);have b6:=Hd hi.1;have a9:=Hd (m.cells_len (hi.1.one (inlP dn)).refs);rw[jgj,b5]at a0;simp only[optV]at a0;have HH:=Hd a0;clear a0 b5 hi hcl a3 b1 hr0 b2;rcases HY.o with⟨rfl,hpre,hr,rfl,hle⟩ |⟨rfl,x,t,hx,hr,rfl⟩
      ·have a6:wr.cell? ⟨L,0,none⟩=some (.int .i64 2):=q0
       have b3:=Hd hpre;have q3:=Q3.o 0 _ hr;have c1:(pa.size:Int)<=(p.size:Int):=vO
       clear q0 hpre hr hle;go_wp2_with fail
       refine (jbQ _ p pa vO vO).mono ?_;rintro e d4 ⟨rfl,a7⟩;rw[a7];clear a7;rw[b3.o];go_wp2_with fail
       go_quiet (fail)
       go_wp2_with fail
       refine vC (HH.o _) fun X A=>?_;have z:Hid (Ext wr X):=Hd (by first | exact A | exact (jbP _ _).trans A);clear A;go_wp2_with fail
       refine vH (e8.o X) fun w3 A=>?_;have E:=Hd (z.o.trans A);have J:=HB.o.keeps E.o (fun h=>h);clear z;unfold jad.V;go_wp2_with (refine jae (vs:=m.cells) rfl rfl rfl rfl J (by rw[O.o,a9.o]) (by rw[a9.o];exact Tryz.szNode) m.one ?_;intro W8 a2 K)
       go_roundw
       case rel=>exact⟨_,T,v',rfl,(HT.o.ext E.o).fill K Z.o.1 H.o a5.o,H.o,.inl ⟨rfl,dn,m,b6.o,Q.o.2,by have:=Q.o.1;have:=HC.o.2.1;omega,by have:=Q.o.1;have:=HC.o.2.2;omega,a2⟩⟩
       case measure=>have h9:=Q.o.1;simp only[foM,jgr];omega
      ·have a6:wr.cell? ⟨L,0,none⟩=some (.int .i64 3):=q0
       obtain⟨h0,a8⟩:=jcc hx
       have a1:x.toNat < 16:=jco (p:=(p,p)) HC.o.1 hx;have q3:=Q3.o _ _ hr;rw[<-a8]at q3 a1;have d5:p.toList.isEmpty=false:=by
        rw[cU];intro e;rw[dQ,bN]at e;rw[hx]at e;cases e
       have c1:(0:Int) < (p.size:Int):=vO
       have c2:((p[0]'h0).toNat:Int) < 16:=vO
       have c3:(1:Int)<=(p.size:Int):=vO
       clear q0 hx hr a8;go_wp2_with fail
       go_quiet (fail)
       go_wp2_with fail
       refine vC (HH.o _) fun X A=>?_;have z:Hid (Ext wr X):=Hd (by first | exact A | exact (jbP _ _).trans A);clear A;go_wp2_with fail
       refine vH (e8.o X) fun w3 A=>?_;have E:=Hd (z.o.trans A);have J:=HB.o.keeps E.o (fun h=>h);clear z;unfold jad.V;go_wp2_with (refine jae (vs:=m.cells) rfl rfl rfl rfl J (by rw[O.o,a9.o]) (by rw[a9.o];exact Tryz.szNode) m.one ?_;intro W8 a2 K)
       go_roundw
       case rel=>exact⟨_,T,v',rfl,(HT.o.ext E.o).fill K Z.o.1 H.o a5.o,H.o,.inl ⟨rfl,dn,m,b6.o,Q.o.2,by have:=Q.o.1;have:=HC.o.2.1;omega,by have:=Q.o.1;have:=HC.o.2.2;omega,a2⟩⟩
       case measure=>have h9:=Q.o.1;simp only[foM,jgr];omega
     case inl =>
      obtain⟨h,h1,h2⟩:=hh
      have b5:jcH r=some h:=by rw[h2];exact jdc h1
      rw[jgj,b5]at a0;simp only[optV]at a0;have HH:=Hd a0;cases ha:atL S h.data.toList with
      | none =>
       have a4:=Hd (fun w (e:Ext w0 w)=>joN w s bm room S (HS.o.ext e) (.func (.func 30) #[] #[.pointer (some ⟨g,0,none⟩)]) h ha);clear a0 b5 h1 h2 hcl a3 b1 hr0 b2 ha;rcases HY.o with⟨rfl,hpre,hr,rfl,hle⟩ |⟨rfl,x,t,hx,hr,rfl⟩
       ·have a6:wr.cell? ⟨L,0,none⟩=some (.int .i64 2):=q0
        have b3:=Hd hpre;have q3:=Q3.o 0 _ hr;have c1:(pa.size:Int)<=(p.size:Int):=vO
        clear q0 hpre hr hle;go_wp2_with fail
        refine (jbQ _ p pa vO vO).mono ?_;rintro e d4 ⟨rfl,a7⟩;rw[a7];clear a7;rw[b3.o];go_wp2_with fail
        go_quiet (fail)
        go_wp2_with fail
        refine vC (HH.o _) fun X A=>?_;have z:Hid (Ext wr X):=Hd (by first | exact A | exact (jbP _ _).trans A);clear A;go_wp2_with fail
        refine vH (a4.o X (HE.o.trans z.o)) fun w3 A=>?_;have E:=Hd (z.o.trans A);have J:=HB.o.keeps E.o (fun h=>h);clear z;unfold jad.V;go_wp2_with (refine jae (vs:=jak.cells) rfl rfl rfl rfl J (by rw[O.o];rfl) (by first | exact Tryz.szNode |(rw[O.o];exact Tryz.szNode)) jak.one ?_;intro W8 a2 K)
        go_roundw
        case rel=>exact⟨_,T,v',rfl,(HT.o.ext E.o).fill K Z.o.1 H.o a5.o,H.o,.inr rfl⟩
        case measure=>simp[foM]
       ·have a6:wr.cell? ⟨L,0,none⟩=some (.int .i64 3):=q0
        obtain⟨h0,a8⟩:=jcc hx
        have a1:x.toNat < 16:=jco (p:=(p,p)) HC.o.1 hx;have q3:=Q3.o _ _ hr;rw[<-a8]at q3 a1;have d5:p.toList.isEmpty=false:=by
         rw[cU];intro e;rw[dQ,bN]at e;rw[hx]at e;cases e
        have c1:(0:Int) < (p.size:Int):=vO
        have c2:((p[0]'h0).toNat:Int) < 16:=vO
        have c3:(1:Int)<=(p.size:Int):=vO
        clear q0 hx hr a8;go_wp2_with fail
        go_quiet (fail)
        go_wp2_with fail
        refine vC (HH.o _) fun X A=>?_;have z:Hid (Ext wr X):=Hd (by first | exact A | exact (jbP _ _).trans A);clear A;go_wp2_with fail
        refine vH (a4.o X (HE.o.trans z.o)) fun w3 A=>?_;have E:=Hd (z.o.trans A);have J:=HB.o.keeps E.o (fun h=>h);clear z;unfold jad.V;go_wp2_with (refine jae (vs:=jak.cells) rfl rfl rfl rfl J (by rw[O.o];rfl) (by first | exact Tryz.szNode |(rw[O.o];exact Tryz.szNode)) jak.one ?_;intro W8 a2 K)
        go_roundw
        case rel=>exact⟨_,T,v',rfl,(HT.o.ext E.o).fill K Z.o.1 H.o a5.o,H.o,.inr rfl⟩
        case measure=>simp[foM]
      | some y2 =>
       obtain⟨n2,e9⟩:=f0.o y2 (jaU ha).1
       obtain⟨d6,d2,b7⟩:=jb3 e9
       obtain⟨m,hm⟩:=vE (nodeOf y2.2.2.text)
       rw[<-hm]at d6 b7;have a4:=Hd (fun w (e:Ext w0 w) (hm:jfd w0.heap.size g v' T w)=>jxc w0 w s bm room S HS.o e g v' T hm (by have:=HC.o.2.2;omega) h y2 ha d2 m b7 d6)
       obtain⟨t2,b4⟩:=vE (T++[y2.2.2.text])
       rw[<-b4]at a4;have c4:=Hd (show t2.length=T.length+1 by rw[b4,bF];rfl);have b6:=Hd b7;have a9:=Hd (m.cells_len (b7.one (inlP d2)).refs);clear a0 b5 h1 h2 hcl a3 b1 hr0 b2 ha e9 d6 b7 hm b4;rcases HY.o with⟨rfl,hpre,hr,rfl,hle⟩ |⟨rfl,x,t,hx,hr,rfl⟩
       ·have a6:wr.cell? ⟨L,0,none⟩=some (.int .i64 2):=q0
        have b3:=Hd hpre;have q3:=Q3.o 0 _ hr;have c1:(pa.size:Int)<=(p.size:Int):=vO
        clear q0 hpre hr hle;go_wp2_with fail
        refine (jbQ _ p pa vO vO).mono ?_;rintro e d4 ⟨rfl,a7⟩;rw[a7];clear a7;rw[b3.o];go_wp2_with fail
        go_quiet (fail)
        go_wp2_with fail
        refine vC (HH.o _) fun X A=>?_;have z:Hid (Ext wr X):=Hd (by first | exact A | exact (jbP _ _).trans A);clear A;go_wp2_with fail
        refine (a4.o X (HE.o.trans z.o) (HT.o.at'.ext z.o)).mono ?_;rintro e w3 ⟨rfl,v3,b0⟩;have d7:=Hd ((HT.o.ext z.o).trans b0);have J:=b0.blk (HB.o.keeps z.o (fun h=>h)) Z.o.1 H.o;have b8:=Hd (show v3.ownBlock≠some L from fun e=>by
         rcases b0.sub L e with e | e
         ·exact H.o e
         ·have:=HB.o.lt;have:=z.o.size;omega)
        clear b0 z;unfold jad.V;go_wp2_with (refine jae (vs:=m.cells) rfl rfl rfl rfl J (by rw[O.o,a9.o]) (by rw[a9.o];exact Tryz.szNode) m.one ?_;intro W8 a2 K)
        go_roundw
        case rel=>exact⟨_,t2,v3,rfl,d7.o.fill K Z.o.1 b8.o a5.o,b8.o,.inl ⟨rfl,d2,m,b6.o,Q.o.2,by have:=Q.o.1;have:=HC.o.2.1;omega,by have:=Q.o.1;have:=HC.o.2.2;have:=c4.o;omega,a2⟩⟩
        case measure=>have h9:=Q.o.1;simp only[foM,jgr];omega
       ·have a6:wr.cell? ⟨L,0,none⟩=some (.int .i64 3):=q0
        obtain⟨h0,a8⟩:=jcc hx
        have a1:x.toNat < 16:=jco (p:=(p,p)) HC.o.1 hx;have q3:=Q3.o _ _ hr;rw[<-a8]at q3 a1;have d5:p.toList.isEmpty=false:=by
         rw[cU];intro e;rw[dQ,bN]at e;rw[hx]at e;cases e
        have c1:(0:Int) < (p.size:Int):=vO
        have c2:((p[0]'h0).toNat:Int) < 16:=vO
        have c3:(1:Int)<=(p.size:Int):=vO
        clear q0 hx hr a8;go_wp2_with fail
        go_quiet (fail)
        go_wp2_with fail
        refine vC (HH.o _) fun X A=>?_;have z:Hid (Ext wr X):=Hd (by first | exact A | exact (jbP _ _).trans A);clear A;go_wp2_with fail
        refine (a4.o X (HE.o.trans z.o) (HT.o.at'.ext z.o)).mono ?_;rintro e w3 ⟨rfl,v3,b0⟩;have d7:=Hd ((HT.o.ext z.o).trans b0);have J:=b0.blk (HB.o.keeps z.o (fun h=>h)) Z.o.1 H.o;have b8:=Hd (show v3.ownBlock≠some L from fun e=>by
         rcases b0.sub L e with e | e
         ·exact H.o e
         ·have:=HB.o.lt;have:=z.o.size;omega)
        clear b0 z;unfold jad.V;go_wp2_with (refine jae (vs:=m.cells) rfl rfl rfl rfl J (by rw[O.o,a9.o]) (by rw[a9.o];exact Tryz.szNode) m.one ?_;intro W8 a2 K)
        go_roundw
        case rel=>exact⟨_,t2,v3,rfl,d7.o.fill K Z.o.1 b8.o a5.o,b8.o,.inl ⟨rfl,d2,m,b6.o,Q.o.2,by have:=Q.o.1;have:=HC.o.2.1;omega,by have:=Q.o.1;have:=HC.o.2.2;have:=c4.o;omega,a2⟩⟩
        case measure=>have h9:=Q.o.1;simp only[foM,jgr];omega
theorem jwo(W:vW)(s bm:Nat)(room:Int)(S:vT)(hs:jax W s bm room S)(hN:jdn S)(root:vB)(y:Nd5)(hy:atL S root.data.toList=some y)(key:vB)(hk:key.size<=1000) :
  vQ 11 #[.pointer (some ⟨s,0,none⟩),.string root,.string key] W fun e w'=>(∃ v k,e=.returned (.tuple #[v,.int .i64 k]))/\Ext W w':=by
 have A:=Hd (fun(W1:vW) (h1:Ext W W1) (h2:jfd W.heap.size W.heap.size (.slice none 0 0) [] W1)=>jqT W W1 s bm room S hs h1 W.heap.size (.slice none 0 0) h2 hN root y hy key hk);clear hs hN hy hk;go_enter Tryz.func11,Tryz.ntmps11;go_wp2_with fail
 have H:Ext W (W.alloc (.cells #[.slice none 0 0] 22)):=(ExtR W).alloc _;have z:jfd W.heap.size W.heap.size (.slice none 0 0) [] (W.alloc (.cells #[.slice none 0 0] 22)):=⟨bL _,Blk.new W _,⟨0,rfl,.inl ⟨rfl,rfl⟩⟩,fun b hb=>by cases hb⟩;have J:=Hd z;have Z:=Hd H;have O:=A.o _ H z;clear z H A;refine O.mono ?_;rintro e w2 ⟨V,v',T,rfl,E⟩
 obtain⟨n,Q⟩:=E.at'.row
 obtain⟨a,c,K⟩:=jaL Q
 have q:=E.at'.var.cell (i:=0) (v:=v') vF;have X:=Hd (E.ext0 J.o Z.o (bL _));subst K;clear O E Q;cases V with
 | none =>
  unfold folV;go_wp2_with fail
  go_ret2
  exact⟨⟨_,_,rfl⟩,X.o⟩
 | some u =>
  unfold folV;go_wp2_with fail
  go_ret2
  exact⟨⟨_,_,rfl⟩,X.o⟩
theorem jB6:(rootM [] == rootM [])=true/\(rootM twQ == rootM twQ)=true:=by
 constructor <;>(rw[jhN];exact decide_eq_true rfl)
theorem jwQ:Part [] [] [(⟨#[128]⟩:vB)]:=by
 have h:=jpI [] jnq;rw[jwR,jqc]at h;exact h
structure TwS(w0 W:World)(s bm:Nat)(S:vT)(n:Nat):Prop where
 ext:Ext w0 W
 st:jax W s bm 100 S
 kp:Kp twU S
 len:S.length<=n
 bnew:w0.heap.size<=bm
 new:∀ x∈S,w0.heap.size<=x.2.1
 hb:∀ x∈S,x.2.2.held<=n
theorem TwS.grow{w0 W W':vW}{s bm:Nat}{S:vT}{n:Nat}(h:TwS w0 W s bm S n)(k:Ext W W'):TwS w0 W' s bm S n:=
 ⟨h.ext.trans k,h.st.ext k,h.kp,h.len,h.bnew,h.new,h.hb⟩
theorem TwS.bds{w0 W:vW}{s bm:Nat}{S:vT}{n:Nat}(h:TwS w0 W s bm S n)(hn:n<=5):S.length<=100000/\(∀ x∈S,0<=x.2.2.used/\x.2.2.used<=1000000000)/\(∀ x∈S,0<=x.2.2.held/\x.2.2.held<=1000000000):=
 ⟨by have:=h.len;omega,h.kp.bd (by have:=h.len;omega),fun x e=>⟨h.kp.cnt.held x e,by have:=h.hb x e;omega⟩⟩
theorem TwS.nodes{w0 W:vW}{s bm:Nat}{S:vT}{n:Nat}(h:TwS w0 W s bm S n):jdn S:=h.kp.nodes jwP
theorem TwS.add{w0 W W':vW}{s bm:Nat}{S S':vT}{n:Nat}{m:vL}{L:vM}{e:Ending}(h:TwS w0 W s bm S n)(hL:L.length=1)(hY:ComY W s bm 100 twU S m L e W' S'):TwS w0 W' s bm S' (n+1):=
 ⟨h.ext.trans' hY.kp (fun z A e=>by
  rcases e with e | e
  ·have:=h.bnew;omega
  ·obtain⟨y,o,e⟩:=bI.1 e
   have:=h.new y o;omega),hY.st,hY.add.kp,by have:=hY.add.len;have:=h.len;omega,h.bnew,fun x q=>by
  rcases hY.add.blk x q with e | e
  ·obtain⟨y,o,e⟩:=bI.1 e
   have:=h.new y o;omega
  ·have:=h.ext.size;omega,fun x q=>by
   have:=hY.add.bd n vO h.hb x q
   omega⟩
theorem jwY(w:vW)(hc:jbN w)(he:ErrT w):vR 5 #[] w (.bool true):=by
 have HC:=Hd hc;have a7:=Hd he;clear hc he;go_enter Tryz.func5,Tryz.ntmps5;go_wp2_with fail
 refine (jnl w 100).mono ?_;rintro e w1 ⟨s,Q,rfl,H,hS,b3,c1,c2⟩;have b4:=Hd (show TwS w w1 s Q [] 0 from⟨H,hS,Kp.none _,bL _,b3,(fun x hx=>by cases hx),(fun x hx=>by cases hx)⟩);clear H hS b3 c1 c2;have d2:∀ W:vW,(convert 42 9 (.slice (some ⟨W.heap.size,0,none⟩) 1 1)).run Tryz.prog (W.alloc (.cells #[.int .u8 128] 5))=.ok (.string ⟨#[128]⟩) (W.alloc (.cells #[.int .u8 128] 5)):=fun W =>
  jbj (l:=[128]) _ Tryz.uBytes Tryz.uU8 Tryz.uStr (World.ownsRow_lit W #[.int .u8 128] 1 (bY _) (by unfold maxLen;omega) rfl)
 go_wp2_with fail
 have b5:=((ExtR w1).alloc (.cells #[.int .u8 128] 5)).alloc (.cells #[.string ⟨#[128]⟩] 9);have b6:RdS ((w1.alloc (.cells #[.int .u8 128] 5)).alloc (.cells #[.string ⟨#[128]⟩] 9)) (.slice (some ⟨w1.heap.size+1,0,none⟩) 1 1) [⟨#[128]⟩]:=by
  have:=jbK (w1.alloc (.cells #[.int .u8 128] 5)) [⟨#[128]⟩] 9
  rwa [bK]at this
 have X:=Hd (b4.o.grow b5);refine (jkw _ (HC.o.ext X.o.ext) (a7.o.ext X.o.ext) s Q 100 [] X.o.st _ [⟨#[128]⟩] b6 False (jhd (fun t ht=>by
  obtain⟨n,hn⟩:=jdh jnq t (by rw[jwR,jqc];exact ht)
  exact⟨n,hn⟩)) (by simp) ⟨#[128]⟩ rfl vI vI (by simp) (fun x hx=>by cases hx) (fun x hx=>by cases hx)).mono ?_
 intro e w3 hA;rcases joL _ _ jjh (Kp.none twU) jwQ jA5 (by simp) (ExtR _) hA with⟨_,_,h3⟩ |⟨S3,q⟩
 ·simp at h3
 have Z:=q.res;subst Z;have b0:=Hd (X.o.add rfl q);have b7:=Hd (q.add.has jjh jnq jA5);have c3:=Hd (show jn8 (atL S3 (ky (jay twQ).text))=0 by rw[q.add.held,if_neg (by rw[jA7.1];exact fun e=>e)];rfl);clear hA q b6 b5 b4 X;go_wp2_with fail
 refine vH (jsy w3 (HC.o.ext b0.o.ext)) fun w4 H=>?_;have b8:=Hd (b0.o.grow H);clear b0;go_wp2_with fail
 have J:=(ExtR w4).alloc (.cells (jdD twC).toArray 50);have A:=Hd (b8.o.grow J);have hb:=A.o.bds vI;refine (jkJ _ (HC.o.ext A.o.ext) (a7.o.ext A.o.ext) s Q 100 S3 A.o.st A.o.nodes [] b7.o _ twC (jlq w4 twC 50) vI jA3 vI vI hb.1 hb.2.1 hb.2.2).mono ?_;intro e w6 a4
 obtain⟨S6,q⟩:=jkI _ jjh A.o.kp jB3 (by rw[jze];exact jzh) a4 (by rw[jze,jhw jA2];have:=A.o.len;simp;omega)
 rw[jze,jhw jA2]at q;have Z:=q.res;subst Z;have b9:=Hd (A.o.add rfl q);have b1:=Hd (q.add.has jjh tw_p jzh);have c4:=Hd (show jn8 (atL S6 (ky (jay twQ).text))=0 by rw[q.add.held,c3.o,if_neg (by rw[jA7.2];exact fun e=>e)];rfl);clear hb a4 q J b8 A b7;go_wp2_with fail
 have J:=(ExtR w6).alloc (.cells (jdD twD).toArray 50);have E:=Hd (b9.o.grow J);have hb:=E.o.bds vI;refine (jkJ _ (HC.o.ext E.o.ext) (a7.o.ext E.o.ext) s Q 100 S6 E.o.st E.o.nodes twP b1.o _ twD (jlq w6 twD 50) vI jA4 vI vI hb.1 hb.2.1 hb.2.2).mono ?_;intro e w8 a4
 obtain⟨S8,q⟩:=jkI _ jjh E.o.kp jB4 (by rw[jzf];exact jA6) a4 (by rw[jzf,jhw jzg];have:=E.o.len;simp;omega)
 rw[jzf,jhw jzg]at q;have Z:=q.res;subst Z;have a8:=Hd (E.o.add rfl q);have c5:=Hd (show jn8 (atL S8 (ky (jay twQ).text))=1 by rw[q.add.held,c4.o,if_pos rfl];rfl);have a5:=Hd (bB (q.add.more jjh jzh b1.o) (q.add.has jjh tw_q jA6));clear hb a4 q J b9 E b1;go_wp2_with fail
 refine vH (jxo w8 s Q 100 S8 a8.o.st a8.o.nodes twP a5.o.1 ⟨#[97]⟩ vI) fun w9 H=>?_;have a9:=Hd (a8.o.grow H);rw[jB7];clear a8;unfold folV;go_wp2_with fail
 refine vH (jxo w9 s Q 100 S8 a9.o.st a9.o.nodes twQ a5.o.2 ⟨#[97]⟩ vI) fun c6 H=>?_;have K:=Hd (a9.o.grow H);rw[jB8];clear a9;unfold folV;go_wp2_with fail
 refine vH (jsG c6 s Q 100 S8 K.o.st ⟨#[120]⟩ ⟨#[97]⟩ (jAx K.o.kp vI)) fun c0 H=>?_;have a6:=Hd (K.o.grow H);clear K;go_wp2_with fail
 have J:=(ExtR c0).alloc (.cells (jcl twQ).toArray 53);have a0:=Hd (a6.o.grow J);refine vH (jlw _ _ twQ (HC.o.ext a0.o.ext) (jpQ c0 twQ 53) tw_q) fun c7 H=>?_;rw[show shaB (jay twQ).text=rootM twQ from rfl];have O:=Hd (a0.o.grow H);clear J a6 a0;go_wp2_with fail
 refine (jxA c7 s Q 100 S8 O.o.st O.o.nodes twP a5.o.1).mono ?_;rintro e c8 ⟨d3,rfl,hR⟩;have a1:=Hd (O.o.grow hR.ext)
 obtain⟨d4,d5,rfl⟩:=hR.sl
 clear hR O;go_wp2_with fail
 have hP:=jyQ c8 s Q 100 S8 a1.o.st twQ a5.o.2 ⟨#[98]⟩ vI;rw[tw_w,show shaB (jay twQ).text=rootM twQ from rfl]at hP;refine hP.mono ?_;rintro e c9 ⟨d6,d7,rfl,hR⟩;have z:=Hd (a1.o.grow hR.ext);clear hR hP a1;go_wp2_with fail
 refine (jzj c9 (HC.o.ext z.o.ext) (a7.o.ext z.o.ext) s Q 100 S8 z.o.st z.o.nodes twQ a5.o.2 (.slice none 0 0) [] (.inl ⟨none,0,rfl,rfl⟩) vI (fun c hc=>by cases hc)).mono ?_;intro e d0 hU;unfold UpdP at hU;rw[if_pos jB5,jB2,jhw jzg]at hU
 obtain⟨r,rfl,hR⟩:=hU
 have a2:=Hd (z.o.grow hR.ext)
 obtain⟨d8,d9,rfl⟩:=hR.sl
 clear hR z;go_wp2_with fail
 refine vH (jsy d0 (HC.o.ext a2.o.ext)) fun d1 H=>?_;have a3:=Hd (a2.o.grow H);have hq:=jB6
 obtain⟨e0,e1⟩:=hq
 clear a2;go_wp2_with fail
 have hH:=jy8 d1 s Q 100 S8 (rootM twQ) a3.o.st;rw[show jn8 (atL S8 (rootM twQ).data.toList)=1 from c5.o]at hH;refine hH.mono ?_;rintro e e2 ⟨rfl,H⟩;have b2:=Hd (a3.o.grow H);clear H a3 hH;go_wp2_with fail
 go_ret
 exact⟨rfl,b2.o.ext⟩
def TelB(W:vW)(S:vT)(root:vB)(e:Ending)(w':vW):Prop:=∃ (v:vV) (k:Int),e=.returned (.tuple #[v,.int .i64 k])/\(atL S root.data.toList=none->k=4)/\Ext W w'
theorem jn5{w W:vW}{s bm:Nat}{S:vT}(h:AnT w s bm S W)(root key:vB)(hk:key.size<=1000) :
  vQ 9 #[.pointer (some ⟨s,0,none⟩),.string root,.string key] W (TelB W S root):=by
 cases hy:atL S root.data.toList with
 | none=>exact (jsG W s bm 100 S h.st root key hy).mono fun e w' k=>⟨_,4,k.1,fun _=>rfl,k.2⟩
 | some y =>
  refine (jpk W s bm 100 S h.st h.all root y hy key hk).mono fun e w' k=>?_
  obtain⟨x,j,o⟩:∃ x j,folV (folN S ((jaM key).size+1) (nodeOf y.2.2.text) (jaM key))=.tuple #[x,.int .i64 j]:=by
   cases folN S ((jaM key).size+1) (nodeOf y.2.2.text) (jaM key) <;> exact⟨_,_,rfl⟩
  exact⟨x,j,by rw[k.1,o],fun e=>(by rw[hy]at e;cases e),k.2⟩
theorem jlk{w W:vW}{s bm:Nat}{S:vT}(h:AnT w s bm S W)(root key:vB)(hk:key.size<=1000) :
  vQ 11 #[.pointer (some ⟨s,0,none⟩),.string root,.string key] W (TelB W S root):=by
 cases hy:atL S root.data.toList with
 | none=>exact (jwn W s bm 100 S h.st root key hy).mono fun e w' k=>⟨_,4,k.1,fun _=>rfl,k.2⟩
 | some y =>
  refine (jwo W s bm 100 S h.st h.all root y hy key hk).mono ?_;rintro e w' ⟨⟨v,k,o⟩,q⟩
  exact⟨v,k,o,fun e=>(by rw[hy]at e;cases e),q⟩
theorem jnE{w W:vW}{s bm:Nat}{S:vT}(h:AnT w s bm S W)(root:vB) :
  vQ 10 #[.pointer (some ⟨s,0,none⟩),.string root] W (TelB W S root):=by
 refine (jrL W s bm 100 S h.st h.all root).mono ?_;rintro e w' (⟨_,rfl,o⟩ |⟨P,v,q,_,rfl,z⟩)
 ·exact⟨_,4,rfl,fun _=>rfl,o⟩
 ·exact⟨_,0,rfl,fun e=>absurd (jgW e) q,z.ext⟩
theorem joG{w W:vW}(hc:jbN W)(he:ErrT W){s bm:Nat}{S:vT}(h:AnT w s bm S W)(root:vB)(u:vV)(cs:List Chg)(hu:RdC W u cs)(hnc:cs.length<=9223372036854775807)(hsc:∀ c∈cs,c.key.size<=9223372036854775807/\c.value.size<=9223372036854775807) :
  vQ 12 #[.pointer (some ⟨s,0,none⟩),.string root,u] W (TelB W S root):=by
 refine (joF W hc he s bm 100 S h.st h.all root u cs hu hnc hsc).mono ?_;rintro e w' (⟨k,_,o,rfl,q⟩ |⟨r,Q,z,rfl,_,A⟩)
 ·exact⟨_,k,rfl,fun e=>o (jgW e),q⟩
 ·exact⟨_,0,rfl,fun e=>absurd (jgW e) z,A.ext⟩
theorem jz3(w:vW)(hc:jbN w)(he:ErrT w)(v u:vV)(l:vM)(cs:List Chg)(root key:vB)(hv:RdS w v l)(hn:l.length<=9223372036854775807)(hs:∀ t∈l,t.size<=9223372036854775807)(hr:root.size<=9223372036854775807)(hy:key.size<=9223372036854775807)(hu:RdC w u cs)(hnc:cs.length<=9223372036854775807)(hsc:∀ c∈cs,c.key.size<=9223372036854775807/\c.value.size<=9223372036854775807) :
  vR 3 #[v,.string root,.string key,u] w (.bool true):=by
 have HC:=Hd hc;have HG:=Hd he;have HV:=Hd hv;have HU:=Hd hu;have K:=Hd (bB hn (bB hnc (bB hs hsc)))
 obtain⟨va,vc,b2,b3⟩:=hv.slice
 subst b2
 obtain⟨ua,uc,b4⟩:=hu.sl
 subst b4;clear hc he hv hu hn hs hnc hsc b3;go_enter Tryz.func3,Tryz.ntmps3;go_wp2_with fail
 refine vH (jwY w HC.o HG.o) fun w1 a7=>?_;go_wp2_with fail
 refine (jnl w1 100).mono ?_;rintro e w2 ⟨s,bm,rfl,z,a8,a9,b5,b6⟩;have A2:=Hd (AnT.none a8 (a7.o.trans z) a9 a7.o.size);clear z a8 a9 b5 b6;go_wp2_with fail
 refine vC (jxn w2 _ cs (HU.o.ext A2.o.ext) K.o.2.1 K.o.2.2.2) fun w3 z=>?_;have A3:=Hd (A2.o.more z);clear z A2;cases hfc:fewC cs with
 | false =>
  go_wp2_with fail
  go_ret
  exact⟨rfl,A3.o.ext⟩
 | true =>
  by_cases c0:(10:Int) < (l.length:Int)
  ·go_wp2_with fail
   go_ret
   exact⟨rfl,A3.o.ext⟩
  by_cases c1:(50:Int) < (key.size:Int)
  ·go_wp2_with fail
   go_ret
   exact⟨rfl,A3.o.ext⟩
  by_cases c2:(50:Int) < (root.size:Int)
  ·go_wp2_with fail
   go_ret
   exact⟨rfl,A3.o.ext⟩
  have HL:=Hd (show l.length<=10/\key.size<=50/\root.size<=50 by omega);go_wp2_with fail
  clear c0 c1 c2;go_loopw [12] (fun iv wr=>AnR w3 l iv wr) (fun iv _=>l.length - (intOf iv).toNat)
  case atStart=>exact⟨0,bY _,rfl,rfl,fun t ht=>by cases ht⟩
  case round =>
   obtain⟨i,hi,rfl,rfl,O⟩:=hrel
   by_cases hlt:i < l.length
   ·have b1:(i:Int) < (l.length:Int):=vO
    obtain⟨t,ht⟩:∃ t,l[i]?=some t:=⟨_,bA hlt⟩
    rcases HV.o with⟨_,_,_,h0⟩ |⟨b,o,c1',hv',hb,hcc,hcell⟩
    ·rw[h0]at hlt;cases hlt
    cases hv';have q1:=jaa (hcell i t ht) A3.o.ext;have HT:=Hd (bB ht O);clear hcell ht hb hcc O
    by_cases c1:(700:Int) < (t.size:Int)
    ·go_wp2_with fail
     go_ret
     exact⟨rfl,A3.o.ext⟩
    ·go_wp2_with fail
     go_roundw
     case rel=>exact⟨i+1,by omega,by go_num,rfl,fun x hx=>by
      rw[cE,HT.o.1]at hx;rcases bT.1 hx with hx | hx
      ·exact HT.o.2 x hx
      ·rw[bP.1 hx];omega⟩
     case measure=>exact vJ
   ·have b7:i=l.length:=vO
    subst b7;rw[cF]at O;have b8:=Hd O;clear O;have A0:=A3
    obtain⟨S0,a4⟩:∃ S0:vT,S0=[]:=⟨_,rfl⟩
    rw[<-a4]at A0;have b9:=Hd (show ∀ x∈S0,x.2.2.held<=(0:Int)from fun x hx=>by rw[a4]at hx;cases hx);clear a4;go_wp2_with fail
    have hb:=A0.o.bds;refine (jkv _ (HC.o.ext A0.o.ext) (HG.o.ext A0.o.ext) s bm 100 S0 A0.o.st _ l (HV.o.ext A0.o.ext) (jhY fun t ht=>bH (b8.o t ht) vI) (by have:=HL.o;omega) vI vI hb.1 hb.2.1 hb.2.2).mono ?_;rintro e w5 (⟨k,A,rfl,z⟩ |⟨top,G,M,d5,hA⟩)
    ·have d6:(k == 0)=false:=by simpa using A
     have q:=Hd (A0.o.more z)
     obtain⟨S,hS⟩:∃ S:vT,S=S0:=⟨_,rfl⟩
     rw[<-hS]at q;clear z hS A hb;go_wp2_with fail
     refine vC (jdF _ s bm 100 S root q.o.st) fun wg z=>?_;have q:=Hd (q.o.more z);clear z
     obtain⟨gt,gb,Q,X⟩:∃ (gt:vB) (gb:Bool),optV ((atL S root.data.toList).map (·.2.2.text))=.tuple #[.string gt,.bool gb]/\(gb=false->atL S root.data.toList=none):=by
      cases atL S root.data.toList with
      | none=>exact⟨_,_,rfl,fun _=>rfl⟩
      | some y=>exact⟨_,_,rfl,fun h=>(by cases h)⟩
     rw[Q];have a5:=Hd X;clear Q X;go_wp2_with fail
     refine (jn5 q.o root key (by have:=HL.o;omega)).mono ?_;rintro e c3 ⟨c4,c5,rfl,A,z⟩;have q:=Hd (q.o.more z);have Z:=Hd A;clear z A;go_wp2_with fail
     refine (jnE q.o root).mono ?_;rintro e c6 ⟨c7,c8,rfl,A,z⟩;have q:=Hd (q.o.more z);have a0:=Hd A;clear z A;go_wp2_with fail
     refine (jlk q.o root key (by have:=HL.o;omega)).mono ?_;rintro e c9 ⟨d0,d1,rfl,A,z⟩;have q:=Hd (q.o.more z);have a1:=Hd A;clear z A;go_wp2_with fail
     refine (joG (HC.o.ext q.o.ext) (HG.o.ext q.o.ext) q.o root _ cs (HU.o.ext q.o.ext) K.o.2.1 K.o.2.2.2).mono ?_;rintro e d2 ⟨d3,d4,rfl,A,z⟩;have q:=Hd (q.o.more z);have a2:=Hd A;clear z A;go_wp2_with fail
     refine (jjN w _ (HC.o.ext q.o.ext) (HG.o.ext q.o.ext) s bm S q.o root _ cs (HU.o.ext q.o.ext) K.o.2.1 K.o.2.2.2).mono ?_;rintro e w9 ⟨t9,k9,rfl,H,J⟩;have a3:=Hd J;cases gb with
     | true =>
      clear H J;go_wp2_with fail
      go_ret
      exact⟨rfl,a3.o⟩
     | false =>
      have E:=a5.o rfl;obtain rfl:=Z.o E;obtain rfl:=a0.o E;obtain rfl:=a1.o E;obtain rfl:=a2.o E;obtain rfl:=H (jgW E);clear H J E;go_wp2_with fail
      go_ret
      exact⟨rfl,a3.o⟩
    ·have a6:=hA.res
     subst a6;have q:=Hd (A0.o.add (by have:=HL.o;omega) b9.o vI hA)
     obtain⟨S,hS⟩:=vE (addS S0 G M top)
     obtain⟨rt,b0⟩:=vE (shaB top)
     rw[<-hS]at q;rw[<-b0];clear hA hS b0 hb;go_wp2_with fail
     refine (jn5 q.o rt key (by have:=HL.o;omega)).mono ?_;rintro e d7 ⟨d8,d9,rfl,A,z⟩;have q:=Hd (q.o.more z);clear z A;go_wp2_with fail
     refine (jnE q.o rt).mono ?_;rintro e e0 ⟨e1,e2,rfl,A,z⟩;have q:=Hd (q.o.more z);clear z A;go_wp2_with fail
     refine (jlk q.o rt key (by have:=HL.o;omega)).mono ?_;rintro e e3 ⟨e4,e5,rfl,A,z⟩;have q:=Hd (q.o.more z);clear z A;go_wp2_with fail
     refine (joG (HC.o.ext q.o.ext) (HG.o.ext q.o.ext) q.o rt _ cs (HU.o.ext q.o.ext) K.o.2.1 K.o.2.2.2).mono ?_;rintro e e6 ⟨e7,e8,rfl,A,z⟩;have q:=Hd (q.o.more z);clear z A;go_wp2_with fail
     refine vC (jdF _ s bm 100 S root q.o.st) fun wg z=>?_;have q:=Hd (q.o.more z);clear z
     obtain⟨gt,gb,Q,X⟩:∃ (gt:vB) (gb:Bool),optV ((atL S root.data.toList).map (·.2.2.text))=.tuple #[.string gt,.bool gb]/\(gb=false->atL S root.data.toList=none):=by
      cases atL S root.data.toList with
      | none=>exact⟨_,_,rfl,fun _=>rfl⟩
      | some y=>exact⟨_,_,rfl,fun h=>(by cases h)⟩
     rw[Q];have a5:=Hd X;clear Q X;go_wp2_with fail
     refine (jn5 q.o root key (by have:=HL.o;omega)).mono ?_;rintro e c3 ⟨c4,c5,rfl,A,z⟩;have q:=Hd (q.o.more z);have Z:=Hd A;clear z A;go_wp2_with fail
     refine (jnE q.o root).mono ?_;rintro e c6 ⟨c7,c8,rfl,A,z⟩;have q:=Hd (q.o.more z);have a0:=Hd A;clear z A;go_wp2_with fail
     refine (jlk q.o root key (by have:=HL.o;omega)).mono ?_;rintro e c9 ⟨d0,d1,rfl,A,z⟩;have q:=Hd (q.o.more z);have a1:=Hd A;clear z A;go_wp2_with fail
     refine (joG (HC.o.ext q.o.ext) (HG.o.ext q.o.ext) q.o root _ cs (HU.o.ext q.o.ext) K.o.2.1 K.o.2.2.2).mono ?_;rintro e d2 ⟨d3,d4,rfl,A,z⟩;have q:=Hd (q.o.more z);have a2:=Hd A;clear z A;go_wp2_with fail
     refine (jjN w _ (HC.o.ext q.o.ext) (HG.o.ext q.o.ext) s bm S q.o root _ cs (HU.o.ext q.o.ext) K.o.2.1 K.o.2.2.2).mono ?_;rintro e w9 ⟨t9,k9,rfl,H,J⟩;have a3:=Hd J;cases gb with
     | true =>
      clear H J;go_wp2_with fail
      go_ret
      exact⟨rfl,a3.o⟩
     | false =>
      have E:=a5.o rfl;obtain rfl:=Z.o E;obtain rfl:=a0.o E;obtain rfl:=a1.o E;obtain rfl:=a2.o E;obtain rfl:=H (jgW E);clear H J E;go_wp2_with fail
      go_ret
      exact⟨rfl,a3.o⟩
end
section
open Go Go.ChangeShapes Go.WideShapes Go.ChangeAt Go.RowKit Go.ChangeMaps
theorem jhW(H:Type)(enc:TypeId × vV->H)(W:vW)(base:Nat)(args:Array vV)(ds gs:List (DataW H))(before:List MemPlace)
  (hval:∀ (j:Nat) t v,Tryz.f3.params[j]?=some t->args[j]?=some v->Value.okWide Tryz.prog W .any base t v)
  (hW:DataW.Whole enc Tryz.prog Tryz.f3.params.toList Rows.trieAnySpec.vars false W args.toList ds gs before) (hL:laidMetH Tryz.prog Rows.trieAnyRow.laid W) :
  vQ 3 args W fun e X=>∃ v,e=.returned v/\Rows.trieAnySpec.post enc Tryz.prog Tryz.f3 false true false false W args v X:=by
 have o:=hW
 obtain⟨p,q,z,hV,rfl,a8,a9⟩:=hW
 have hA:DataW.TrodAll enc Tryz.prog W 0 (fun _=>true) true Tryz.f3.params.toList args.toList ds p:=z;rw[Tryz.params3]at hA hval
 obtain⟨Z,v1,v2,v3,d0,d1,d2,d3,p0,p1,p2,p3,rfl,rfl,rfl,h0,h1,h2,h3⟩:=trodAll_four hA
 obtain⟨rfl,rfl⟩:=trodVars_none hV
 obtain⟨l0,a0,a1,a2⟩:=jka (okWide_slice Tryz.underlying22 (hval 0 22 Z rfl rfl)) h0
 obtain⟨s1,rfl,rfl,rfl,A⟩:=open_string Tryz.underlying9 (hval 1 9 v1 rfl rfl) h1
 have a3:=bH A jcW
 obtain⟨s2,rfl,rfl,rfl,E⟩:=open_string Tryz.underlying9 (hval 2 9 v2 rfl rfl) h2
 have a4:=bH E jcW
 obtain⟨l3,a5,a6,a7⟩:=jhQ (okWide_slice Tryz.underlying23 (hval 3 23 v3 rfl rfl)) h3
 clear z;simp only[bU,cM]at o;have J:∀ x∈p0++p3,x.block < W.heap.size:=fun x K=>by simpa using o.lt x (by simpa using K)
 refine (jz3 W (jo1 hL) (jxl hL) Z v3 l0 l3 s1 s2 a0 a1 a2 a3 a4 a5 a6 a7).mono fun e X ⟨he,O⟩=>?_;subst he;have hb:Below W.heap.size W X:=⟨O.os,O.tape,O.output,O.size,fun k hk=>O.block k hk (fun h=>h)⟩;have Q:DataW.TrodAll enc Tryz.prog X 0 (fun b=>decide (b < W.heap.size)) true [22,9,9,23] [Z,.string s1,.string s2,v3] [d0,.lit (.string s1.data.toList),.lit (.string s2.data.toList),d3] (p0++p3):=by
  simpa using trodAll_mk4 (Below.trod Tryz.laidOutK vY (of_decide_eq_true vY) h0 hb (fun x K=>J x (by simp[K]))) (shut_string Tryz.underlying9 A) (shut_string Tryz.underlying9 E) (Below.trod Tryz.laidOutK vY (of_decide_eq_true vY) h3 hb (fun x K=>J x (by simp[K])))
 refine⟨_,rfl,_,_,_,[],p0++p3,[],o,trodAll_mk1 (shut_bool Tryz.underlying4 _),?_,rfl,hb.frame _,fun h=>by cases h⟩
 exact Q
theorem jlD(os:Os){H:Type}(enc:TypeId × vV->H):∃ places,DataW.whole enc Tryz.prog ((laidWorld os).forCall (fun _ _=>0) ⟨#[],#[.slice none 0 0,.string ⟨#[]⟩,.string ⟨#[]⟩,.slice none 0 0],[]⟩).memory Tryz.f3.params.toList Rows.trieAnySpec.vars false #[.slice none 0 0,.string ⟨#[]⟩,.string ⟨#[]⟩,.slice none 0 0].toList 8=some ([.nil,.lit (.string []),.lit (.string []),.nil],[],places):=
 ⟨[],by kernel_rfl⟩
theorem jjy(os:Os)(started:os.Started)(H:Type)(enc:TypeId × vV->H)(F:Stop.Interp) :
  ReturnsInHanded {} Tryz.checked os 3 .any ((OpenSpec.ofChange Rows.trieAnySpec).preRow enc Tryz.prog Tryz.f3 Rows.trieAnyRow.domain false Rows.trieAnyRow.laid) (((OpenSpec.ofChange Rows.trieAnySpec).at F).post enc Tryz.prog Tryz.f3 false true false false):=by
 obtain⟨z,A⟩:=jlD os enc
 refine returnsInHanded_of_row (C:=Tryz.checked) (s:=OpenSpec.ofChange Rows.trieAnySpec) Tryz.ownK started vY Tryz.func3
  (witness_row_at (enc:=enc) (C:=Tryz.checked) false (laidWorld os) #[.slice none 0 0,.string ⟨#[]⟩,.string ⟨#[]⟩,.slice none 0 0] rfl vY vY vY
   (OpenSpec.preRow_of_cond 8 A vY (fun k E=>by cases E) vY (jpu os _))) ?_
 intro W o args J K e q O _ _ _ Q _ _;exact jhW H enc W o args J K e q O Q
theorem jjx:joinedFacts Tryz.pinned.checked.prog 3 Tryz.f3 (OpenSpec.ofChange Rows.trieAnySpec).bare Rows.trieAnyRow=true:=by
 unfold joinedFacts;simp only[cI]
 refine⟨⟨⟨⟨⟨⟨⟨⟨⟨⟨⟨⟨⟨⟨⟨⟨⟨⟨⟨⟨⟨⟨⟨⟨⟨⟨⟨⟨⟨⟨⟨?_,jhE⟩,jfz⟩,?_⟩,?_⟩,?_⟩,jlA⟩,?_⟩,jfB⟩,?_⟩,?_⟩,?_⟩,?_⟩,?_⟩,?_⟩,?_⟩,?_⟩,?_⟩,?_⟩,?_⟩,?_⟩,?_⟩,jfA⟩,?_⟩,je7⟩,jgq⟩,jja⟩,jox⟩,?_⟩,?_⟩,?_⟩,?_⟩
 all_goals (as_aux_lemma=>kernel_rfl)
theorem jg2:Tryz.prog.funcNamed "guilloche/guillochelaw08.TrieAny"=some 3:=vY
theorem jno:false=Rows.trieAnyRow.goesBy Tryz.prog:=vY
theorem jlF:Tryz.f3.isWrapper Tryz.pinned.checked.prog Rows.trieAnyRow.wrapper Rows.trieAnyRow.mainSum:=by
 unfold Func.isWrapper;first |(rw[if_pos (by decide +kernel)];kernel_rfl) |(rw[if_neg (by decide +kernel)];exact⟨rfl,rfl⟩)
theorem jlE:([22,9,9,23].all fun u => !Tryz.prog.wantsStandIn u)=true:=vY
theorem jnp:Rows.TrieAnySaid:=
 OpenClaim.holds_of_cond 3 Tryz.f3 rfl rfl rfl rfl rfl rfl rfl ⟨rfl,rfl,rfl,rfl,rfl⟩ rfl rfl rfl rfl rfl jg2 Tryz.func3 jjx
  (of_decide_eq_true vY) jlF
  (fun o e H enc _ F=>by rw[OpenClaim.pre_eq_preRow];exact jjy o e H enc F)
theorem trieAnyCard_holds:Rows.TrieAnyCardSaid:=
 Claim7.holds_tied_plain_at .later [] [.handle,.data] true (true, "087eabbfeb5a6d94cf76b150faf67893eed89f08030ca4e0b04361998624e316") true
  jnp (fun _ h=>by cases h) vY (fun _ h=>by cases h) trieAny_row_tie rfl ⟨rfl,rfl⟩ jow rfl
  (fun f q z e=>by
   obtain rfl:f=3:=bQ (jg2.symm.trans z) |>.symm;obtain rfl:q=Tryz.f3:=(bQ (Tryz.func3.symm.trans e)).symm
   exact⟨jlz,fun j t o=>by
    rw[Tryz.params3]at o;have A:t∈[22,9,9,23]:=by simpa using Array.mem_of_getElem? o
    exact (show Tryz.prog.wantsStandIn t=false by simpa using dN.1 jlE t A)⟩)
  jno
end
end Go.Proofs.YtepbencaoiompaaGreatDoor
