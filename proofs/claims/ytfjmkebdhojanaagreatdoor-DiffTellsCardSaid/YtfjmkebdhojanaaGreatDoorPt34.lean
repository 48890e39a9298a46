/- Lemmas; each is under no condition but those that it states. -/
import Derived.Test.YtfjmkebdhojanaaGreatDoorPt33
namespace Go.Proofs.YtfjmkebdhojanaaGreatDoor
set_option linter.unusedSimpArgs false
set_option linter.unusedVariables false
set_option maxRecDepth 100000
set_option maxHeartbeats 16000000
open Go Go.RowKit
section
attribute [local go_sem] Oper.semAt_some
def valK(l:vL)(k:Nat):vB:=if k=0 then ⟨#[]⟩else if (l.getD 0 pd).1.size=0 then (l.getD 0 pd).2 else ⟨#[]⟩
theorem juf{f:Nat}{l:vL}(h:jap f l){k:Nat}{q:Pair}(hq:l[k]?=some q)(h0:q.1.size=0):valK l (k+1)=q.2:=by
 have o:k=0:=by
  by_cases o:k=0
  ·exact o
  ·exfalso
   have E:=(bP.1 hq).1;have A:=jcc h.rise (i:=0) (j:=k) vO (bA vO) hq;have e:q.l=[]:=bE h0;rw[e]at A;revert A;cases (l[0]'(by omega)).l <;> simp[Lt] <;> rfl
 subst o;have e:l.getD 0 pd=q:=by rw[bH,hq];rfl
 unfold valK;rw[if_neg vO,e,if_pos h0]
theorem jue{l:vL}{k:Nat}{q:Pair}(hq:l[k]?=some q)(h0:q.1.size≠0):valK l (k+1)=valK l k:=by
 unfold valK;rw[if_neg vO]
 by_cases hk:k=0
 ·subst hk
  have e:l.getD 0 pd=q:=by rw[bH,hq];rfl
  rw[e,if_neg h0,if_pos rfl]
 ·rw[if_neg hk]
def Nc5R(w5:vW)(gn:Nat)(va:vB)(rs:vM)(iv sv:vV)(wr:vW):Prop:=∃ k:Nat,k<=16/\iv=.int .i64 k/\Blk wr gn (.cells (jad.cells ⟨3,⟨#[]⟩,va,jd8 rs k⟩).toArray 103)/\jae (fun z=>z=gn) w5 wr
def Nb5R(w4:vW)(gn:Nat)(l:vL)(iv:vV)(wr:vW):Prop:=∃ k:Nat,k<=l.length/\iv=.int .i64 k/\Blk wr gn (.cells (jad.cells ⟨3,⟨#[]⟩,valK l k,jan 16⟩).toArray 103)/\jae (fun z=>z=gn) w4 wr
theorem jmz(f:Nat)(l:vL)(h2:2<=l.length)(hln:l.length<=1000)(hok:jap (f+1) l)(hk:¬ 0 < comK l)(hB:∀ i,(cutL i l).length≠0->jgl (jak 1 (cutL i l)) (jar (jac f) (jak 1 (cutL i l)))):jgl l (jar (jac (f+1)) l):=by
 intro w v hv;have HV:=Hd hv;have HO:=Hd hok;have HB:=Hd hB;have a8:=jhQ hok h2;rw[show comK l=0 by omega,show (l.getD 0 pd).1.extract 0 0=⟨#[]⟩from jbo (by rw[jcO];rfl)]at a8;have d1:Hid (∀ p∈l,p.1.size<=1000000):=(fun p hp=>bJ (hok.size p hp).2.1 vI)
 obtain⟨rs,X⟩:=vE ((List.range 16).map fun i=>if (cutL i l).length=0 then (⟨#[]⟩:vB)else refB (jac (f+1) (jak 1 (cutL i l))).text)
 have K:jar (jac (f+1)) l=⟨3,⟨#[]⟩,valK l l.length,rs⟩:=by
  rw[show valK l l.length=if (l.getD 0 pd).1.size=0 then (l.getD 0 pd).2 else ⟨#[]⟩ by unfold valK;rw[if_neg vO]];unfold jar;rw[if_neg vO,if_neg vO,if_neg hk,X]
 rw[K]
 obtain⟨va,a9⟩:=vE (valK l l.length)
 rw[<-a9];have d2:=Hd a9;clear a9;have E:=Hd (show rs.length=16 by rw[X];simp);have f5:=Hd (show ∀ i,i < 16->rs[i]?=some (if (cutL i l).length=0 then (⟨#[]⟩:vB)else refB (jac (f+1) (jak 1 (cutL i l))).text)from fun i hi=>by rw[X,bX,dW hi];rfl);have b0:=fun W (e:Ext w W)=>jk9 W v l (hv.ext e) (fun e=>by rw[e]at h2;simp at h2) vO d1.o;rw[a8]at b0;have d3:=Hd b0;clear b0 a8
 obtain⟨a0,c0,rfl⟩:=hv.sl;have g0:¬(l.length:Int)=0:=vO
 have g1:¬(l.length:Int)=1:=vO
 clear hv hok hB K X hk;go_enter Tryz.func105,Tryz.ntmps105;go_wp2_with (refine jaj Tryz.allocNode rfl rfl ?_;intro W1 d4 d5)
 have d6:=Hd d4;have b2:=Hd d5;clear d4 d5;refine vC (d3.o W1 b2.o) fun w2 hE=>?_;have b4:=Hd (b2.o.trans hE);have Z:=Hd (d6.o.keeps hE (fun h=>h));clear hE b2 d6 d3;have h4:(⟨#[]⟩:vB).toList.isEmpty=true:=by rw[bR];rfl
 go_wp2_with (first |(refine jaj Tryz.allocNode rfl rfl ?_;intro W3 d7 b5) |(refine jah (vs:=jad.cells ⟨3,⟨#[]⟩,⟨#[]⟩,jan 16⟩) rfl rfl rfl rfl d7 rfl Tryz.szNode (jad.one _) ?_;intro W4 d8 b6))
 obtain⟨gr,d9⟩:=vE w.heap.size
 obtain⟨J,e0⟩:=vE w2.heap.size
 have H:=Hd (show gr≠J/\w.heap.size<=gr/\w.heap.size<=J from by have:=Z.o.lt;have:=b4.o.size;omega);have a4:=Hd ((b4.o.trans b5).trans' b6 (fun x O e=>by have e:x=w2.heap.size:=e;have:=b4.o.size;omega));have b7:=Hd ((Z.o.keeps b5 (fun h=>h)).keeps b6 (by have:=Z.o.lt;omega));have b8:=Hd d8;rw[<-d9]at b7 ⊢;rw[<-e0]at b8 ⊢;clear d7 b5 d8 b6 d9 e0 Z;go_loopw [6] (fun iv wr=>Nb5R W4 J l iv wr) (fun iv _=>l.length - (intOf iv).toNat)
 case atStart=>exact⟨0,by omega,rfl,b8.o,jae.refl _ _⟩
 case round =>
  obtain⟨k,hk,rfl,hN,hK⟩:=hrel
  have HN:=Hd hN;have HK:=Hd hK;clear hN hK
  by_cases hlt:k < l.length
  ·have b1:(k:Int) < (l.length:Int):=vO
   obtain⟨⟨x,y⟩,hq⟩:∃ p,l[k]?=some p:=⟨_,bA hlt⟩
   rcases HV.o with⟨_,_,_,h0⟩ |⟨b,o,c1,hh,hb,hc,hcell⟩
   ·rw[h0]at hlt;cases hlt
   cases hh;have Q:¬ b=J:=by have:=H.o;omega
   obtain⟨q1,q2⟩:=hcell k _ hq
   have q1:=jam (jaa q1 a4.o) HK.o Q;have q2:=jam (jaa q2 a4.o) HK.o Q;have Q2:=Hd q2;have HQ:=Hd hq;clear hcell hq hb hc q2
   by_cases O:x.size=0
   ·have f6:x.toList.isEmpty=true:=by rw[bR,List.isEmpty_iff];exact bE O
    have b9:=Hd (juf HO.o HQ.o O);have q2:=Q2.o;have k2:=HN.o.cellL (i:=2) (v:=.string (valK l k)) rfl;have f2:wr.frozen? ⟨J,2,none⟩=false:=HN.o.frozen;clear O;go_wp2_with fail
    go_roundw
    case rel=>exact⟨k+1,by omega,by go_num,by rw[b9.o];exact HN.o.set_same (i:=2) (.string y),HK.o.setCell (p:=⟨J,2,none⟩) (.inl rfl) (.string y)⟩
    case measure=>exact vJ
   ·have f6:x.toList.isEmpty=false:=by
     rw[gD];intro e;rw[List.isEmpty_iff,bR]at e;exact O (by show x.data.toList.length=0;rw[e];rfl)
    have b9:=Hd (jue HQ.o O);clear O;go_wp2_with fail
    go_roundw
    case rel=>exact⟨k+1,by omega,by go_num,by rw[b9.o];exact HN.o,HK.o⟩
    case measure=>exact vJ
  ·have f7:k=l.length:=vO
   subst f7;have e1:=Hd (a4.o.trans' HK.o (fun x O e=>by have e:x=J:=e;have:=H.o;omega));have f8:=Hd (b7.o.keeps HK.o (by have:=H.o;omega));rw[<-d2.o]at HN;clear a4 b7 b8 HK;go_wp2_with fail
   have h3:=d2;go_loopw [7,8] (fun iv sv w2=>Nc5R wr J va rs iv sv w2) (fun iv _ _=>16 - (intOf iv).toNat)
   case atStart=>exact⟨0,by omega,rfl,HN.o,jae.refl _ _⟩
   case round =>
    obtain⟨i,hi,rfl,hN,hK⟩:=hrel
    have e2:=Hd hN;have a6:=Hd hK;clear hN hK
    by_cases hi16:i < 16
    ·have b3:(i:Int) < 16:=vO
     obtain⟨bi,c2⟩:∃ bi:vU,bi=i.toUInt8:=⟨_,rfl⟩
     have Q:bi.toNat=i:=by rw[c2];simp;omega
     have e3:=jb8 wr bi;rw[Q]at e3;have e4:=Hd (jnj i vO l);rw[<-c2]at e4;have c3:=Hd (f5.o i hi16);have f9:=Hd (e1.o.trans' a6.o (fun x O e=>by have e:x=J:=e;have:=H.o;omega));clear c2 Q;go_wp2_with fail
     obtain⟨w4,c4⟩:=vE (wr.alloc (.cells #[.int .u8 (i:Int)] 5))
     have a1:=Hd (show Ext wr w4 by rw[c4];exact (ExtR wr).alloc _);rw[<-c4];clear e3 c4;refine (jh7 w4 _ l ⟨#[bi]⟩ (HV.o.ext (f9.o.trans a1.o)) vO d1.o (by show 1<=1000000;decide)).mono ?_;rintro e w5 ⟨u,rfl,hU⟩;rw[e4.o]at hU
     obtain⟨l',a7⟩:∃ l',l'=jak 1 (cutL i l):=⟨_,rfl⟩
     have e5:=Hd a7;have e6:=Hd (show l'.length=(cutL i l).length by rw[a7];unfold jak;rw[cC]);rw[<-a7]at hU c3
     obtain⟨a5,c5,rfl⟩:=hU.sl
     have HU:=Hd hU;have a2:=Hd (a1.o.trans hU.ext);have e7:=Hd (e2.o.keeps a2.o (fun h=>h));have e8:=Hd (a6.o.trans (a2.o.mono (fun _ _ h=>h.elim)));clear hU a7
     by_cases hc0:(cutL i l).length=0
     ·have g5:¬(0:Int) < (l'.length:Int):=by have:=e6.o;omega
      have A:=c3.o;rw[if_pos hc0]at A;have g2:=Hd (jmY E.o A);clear A hc0;go_wp2_with fail
      go_roundw
      case rel=>exact⟨i+1,by omega,by go_num,by rw[g2.o];exact e7.o,e8.o⟩
      case measure=>exact vJ
     ·have g5:(0:Int) < (l'.length:Int):=by have:=e6.o;omega
      have A:=c3.o;rw[if_neg hc0]at A;have a3:jap f l':=by rw[e5.o];exact jcU i HO.o
      have c6:=HB.o i hc0;rw[<-e5.o]at c6;have c7:=jtS f l' c6 a3 w5 _ (ERow.rd HU.o)
      obtain⟨r,hr⟩:=vE (refB (jac (f+1) l').text)
      rw[<-hr]at c7 A;have g3:=Hd (ji3 E.o A);have g4:=Hd c7;clear hr A c7 c6 a3 hc0;go_wp2_with fail
      refine g4.o.mono ?_;rintro e w6 ⟨rfl,hE⟩;have e9:=e7.o.keeps hE (fun h=>h);have c8:=Hd e9;have g6:=Hd (e8.o.trans (hE.mono (fun _ _ h=>h.elim)))
      obtain⟨old,k3⟩:∃ old,w6.cell? ⟨J,3+i,none⟩=some old:=⟨_,c8.o.cellL (bA (by rw[jad.cells_len _ (jhv E.o vO)];omega))⟩
      have f3:w6.frozen? ⟨J,3+i,none⟩=false:=c8.o.frozen;clear hE e9;go_wp2_with fail
      have f0:=c8.o.set_same (i:=3+i) (.string r);rw[jlV,g3.o]at f0
      exact⟨⟨i+1,by omega,by go_num,f0,g6.o.setCell (p:=⟨J,3+i,none⟩) (.inl rfl) (.string r)⟩,by simp[intOf];omega⟩
    ·have g7:i=16:=vO
     subst g7;have hN:=e2.o;rw[jmX E.o]at hN;have b3:¬((16:Nat):Int) < 16:=vO
     have g8:=f8.o.keeps a6.o (by have:=H.o;omega);have g9:=Hd (e1.o.trans' a6.o (fun x O e=>by have e:x=J:=e;have:=H.o;omega));have f1:=jaq _ J ⟨3,⟨#[]⟩,va,rs⟩ E.o hN;have f4:=Hd (jad.cells_len ⟨3,⟨#[]⟩,va,rs⟩ E.o);unfold jad.V at f1;clear hN hi16;go_wp2_with (first |(refine jaf 103 (.tmp 5) rfl rfl _ _ rfl f1 ?_) |(refine jah (vs:=jad.cells ⟨3,⟨#[]⟩,va,rs⟩) rfl rfl rfl rfl g8 (by rw[f4.o];rfl) (by rw[f4.o];exact Tryz.szNode) (jad.one _) ?_;intro h1 c9 d0))
     refine bodyPost_ret (jbJ rfl rfl (jaw h1 _ ⟨3,⟨#[]⟩,va,rs⟩ E.o c9)) rfl ?_;have hz:=H.o
     exact⟨rfl,g9.o.trans' d0 (fun x O e=>by have e:x=gr:=e;omega)⟩
theorem jm4{l:vL}(h:jap 0 l):l.length<=1:=by
 rcases l with _ |⟨a,_ |⟨b,r⟩⟩
 ·simp
 ·simp
 ·exfalso
  have e:=jcc h.rise (i:=0) (j:=1) vO rfl rfl;have o:b.l=[]:=bE (by have:=(h.size b (by simp)).1;show b.1.size=0;omega);rw[o]at e;exact absurd e (not_lt_nil _)
theorem jap.up{f g:Nat}{l:vL}(h:jap f l)(hg:f<=g):jap g l:=⟨fun p e=>⟨bJ (h.size p e).1 hg,(h.size p e).2⟩,h.rise⟩
theorem jhS{f:Nat}{l:vL}(h:jap (f+1) l)(h2:2<=l.length)(hk:0 < comK l):jap f (jak (comK l) l):=by
 have e:=jbi h h2;exact (jcb (comK l) h (fun p o q A=>(e p o).1.trans (e q A).1.symm) (fun p o=>(e p o).2)).up vO
theorem js8:∀ (f:Nat) (l:vL),jap f l->l.length<=1000->jgl l (jar (jac f) l)
 | f,[],_,_=>jqP _
 | f,[(x,y)],_,_=>jta _ x y
 | 0,a :: b :: r,h,_=>absurd (jm4 h) (by simp)
 | f+1,a :: b :: r,h,hl=>by
  have o:2<=(a :: b :: r).length:=by simp
  by_cases hk:0 < comK (a :: b :: r)
  ·have e:=jhS h o hk
   exact js9 f _ o hl h hk (js8 f _ e (by unfold jak;rw[cC];exact hl)) e
  ·refine jmz f _ o hl h hk (fun i A=>?_)
   have e:jap f _:=jcU i h;exact js8 f _ e (by unfold jak;rw[cC];exact bJ (dF _ _) hl)
end
def addT(acc:vM)(t:vB):vM:=if 32<=t.size then addF acc t else acc
def belF(B:vL->PT)(l:vL)(acc:vM):vM:=(jaA (jas B l)).foldl addF acc
theorem joJ{f:Nat}{l:vL}(hk:(jac (f+1) l).text.size < 32->(jac (f+1) l).kids=[])(acc:vM):(jaA (jbp (jac (f+1) l))).foldl addF acc=belF (jac f) l (addT acc (jac (f+1) l).text):=by
 have e:(jac (f+1) l).kids=jas (jac f) l:=rfl;unfold jbp addT belF
 by_cases h:(jac (f+1) l).text.size < 32
 ·have o:=hk h
  rw[e]at o;rw[if_pos h,if_neg vO,o]
 ·rw[if_neg h,if_pos vO]
  have A:jaA [jac (f+1) l]=(jac (f+1) l).text :: jaA (jas (jac f) l):=by
   rw[<-e];cases jac (f+1) l with
   | mk t ks=>simp[jaA,jav,PT.text,PT.kids]
  rw[A];rfl
def je6(l:vL):List (vL):=if 0 < comK l then [jak (comK l) l]else (List.range 16).map fun i=>jak 1 (cutL i l)
def jd0(f:Nat)(acc:vM)(p:vL):vM:=if p.length=0 then acc else belF (jac f) p (addT acc (jac (f+1) p).text)
theorem jcL(d:Nat)(l:vL):(jak d l).length=l.length:=by unfold jak;rw[cC]
theorem jhn{f:Nat}{l:vL}(h:jap f l)(hl:l.length≠0):(jac (f+1) l).text.size < 32->(jac (f+1) l).kids=[]:=
 ((good f l h).2.1 (fun e=>hl (by rw[e];rfl))).small
theorem jlM(f:Nat)(l:vL)(hok:∀ i,(cutL i l).length≠0->jap f (jak 1 (cutL i l))):∀ (is:List Nat) (acc:vM),(jaA (is.flatMap fun i=>if (cutL i l).length=0 then []else jbp (jac (f+1) (jak 1 (cutL i l))))).foldl addF acc=(is.map fun i=>jak 1 (cutL i l)).foldl (jd0 f) acc
 | [],acc=>rfl
 | i :: is,acc=>by
  rw[cG,jct,dU,jlM f l hok is,bS,dM]
  congr 1
  unfold jd0;rw[jcL]
  by_cases h:(cutL i l).length=0
  ·rw[if_pos h,if_pos h];rfl
  ·rw[if_neg h,if_neg h]
   exact joJ (jhn (hok i h) (by rw[jcL];exact h)) acc
theorem jlL{f:Nat}{l:vL}(h:jap (f+1) l)(h2:2<=l.length)(acc:vM):belF (jac (f+1)) l acc=(je6 l).foldl (jd0 f) acc:=by
 unfold belF jas je6;rw[if_neg vO]
 by_cases hk:0 < comK l
 ·rw[if_pos hk,if_pos hk,dM,List.foldl_nil]
  unfold jd0;have e:(jak (comK l) l).length≠0:=by rw[jcL];omega
  rw[if_neg e];exact joJ (jhn (jhS h h2 hk) e) acc
 ·rw[if_neg hk,if_neg hk]
  exact jlM f l (fun i _=>jcU i h) _ acc
def cstP(f:Nat)(q:vL):Nat:=if q.length=0 then 0 else (jaA (jbp (jac (f+1) q))).length
theorem jrm(acc:vM)(t:vB):(addF acc t).length<=acc.length+1:=by
 unfold addF;split <;> simp
theorem joC:∀ (ts acc:vM),(ts.foldl addF acc).length<=acc.length+ts.length
 | [],acc=>by simp
 | t :: ts,acc=>by
  have e:=jrm acc t;have o:=joC ts (addF acc t);simp only[dM,bF];omega
theorem jik{f:Nat}{q:vL}(h:jap f q)(hq:q.length≠0)(acc:vM):(addT acc (jac (f+1) q).text).length+(jaA (jas (jac f) q)).length<=acc.length+cstP f q:=by
 have e:(jac (f+1) q).kids=jas (jac f) q:=rfl;have o:=jhn h hq;unfold cstP addT jbp;rw[if_neg hq]
 by_cases h32:(jac (f+1) q).text.size < 32
 ·rw[if_neg vO,if_pos h32, <-e,o h32];exact bL _
 ·rw[if_pos vO,if_neg h32]
  have E:=jrm acc (jac (f+1) q).text;have A:jaA [jac (f+1) q]=(jac (f+1) q).text :: jaA (jas (jac f) q):=by
   rw[<-e];cases jac (f+1) q with
   | mk t ks=>simp[jaA,jav,PT.text,PT.kids]
  rw[A,bF];omega
theorem jrZ{f:Nat}{q:vL}(h:q.length≠0->jap f q)(acc:vM):(jd0 f acc q).length<=acc.length+cstP f q:=by
 unfold jd0
 by_cases hq:q.length=0
 ·rw[if_pos hq];omega
 ·rw[if_neg hq]
  have e:=jik (h hq) hq acc;have o:=joC (jaA (jas (jac f) q)) (addT acc (jac (f+1) q).text);unfold belF;omega
def cstS(f:Nat)(ps:List (vL)):Nat:=(ps.map (cstP f)).sum
theorem jhb{f:Nat}:∀ (ps:List (vL)) (acc:vM),(∀ q∈ps,q.length≠0->jap f q)->(ps.foldl (jd0 f) acc).length<=acc.length+cstS f ps
 | [],acc,_=>by simp
 | q :: ps,acc,h=>by
  have A:=jrZ (h q bG) acc;have e:=jhb ps (jd0 f acc q) (fun x o=>h x (bD _ o));simp only[dM,cstS,bS,iS]at e ⊢;omega
theorem jil{f:Nat}:∀ (ps:List (vL)) (k:Nat) (q:vL),ps[k]?=some q->cstS f (ps.take k)+cstP f q<=cstS f ps
 | [],k,q,h=>by simp at h
 | p :: ps,0,q,h=>by
  obtain rfl:=bO h;simp[cstS]
 | p :: ps,k+1,q,h=>by
  have:=jil (f:=f) ps k q h
  simp only[cstS,dV,bS,iS]at this ⊢;omega
theorem jjL(f:Nat)(l:vL):∀ is:List Nat,(jaA (is.flatMap fun i=>if (cutL i l).length=0 then []else jbp (jac (f+1) (jak 1 (cutL i l))))).length=cstS f (is.map fun i=>jak 1 (cutL i l))
 | []=>rfl
 | i :: is=>by
  have e:=jjL f l is;rw[cG,jct,bC,e];simp only[cstS,bS,iS]
  congr 1
  unfold cstP;rw[jcL];split <;> rfl
theorem joP{f:Nat}{l:vL}(h2:2<=l.length):(jaA (jas (jac (f+1)) l)).length=cstS f (je6 l):=by
 unfold jas je6;rw[if_neg vO]
 by_cases hk:0 < comK l
 ·rw[if_pos hk,if_pos hk]
  simp only[cstS,bS,iC,iS,List.sum_nil,fN,cstP];rw[if_neg (by rw[jcL];omega)]
 ·rw[if_neg hk,if_neg hk]
  exact jjL f l _
section
attribute [local go_sem] Oper.semAt_some
def jlx(l:vL)(B:vL->PT):Prop:=∀ (w0 w:vW) (lv v:vV) (n:Nat) (acc:vM),RdP w lv l->SRow w0 w v n acc->acc.length+(jaA (jas B l)).length<=900000 ->
 vQ 57 #[lv,v] w fun e w'=>∃ u n',e=.returned u/\SRow w0 w' u n' (belF B l acc)/\jae (fun b=>v.ownBlock=some b) w w'/\(u.ownBlock=v.ownBlock\/∀ b,u.ownBlock=some b->w.heap.size<=b)
theorem joI(l:vL)(B:vL->PT)(hl:l.length < 2):jlx l B:=by
 intro J w K v n e E A _;have hb:belF B l e=e:=by unfold belF jas;rw[if_pos vO];rfl
 rw[hb]
 obtain⟨O,Q,rfl⟩:=E.sl
 obtain⟨X,Z,rfl⟩:=A.sl;have H:=Hd A;have b0:(l.length:Int) < 2:=vO
 clear E hb A;go_enter Tryz.func57,Tryz.ntmps57;go_wp2_with fail
 go_ret
 exact⟨_,_,rfl,H.o,jae.refl _ _,.inl rfl⟩
end
