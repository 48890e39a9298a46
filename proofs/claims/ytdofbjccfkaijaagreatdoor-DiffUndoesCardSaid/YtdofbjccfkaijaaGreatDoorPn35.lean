/- Lemmas; each is under no condition but those that it states. -/
import Derived.Test.YtdofbjccfkaijaaGreatDoorPn34
namespace Go.Proofs.YtdofbjccfkaijaaGreatDoor
set_option linter.unusedSimpArgs false
set_option linter.unusedVariables false
set_option maxRecDepth 100000
set_option maxHeartbeats 16000000
open Go Go.RowKit
section
attribute [local go_sem] Oper.semAt_some
def valK(l:vL)(k:Nat):vB:=if k=0 then ⟨#[]⟩else if (l.getD 0 pd).1.size=0 then (l.getD 0 pd).2 else ⟨#[]⟩
theorem juk{f:Nat}{l:vL}(h:jas f l){k:Nat}{q:Pair}(hq:l[k]?=some q)(h0:q.1.size=0):valK l (k+1)=q.2:=by
 have o:k=0:=by
  by_cases o:k=0
  ·exact o
  ·exfalso
   have A:=(bP.1 hq).1;have z:=jca h.rise (i:=0) (j:=k) vO (bA vO) hq;have e:q.l=[]:=bD h0;rw[e]at z;revert z;cases (l[0]'(by omega)).l <;> simp[Lt] <;> rfl
 subst o;have e:l.getD 0 pd=q:=by rw[bG,hq];rfl
 unfold valK;rw[if_neg vO,e,if_pos h0]
theorem juj{l:vL}{k:Nat}{q:Pair}(hq:l[k]?=some q)(h0:q.1.size≠0):valK l (k+1)=valK l k:=by
 unfold valK;rw[if_neg vO]
 by_cases hk:k=0
 ·subst hk
  have e:l.getD 0 pd=q:=by rw[bG,hq];rfl
  rw[e,if_neg h0,if_pos rfl]
 ·rw[if_neg hk]
def Nc5R(w5:vW)(gn:Nat)(va:vB)(rs:vM)(iv sv:vV)(wr:vW):Prop:=∃ k:Nat,k<=16/\iv=.int .i64 k/\Blk wr gn (.cells (jad.cells ⟨3,⟨#[]⟩,va,jd8 rs k⟩).toArray 94)/\jaf (fun z=>z=gn) w5 wr
def Nb5R(w4:vW)(gn:Nat)(l:vL)(iv:vV)(wr:vW):Prop:=∃ k:Nat,k<=l.length/\iv=.int .i64 k/\Blk wr gn (.cells (jad.cells ⟨3,⟨#[]⟩,valK l k,jam 16⟩).toArray 94)/\jaf (fun z=>z=gn) w4 wr
theorem jmo(f:Nat)(l:vL)(h2:2<=l.length)(hln:l.length<=1000)(hok:jas (f+1) l)(hk:¬ 0 < comK l)(hB:∀ i,(cutL i l).length≠0->jgq (jak 1 (cutL i l)) (jap (jac f) (jak 1 (cutL i l)))):jgq l (jap (jac (f+1)) l):=by
 intro w v hv;have HV:=Hd hv;have HO:=Hd hok;have HB:=Hd hB;have a7:=joB hok h2;rw[show comK l=0 by omega,show (l.getD 0 pd).1.extract 0 0=⟨#[]⟩from jbC (by rw[jc0];rfl)]at a7;have d0:Hid (∀ p∈l,p.1.size<=1000000):=(fun p hp=>bK (hok.size p hp).2.1 vI)
 obtain⟨rs,Q⟩:=vE ((List.range 16).map fun i=>if (cutL i l).length=0 then (⟨#[]⟩:vB)else refB (jac (f+1) (jak 1 (cutL i l))).text)
 have J:jap (jac (f+1)) l=⟨3,⟨#[]⟩,valK l l.length,rs⟩:=by
  rw[show valK l l.length=if (l.getD 0 pd).1.size=0 then (l.getD 0 pd).2 else ⟨#[]⟩ by unfold valK;rw[if_neg vO]];unfold jap;rw[if_neg vO,if_neg vO,if_neg hk,Q]
 rw[J]
 obtain⟨va,a8⟩:=vE (valK l l.length)
 rw[<-a8];have d1:=Hd a8;clear a8;have A:=Hd (show rs.length=16 by rw[Q];simp);have f4:=Hd (show ∀ i,i < 16->rs[i]?=some (if (cutL i l).length=0 then (⟨#[]⟩:vB)else refB (jac (f+1) (jak 1 (cutL i l))).text)from fun i hi=>by rw[Q,cA,fA hi];rfl);have a9:=fun W (e:Ext w W)=>jtA W v l (hv.ext e) (fun e=>by rw[e]at h2;simp at h2) vO d0.o;rw[a7]at a9;have d2:=Hd a9;clear a9 a7
 obtain⟨a0,c0,rfl⟩:=hv.sl;have g0:¬(l.length:Int)=0:=vO
 have g1:¬(l.length:Int)=1:=vO
 clear hv hok hB J Q hk;go_enter Tryz.func109,Tryz.ntmps109;go_wp2_with (refine jaj Tryz.allocNode rfl rfl ?_;intro W1 d3 d4)
 have d5:=Hd d3;have b0:=Hd d4;clear d3 d4;refine vC (d2.o W1 b0.o) fun w2 hE=>?_;have b2:=Hd (b0.o.trans hE);have X:=Hd (d5.o.keeps hE (fun h=>h));clear hE b0 d5 d2;have h3:(⟨#[]⟩:vB).toList.isEmpty=true:=by rw[bO];rfl
 go_wp2_with (first |(refine jaj Tryz.allocNode rfl rfl ?_;intro W3 d6 b4) |(refine jai (vs:=jad.cells ⟨3,⟨#[]⟩,⟨#[]⟩,jam 16⟩) rfl rfl rfl rfl d6 rfl Tryz.szNode (jad.one _) ?_;intro W4 d7 b5))
 obtain⟨gr,d8⟩:=vE w.heap.size
 obtain⟨H,d9⟩:=vE w2.heap.size
 have E:=Hd (show gr≠H/\w.heap.size<=gr/\w.heap.size<=H from by have:=X.o.lt;have:=b2.o.size;omega);have Z:=Hd ((b2.o.trans b4).trans' b5 (fun x K e=>by have e:x=w2.heap.size:=e;have:=b2.o.size;omega));have b6:=Hd ((X.o.keeps b4 (fun h=>h)).keeps b5 (by have:=X.o.lt;omega));have b7:=Hd d7;rw[<-d8]at b6 ⊢;rw[<-d9]at b7 ⊢;clear d6 b4 d7 b5 d8 d9 X;go_loopw [6] (fun iv wr=>Nb5R W4 H l iv wr) (fun iv _=>l.length - (intOf iv).toNat)
 case atStart=>exact⟨0,by omega,rfl,b7.o,jaf.refl _ _⟩
 case round =>
  obtain⟨k,hk,rfl,hN,hK⟩:=hrel
  have HN:=Hd hN;have HK:=Hd hK;clear hN hK
  by_cases hlt:k < l.length
  ·have b1:(k:Int) < (l.length:Int):=vO
   obtain⟨⟨x,y⟩,hq⟩:∃ p,l[k]?=some p:=⟨_,bA hlt⟩
   rcases HV.o with⟨_,_,_,h0⟩ |⟨b,o,c1,hh,hb,hc,hcell⟩
   ·rw[h0]at hlt;cases hlt
   cases hh;have O:¬ b=H:=by have:=E.o;omega
   obtain⟨q1,q2⟩:=hcell k _ hq
   have q1:=jar (jaa q1 Z.o) HK.o O;have q2:=jar (jaa q2 Z.o) HK.o O;have Q2:=Hd q2;have HQ:=Hd hq;clear hcell hq hb hc q2
   by_cases K:x.size=0
   ·have f5:x.toList.isEmpty=true:=by rw[bO,List.isEmpty_iff];exact bD K
    have b8:=Hd (juk HO.o HQ.o K);have q2:=Q2.o;have k2:=HN.o.cellL (i:=2) (v:=.string (valK l k)) rfl;have f2:wr.frozen? ⟨H,2,none⟩=false:=HN.o.frozen;clear K;go_wp2_with fail
    go_roundw
    case rel=>exact⟨k+1,by omega,by go_num,by rw[b8.o];exact HN.o.set_same (i:=2) (.string y),HK.o.setCell (p:=⟨H,2,none⟩) (.inl rfl) (.string y)⟩
    case measure=>exact vJ
   ·have f5:x.toList.isEmpty=false:=by
     rw[fP];intro e;rw[List.isEmpty_iff,bO]at e;exact K (by show x.data.toList.length=0;rw[e];rfl)
    have b8:=Hd (juj HQ.o K);clear K;go_wp2_with fail
    go_roundw
    case rel=>exact⟨k+1,by omega,by go_num,by rw[b8.o];exact HN.o,HK.o⟩
    case measure=>exact vJ
  ·have f6:k=l.length:=vO
   subst f6;have e0:=Hd (Z.o.trans' HK.o (fun x K e=>by have e:x=H:=e;have:=E.o;omega));have f7:=Hd (b6.o.keeps HK.o (by have:=E.o;omega));rw[<-d1.o]at HN;clear Z b6 b7 HK;go_wp2_with fail
   have h1:=d1;go_loopw [7,8] (fun iv sv w2=>Nc5R wr H va rs iv sv w2) (fun iv _ _=>16 - (intOf iv).toNat)
   case atStart=>exact⟨0,by omega,rfl,HN.o,jaf.refl _ _⟩
   case round =>
    obtain⟨i,hi,rfl,hN,hK⟩:=hrel
    have e1:=Hd hN;have a4:=Hd hK;clear hN hK
    by_cases hi16:i < 16
    ·have b3:(i:Int) < 16:=vO
     obtain⟨bi,b9⟩:∃ bi:vU,bi=i.toUInt8:=⟨_,rfl⟩
     have O:bi.toNat=i:=by rw[b9];simp;omega
     have e2:=jcG wr bi;rw[O]at e2;have e3:=Hd (juh i vO l);rw[<-b9]at e3;have c2:=Hd (f4.o i hi16);have f8:=Hd (e0.o.trans' a4.o (fun x K e=>by have e:x=H:=e;have:=E.o;omega));clear b9 O;go_wp2_with fail
     obtain⟨w4,c3⟩:=vE (wr.alloc (.cells #[.int .u8 (i:Int)] 5))
     have a1:=Hd (show Ext wr w4 by rw[c3];exact (ExtR wr).alloc _);rw[<-c3];clear e2 c3;refine (jpM w4 _ l ⟨#[bi]⟩ (HV.o.ext (f8.o.trans a1.o)) vO d0.o (by show 1<=1000000;decide)).mono ?_;rintro e w5 ⟨u,rfl,hU⟩;rw[e3.o]at hU
     obtain⟨l',a6⟩:∃ l',l'=jak 1 (cutL i l):=⟨_,rfl⟩
     have e4:=Hd a6;have e5:=Hd (show l'.length=(cutL i l).length by rw[a6];unfold jak;rw[cC]);rw[<-a6]at hU c2
     obtain⟨a5,c5,rfl⟩:=hU.sl
     have HU:=Hd hU;have a2:=Hd (a1.o.trans hU.ext);have e6:=Hd (e1.o.keeps a2.o (fun h=>h));have e7:=Hd (a4.o.trans (a2.o.mono (fun _ _ h=>h.elim)));clear hU a6
     by_cases hc0:(cutL i l).length=0
     ·have g5:¬(0:Int) < (l'.length:Int):=by have:=e5.o;omega
      have z:=c2.o;rw[if_pos hc0]at z;have f9:=Hd (jmO A.o z);clear z hc0;go_wp2_with fail
      go_roundw
      case rel=>exact⟨i+1,by omega,by go_num,by rw[f9.o];exact e6.o,e7.o⟩
      case measure=>exact vJ
     ·have g5:(0:Int) < (l'.length:Int):=by have:=e5.o;omega
      have z:=c2.o;rw[if_neg hc0]at z;have a3:jas f l':=by rw[e4.o];exact jdq i HO.o
      have c4:=HB.o i hc0;rw[<-e4.o]at c4;have c6:=jtU f l' c4 a3 w5 _ (ERow.rd HU.o)
      obtain⟨r,hr⟩:=vE (refB (jac (f+1) l').text)
      rw[<-hr]at c6 z;have g2:=Hd (ji4 A.o z);have g3:=Hd c6;clear hr z c6 c4 a3 hc0;go_wp2_with fail
      refine g3.o.mono ?_;rintro e w6 ⟨rfl,hE⟩;have e8:=e6.o.keeps hE (fun h=>h);have c7:=Hd e8;have g4:=Hd (e7.o.trans (hE.mono (fun _ _ h=>h.elim)))
      obtain⟨old,k3⟩:∃ old,w6.cell? ⟨H,3+i,none⟩=some old:=⟨_,c7.o.cellL (bA (by rw[jad.cells_len _ (jhy A.o vO)];omega))⟩
      have f3:w6.frozen? ⟨H,3+i,none⟩=false:=c7.o.frozen;clear hE e8;go_wp2_with fail
      have e9:=c7.o.set_same (i:=3+i) (.string r);rw[jlL,g2.o]at e9
      exact⟨⟨i+1,by omega,by go_num,e9,g4.o.setCell (p:=⟨H,3+i,none⟩) (.inl rfl) (.string r)⟩,by simp[intOf];omega⟩
    ·have g6:i=16:=vO
     subst g6;have hN:=e1.o;rw[jmN A.o]at hN;have b3:¬((16:Nat):Int) < 16:=vO
     have g7:=f7.o.keeps a4.o (by have:=E.o;omega);have g8:=Hd (e0.o.trans' a4.o (fun x K e=>by have e:x=H:=e;have:=E.o;omega));have f0:=jao _ H ⟨3,⟨#[]⟩,va,rs⟩ A.o hN;have f1:=Hd (jad.cells_len ⟨3,⟨#[]⟩,va,rs⟩ A.o);unfold jad.V at f0;clear hN hi16;go_wp2_with (first |(refine jae 94 (.tmp 5) rfl rfl _ _ rfl f0 ?_) |(refine jai (vs:=jad.cells ⟨3,⟨#[]⟩,va,rs⟩) rfl rfl rfl rfl g7 (by rw[f1.o];rfl) (by rw[f1.o];exact Tryz.szNode) (jad.one _) ?_;intro g9 c8 c9))
     refine bodyPost_ret (jbJ rfl rfl (jau g9 _ ⟨3,⟨#[]⟩,va,rs⟩ A.o c8)) rfl ?_;have hz:=E.o
     exact⟨rfl,g8.o.trans' c9 (fun x K e=>by have e:x=gr:=e;omega)⟩
theorem jtT{l:vL}(h:jas 0 l):l.length<=1:=by
 rcases l with _ |⟨a,_ |⟨b,r⟩⟩
 ·simp
 ·simp
 ·exfalso
  have e:=jca h.rise (i:=0) (j:=1) vO rfl rfl;have o:b.l=[]:=bD (by have:=(h.size b (by simp)).1;show b.1.size=0;omega);rw[o]at e;exact absurd e (not_lt_nil _)
theorem jas.up{f g:Nat}{l:vL}(h:jas f l)(hg:f<=g):jas g l:=⟨fun p e=>⟨bK (h.size p e).1 hg,(h.size p e).2⟩,h.rise⟩
theorem jva{f:Nat}{l:vL}(h:jas (f+1) l)(h2:2<=l.length)(hk:0 < comK l):jas f (jak (comK l) l):=by
 have e:=jbl h h2;exact (jb9 (comK l) h (fun p o q z=>(e p o).1.trans (e q z).1.symm) (fun p o=>(e p o).2)).up vO
theorem jx9:∀ (f:Nat) (l:vL),jas f l->l.length<=1000->jgq l (jap (jac f) l)
 | f,[],_,_=>jqO _
 | f,[(x,y)],_,_=>jta _ x y
 | 0,a :: b :: r,h,_=>absurd (jtT h) (by simp)
 | f+1,a :: b :: r,h,hl=>by
  have o:2<=(a :: b :: r).length:=by simp
  by_cases hk:0 < comK (a :: b :: r)
  ·have e:=jva h o hk
   exact js9 f _ o hl h hk (jx9 f _ e (by unfold jak;rw[cC];exact hl)) e
  ·refine jmo f _ o hl h hk (fun i z=>?_)
   have e:jas f _:=jdq i h;exact jx9 f _ e (by unfold jak;rw[cC];exact bK (dQ _ _) hl)
theorem jyC(w:vW)(v:vV)(l:vL)(hv:RdP w v l)(h:jaw l=0) :
  vR 39 #[v] w (.string (jaF l).text):=by
 have A:=jaA h;have Q:=Hd (jwf w v l hv (by have:=A.len;omega) (fun p X=>by have:=(A.size p X).2.1;omega));have H:=jbw A;have E:(jaR l).length<=1000:=by unfold jaR;rw[cC];have:=A.len;omega
 have z:=Hd (jmH 12 (jaR l) (jx9 12 _ H E) H);rw[show (jac (12+1) (jaR l)).text=(jaF l).text from rfl]at z
 obtain⟨t,K⟩:=vE (jaF l).text
 rw[<-K]at z ⊢
 obtain⟨a0,c0,rfl⟩:=hv.sl;clear hv A H E K h;go_enter Tryz.func39,Tryz.ntmps39;go_wp2_with fail
 refine Q.o.mono ?_;rintro e w1 ⟨u,rfl,J⟩
 obtain⟨a1,c1,rfl⟩:=J.sl
 have O:=Hd J;clear J;go_wp2_with fail
 refine vH (z.o w1 _ (ERow.rd O.o)) fun w2 Z=>?_;have HE:=Hd (O.o.ext.trans Z);go_wp2_with fail
 go_ret
 exact⟨rfl,HE.o⟩
theorem jwh(w:vW)(v:vV)(l:vL)(hv:RdP w v l)(h:jaw l=0) :
  vR 12 #[v] w (.string (shaB (jaF l).text)):=by
 have H:=Hd (jyC w v l hv h);have z:Hid ((jaF l).text.size<=1000000):=(bK (jhu (jap (jac 12) (jaR l)) ((good 12 _ (jbw (jaA h))).1.one (inlP 12))) vI)
 obtain⟨t,J⟩:=vE (jaF l).text
 rw[<-J]at H z ⊢
 obtain⟨O,Q,rfl⟩:=hv.sl;clear hv J h;go_enter Tryz.func12,Tryz.ntmps12;go_wp2_with fail
 refine H.o.mono ?_;rintro e w1 ⟨rfl,A⟩;have K:=Hd A;clear A;go_wp2_with fail
 refine vH (jAG w1 t z.o) fun X A=>?_;have E:=Hd (K.o.trans A);go_wp2_with fail
 go_ret
 exact⟨rfl,E.o⟩
end
