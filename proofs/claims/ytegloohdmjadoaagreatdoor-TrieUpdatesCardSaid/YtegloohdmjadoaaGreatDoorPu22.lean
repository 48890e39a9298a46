/- Lemmas; each is under no condition but those that it states. -/
import Derived.Test.YtegloohdmjadoaaGreatDoorPu21
namespace Go.Proofs.YtegloohdmjadoaaGreatDoor
set_option linter.unusedSimpArgs false
set_option linter.unusedVariables false
set_option maxRecDepth 100000
set_option maxHeartbeats 16000000
open Go Go.RowKit
section
attribute [local go_sem] Oper.semAt_some
theorem Tryz.sParts5:jd3 Tryz.prog 130 22 1 24:=jd3.mk' (z:=.slice none 0 0) vY vY rfl vI
def jlf(w wr:vW)(pv:vV)(ps:List (vL)):Prop:=∃ vals:List vV,vals.length=ps.length/\ORow 22 1 w wr pv ps.length vals/\∀ (j:Nat) p,ps[j]?=some p->∃ val,vals[j]?=some val/\ERow w wr val p.length p
theorem ORow.back{T:TypeId}{sz:Nat}{w0 w1 w:vW}{v:vV}{n:Nat}{xs:List vV}(h:ORow T sz w1 w v n xs)(e:Ext w0 w1):ORow T sz w0 w v n xs:=⟨h.sl,h.own,e.trans h.ext,fun b hb=>bG e.size (h.new b hb)⟩
theorem jlf.add{w W W':vW}{pv v' val:vV}{ps:List (vL)}{q:vL}{vals:List vV}(h1:vals.length=ps.length)(h2:ORow 22 1 w W pv ps.length vals)(h3:∀ (j:Nat) p,ps[j]?=some p->∃ val,vals[j]?=some val/\ERow w W val p.length p)(hq:ERow w W val q.length q)
  (r1:ORow 22 1 w W' v' (ps.length+1) (vals++[val])) (r2:jae (fun b=>pv.ownBlock=some b) W W'):jlf w W' v' (ps++[q]):=by
 have m:∀ {u:vV} {p:vL},ERow w W u p.length p->ERow w W' u p.length p:=fun {u p} h=>⟨h.sl,ja2 h.own r2 (fun b hb e=>jsJ h2.own h.own vI b e hb),r1.ext,h.new⟩
 refine⟨vals++[val],by simp[h1],by simpa [bF]using r1,fun j p o=>?_⟩
 by_cases hlt:j < ps.length
 ·rw[cP hlt]at o
  obtain⟨u,E,H⟩:=h3 j p o
  exact⟨u,by rw[cP vO];exact E,m H⟩
 ·rw[cV vO]at o
  have A:j - ps.length=0:=by
   have:=(bO.1 o).1
   simp at this;omega
  rw[A]at o;obtain rfl:=bN o
  exact⟨val,by rw[cV vO,h1,A];rfl,m hq⟩
theorem je4{w4 w6 w7:vW}{v v':vV}(k:jae (fun b=>v.ownBlock=some b) w4 w6)(o:v'.ownBlock=v.ownBlock\/∀ b,v'.ownBlock=some b->w4.heap.size<=b)(k7:jae (fun b=>v'.ownBlock=some b) w6 w7):jae (fun b=>v.ownBlock=some b) w4 w7:=
 k.trans' k7 fun x m e=>o.elim (fun h=>h ▸ e) fun h=>by have:=h x e;omega
theorem jhx{w4 w6:vW}{v v' u:vV}(o:v'.ownBlock=v.ownBlock\/∀ b,v'.ownBlock=some b->w4.heap.size<=b)(hz:w4.heap.size<=w6.heap.size)(o7:u.ownBlock=v'.ownBlock\/∀ b,u.ownBlock=some b->w6.heap.size<=b):u.ownBlock=v.ownBlock\/∀ b,u.ownBlock=some b->w4.heap.size<=b:=by
 rcases o7 with h | h
 ·rw[h];exact o
 ·exact .inr fun b hb=>bG hz (h b hb)
def Bl5R(w0 wP:vW)(v:vV)(ps:List (vL))(f:Nat)(acc:vM)(ov iv sv:vV)(wr:vW):Prop:=∃ k n':Nat,k<=ps.length/\iv=.int .i64 k/\SRow w0 wr ov n' ((ps.take k).foldl (jdV f) acc)/\jae (fun b=>v.ownBlock=some b) wP wr/\(ov.ownBlock=v.ownBlock\/∀ b,ov.ownBlock=some b->wP.heap.size<=b)
theorem jt1(f:Nat)(l:vL)(h2:2<=l.length)(hln:l.length<=1000)(hok:jax (f+1) l)(hk:0 < comK l)(hB:jld (jak (comK l) l) (jac f)):jld l (jac (f+1)):=by
 intro w0 w lv v n Q hv hR Z;have HV:=Hd hv;have HO:=Hd hok;have i0:=Hd hk;have e5:=jhJ hok h2;have e6:=Hd (jmJ hok h2);have b5:=jbk hok h2;have e7:Hid (∀ p∈l,p.1.size<=1000000):=(fun p hp=>bG (hok.size p hp).2.1 vI);have e8:((l.getD 0 pd).1.extract 0 (comK l)).size=comK l/\comK l<=12:=by
  have e9:l.getD 0 pd∈l:=by
   rw[bC,bA vO];exact cY _
  have h1:=(b5 _ e9).2;have h3:=(hok.size _ e9).2.1;rw[cH];omega
 have b8:=jlo hok h2 Q;have b9:=fun W (e:Ext w W)=>jkP W lv l (hv.ext e) (fun e=>by rw[e]at h2;simp at h2) vO e7.o;rw[e5]at b9
 obtain⟨p,hp⟩:=vE ((l.getD 0 pd).1.extract 0 (comK l))
 rw[<-hp]at e6 e8 b9;have f0:=Hd (show 0 < p.size/\p.size<=12 by omega);have g2:=Hd b9;have HR:=Hd hR
 obtain⟨T,hT⟩:=vE (belF (jac (f+1)) l Q)
 rw[<-hT]at b8 ⊢;rw[jn8 h2]at Z;have d2:∀ q∈jeW l,q.length≠0->jax f q/\q.length<=1000/\jld q (jac f):=fun q hq h0=>by
  unfold jeW at hq;rw[if_pos hk]at hq;rw[cG.1 hq]
  exact⟨jhM hok h2 hk,by rw[jcE];exact hln,hB⟩
 obtain⟨ps,a2⟩:=vE (jeW l)
 rw[<-a2]at b8 Z d2;have g3:=Hd b8;have g4:=Hd Z;have f1:=Hd d2;have d3:=Hd (show ps=[jak (comK l) l] by rw[a2];unfold jeW;rw[if_pos hk])
 obtain⟨a0,c0,rfl⟩:=hv.sl
 obtain⟨a1,c1,rfl⟩:=hR.sl;have g0:¬(l.length:Int) < 2:=vO
 have i1:p.toList.isEmpty=false:=by
  rw[bL];cases h:p.data.toList with
  | nil=>have:=f0.o.1;have e:p.data.toList.length=p.size:=rfl;rw[h]at e;simp at e;omega
  | cons=>rfl
 clear hv hok b5 e8 hp hk hR hT b8 b9 e5 Z d2 a2 hB;go_enter Tryz.func41,Tryz.ntmps41;go_wp2_with fail
 refine vH (g2.o w (ExtR w)) fun w2 c2=>?_;go_wp2_with fail
 refine (jh3 w2 _ l p (HV.o.ext c2.o) vO e7.o (by have:=f0.o.2;omega)).mono ?_;rintro e w3 ⟨u,rfl,hU⟩;rw[e6.o]at hU
 obtain⟨l',d4⟩:∃ l',l'=jak (comK l) l:=⟨_,rfl⟩
 rw[<-d4]at hU d3;have g7:=Hd (show l'.length=l.length by rw[d4,jcE])
 obtain⟨a5,c5,rfl⟩:=hU.sl
 have HU:=Hd hU;have d5:=Hd (c2.o.trans hU.ext);clear hU d4;go_wp2_with (at_builtin;refine jaS Tryz.sParts5 ((ORow.nil _ _ d5.o).mono ((ExtR w3).alloc _)) (.tmp 18) (.tmp 22) rfl rfl rfl (jaH (Blk.new w3 _)) (news:=[.slice a5 l'.length c5]) (by intro u hu;simp at hu;rw[hu];rfl) rfl rfl (by unfold maxLen;have:=g7.o;omega) vO (fun v' w4 r1 r2 r3=>?_);obtain⟨a6,c6,g8⟩:=r1.sl;subst g8)
 have a3:=(ExtR w3).alloc (.cells [Value.slice a5 l'.length c5].toArray 22);have c3:=Hd (show jlf w w4 (.slice a6 (0+1) c6) ps from by
  rw[d3.o];exact jlf.add (vals:=[]) (ps:=[]) rfl ((ORow.nil _ _ d5.o).mono a3) (fun j p hj=>by simp at hj) (ORow.mono (ORow.back HU.o c2.o) a3) r1 r2)
 have g9:=Hd (HR.o.mono (c3.o.choose_spec.2.1.ext));clear r1 r2 r3 a3;have d6:ps.length=0+1:=by rw[d3.o];rfl
 rw[<-d6]at c3;rw[show (Value.slice a6 1 c6)=.slice a6 ps.length c6 by rw[d6]];have i2:0 < ps.length/\ps.length<=16:=vO
 clear d6 HU d5 c2
 obtain⟨vals,d7,a4,f2⟩:=c3.o
 obtain⟨_,⟨h3,h4⟩ |⟨g,i3,i4,h3,_⟩⟩:=a4.own
 ·exfalso
  have e:([]:List vV).length=0:=rfl;rw[h4]at d7;omega
 obtain⟨rfl,_,rfl⟩:=cT h3
 have h5:=Hd (show ∀ (j:Nat) u,vals[j]?=some u->w4.cell? ⟨g,j,none⟩=some u from fun j u hj=>by
  have h:=World.ownsRow.cells (g:=g) a4.own rfl j u hj
  rwa [Addr.add_lit,cF]at h)
 have f3:=Hd (a4.new g rfl);have f4:=Hd (bB d7 (bB a4 f2));have f5:=Hd a4.ext;clear c3 d7 a4 f2;go_wp2_with fail
 go_loopw [1,8,9] (fun ov iv sv wr=>Bl5R w0 w4 (.slice a1 n c1) ps f Q ov iv sv wr) (fun _ iv _ _=>ps.length - (intOf iv).toNat)
 case atStart=>exact⟨0,n,cD _,rfl,g9.o,jae.refl _ _,.inl rfl⟩
 case round =>
  obtain⟨k,n',hk,rfl,hR,hK,hO⟩:=hrel
  have a9:=Hd hR;have HK:=Hd (bB hK hO)
  obtain⟨ao,co,rfl⟩:=hR.sl;clear hR hK hO
  by_cases hlt:k < ps.length
  ·have b1:(k:Int) < (ps.length:Int):=vO
   obtain⟨q,hq⟩:∃ q,ps[k]?=some q:=⟨_,bA hlt⟩
   have HQ:=Hd hq
   obtain⟨i5,b6,hE⟩:=f4.o.2.2 k q hq
   obtain⟨a7,c7,rfl⟩:=hE.sl;have NB:Hid (∀ b,w.heap.size<=b->¬(Value.slice a1 n c1).ownBlock=some b):=(fun b hb e=>by have:=HR.o.lt b e;omega);have q1:wr.cell? ⟨g,k,none⟩=some (.slice a7 q.length c7):=jan (h5.o k _ b6) HK.o.1 (NB.o g f3.o);have f6:∀ W,jae (fun b=>(Value.slice a1 n c1).ownBlock=some b) w4 W->RdP W (.slice a7 q.length c7) q:=fun W kW=>by
    rcases ERow.rd hE with h |⟨b,o,c1,hh,hb,hc,hcell⟩
    ·exact .inl h
    ·cases hh
     have nb:=NB.o b (hE.new b rfl);exact .inr ⟨b,o,_,rfl,bJ hb kW.size,hc,fun j x hx=>⟨jan (hcell j x hx).1 kW nb,jan (hcell j x hx).2 kW nb⟩⟩
   have c4:=Hd f6;clear f6 hE b6 hq;have d8:(ps.take (k+1)).foldl (jdV f) Q=jdV f ((ps.take k).foldl (jdV f) Q) q:=by rw[bS,HQ.o,dF];rfl
   have b7:=jgY (f:=f) (ps.take k) Q (fun x hx h0=>(f1.o x (gC hx) h0).1);have e3:=jif (f:=f) ps k q HQ.o
   obtain⟨A,hA⟩:=vE ((ps.take k).foldl (jdV f) Q)
   rw[<-hA]at a9 d8 b7;have c9:=Hd d8;have E:=Hd (show A.length+cstP f q<=900000 by have:=g4.o;omega);clear d8 b7 e3 hA
   by_cases hq0:q.length=0
   ·have g5:(q.length:Int)=0:=vO
    have h6:=Hd hq0;clear hq0;go_wp2_with fail
    go_roundw
    case rel=>exact⟨k+1,n',by omega,by go_num,by rw[c9.o];unfold jdV;rw[if_pos h6.o];exact a9.o,HK.o⟩
    case measure=>exact vJ
   ·have g5:¬(q.length:Int)=0:=vO
    obtain⟨d0,f7,f8⟩:=f1.o q (bE HQ.o) hq0
    have f9:=Hd (jfg f q (jp8 f q d0 f7) d0 wr _ (c4.o wr HK.o.1));have d9:=Hd f8;have H:=Hd (jie d0 hq0 A);have J:=Hd (show jdV f A q=belF (jac f) q (addT A (jac (f+1) q).text) by unfold jdV;rw[if_neg hq0])
    obtain⟨t,ht⟩:=vE (jac (f+1) q).text
    rw[<-ht]at f9 J H;clear d0 f7 f8 hq0 ht;go_wp2_with fail
    refine f9.o.mono ?_;rintro e w5 ⟨rfl,hE⟩;have e0:=Hd (a9.o.mono hE);have d1:Hid (jae (fun b=>(Value.slice a1 n c1).ownBlock=some b) w4 w5):=HK.o.1.trans (hE.mono fun _ _ h=>h.elim);have q1:=jaa q1 hE;have X:=Hd HK.o.2;clear hE
    by_cases h32:32<=t.size
    ·have g6:(32:Int)<=(t.size:Int):=vO
     have HT:=Hd h32;clear h32;go_wp2_with fail
     refine vC (in_c w5 _ A t (SRow.rd e0.o) (by have:=E.o;omega)) fun w6 hE=>?_;have e1:=Hd (e0.o.mono hE);have b0:Hid (jae (fun b=>(Value.slice a1 n c1).ownBlock=some b) w4 w6):=d1.o.trans (hE.mono fun _ _ h=>h.elim);have q1:=jaa q1 hE;clear hE;cases hi:inB A t with
     | true =>
      have hA:addT A t=A:=by unfold addT addF;rw[if_pos HT.o,if_pos (show memB A t=true from hi)]
      rw[hA]at H J;clear hi hA;go_wp2_with fail
      refine (d9.o w0 _ _ _ n' A (c4.o _ b0.o) e1.o (by have:=H.o;have:=E.o;omega)).mono ?_;rintro e w7 ⟨u,n7,rfl,m,K,O⟩
      obtain⟨a8,c8,rfl⟩:=m.sl
      have b2:=Hd m;have b3:=Hd (bB (je4 b0.o X.o K) (jhx X.o b0.o.size O));clear m K O;go_wp2_with fail
      go_roundw
      case rel=>exact⟨k+1,n7,by omega,by go_num,by rw[c9.o,J.o];exact b2.o,b3.o⟩
      case measure=>exact vJ
     | false =>
      have hA:addT A t=A++[t]:=by unfold addT addF;rw[if_pos HT.o,if_neg (by rw[show memB A t=inB A t from rfl,hi];simp)]
      rw[hA]at H J;clear hi hA
      obtain⟨A2,e2⟩:=vE (A++[t])
      have g1:=Hd e2;rw[<-e2]at H J;clear e2;have h7:=Hd (show n'=A.length from by have:=e1.o.own.1;simp at this;omega);have i6:n'<=900000:=by have:=E.o;have:=h7.o;omega
      go_wp2_with (at_builtin;refine jaS Tryz.sStrs (e1.o.mono ((ExtR w6).alloc _)) (.tmp 63) (.tmp 65) rfl rfl rfl (jaH (Blk.new w6 _)) (news:=[.string t]) (by intro u hu;simp at hu;rw[hu];rfl) rfl rfl (by unfold maxLen;omega) vO (fun v8 w8 r1 r2 r3=>?_);obtain⟨a8,c8,rfl⟩:=r1.sl;have h8:=Hd (show SRow w0 w8 (.slice a8 (n'+1) c8) (n'+1) A2 by rw[g1.o];unfold SRow;rw[bZ];exact r1);have b4:=Hd (bB (je4 (b0.o.trans (((ExtR w6).alloc _).mono fun _ _ h=>h.elim)) X.o r2) (jhx X.o (bG b0.o.size ((ExtR w6).alloc _).size) r3));have q1:=jan (jaa q1 ((ExtR w6).alloc _)) r2 (fun e=>by rcases X.o with h | h;exact NB.o g f3.o (h ▸ e);have:=h g e;have:=f4.o.2.1.lt g rfl;omega);clear r1 r2 r3)
      have e4:A2.length=A.length+1:=by rw[g1.o];simp
      refine (d9.o w0 _ _ _ (n'+1) A2 (c4.o _ b4.o.1) h8.o (by have:=H.o;have:=E.o;omega)).mono ?_;rintro e w7 ⟨u,n7,rfl,m,K,O⟩
      obtain⟨a8,c8,rfl⟩:=m.sl
      have b2:=Hd m;have b3:=Hd (bB (je4 b4.o.1 b4.o.2 K) (jhx b4.o.2 b4.o.1.size O));clear m K O e4;go_wp2_with fail
      go_roundw
      case rel=>exact⟨k+1,n7,by omega,by go_num,by rw[c9.o,J.o];exact b2.o,b3.o⟩
      case measure=>exact vJ
    ·have g6:¬(32:Int)<=(t.size:Int):=vO
     have hA:addT A t=A:=by unfold addT;rw[if_neg h32]
     rw[hA]at H J;clear hA h32;go_wp2_with fail
     refine (d9.o w0 _ _ _ n' A (c4.o _ d1.o) e0.o (by have:=H.o;have:=E.o;omega)).mono ?_;rintro e w7 ⟨u,n7,rfl,m,K,O⟩
     obtain⟨a8,c8,rfl⟩:=m.sl
     have b2:=Hd m;have b3:=Hd (bB (je4 d1.o X.o K) (jhx X.o d1.o.size O));clear m K O;go_wp2_with fail
     go_roundw
     case rel=>exact⟨k+1,n7,by omega,by go_num,by rw[c9.o,J.o];exact b2.o,b3.o⟩
     case measure=>exact vJ
  ·have h9:k=ps.length:=vO
   subst h9;rw[cE]at a9;go_wp2_with fail
   go_ret
   refine⟨_,n',rfl,?_,?_,?_⟩
   ·rw[g3.o];exact a9.o
   ·exact (f5.o.mono fun _ _ h=>h.elim).trans HK.o.1
   ·rcases HK.o.2 with h | h
    ·exact .inl h
    ·exact .inr fun b hb=>bG f5.o.size (h b hb)
def jfe(l:vL):List (vL):=(List.range 16).map fun i=>jak 1 (cutL i l)
theorem jnz{l:vL}{i:Nat}(h:i < 16):(jfe l).take (i+1)=(jfe l).take i++[jak 1 (cutL i l)]:=by
 rw[bS]
 congr 1
 unfold jfe;rw[bV,dW h];rfl
def BpR(w:vW)(l:vL)(pv iv:vV)(wr:vW):Prop:=∃ i:Nat,i<=16/\iv=.int .i64 i/\jlf w wr pv ((jfe l).take i)
theorem jm0(f:Nat)(l:vL)(h2:2<=l.length)(hln:l.length<=1000)(hok:jax (f+1) l)(hk:¬ 0 < comK l)(hB:∀ i,(cutL i l).length≠0->jld (jak 1 (cutL i l)) (jac f)):jld l (jac (f+1)):=by
 intro w0 w lv v n a3 hv hR a2;have HV:=Hd hv;have d5:=jhJ hok h2;rw[show comK l=0 by omega,show (l.getD 0 pd).1.extract 0 0=⟨#[]⟩from jbE (by rw[jcJ];rfl)]at d5;have f3:Hid (∀ p∈l,p.1.size<=1000000):=(fun p hp=>bG (hok.size p hp).2.1 vI);have c9:=jlo hok h2 a3;have d6:=fun W (e:Ext w W)=>jkP W lv l (hv.ext e) (fun e=>by rw[e]at h2;simp at h2) vO f3.o;rw[d5]at d6;have h7:=Hd d6;have HR:=Hd hR
 obtain⟨T,hT⟩:=vE (belF (jac (f+1)) l a3)
 rw[<-hT]at c9 ⊢;rw[jn8 h2]at a2;have d7:∀ q∈jeW l,q.length≠0->jax f q/\q.length<=1000/\jld q (jac f):=fun q hq h0=>by
  unfold jeW at hq;rw[if_neg hk]at hq
  obtain⟨i,_,rfl⟩:=bI.1 hq
  rw[jcE]at h0
  exact⟨jcU i hok,by rw[jcE];exact bG (dE _ _) hln,hB i h0⟩
 obtain⟨ps,a9⟩:=vE (jeW l)
 rw[<-a9]at c9 a2 d7;have h8:=Hd c9;have h9:=Hd a2;have f4:=Hd d7;have f5:=Hd (show ps=jfe l by rw[a9];unfold jeW jfe;rw[if_neg hk])
 obtain⟨a0,c0,rfl⟩:=hv.sl
 obtain⟨a1,c1,rfl⟩:=hR.sl;have g0:¬(l.length:Int) < 2:=vO
 have i9:(⟨#[]⟩:vB).toList.isEmpty=true:=by rw[bL];rfl
 clear hv hok hk hR hT c9 d6 d5 a2 d7 a9 hB;go_enter Tryz.func41,Tryz.ntmps41;go_wp2_with fail
 refine vH (h7.o w (ExtR w)) fun w2 f6=>?_;go_wp2_with fail
 go_loopw [5,7] (fun pv iv wr=>BpR w l pv iv wr) (fun _ iv _=>16 - (intOf iv).toNat)
 case atStart=>exact⟨0,cD _,rfl,[],rfl,ORow.nil _ _ f6.o,fun j p hj=>by simp at hj⟩
 case round =>
  obtain⟨i,hi,rfl,vals,b2,E,b4⟩:=hrel
  have H:=Hd (bB b2 (bB E b4))
  obtain⟨a6,c6,rfl⟩:=E.sl;clear b2 E b4
  by_cases hi16:i < 16
  ·have b3:(i:Int) < 16:=vO
   obtain⟨bi,d8⟩:∃ bi:vU,bi=i.toUInt8:=⟨_,rfl⟩
   have f7:bi.toNat=i:=by rw[d8];simp;omega
   have f8:=jb4 wr bi;rw[f7]at f8;have f9:=Hd (jmK i vO l);rw[<-d8]at f9;have d9:=Hd (jnz (l:=l) hi16)
   obtain⟨pi,e0⟩:=vE ((jfe l).take i)
   rw[<-e0]at H d9 ⊢;have d0:=Hd (show pi.length=i by rw[e0];unfold jfe;rw[cL];simp;omega);have g1:=Hd (H.o.2.1.ext);rw[d0.o]at H ⊢;clear d8 f7 e0;go_wp2_with fail
   obtain⟨w4,e1⟩:=vE (wr.alloc (.cells #[.int .u8 (i:Int)] 5))
   have b0:=Hd (show Ext wr w4 by rw[e1];exact (ExtR wr).alloc _);rw[<-e1];clear f8 e1;refine (jh3 w4 _ l ⟨#[bi]⟩ (HV.o.ext (g1.o.trans b0.o)) vO f3.o (by show 1<=1000000;decide)).mono ?_;rintro e w5 ⟨u,rfl,hU⟩;rw[f9.o]at hU
   obtain⟨l',e2⟩:∃ l',l'=jak 1 (cutL i l):=⟨_,rfl⟩
   have j0:=Hd (show l'.length<=1000 by rw[e2,jcE];exact bG (dE _ _) hln);rw[<-e2]at hU d9
   obtain⟨a5,c5,rfl⟩:=hU.sl
   have HU:=Hd hU;have f0:=Hd (b0.o.trans hU.ext);clear hU e2;have g2:=f0.o.trans ((ExtR w5).alloc (.cells [Value.slice a5 l'.length c5].toArray 22));have e3:=Hd g2;clear g2;go_wp2_with (at_builtin;refine jaS Tryz.sParts5 (ORow.mono H.o.2.1 e3.o) (.tmp 28) (.tmp 35) rfl rfl rfl (jaH (Blk.new w5 _)) (news:=[.slice a5 l'.length c5]) (by intro u hu;simp at hu;rw[hu];rfl) rfl rfl (by unfold maxLen;omega) vO (fun v' w6 r1 r2 r3=>?_);obtain⟨a8,c8,rfl⟩:=r1.sl)
   have i0:=Hd (show jlf w w6 (.slice a8 (i+1) c8) (pi++[l'])from jlf.add (pv:=.slice a6 i c6) (by rw[d0.o];exact H.o.1) (by rw[d0.o];exact ORow.mono H.o.2.1 e3.o) (fun j p hj=>by
    obtain⟨u,hu,Z⟩:=H.o.2.2 j p hj
    exact⟨u,hu,ORow.mono Z e3.o⟩) (ORow.mono (ORow.back HU.o (g1.o.trans b0.o)) ((ExtR w5).alloc _)) (by rw[d0.o];exact r1) r2)
   clear r1 r2 r3;go_roundw
   case rel=>exact⟨i+1,by omega,by go_num,by rw[d9.o];exact i0.o⟩
   case measure=>exact vJ
  ·have i1:i=16:=vO
   subst i1;have c2:(jfe l).take 16=ps:=by rw[f5.o];exact bQ (by unfold jfe;simp)
   have i2:ps.length=16:=by rw[f5.o];unfold jfe;simp
   rw[c2]at H ⊢;have e4:=Hd (show jlf w wr (.slice a6 ps.length c6) ps from⟨vals,H.o⟩);clear H c2
   rename vW=>w4
   have i3:=Hd (HR.o.mono (e4.o.choose_spec.2.1.ext));have j1:0 < ps.length/\ps.length<=16:=vO
   clear i2 hi16 hi f6
   obtain⟨vals,b2,E,b4⟩:=e4.o
   obtain⟨_,⟨h3,h4⟩ |⟨g,j2,j3,h3,_⟩⟩:=E.own
   ·exfalso
    have e:([]:List vV).length=0:=rfl;rw[h4]at b2;omega
   obtain⟨rfl,_,rfl⟩:=cT h3
   have i4:=Hd (show ∀ (j:Nat) u,vals[j]?=some u->w4.cell? ⟨g,j,none⟩=some u from fun j u hj=>by
    have h:=World.ownsRow.cells (g:=g) E.own rfl j u hj
    rwa [Addr.add_lit,cF]at h)
   have g3:=Hd (E.new g rfl);have g4:=Hd (bB b2 (bB E b4));have g7:=Hd E.ext;clear e4 b2 E b4;go_wp2_with fail
   go_loopw [1,8,9] (fun ov iv sv wr=>Bl5R w0 w4 (.slice a1 n c1) ps f a3 ov iv sv wr) (fun _ iv _ _=>ps.length - (intOf iv).toNat)
   case atStart=>exact⟨0,n,cD _,rfl,i3.o,jae.refl _ _,.inl rfl⟩
   case round =>
    obtain⟨k,n',hk,rfl,hR,hK,hO⟩:=hrel
    have b5:=Hd hR;have HK:=Hd (bB hK hO)
    obtain⟨ao,co,rfl⟩:=hR.sl;clear hR hK hO
    by_cases hlt:k < ps.length
    ·have b1:(k:Int) < (ps.length:Int):=vO
     obtain⟨q,hq⟩:∃ q,ps[k]?=some q:=⟨_,bA hlt⟩
     have HQ:=Hd hq
     obtain⟨j4,c3,Z⟩:=g4.o.2.2 k q hq
     obtain⟨a7,c7,rfl⟩:=Z.sl;have NB:Hid (∀ b,w.heap.size<=b->¬(Value.slice a1 n c1).ownBlock=some b):=(fun b hb e=>by have:=HR.o.lt b e;omega);have q1:wr.cell? ⟨g,k,none⟩=some (.slice a7 q.length c7):=jan (i4.o k _ c3) HK.o.1 (NB.o g g3.o);have g8:∀ W,jae (fun b=>(Value.slice a1 n c1).ownBlock=some b) w4 W->RdP W (.slice a7 q.length c7) q:=fun W kW=>by
      rcases ERow.rd Z with h |⟨b,o,c1,hh,hb,hc,hcell⟩
      ·exact .inl h
      ·cases hh
       have nb:=NB.o b (Z.new b rfl);exact .inr ⟨b,o,_,rfl,bJ hb kW.size,hc,fun j x hx=>⟨jan (hcell j x hx).1 kW nb,jan (hcell j x hx).2 kW nb⟩⟩
     have d1:=Hd g8;clear g8 Z c3 hq;have e5:(ps.take (k+1)).foldl (jdV f) a3=jdV f ((ps.take k).foldl (jdV f) a3) q:=by rw[bS,HQ.o,dF];rfl
     have c4:=jgY (f:=f) (ps.take k) a3 (fun x hx h0=>(f4.o x (gC hx) h0).1);have f1:=jif (f:=f) ps k q HQ.o
     obtain⟨A,hA⟩:=vE ((ps.take k).foldl (jdV f) a3)
     rw[<-hA]at b5 e5 c4;have d2:=Hd e5;have J:=Hd (show A.length+cstP f q<=900000 by have:=h9.o;omega);clear e5 c4 f1 hA
     by_cases hq0:q.length=0
     ·have g5:(q.length:Int)=0:=vO
      have i5:=Hd hq0;clear hq0;go_wp2_with fail
      go_roundw
      case rel=>exact⟨k+1,n',by omega,by go_num,by rw[d2.o];unfold jdV;rw[if_pos i5.o];exact b5.o,HK.o⟩
      case measure=>exact vJ
     ·have g5:¬(q.length:Int)=0:=vO
      obtain⟨d3,g9,h1⟩:=f4.o q (bE HQ.o) hq0
      have h5:=Hd (jfg f q (jp8 f q d3 g9) d3 wr _ (d1.o wr HK.o.1));have e6:=Hd h1;have K:=Hd (jie d3 hq0 A);have O:=Hd (show jdV f A q=belF (jac f) q (addT A (jac (f+1) q).text) by unfold jdV;rw[if_neg hq0])
      obtain⟨t,ht⟩:=vE (jac (f+1) q).text
      rw[<-ht]at h5 O K;clear d3 g9 h1 hq0 ht;go_wp2_with fail
      refine h5.o.mono ?_;rintro e w5 ⟨rfl,Z⟩;have e7:=Hd (b5.o.mono Z);have d4:Hid (jae (fun b=>(Value.slice a1 n c1).ownBlock=some b) w4 w5):=HK.o.1.trans (Z.mono fun _ _ h=>h.elim);have q1:=jaa q1 Z;have a4:=Hd HK.o.2;clear Z
      by_cases h32:32<=t.size
      ·have g6:(32:Int)<=(t.size:Int):=vO
       have HT:=Hd h32;clear h32;go_wp2_with fail
       refine vC (in_c w5 _ A t (SRow.rd e7.o) (by have:=J.o;omega)) fun w6 Z=>?_;have e8:=Hd (e7.o.mono Z);have b6:Hid (jae (fun b=>(Value.slice a1 n c1).ownBlock=some b) w4 w6):=d4.o.trans (Z.mono fun _ _ h=>h.elim);have q1:=jaa q1 Z;clear Z;cases hi:inB A t with
       | true =>
        have hA:addT A t=A:=by unfold addT addF;rw[if_pos HT.o,if_pos (show memB A t=true from hi)]
        rw[hA]at K O;clear hi hA;go_wp2_with fail
        refine (e6.o w0 _ _ _ n' A (d1.o _ b6.o) e8.o (by have:=K.o;have:=J.o;omega)).mono ?_;rintro e w7 ⟨u,n7,rfl,m,Q,X⟩
        obtain⟨a8,c8,rfl⟩:=m.sl
        have b7:=Hd m;have b8:=Hd (bB (je4 b6.o a4.o Q) (jhx a4.o b6.o.size X));clear m Q X;go_wp2_with fail
        go_roundw
        case rel=>exact⟨k+1,n7,by omega,by go_num,by rw[d2.o,O.o];exact b7.o,b8.o⟩
        case measure=>exact vJ
       | false =>
        have hA:addT A t=A++[t]:=by unfold addT addF;rw[if_pos HT.o,if_neg (by rw[show memB A t=inB A t from rfl,hi];simp)]
        rw[hA]at K O;clear hi hA
        obtain⟨A2,e9⟩:=vE (A++[t])
        have h6:=Hd e9;rw[<-e9]at K O;clear e9;have i6:=Hd (show n'=A.length from by have:=e8.o.own.1;simp at this;omega);have j5:n'<=900000:=by have:=J.o;have:=i6.o;omega
        go_wp2_with (at_builtin;refine jaS Tryz.sStrs (e8.o.mono ((ExtR w6).alloc _)) (.tmp 63) (.tmp 65) rfl rfl rfl (jaH (Blk.new w6 _)) (news:=[.string t]) (by intro u hu;simp at hu;rw[hu];rfl) rfl rfl (by unfold maxLen;omega) vO (fun v8 w8 r1 r2 r3=>?_);obtain⟨a8,c8,rfl⟩:=r1.sl;have i7:=Hd (show SRow w0 w8 (.slice a8 (n'+1) c8) (n'+1) A2 by rw[h6.o];unfold SRow;rw[bZ];exact r1);have b9:=Hd (bB (je4 (b6.o.trans (((ExtR w6).alloc _).mono fun _ _ h=>h.elim)) a4.o r2) (jhx a4.o (bG b6.o.size ((ExtR w6).alloc _).size) r3));have q1:=jan (jaa q1 ((ExtR w6).alloc _)) r2 (fun e=>by rcases a4.o with h | h;exact NB.o g g3.o (h ▸ e);have:=h g e;have:=g4.o.2.1.lt g rfl;omega);clear r1 r2 r3)
        have f2:A2.length=A.length+1:=by rw[h6.o];simp
        refine (e6.o w0 _ _ _ (n'+1) A2 (d1.o _ b9.o.1) i7.o (by have:=K.o;have:=J.o;omega)).mono ?_;rintro e w7 ⟨u,n7,rfl,m,Q,X⟩
        obtain⟨a8,c8,rfl⟩:=m.sl
        have b7:=Hd m;have b8:=Hd (bB (je4 b9.o.1 b9.o.2 Q) (jhx b9.o.2 b9.o.1.size X));clear m Q X f2;go_wp2_with fail
        go_roundw
        case rel=>exact⟨k+1,n7,by omega,by go_num,by rw[d2.o,O.o];exact b7.o,b8.o⟩
        case measure=>exact vJ
      ·have g6:¬(32:Int)<=(t.size:Int):=vO
       have hA:addT A t=A:=by unfold addT;rw[if_neg h32]
       rw[hA]at K O;clear hA h32;go_wp2_with fail
       refine (e6.o w0 _ _ _ n' A (d1.o _ d4.o) e7.o (by have:=K.o;have:=J.o;omega)).mono ?_;rintro e w7 ⟨u,n7,rfl,m,Q,X⟩
       obtain⟨a8,c8,rfl⟩:=m.sl
       have b7:=Hd m;have b8:=Hd (bB (je4 d4.o a4.o Q) (jhx a4.o d4.o.size X));clear m Q X;go_wp2_with fail
       go_roundw
       case rel=>exact⟨k+1,n7,by omega,by go_num,by rw[d2.o,O.o];exact b7.o,b8.o⟩
       case measure=>exact vJ
    ·have i8:k=ps.length:=vO
     subst i8;rw[cE]at b5;go_wp2_with fail
     go_ret
     refine⟨_,n',rfl,?_,?_,?_⟩
     ·rw[h8.o];exact b5.o
     ·exact (g7.o.mono fun _ _ h=>h.elim).trans HK.o.1
     ·rcases HK.o.2 with h | h
      ·exact .inl h
      ·exact .inr fun b hb=>bG g7.o.size (h b hb)
theorem bel5:∀ (f:Nat) (l:vL),jax f l->l.length<=1000->jld l (jac f)
 | f,[],_,_=>jn1 _ _ (by simp)
 | f,[(x,y)],_,_=>jn1 _ _ (by simp)
 | 0,a :: b :: r,h,_=>absurd (jmv h) (by simp)
 | f+1,a :: b :: r,h,hl=>by
  have e:2<=(a :: b :: r).length:=by simp
  by_cases hk:0 < comK (a :: b :: r)
  ·exact jt1 f _ e hl h hk (bel5 f _ (jhM h e hk) (by rw[jcE];exact hl))
  ·exact jm0 f _ e hl h hk (fun i m=>bel5 f _ (jcU i h) (by rw[jcE];exact bG (dE _ _) hl))
theorem jms(w:vW)(v:vV)(l:vL)(hv:RdP w v l)(h:jaD l=0) :
  vQ 14 #[v] w fun e w'=>∃ u n,e=.returned u/\SRow w w' u n (jaU (jaB (jaF l))):=by
 have A:=jaG h;have HP:=Hd (jo6 w v l hv (by have:=A.len;omega) (fun p hp=>by have:=(A.size p hp).2.1;omega));have X:=jbx A;have E:(jaM l).length<=1000:=by unfold jaM;rw[bU];have:=A.len;omega
 have K:=Hd (jfg 12 (jaM l) (jp8 12 _ X E) X);have a2:=Hd (bel5 12 (jaM l) X E);have hf:jaU (jaB (jaF l))=belF (jac 12) (jaM l) [(jac (12+1) (jaM l)).text]:=rfl;have O:=jh4 A;have a3:(jaB (jaF l)).length=(jaA (jar (jac 12) (jaM l))).length+1:=rfl;have H:[(jac (12+1) (jaM l)).text].length+(jaA (jar (jac 12) (jaM l))).length<=900000:=by
  have:=A.len
  rw[jA];omega
 rw[hf]
 obtain⟨t,ht⟩:=vE (jac (12+1) (jaM l)).text
 rw[<-ht]at K H ⊢;have a5:=Hd H
 obtain⟨T,hT⟩:=vE (belF (jac 12) (jaM l) [t])
 have HT:=Hd hT;rw[<-hT]
 obtain⟨a0,c0,rfl⟩:=hv.sl;clear hv A X E ht h hf O a3 H hT;go_enter Tryz.func14,Tryz.ntmps14;go_wp2_with fail
 refine HP.o.mono ?_;rintro e w1 ⟨u,rfl,hU⟩
 obtain⟨a1,c1,rfl⟩:=hU.sl
 have Z:=Hd hU;clear hU;go_wp2_with fail
 refine vH (K.o w1 _ (ERow.rd Z.o)) fun Q HE=>?_;go_wp2_with fail
 have J:=(ExtR Q).alloc (.cells #[.string t] 9);have m:SRow w (Q.alloc (.cells #[.string t] 9)) (.slice (some ⟨Q.heap.size,0,none⟩) 1 1) 1 [t]:=
  ⟨⟨_,_,rfl⟩,⟨rfl,.inr ⟨_,1,_,rfl,cD _,Blk.new Q _,bM _,by unfold maxLen;omega,rfl,rfl⟩⟩,(Z.o.ext.trans HE.o).trans J,fun b hb=>by
   have e:some Q.heap.size=some b:=hb;obtain rfl:=bN e;exact (Z.o.ext.trans HE.o).size⟩
 refine (a2.o w _ _ _ 1 [t] (ERow.rd (Z.o.mono (HE.o.trans J))) m a5.o).mono ?_;rintro e w4 ⟨u,n4,rfl,hR,_,_⟩
 obtain⟨a4,c4,rfl⟩:=hR.sl
 rw[<-HT.o]at hR;have HR:=Hd hR;clear hR m J;go_wp2_with fail
 go_ret
 exact⟨_,_,rfl,HR.o⟩
end
theorem jzQ(w:vW)(v:vV)(l:vL)(hc:jbW w)(hv:RdP w v l)(h:jaD l=0):vR 53 #[v] w (.tuple #[.string (jaF l).text,.int .i64 0]):=by
 have A:=jaG h
 obtain⟨a,c,rfl⟩:=hv.sl;have X:=Hd hv;have E:=Hd A;have HC:=Hd hc;have H:=Hd h;have J:=Hd A.len;clear hv A hc h;go_enter Tryz.func53,Tryz.ntmps53;go_wp2_with fail
 refine vH (jgV w _ l X.o (by have:=J.o;omega) (fun p K=>by have:=E.o.size p K;omega)) fun w1 Z=>?_;rw[H.o];go_wp2_with fail
 refine (jwe w1 _ l (X.o.ext Z.o) (by have:=J.o;omega) (fun p K=>by have:=E.o.size p K;omega)).mono ?_;rintro e w2 ⟨u,rfl,O⟩;have HR:=Hd O.rd;have HX:=Hd (Z.o.trans O.ext);clear O
 obtain⟨a2,c2,hu⟩:=HR.o.sl
 subst hu;go_wp2_with fail
 refine (jkc 12 (jaM l) (jbx E.o) (by unfold jaM;rw[bU];have:=J.o;omega) w2 _ (HC.o.ext HX.o) HR.o).mono ?_;rintro e w3 ⟨k,rfl,hk,hE⟩
 obtain⟨a0,vk,bk,m,_⟩:=hk.open
 have q0:w3.cell? ⟨k,0,none⟩=some (.string (jac 13 (jaM l)).text):=m.cell vF;have Q:=Hd (HX.o.trans hE);clear hk m hE;unfold ptrV;go_wp2_with fail
 go_ret2
 exact⟨rfl,Q.o⟩
theorem jnE(w:vW)(v:vV)(l:vL)(hc:jbW w)(hv:RdP w v l)(h:jaD l=0):vR 25 #[v] w (.tuple #[.string (shaB (jaF l).text),.int .i64 0]):=by
 have A:=jzQ w v l hc hv h
 obtain⟨a,c,rfl⟩:=hv.sl
 obtain⟨t,H⟩:=vE (jaF l).text
 rw[<-H]at A ⊢;have K:=Hd A;have O:=Hd hc;clear A hc hv H h;go_enter Tryz.func25,Tryz.ntmps25;go_wp2_with fail
 refine K.o.mono ?_;rintro e w1 ⟨rfl,m⟩;have J:=Hd m;clear m;go_wp2_with fail
 refine vH (of_t _ _ [t] (by simp) (jdp w1 [t] 9) (O.o.ext (J.o.alloc _))) fun Q m=>?_;rw[jdX];have E:=Hd ((J.o.alloc _).trans m);go_wp2_with fail
 go_ret2
 exact⟨rfl,E.o⟩
section
section mixf
variable {P:Program} {l:List Oper} {E:vW->vW->Prop}
variable {R:List Nat->Act->vW->Prop} {ord done:List Nat} {a:Act} {w:vW} {k:Nat} {o:Oper}
end mixf
end
def jyL(P:Program)(l:Nat)(args:Array vV)(W:vW)(r:Nat)(Ct:vW->Prop):Prop:=
 YieldAt Fence.wide 0 P l args W fun e W'=>e=.returned (.bool true)/\jae (fun b=>b≠r) W W'/\Ct W'
def jyq(P:Program)(gf:FuncId)(lb:Array vV){σ:Type}(s0:σ)(Step:σ->Array vV->σ->Prop)(Done:σ->Prop)(S:vW->Prop):Prop:=
 ∀ (l:Nat) (C:σ->vW->Prop) (W:vW),(∀ s W1 W2,C s W1->jae (fun b=>b=W.heap.size) W1 W2->C s W2)->(∀ s W1,C s W1->S W1) ->
  (∀ s v s' W1,Step s v s'->C s W1->W.heap.size < W1.heap.size->jyL P l v W1 W.heap.size (C s'))->C s0 W ->
   CallsIn Fence.wide 0 P gf (#[.func (.yield l) #[] #[]]++lb) W (fun e W'=>(∃ v,e=.returned v)/\∃ s,Done s/\C s W')
def jyC(g:Nat)(W:vW)(Ct:vW->Prop):Exit->Act->vW->Prop
 | .normal,_,W'=>jae (fun b=>b≠g/\b≠g+1/\b≠g+2) W W'/\Ct W'
 | _,_,_=>False
theorem jtD{P:Program}{g:Operand}{ps:Array Tmp}{assign body:Code}{Q:Exit->Act->vW->Prop}{a:Act}{w:vW}
  {gf:Nat} {lb:Array vV} (hg:a.eval g=.func (.func gf) #[] lb) (eg:∀ args w,(callFunc gf args).run P w=.ok (.enter gf args) w)
  {σ:Type} {s0:σ} {Step:σ->Array vV->σ->Prop} {Done:σ->Prop} {S:vW->Prop} (IS:jyq P gf lb s0 Step Done S)
  (hps:∀ s v J,Step s v J->v.size=ps.size)
  (C:σ->vW->Prop) (hC:∀ s W A,C s W->jae (fun b=>b=w.heap.size\/b=w.heap.size+1\/b=w.heap.size+2) W A->C s A) (hS:∀ s W,C s W->S W)
  (h0:C s0 w) (a₁:Array vV->Act)
  (hassign:∀ (l:Nat) (v:Array vV) (s J:σ) (W:vW) (K:Act->vW->Prop),Step s v J->K (a₁ v) W ->
   assign.wpIn (Fence.wide.inRound l) 0 P (Exit.then K (fun _ _ _=>False)) { tmps:=(ps.zip v).foldl (fun t (p,v)=>t.setIfInBounds p v) a.tmps,defers:=[] } W)
  (hbody:∀ (l:Nat) (v:Array vV) (s J:σ) (W:vW),Step s v J->C s W->w.heap.size+2 < W.heap.size->body.wpIn (Fence.wide.inRound l) 0 P (jyC w.heap.size W (C J)) (a₁ v) W)
  (hdone:∀ (s:σ) (W:vW),Done s->C s W->Blk W w.heap.size (.deferred (some []))->Q .normal { a with defers:={ target:=.collected w.heap.size,args:=#[] } :: a.defers } W) :
  (Code.rangeFunc g ps assign body).wpIn Fence.wide 0 P Q a w:=by
 refine wpIn_rangeFunc ?_;intro fn _;show ∃ l mark w₁ d w₁' f args w₂,(Instr.enterLoop fn a.tmps ps assign body none).run P w=_/\_
 obtain⟨m,o⟩:∃ m:LoopState->Option Code->Loop,m=fun st pe=>{ state:=st,pending:=pe,fn,tmps:=a.tmps,params:=ps,assign,body,defers:=w.heap.size }:=⟨_,rfl⟩
 obtain⟨H,O⟩:∃ H,(w.alloc (.deferred (some []))).alloc (.loop (m .ready none))=H:=⟨_,rfl⟩
 have a1:Blk H (w.heap.size+1) (.loop (m .ready none)):=by
  rw[<-O];have:=Blk.new (w.alloc (.deferred (some []))) (.loop (m .ready none));rwa [bR]at this
 have a2:Blk H w.heap.size (.deferred (some [])):=by
  rw[<-O];exact (Blk.new w _).alloc _
 have a3:Ext w H:=by rw[<-O];exact ((jae.refl _ w).alloc _).alloc _
 have E:H.heap.size=w.heap.size+2:=by rw[<-O];simp
 refine⟨w.heap.size+1,[{ target:=.collected w.heap.size,args:=#[] }],H,{ target:=.fn (.func gf) lb,args:=#[.func (.yield (w.heap.size+1)) #[] #[]] },H,gf,
  #[.func (.yield (w.heap.size+1)) #[] #[]]++lb,H,?_,?_,?_,?_,fun h=>by simp[Fence.wide]at h,?_⟩
 ·rw[<-O,o];exact run_enterLoop_outer _ _ _ _ _
 ·simp only[resolve,hg]
  simp[go_sem]
 ·intro f' _;trivial
 ·simp[invoke,go_sem,eg]
 ·let CC:σ->vW->Prop:=fun s W=>C s W/\Blk W (w.heap.size+1) (.loop (m .ready none))/\Blk W w.heap.size (.deferred (some []))
  have a4:=IS (w.heap.size+1) CC H (fun s Wa Wb ⟨h1,h2,X⟩ e=>⟨hC s _ _ h1 (e.mono (fun b _ h=>by rw[E]at h;exact .inr (.inr h))),h2.keeps e (by rw[E];omega),X.keeps e (by rw[E];omega)⟩)
   (fun s W h=>hS s W h.1) ?_ ⟨hC s0 _ _ h0 (a3.mono (fun _ _ h=>h.elim)),a1,a2⟩
  ·refine CallsIn.mono a4 ?_
   rintro e A ⟨⟨v,rfl⟩,s,hd,h1,X,h4⟩
   obtain⟨ox,he⟩:∃ ox,(Instr.endLoop (w.heap.size+1)).run P A=.ok none (A.putObj (w.heap.size+1) ox):=⟨_,(run_endLoop (r:=m .ready none) X (by rw[o];simp)).trans (by rw[o])⟩
   exact⟨none,_,he,hdone s _ hd (hC s _ _ h1 ((jae.onePut _ _ _).mono (fun b _ h=>.inr (.inl h)))) (h4.put_other vO _)⟩
  ·rintro s v J W Z ⟨h1,X,h4⟩ a0
   rw[E]at a0
   refine⟨_,_,_,_,run_yield X (by rw[o];exact hps s v J Z),?_⟩
   refine roundIn_of_wpIn trivial ?_;rw[show (m .ready none).tmps=a.tmps from by rw[o],show (m .ready none).params=ps from by rw[o],show (m .ready none).assign=assign from by rw[o],show (m .ready none).body=body from by rw[o]];refine hassign _ v s J W _ Z ?_
   refine⟨_,run_beginRound X (by rw[o]),?_⟩
   have a5:C s (W.putObj (w.heap.size+1) (.loop { m .ready none with state:=.busy })):=hC s _ _ h1 ((jae.onePut _ _ _).mono (fun b _ h=>.inr (.inl h)));refine Code.wpIn_mono ?_ (hbody (w.heap.size+1) v s J _ Z a5 (by rw[World.putObj_size];exact a0));have a6:∀ (j:Option Code) (A:vW),jae (fun b=>b≠w.heap.size/\b≠w.heap.size+1/\b≠w.heap.size+2) (W.putObj (w.heap.size+1) (.loop { m .ready none with state:=.busy })) A ->
     (Instr.endRound (w.heap.size+1) j).run P A=.ok (.bool j.isNone) (A.putObj (w.heap.size+1) (.loop (m (if j.isNone then .ready else .done) j))) /\
     Blk (A.putObj (w.heap.size+1) (.loop (m (if j.isNone then .ready else .done) j))) (w.heap.size+1) (.loop (m (if j.isNone then .ready else .done) j)) /\
     Blk (A.putObj (w.heap.size+1) (.loop (m (if j.isNone then .ready else .done) j))) w.heap.size (.deferred (some [])):=by
    intro j A hK;have hl:Blk A (w.heap.size+1) (.loop { m .ready none with state:=.busy }):=(X.put_same _).keeps hK (fun h=>h.2.1 rfl);have hd:Blk A w.heap.size (.deferred (some [])):=(h4.put_other vO _).keeps hK (fun h=>h.1 rfl)
    refine⟨?_,hl.put_same _,hd.put_other vO _⟩
    rw[run_endRound j hl,o]
   intro e a' A hq;cases e with
   | normal =>
    obtain⟨hK,hc⟩:=hq
    obtain⟨f1,f2,f3⟩:=a6 none A hK
    have k1:jae (fun b=>b≠H.heap.size) W (W.putObj (w.heap.size+1) (.loop { m .ready none with state:=.busy })):=(jae.onePut _ _ _).mono (fun b _ h=>by have h:b=w.heap.size+1:=h;rw[E];omega);have k2:jae (fun b=>b≠H.heap.size) (W.putObj (w.heap.size+1) (.loop { m .ready none with state:=.busy })) A:=hK.mono (fun b _ h=>by rw[E];exact h.2.2);have k3:jae (fun b=>b≠H.heap.size) A (A.putObj (w.heap.size+1) (.loop (m .ready none))):=(jae.onePut _ _ _).mono (fun b _ h=>by have h:b=w.heap.size+1:=h;rw[E];omega)
    exact⟨_,_,f1,rfl,(k1.trans k2).trans k3,hC J _ _ hc ((jae.onePut _ _ _).mono (fun b _ h=>.inr (.inl h))),f2,f3⟩
   | _=>exact hq.elim
section
attribute [local go_sem] Oper.semAt_some
abbrev EntS:=Ent (vN)
theorem Tryz.uMapSE:Tryz.prog.underlying 137=some (.map 9 59):=vY
def jfR(s:List EntS):Array Nat:=(s.map (·.2.2)).toArray
def jyr(es:List EntS)(s:List EntS)(v:Array vV)(s':List EntS):Prop:=∃ x∈ja1 es (jfR s),v=#[str x.1]/\s'=s++[x]
def jpu(es:List EntS)(s:List EntS):Prop:=ja1 es (jfR s)=[]
def jtg(w:vW)(r:Nat):Array Nat:=match w.heap[r]? with | some (.mapIter _ _ s _)=>s | _=>#[]
theorem jjX{w:vW}{r:Nat}{m:Option Nat}{a b:Nat}{s:Array Nat}(h:Blk w r (.mapIter m a s b)):jtg w r=s:=by
 unfold jtg;rw[show w.heap[r]?=_ from h]
theorem jxh{es:List EntS}{s:List EntS}{x:EntS}(hx:x∈ja1 es (jfR s)):(ja1 es (jfR (s++[x]))).length < (ja1 es (jfR s)).length:=by
 have e:ja1 es (jfR (s++[x]))=(ja1 es (jfR s)).filter (fun y => !(y.2.2 == x.2.2)):=by
  unfold ja1 jfR;rw[List.filter_filter];refine List.filter_congr (fun y _=>?_);simp only[List.contains_toArray,bZ,bT,gN,List.contains_append]
  by_cases h1:y.2.2=x.2.2 <;> simp[h1]
 rw[e,List.length_filter_lt_length_iff_exists]
 exact⟨x,hx,by simp⟩
def KyS(bx bm ck:Nat)(es:List EntS)(W:vW):Prop:=Blk W bx (.cells #[.map (some bm)] 137)/\Blk W bm (.map (Tryz.ES.arr es) ck)
def jAd(r bm ck:Nat)(es:List EntS)(C:List EntS->vW->Prop)(wr:vW):Prop:=∃ s,C s wr/\Blk wr r (.mapIter (some bm) ck (jfR s) ck)
theorem jxc(bx bm ck:Nat)(es:List EntS)(hnd:(es.map (·.2.2)).Nodup)(hlt:∀ x∈es,x.2.2 < ck) :
  jyq Tryz.prog 115 #[.pointer (some ⟨bx,0,none⟩)] ([]:List EntS) (jyr es) (jpu es) (KyS bx bm ck es):=by
 intro l C W hC hS hY h0
 obtain⟨K,A⟩:=hS _ _ h0
 have c1:=K.cell (i:=0) (v:=.map (some bm)) vF;have O:=jmy Tryz.ES Tryz.uMapSE A;have E:=Hd (show C [] (W.alloc (.mapIter (some bm) ck #[] ck))from hC [] _ _ h0 (((ExtR W).alloc _).mono (fun _ _ h=>h.elim)));have HC:=Hd hC;have HS:=Hd hS;have HY:=Hd hY;have H:=Hd hnd;have J:=Hd hlt;clear hC hS hY h0 K A hnd hlt;refine callsIn_of_wp Tryz.func115 rfl trivial ?_ rfl;simp only[Tryz.ntmps115,dN,bP,dD,Nat.reduceAdd,Nat.reduceSub,dL,dK,dX,dP,cM,cZ];gi_wp2_with fail
 obtain⟨r,hr⟩:=vE W.heap.size
 have HR:=Hd hr;rw[<-hr];clear hr;gi_loopw [] (fun wr=>jAd r bm ck es C wr) (fun wr=>(ja1 es (jtg wr r)).length)
 case atStart=>exact⟨[],E.o,by rw[HR.o];exact Blk.new W _⟩
 case round =>
  obtain⟨s,m,Q⟩:=hrel
  obtain⟨K,A⟩:=HS.o _ _ m
  rcases jo8 Tryz.ES A Q J.o 0 with⟨hl0,hnx⟩ |⟨x,hxl,w2,hnx,hr2,hk2⟩
  ·have a7:Hid (jpu es s):=hl0
   have a8:=Hd m;clear hl0 m K A Q HC HS HY H J E c1 O;gi_wp2_with fail
   refine bodyPost_end (results_none rfl _ _ _) rfl ?_
   exact⟨⟨_,rfl⟩,s,a7.o,a8.o⟩
  ·have X:r≠bm:=fun e=>by have:=A.uniq (e ▸ Q);cases this
   have Z:=A.keeps hk2 (fun e=>X e.symm);have a1:x∈es:=(cU.1 hxl).1;have a9:=jmx Tryz.ES Z a1 hr2 H.o;have a2:C s w2:=HC.o s _ _ m (hk2.mono (fun b _ e=>by rw[<-HR.o];exact e))
   obtain⟨fn,tm,b0,bd,a3,a4⟩:=HY.o s #[str x.1] (s++[x]) w2 ⟨x,hxl,rfl,rfl⟩ a2 (by rw[<-HR.o];exact hr2.lt)
   have a0:(Instr.yield l #[Tryz.ES.κ x.1]).run Tryz.prog w2=.ok (.round l fn tm b0 bd) w2:=a3;have b1:=Hd hxl;have b2:=Hd (jjX Q);have a5:(jfR s).push x.2.2=jfR (s++[x]):=by unfold jfR;simp
   rw[a5]at hr2;have b3:=Hd hr2;have b4:=Hd a4;clear a3 a2 m K A Q HC HS H J E c1 O Z hk2 hxl a1 hr2 a4 a5 X;gi_wp2_with fail
   refine⟨rfl,b4.o.mono ?_⟩
   rintro e w5 ⟨rfl,k5,C5⟩;have a6:=Hd (b3.o.keeps k5 (fun h=>h HR.o));have b5:=Hd C5;clear C5 k5 hnx a9 a0;gi_wp2_with fail
   go_roundw
   case rel=>exact⟨_,b5.o,a6.o⟩
   case measure =>
    rw[jjX a6.o,b2.o];exact jxh b1.o
end
end Go.Proofs.YtegloohdmjadoaaGreatDoor
