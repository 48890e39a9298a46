/- Lemmas; each is under no condition but those that it states. -/
import Derived.Test.YtfjmkebdhojanaaGreatDoorPt34
namespace Go.Proofs.YtfjmkebdhojanaaGreatDoor
set_option linter.unusedSimpArgs false
set_option linter.unusedVariables false
set_option maxRecDepth 100000
set_option maxHeartbeats 16000000
open Go Go.RowKit
section
attribute [local go_sem] Oper.semAt_some
theorem Tryz.sParts5:jdv Tryz.prog 185 22 1 24:=jdv.mk' (z:=.slice none 0 0) vY vY rfl vI
def jlz(w wr:vW)(pv:vV)(ps:List (vL)):Prop:=∃ vals:List vV,vals.length=ps.length/\ORow 22 1 w wr pv ps.length vals/\∀ (j:Nat) p,ps[j]?=some p->∃ val,vals[j]?=some val/\ERow w wr val p.length p
theorem ORow.back{T:TypeId}{sz:Nat}{w0 w1 w:vW}{v:vV}{n:Nat}{xs:List vV}(h:ORow T sz w1 w v n xs)(e:Ext w0 w1):ORow T sz w0 w v n xs:=⟨h.sl,h.own,e.trans h.ext,fun b hb=>bJ e.size (h.new b hb)⟩
theorem jlz.add{w W W':vW}{pv v' val:vV}{ps:List (vL)}{q:vL}{vals:List vV}(h1:vals.length=ps.length)(h2:ORow 22 1 w W pv ps.length vals)(h3:∀ (j:Nat) p,ps[j]?=some p->∃ val,vals[j]?=some val/\ERow w W val p.length p)(hq:ERow w W val q.length q)
  (r1:ORow 22 1 w W' v' (ps.length+1) (vals++[val])) (r2:jae (fun b=>pv.ownBlock=some b) W W'):jlz w W' v' (ps++[q]):=by
 have o:∀ {u:vV} {p:vL},ERow w W u p.length p->ERow w W' u p.length p:=fun {u p} h=>⟨h.sl,ja8 h.own r2 (fun b hb e=>jtk h2.own h.own vI b e hb),r1.ext,h.new⟩
 refine⟨vals++[val],by simp[h1],by simpa [bC]using r1,fun j p A=>?_⟩
 by_cases hlt:j < ps.length
 ·rw[cS hlt]at A
  obtain⟨u,H,J⟩:=h3 j p A
  exact⟨u,by rw[cS vO];exact H,o J⟩
 ·rw[cQ vO]at A
  have E:j - ps.length=0:=by
   have:=(bP.1 A).1
   simp at this;omega
  rw[E]at A;obtain rfl:=bO A
  exact⟨val,by rw[cQ vO,h1,E];rfl,o hq⟩
theorem jfb{w4 w6 w7:vW}{v v':vV}(k:jae (fun b=>v.ownBlock=some b) w4 w6)(o:v'.ownBlock=v.ownBlock\/∀ b,v'.ownBlock=some b->w4.heap.size<=b)(k7:jae (fun b=>v'.ownBlock=some b) w6 w7):jae (fun b=>v.ownBlock=some b) w4 w7:=
 k.trans' k7 fun x A e=>o.elim (fun h=>h ▸ e) fun h=>by have:=h x e;omega
theorem jhE{w4 w6:vW}{v v' u:vV}(o:v'.ownBlock=v.ownBlock\/∀ b,v'.ownBlock=some b->w4.heap.size<=b)(hz:w4.heap.size<=w6.heap.size)(o7:u.ownBlock=v'.ownBlock\/∀ b,u.ownBlock=some b->w6.heap.size<=b):u.ownBlock=v.ownBlock\/∀ b,u.ownBlock=some b->w4.heap.size<=b:=by
 rcases o7 with h | h
 ·rw[h];exact o
 ·exact .inr fun b hb=>bJ hz (h b hb)
def Bl5R(w0 wP:vW)(v:vV)(ps:List (vL))(f:Nat)(acc:vM)(ov iv sv:vV)(wr:vW):Prop:=∃ k n':Nat,k<=ps.length/\iv=.int .i64 k/\SRow w0 wr ov n' ((ps.take k).foldl (jd0 f) acc)/\jae (fun b=>v.ownBlock=some b) wP wr/\(ov.ownBlock=v.ownBlock\/∀ b,ov.ownBlock=some b->wP.heap.size<=b)
theorem juG(f:Nat)(l:vL)(h2:2<=l.length)(hln:l.length<=1000)(hok:jap (f+1) l)(hk:0 < comK l)(hB:jlx (jak (comK l) l) (jac f)):jlx l (jac (f+1)):=by
 intro w0 w lv v n X hv hR a2;have HV:=Hd hv;have HO:=Hd hok;have i1:=Hd hk;have e6:=jhQ hok h2;have e7:=Hd (jni hok h2);have b6:=jbi hok h2;have e8:Hid (∀ p∈l,p.1.size<=1000000):=(fun p hp=>bJ (hok.size p hp).2.1 vI);have e9:((l.getD 0 pd).1.extract 0 (comK l)).size=comK l/\comK l<=12:=by
  have f0:l.getD 0 pd∈l:=by
   rw[bH,bA vO];exact dD _
  have h1:=(b6 _ f0).2;have h3:=(hok.size _ f0).2.1;rw[cJ];omega
 have b9:=jlL hok h2 X;have c2:=fun W (e:Ext w W)=>jk9 W lv l (hv.ext e) (fun e=>by rw[e]at h2;simp at h2) vO e8.o;rw[e6]at c2
 obtain⟨p,hp⟩:=vE ((l.getD 0 pd).1.extract 0 (comK l))
 rw[<-hp]at e7 e9 c2;have f1:=Hd (show 0 < p.size/\p.size<=12 by omega);have g3:=Hd c2;have HR:=Hd hR
 obtain⟨T,hT⟩:=vE (belF (jac (f+1)) l X)
 rw[<-hT]at b9 ⊢;rw[joP h2]at a2;have d3:∀ q∈je6 l,q.length≠0->jap f q/\q.length<=1000/\jlx q (jac f):=fun q hq h0=>by
  unfold je6 at hq;rw[if_pos hk]at hq;rw[bY.1 hq]
  exact⟨jhS hok h2 hk,by rw[jcL];exact hln,hB⟩
 obtain⟨ps,a3⟩:=vE (je6 l)
 rw[<-a3]at b9 a2 d3;have g4:=Hd b9;have g7:=Hd a2;have f2:=Hd d3;have d4:=Hd (show ps=[jak (comK l) l] by rw[a3];unfold je6;rw[if_pos hk])
 obtain⟨a0,c0,rfl⟩:=hv.sl
 obtain⟨a1,c1,rfl⟩:=hR.sl;have g0:¬(l.length:Int) < 2:=vO
 have i2:p.toList.isEmpty=false:=by
  rw[bR];cases h:p.data.toList with
  | nil=>have:=f1.o.1;have e:p.data.toList.length=p.size:=rfl;rw[h]at e;simp at e;omega
  | cons=>rfl
 clear hv hok b6 e9 hp hk hR hT b9 c2 e6 a2 d3 a3 hB;go_enter Tryz.func57,Tryz.ntmps57;go_wp2_with fail
 refine vH (g3.o w (ExtR w)) fun w2 c3=>?_;go_wp2_with fail
 refine (jh7 w2 _ l p (HV.o.ext c3.o) vO e8.o (by have:=f1.o.2;omega)).mono ?_;rintro e w3 ⟨u,rfl,hU⟩;rw[e7.o]at hU
 obtain⟨l',d5⟩:∃ l',l'=jak (comK l) l:=⟨_,rfl⟩
 rw[<-d5]at hU d4;have g8:=Hd (show l'.length=l.length by rw[d5,jcL])
 obtain⟨a5,c5,rfl⟩:=hU.sl
 have HU:=Hd hU;have d6:=Hd (c3.o.trans hU.ext);clear hU d5;go_wp2_with (at_builtin;refine jaO Tryz.sParts5 ((ORow.nil _ _ d6.o).mono ((ExtR w3).alloc _)) (.tmp 18) (.tmp 22) rfl rfl rfl (jaJ (Blk.new w3 _)) (news:=[.slice a5 l'.length c5]) (by intro u hu;simp at hu;rw[hu];rfl) rfl rfl (by unfold maxLen;have:=g8.o;omega) vO (fun v' w4 r1 r2 r3=>?_);obtain⟨a6,c6,g9⟩:=r1.sl;subst g9)
 have a4:=(ExtR w3).alloc (.cells [Value.slice a5 l'.length c5].toArray 22);have c4:=Hd (show jlz w w4 (.slice a6 (0+1) c6) ps from by
  rw[d4.o];exact jlz.add (vals:=[]) (ps:=[]) rfl ((ORow.nil _ _ d6.o).mono a4) (fun j p hj=>by simp at hj) (ORow.mono (ORow.back HU.o c3.o) a4) r1 r2)
 have h5:=Hd (HR.o.mono (c4.o.choose_spec.2.1.ext));clear r1 r2 r3 a4;have d7:ps.length=0+1:=by rw[d4.o];rfl
 rw[<-d7]at c4;rw[show (Value.slice a6 1 c6)=.slice a6 ps.length c6 by rw[d7]];have i3:0 < ps.length/\ps.length<=16:=vO
 clear d7 HU d6 c3
 obtain⟨vals,d8,a9,f3⟩:=c4.o
 obtain⟨_,⟨h3,h4⟩ |⟨g,i4,i5,h3,_⟩⟩:=a9.own
 ·exfalso
  have e:([]:List vV).length=0:=rfl;rw[h4]at d8;omega
 obtain⟨rfl,_,rfl⟩:=cN h3
 have h6:=Hd (show ∀ (j:Nat) u,vals[j]?=some u->w4.cell? ⟨g,j,none⟩=some u from fun j u hj=>by
  have h:=World.ownsRow.cells (g:=g) a9.own rfl j u hj
  rwa [Addr.add_lit,cH]at h)
 have f4:=Hd (a9.new g rfl);have f5:=Hd (bB d8 (bB a9 f3));have f6:=Hd a9.ext;clear c4 d8 a9 f3;go_wp2_with fail
 go_loopw [1,8,9] (fun ov iv sv wr=>Bl5R w0 w4 (.slice a1 n c1) ps f X ov iv sv wr) (fun _ iv _ _=>ps.length - (intOf iv).toNat)
 case atStart=>exact⟨0,n,cD _,rfl,h5.o,jae.refl _ _,.inl rfl⟩
 case round =>
  obtain⟨k,n',hk,rfl,hR,hK,hO⟩:=hrel
  have b0:=Hd hR;have HK:=Hd (bB hK hO)
  obtain⟨ao,co,rfl⟩:=hR.sl;clear hR hK hO
  by_cases hlt:k < ps.length
  ·have b1:(k:Int) < (ps.length:Int):=vO
   obtain⟨q,hq⟩:∃ q,ps[k]?=some q:=⟨_,bA hlt⟩
   have HQ:=Hd hq
   obtain⟨i6,b7,hE⟩:=f5.o.2.2 k q hq
   obtain⟨a7,c7,rfl⟩:=hE.sl;have NB:Hid (∀ b,w.heap.size<=b->¬(Value.slice a1 n c1).ownBlock=some b):=(fun b hb e=>by have:=HR.o.lt b e;omega);have q1:wr.cell? ⟨g,k,none⟩=some (.slice a7 q.length c7):=jam (h6.o k _ b7) HK.o.1 (NB.o g f4.o);have f7:∀ W,jae (fun b=>(Value.slice a1 n c1).ownBlock=some b) w4 W->RdP W (.slice a7 q.length c7) q:=fun W kW=>by
    rcases ERow.rd hE with h |⟨b,o,c1,hh,hb,hc,hcell⟩
    ·exact .inl h
    ·cases hh
     have nb:=NB.o b (hE.new b rfl);exact .inr ⟨b,o,_,rfl,bQ hb kW.size,hc,fun j x hx=>⟨jam (hcell j x hx).1 kW nb,jam (hcell j x hx).2 kW nb⟩⟩
   have c9:=Hd f7;clear f7 hE b7 hq;have d9:(ps.take (k+1)).foldl (jd0 f) X=jd0 f ((ps.take k).foldl (jd0 f) X) q:=by rw[bW,HQ.o,dU];rfl
   have b8:=jhb (f:=f) (ps.take k) X (fun x hx h0=>(f2.o x (gC hx) h0).1);have e4:=jil (f:=f) ps k q HQ.o
   obtain⟨A,hA⟩:=vE ((ps.take k).foldl (jd0 f) X)
   rw[<-hA]at b0 d9 b8;have d0:=Hd d9;have H:=Hd (show A.length+cstP f q<=900000 by have:=g7.o;omega);clear d9 b8 e4 hA
   by_cases hq0:q.length=0
   ·have g5:(q.length:Int)=0:=vO
    have h7:=Hd hq0;clear hq0;go_wp2_with fail
    go_roundw
    case rel=>exact⟨k+1,n',by omega,by go_num,by rw[d0.o];unfold jd0;rw[if_pos h7.o];exact b0.o,HK.o⟩
    case measure=>exact vJ
   ·have g5:¬(q.length:Int)=0:=vO
    obtain⟨d1,f8,f9⟩:=f2.o q (bI HQ.o) hq0
    have g1:=Hd (jgN f q (js8 f q d1 f8) d1 wr _ (c9.o wr HK.o.1));have e0:=Hd f9;have J:=Hd (jik d1 hq0 A);have K:=Hd (show jd0 f A q=belF (jac f) q (addT A (jac (f+1) q).text) by unfold jd0;rw[if_neg hq0])
    obtain⟨t,ht⟩:=vE (jac (f+1) q).text
    rw[<-ht]at g1 K J;clear d1 f8 f9 hq0 ht;go_wp2_with fail
    refine g1.o.mono ?_;rintro e w5 ⟨rfl,hE⟩;have e1:=Hd (b0.o.mono hE);have d2:Hid (jae (fun b=>(Value.slice a1 n c1).ownBlock=some b) w4 w5):=HK.o.1.trans (hE.mono fun _ _ h=>h.elim);have q1:=jaa q1 hE;have Z:=Hd HK.o.2;clear hE
    by_cases h32:32<=t.size
    ·have g6:(32:Int)<=(t.size:Int):=vO
     have HT:=Hd h32;clear h32;go_wp2_with fail
     refine vC (in_c w5 _ A t (SRow.rd e1.o) (by have:=H.o;omega)) fun w6 hE=>?_;have e2:=Hd (e1.o.mono hE);have b2:Hid (jae (fun b=>(Value.slice a1 n c1).ownBlock=some b) w4 w6):=d2.o.trans (hE.mono fun _ _ h=>h.elim);have q1:=jaa q1 hE;clear hE;cases hi:inB A t with
     | true =>
      have hA:addT A t=A:=by unfold addT addF;rw[if_pos HT.o,if_pos (show memB A t=true from hi)]
      rw[hA]at J K;clear hi hA;go_wp2_with fail
      refine (e0.o w0 _ _ _ n' A (c9.o _ b2.o) e2.o (by have:=J.o;have:=H.o;omega)).mono ?_;rintro e w7 ⟨u,n7,rfl,E,O,Q⟩
      obtain⟨a8,c8,rfl⟩:=E.sl
      have b3:=Hd E;have b4:=Hd (bB (jfb b2.o Z.o O) (jhE Z.o b2.o.size Q));clear E O Q;go_wp2_with fail
      go_roundw
      case rel=>exact⟨k+1,n7,by omega,by go_num,by rw[d0.o,K.o];exact b3.o,b4.o⟩
      case measure=>exact vJ
     | false =>
      have hA:addT A t=A++[t]:=by unfold addT addF;rw[if_pos HT.o,if_neg (by rw[show memB A t=inB A t from rfl,hi];simp)]
      rw[hA]at J K;clear hi hA
      obtain⟨A2,e3⟩:=vE (A++[t])
      have g2:=Hd e3;rw[<-e3]at J K;clear e3;have h8:=Hd (show n'=A.length from by have:=e2.o.own.1;simp at this;omega);have i7:n'<=900000:=by have:=H.o;have:=h8.o;omega
      go_wp2_with (at_builtin;refine jaO Tryz.sStrs (e2.o.mono ((ExtR w6).alloc _)) (.tmp 63) (.tmp 65) rfl rfl rfl (jaJ (Blk.new w6 _)) (news:=[.string t]) (by intro u hu;simp at hu;rw[hu];rfl) rfl rfl (by unfold maxLen;omega) vO (fun v8 w8 r1 r2 r3=>?_);obtain⟨a8,c8,rfl⟩:=r1.sl;have h9:=Hd (show SRow w0 w8 (.slice a8 (n'+1) c8) (n'+1) A2 by rw[g2.o];unfold SRow;rw[cB];exact r1);have b5:=Hd (bB (jfb (b2.o.trans (((ExtR w6).alloc _).mono fun _ _ h=>h.elim)) Z.o r2) (jhE Z.o (bJ b2.o.size ((ExtR w6).alloc _).size) r3));have q1:=jam (jaa q1 ((ExtR w6).alloc _)) r2 (fun e=>by rcases Z.o with h | h;exact NB.o g f4.o (h ▸ e);have:=h g e;have:=f5.o.2.1.lt g rfl;omega);clear r1 r2 r3)
      have e5:A2.length=A.length+1:=by rw[g2.o];simp
      refine (e0.o w0 _ _ _ (n'+1) A2 (c9.o _ b5.o.1) h9.o (by have:=J.o;have:=H.o;omega)).mono ?_;rintro e w7 ⟨u,n7,rfl,E,O,Q⟩
      obtain⟨a8,c8,rfl⟩:=E.sl
      have b3:=Hd E;have b4:=Hd (bB (jfb b5.o.1 b5.o.2 O) (jhE b5.o.2 b5.o.1.size Q));clear E O Q e5;go_wp2_with fail
      go_roundw
      case rel=>exact⟨k+1,n7,by omega,by go_num,by rw[d0.o,K.o];exact b3.o,b4.o⟩
      case measure=>exact vJ
    ·have g6:¬(32:Int)<=(t.size:Int):=vO
     have hA:addT A t=A:=by unfold addT;rw[if_neg h32]
     rw[hA]at J K;clear hA h32;go_wp2_with fail
     refine (e0.o w0 _ _ _ n' A (c9.o _ d2.o) e1.o (by have:=J.o;have:=H.o;omega)).mono ?_;rintro e w7 ⟨u,n7,rfl,E,O,Q⟩
     obtain⟨a8,c8,rfl⟩:=E.sl
     have b3:=Hd E;have b4:=Hd (bB (jfb d2.o Z.o O) (jhE Z.o d2.o.size Q));clear E O Q;go_wp2_with fail
     go_roundw
     case rel=>exact⟨k+1,n7,by omega,by go_num,by rw[d0.o,K.o];exact b3.o,b4.o⟩
     case measure=>exact vJ
  ·have i0:k=ps.length:=vO
   subst i0;rw[cL]at b0;go_wp2_with fail
   go_ret
   refine⟨_,n',rfl,?_,?_,?_⟩
   ·rw[g4.o];exact b0.o
   ·exact (f6.o.mono fun _ _ h=>h.elim).trans HK.o.1
   ·rcases HK.o.2 with h | h
    ·exact .inl h
    ·exact .inr fun b hb=>bJ f6.o.size (h b hb)
def jfp(l:vL):List (vL):=(List.range 16).map fun i=>jak 1 (cutL i l)
theorem jog{l:vL}{i:Nat}(h:i < 16):(jfp l).take (i+1)=(jfp l).take i++[jak 1 (cutL i l)]:=by
 rw[bW]
 congr 1
 unfold jfp;rw[bX,dW h];rfl
def BpR(w:vW)(l:vL)(pv iv:vV)(wr:vW):Prop:=∃ i:Nat,i<=16/\iv=.int .i64 i/\jlz w wr pv ((jfp l).take i)
theorem jnH(f:Nat)(l:vL)(h2:2<=l.length)(hln:l.length<=1000)(hok:jap (f+1) l)(hk:¬ 0 < comK l)(hB:∀ i,(cutL i l).length≠0->jlx (jak 1 (cutL i l)) (jac f)):jlx l (jac (f+1)):=by
 intro w0 w lv v n a3 hv hR a2;have HV:=Hd hv;have d5:=jhQ hok h2;rw[show comK l=0 by omega,show (l.getD 0 pd).1.extract 0 0=⟨#[]⟩from jbo (by rw[jcO];rfl)]at d5;have f3:Hid (∀ p∈l,p.1.size<=1000000):=(fun p hp=>bJ (hok.size p hp).2.1 vI);have c9:=jlL hok h2 a3;have d6:=fun W (e:Ext w W)=>jk9 W lv l (hv.ext e) (fun e=>by rw[e]at h2;simp at h2) vO f3.o;rw[d5]at d6;have h7:=Hd d6;have HR:=Hd hR
 obtain⟨T,hT⟩:=vE (belF (jac (f+1)) l a3)
 rw[<-hT]at c9 ⊢;rw[joP h2]at a2;have d7:∀ q∈je6 l,q.length≠0->jap f q/\q.length<=1000/\jlx q (jac f):=fun q hq h0=>by
  unfold je6 at hq;rw[if_neg hk]at hq
  obtain⟨i,_,rfl⟩:=bK.1 hq
  rw[jcL]at h0
  exact⟨jcU i hok,by rw[jcL];exact bJ (dF _ _) hln,hB i h0⟩
 obtain⟨ps,a9⟩:=vE (je6 l)
 rw[<-a9]at c9 a2 d7;have h8:=Hd c9;have h9:=Hd a2;have f4:=Hd d7;have f5:=Hd (show ps=jfp l by rw[a9];unfold je6 jfp;rw[if_neg hk])
 obtain⟨a0,c0,rfl⟩:=hv.sl
 obtain⟨a1,c1,rfl⟩:=hR.sl;have g0:¬(l.length:Int) < 2:=vO
 have i9:(⟨#[]⟩:vB).toList.isEmpty=true:=by rw[bR];rfl
 clear hv hok hk hR hT c9 d6 d5 a2 d7 a9 hB;go_enter Tryz.func57,Tryz.ntmps57;go_wp2_with fail
 refine vH (h7.o w (ExtR w)) fun w2 f6=>?_;go_wp2_with fail
 go_loopw [5,7] (fun pv iv wr=>BpR w l pv iv wr) (fun _ iv _=>16 - (intOf iv).toNat)
 case atStart=>exact⟨0,cD _,rfl,[],rfl,ORow.nil _ _ f6.o,fun j p hj=>by simp at hj⟩
 case round =>
  obtain⟨i,hi,rfl,vals,b2,H,b4⟩:=hrel
  have J:=Hd (bB b2 (bB H b4))
  obtain⟨a6,c6,rfl⟩:=H.sl;clear b2 H b4
  by_cases hi16:i < 16
  ·have b3:(i:Int) < 16:=vO
   obtain⟨bi,d8⟩:∃ bi:vU,bi=i.toUInt8:=⟨_,rfl⟩
   have f7:bi.toNat=i:=by rw[d8];simp;omega
   have f8:=jb8 wr bi;rw[f7]at f8;have f9:=Hd (jnj i vO l);rw[<-d8]at f9;have d9:=Hd (jog (l:=l) hi16)
   obtain⟨pi,e0⟩:=vE ((jfp l).take i)
   rw[<-e0]at J d9 ⊢;have d0:=Hd (show pi.length=i by rw[e0];unfold jfp;rw[cI];simp;omega);have g1:=Hd (J.o.2.1.ext);rw[d0.o]at J ⊢;clear d8 f7 e0;go_wp2_with fail
   obtain⟨w4,e1⟩:=vE (wr.alloc (.cells #[.int .u8 (i:Int)] 5))
   have b0:=Hd (show Ext wr w4 by rw[e1];exact (ExtR wr).alloc _);rw[<-e1];clear f8 e1;refine (jh7 w4 _ l ⟨#[bi]⟩ (HV.o.ext (g1.o.trans b0.o)) vO f3.o (by show 1<=1000000;decide)).mono ?_;rintro e w5 ⟨u,rfl,hU⟩;rw[f9.o]at hU
   obtain⟨l',e2⟩:∃ l',l'=jak 1 (cutL i l):=⟨_,rfl⟩
   have j0:=Hd (show l'.length<=1000 by rw[e2,jcL];exact bJ (dF _ _) hln);rw[<-e2]at hU d9
   obtain⟨a5,c5,rfl⟩:=hU.sl
   have HU:=Hd hU;have f0:=Hd (b0.o.trans hU.ext);clear hU e2;have g2:=f0.o.trans ((ExtR w5).alloc (.cells [Value.slice a5 l'.length c5].toArray 22));have e3:=Hd g2;clear g2;go_wp2_with (at_builtin;refine jaO Tryz.sParts5 (ORow.mono J.o.2.1 e3.o) (.tmp 28) (.tmp 35) rfl rfl rfl (jaJ (Blk.new w5 _)) (news:=[.slice a5 l'.length c5]) (by intro u hu;simp at hu;rw[hu];rfl) rfl rfl (by unfold maxLen;omega) vO (fun v' w6 r1 r2 r3=>?_);obtain⟨a8,c8,rfl⟩:=r1.sl)
   have i0:=Hd (show jlz w w6 (.slice a8 (i+1) c8) (pi++[l'])from jlz.add (pv:=.slice a6 i c6) (by rw[d0.o];exact J.o.1) (by rw[d0.o];exact ORow.mono J.o.2.1 e3.o) (fun j p hj=>by
    obtain⟨u,hu,hE⟩:=J.o.2.2 j p hj
    exact⟨u,hu,ORow.mono hE e3.o⟩) (ORow.mono (ORow.back HU.o (g1.o.trans b0.o)) ((ExtR w5).alloc _)) (by rw[d0.o];exact r1) r2)
   clear r1 r2 r3;go_roundw
   case rel=>exact⟨i+1,by omega,by go_num,by rw[d9.o];exact i0.o⟩
   case measure=>exact vJ
  ·have i1:i=16:=vO
   subst i1;have c2:(jfp l).take 16=ps:=by rw[f5.o];exact bN (by unfold jfp;simp)
   have i2:ps.length=16:=by rw[f5.o];unfold jfp;simp
   rw[c2]at J ⊢;have e4:=Hd (show jlz w wr (.slice a6 ps.length c6) ps from⟨vals,J.o⟩);clear J c2
   rename vW=>w4
   have i3:=Hd (HR.o.mono (e4.o.choose_spec.2.1.ext));have j1:0 < ps.length/\ps.length<=16:=vO
   clear i2 hi16 hi f6
   obtain⟨vals,b2,H,b4⟩:=e4.o
   obtain⟨_,⟨h3,h4⟩ |⟨g,j2,j3,h3,_⟩⟩:=H.own
   ·exfalso
    have e:([]:List vV).length=0:=rfl;rw[h4]at b2;omega
   obtain⟨rfl,_,rfl⟩:=cN h3
   have i4:=Hd (show ∀ (j:Nat) u,vals[j]?=some u->w4.cell? ⟨g,j,none⟩=some u from fun j u hj=>by
    have h:=World.ownsRow.cells (g:=g) H.own rfl j u hj
    rwa [Addr.add_lit,cH]at h)
   have g3:=Hd (H.new g rfl);have g4:=Hd (bB b2 (bB H b4));have g7:=Hd H.ext;clear e4 b2 H b4;go_wp2_with fail
   go_loopw [1,8,9] (fun ov iv sv wr=>Bl5R w0 w4 (.slice a1 n c1) ps f a3 ov iv sv wr) (fun _ iv _ _=>ps.length - (intOf iv).toNat)
   case atStart=>exact⟨0,n,cD _,rfl,i3.o,jae.refl _ _,.inl rfl⟩
   case round =>
    obtain⟨k,n',hk,rfl,hR,hK,hO⟩:=hrel
    have b5:=Hd hR;have HK:=Hd (bB hK hO)
    obtain⟨ao,co,rfl⟩:=hR.sl;clear hR hK hO
    by_cases hlt:k < ps.length
    ·have b1:(k:Int) < (ps.length:Int):=vO
     obtain⟨q,hq⟩:∃ q,ps[k]?=some q:=⟨_,bA hlt⟩
     have HQ:=Hd hq
     obtain⟨j4,c3,hE⟩:=g4.o.2.2 k q hq
     obtain⟨a7,c7,rfl⟩:=hE.sl;have NB:Hid (∀ b,w.heap.size<=b->¬(Value.slice a1 n c1).ownBlock=some b):=(fun b hb e=>by have:=HR.o.lt b e;omega);have q1:wr.cell? ⟨g,k,none⟩=some (.slice a7 q.length c7):=jam (i4.o k _ c3) HK.o.1 (NB.o g g3.o);have g8:∀ W,jae (fun b=>(Value.slice a1 n c1).ownBlock=some b) w4 W->RdP W (.slice a7 q.length c7) q:=fun W kW=>by
      rcases ERow.rd hE with h |⟨b,o,c1,hh,hb,hc,hcell⟩
      ·exact .inl h
      ·cases hh
       have nb:=NB.o b (hE.new b rfl);exact .inr ⟨b,o,_,rfl,bQ hb kW.size,hc,fun j x hx=>⟨jam (hcell j x hx).1 kW nb,jam (hcell j x hx).2 kW nb⟩⟩
     have d1:=Hd g8;clear g8 hE c3 hq;have e5:(ps.take (k+1)).foldl (jd0 f) a3=jd0 f ((ps.take k).foldl (jd0 f) a3) q:=by rw[bW,HQ.o,dU];rfl
     have c4:=jhb (f:=f) (ps.take k) a3 (fun x hx h0=>(f4.o x (gC hx) h0).1);have f1:=jil (f:=f) ps k q HQ.o
     obtain⟨A,hA⟩:=vE ((ps.take k).foldl (jd0 f) a3)
     rw[<-hA]at b5 e5 c4;have d2:=Hd e5;have K:=Hd (show A.length+cstP f q<=900000 by have:=h9.o;omega);clear e5 c4 f1 hA
     by_cases hq0:q.length=0
     ·have g5:(q.length:Int)=0:=vO
      have i5:=Hd hq0;clear hq0;go_wp2_with fail
      go_roundw
      case rel=>exact⟨k+1,n',by omega,by go_num,by rw[d2.o];unfold jd0;rw[if_pos i5.o];exact b5.o,HK.o⟩
      case measure=>exact vJ
     ·have g5:¬(q.length:Int)=0:=vO
      obtain⟨d3,g9,h1⟩:=f4.o q (bI HQ.o) hq0
      have h5:=Hd (jgN f q (js8 f q d3 g9) d3 wr _ (d1.o wr HK.o.1));have e6:=Hd h1;have O:=Hd (jik d3 hq0 A);have Q:=Hd (show jd0 f A q=belF (jac f) q (addT A (jac (f+1) q).text) by unfold jd0;rw[if_neg hq0])
      obtain⟨t,ht⟩:=vE (jac (f+1) q).text
      rw[<-ht]at h5 Q O;clear d3 g9 h1 hq0 ht;go_wp2_with fail
      refine h5.o.mono ?_;rintro e w5 ⟨rfl,hE⟩;have e7:=Hd (b5.o.mono hE);have d4:Hid (jae (fun b=>(Value.slice a1 n c1).ownBlock=some b) w4 w5):=HK.o.1.trans (hE.mono fun _ _ h=>h.elim);have q1:=jaa q1 hE;have a4:=Hd HK.o.2;clear hE
      by_cases h32:32<=t.size
      ·have g6:(32:Int)<=(t.size:Int):=vO
       have HT:=Hd h32;clear h32;go_wp2_with fail
       refine vC (in_c w5 _ A t (SRow.rd e7.o) (by have:=K.o;omega)) fun w6 hE=>?_;have e8:=Hd (e7.o.mono hE);have b6:Hid (jae (fun b=>(Value.slice a1 n c1).ownBlock=some b) w4 w6):=d4.o.trans (hE.mono fun _ _ h=>h.elim);have q1:=jaa q1 hE;clear hE;cases hi:inB A t with
       | true =>
        have hA:addT A t=A:=by unfold addT addF;rw[if_pos HT.o,if_pos (show memB A t=true from hi)]
        rw[hA]at O Q;clear hi hA;go_wp2_with fail
        refine (e6.o w0 _ _ _ n' A (d1.o _ b6.o) e8.o (by have:=O.o;have:=K.o;omega)).mono ?_;rintro e w7 ⟨u,n7,rfl,E,X,Z⟩
        obtain⟨a8,c8,rfl⟩:=E.sl
        have b7:=Hd E;have b8:=Hd (bB (jfb b6.o a4.o X) (jhE a4.o b6.o.size Z));clear E X Z;go_wp2_with fail
        go_roundw
        case rel=>exact⟨k+1,n7,by omega,by go_num,by rw[d2.o,Q.o];exact b7.o,b8.o⟩
        case measure=>exact vJ
       | false =>
        have hA:addT A t=A++[t]:=by unfold addT addF;rw[if_pos HT.o,if_neg (by rw[show memB A t=inB A t from rfl,hi];simp)]
        rw[hA]at O Q;clear hi hA
        obtain⟨A2,e9⟩:=vE (A++[t])
        have h6:=Hd e9;rw[<-e9]at O Q;clear e9;have i6:=Hd (show n'=A.length from by have:=e8.o.own.1;simp at this;omega);have j5:n'<=900000:=by have:=K.o;have:=i6.o;omega
        go_wp2_with (at_builtin;refine jaO Tryz.sStrs (e8.o.mono ((ExtR w6).alloc _)) (.tmp 63) (.tmp 65) rfl rfl rfl (jaJ (Blk.new w6 _)) (news:=[.string t]) (by intro u hu;simp at hu;rw[hu];rfl) rfl rfl (by unfold maxLen;omega) vO (fun v8 w8 r1 r2 r3=>?_);obtain⟨a8,c8,rfl⟩:=r1.sl;have i7:=Hd (show SRow w0 w8 (.slice a8 (n'+1) c8) (n'+1) A2 by rw[h6.o];unfold SRow;rw[cB];exact r1);have b9:=Hd (bB (jfb (b6.o.trans (((ExtR w6).alloc _).mono fun _ _ h=>h.elim)) a4.o r2) (jhE a4.o (bJ b6.o.size ((ExtR w6).alloc _).size) r3));have q1:=jam (jaa q1 ((ExtR w6).alloc _)) r2 (fun e=>by rcases a4.o with h | h;exact NB.o g g3.o (h ▸ e);have:=h g e;have:=g4.o.2.1.lt g rfl;omega);clear r1 r2 r3)
        have f2:A2.length=A.length+1:=by rw[h6.o];simp
        refine (e6.o w0 _ _ _ (n'+1) A2 (d1.o _ b9.o.1) i7.o (by have:=O.o;have:=K.o;omega)).mono ?_;rintro e w7 ⟨u,n7,rfl,E,X,Z⟩
        obtain⟨a8,c8,rfl⟩:=E.sl
        have b7:=Hd E;have b8:=Hd (bB (jfb b9.o.1 b9.o.2 X) (jhE b9.o.2 b9.o.1.size Z));clear E X Z f2;go_wp2_with fail
        go_roundw
        case rel=>exact⟨k+1,n7,by omega,by go_num,by rw[d2.o,Q.o];exact b7.o,b8.o⟩
        case measure=>exact vJ
      ·have g6:¬(32:Int)<=(t.size:Int):=vO
       have hA:addT A t=A:=by unfold addT;rw[if_neg h32]
       rw[hA]at O Q;clear hA h32;go_wp2_with fail
       refine (e6.o w0 _ _ _ n' A (d1.o _ d4.o) e7.o (by have:=O.o;have:=K.o;omega)).mono ?_;rintro e w7 ⟨u,n7,rfl,E,X,Z⟩
       obtain⟨a8,c8,rfl⟩:=E.sl
       have b7:=Hd E;have b8:=Hd (bB (jfb d4.o a4.o X) (jhE a4.o d4.o.size Z));clear E X Z;go_wp2_with fail
       go_roundw
       case rel=>exact⟨k+1,n7,by omega,by go_num,by rw[d2.o,Q.o];exact b7.o,b8.o⟩
       case measure=>exact vJ
    ·have i8:k=ps.length:=vO
     subst i8;rw[cL]at b5;go_wp2_with fail
     go_ret
     refine⟨_,n',rfl,?_,?_,?_⟩
     ·rw[h8.o];exact b5.o
     ·exact (g7.o.mono fun _ _ h=>h.elim).trans HK.o.1
     ·rcases HK.o.2 with h | h
      ·exact .inl h
      ·exact .inr fun b hb=>bJ g7.o.size (h b hb)
theorem bel5:∀ (f:Nat) (l:vL),jap f l->l.length<=1000->jlx l (jac f)
 | f,[],_,_=>joI _ _ (by simp)
 | f,[(x,y)],_,_=>joI _ _ (by simp)
 | 0,a :: b :: r,h,_=>absurd (jm4 h) (by simp)
 | f+1,a :: b :: r,h,hl=>by
  have e:2<=(a :: b :: r).length:=by simp
  by_cases hk:0 < comK (a :: b :: r)
  ·exact juG f _ e hl h hk (bel5 f _ (jhS h e hk) (by rw[jcL];exact hl))
  ·exact jnH f _ e hl h hk (fun i o=>bel5 f _ (jcU i h) (by rw[jcL];exact bJ (dF _ _) hl))
theorem jm1(w:vW)(v:vV)(l:vL)(hv:RdP w v l)(h:jaz l=0) :
  vQ 28 #[v] w fun e w'=>∃ u n,e=.returned u/\SRow w w' u n (ja9 (jav (jaG l))):=by
 have E:=jaD h;have HP:=Hd (jwa w v l hv (by have:=E.len;omega) (fun p hp=>by have:=(E.size p hp).2.1;omega));have Z:=jbD E;have H:(jaP l).length<=1000:=by unfold jaP;rw[cC];have:=E.len;omega
 have O:=Hd (jgN 12 (jaP l) (js8 12 _ Z H) Z);have a2:=Hd (bel5 12 (jaP l) Z H);have hf:ja9 (jav (jaG l))=belF (jac 12) (jaP l) [(jac (12+1) (jaP l)).text]:=rfl;have Q:=jln E;have a3:(jav (jaG l)).length=(jaA (jas (jac 12) (jaP l))).length+1:=rfl;have J:[(jac (12+1) (jaP l)).text].length+(jaA (jas (jac 12) (jaP l))).length<=900000:=by
  have:=E.len
  rw[iH];omega
 rw[hf]
 obtain⟨t,ht⟩:=vE (jac (12+1) (jaP l)).text
 rw[<-ht]at O J ⊢;have a5:=Hd J
 obtain⟨T,hT⟩:=vE (belF (jac 12) (jaP l) [t])
 have HT:=Hd hT;rw[<-hT]
 obtain⟨a0,c0,rfl⟩:=hv.sl;clear hv E Z H ht h hf Q a3 J hT;go_enter Tryz.func28,Tryz.ntmps28;go_wp2_with fail
 refine HP.o.mono ?_;rintro e w1 ⟨u,rfl,hU⟩
 obtain⟨a1,c1,rfl⟩:=hU.sl
 have HU:=Hd hU;clear hU;go_wp2_with fail
 refine vH (O.o w1 _ (ERow.rd HU.o)) fun X HE=>?_;go_wp2_with fail
 have K:=(ExtR X).alloc (.cells #[.string t] 9);have A:SRow w (X.alloc (.cells #[.string t] 9)) (.slice (some ⟨X.heap.size,0,none⟩) 1 1) 1 [t]:=
  ⟨⟨_,_,rfl⟩,⟨rfl,.inr ⟨_,1,_,rfl,cD _,Blk.new X _,bL _,by unfold maxLen;omega,rfl,rfl⟩⟩,(HU.o.ext.trans HE.o).trans K,fun b hb=>by
   have e:some X.heap.size=some b:=hb;obtain rfl:=bO e;exact (HU.o.ext.trans HE.o).size⟩
 refine (a2.o w _ _ _ 1 [t] (ERow.rd (HU.o.mono (HE.o.trans K))) A a5.o).mono ?_;rintro e w4 ⟨u,n4,rfl,hR,_,_⟩
 obtain⟨a4,c4,rfl⟩:=hR.sl
 rw[<-HT.o]at hR;have HR:=Hd hR;clear hR A K;go_wp2_with fail
 go_ret
 exact⟨_,_,rfl,HR.o⟩
end
