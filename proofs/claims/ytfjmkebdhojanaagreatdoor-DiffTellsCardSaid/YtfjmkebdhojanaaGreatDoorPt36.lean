/- Lemmas; each is under no condition but those that it states. -/
import Derived.Test.YtfjmkebdhojanaaGreatDoorPt35
import Derived.Lib.SmallJoins
import Derived.Test.YtfjmkebdhojanaaGreatDoorCards
import Derived.Test.YtfjmkebdhojanaaGreatDoorTie
import Derived.Deep.DeepHandedRow
import Derived.Lay
namespace Go.Proofs.YtfjmkebdhojanaaGreatDoor
set_option linter.unusedSimpArgs false
set_option linter.unusedVariables false
set_option maxRecDepth 100000
set_option maxHeartbeats 16000000
section
open Go Go.RowKit
attribute [local go_sem] Oper.semAt_some
def jAN(w:vW)(was now:vM)(ov iv:vV)(wr:vW):Prop:=∃ (i:Nat) (xs:vM),i<=now.length/\iv=.int .i64 ((i:Nat):Int)/\xs.length<=i/\SRow w wr ov xs.length xs/\TldB was now i xs
def jAI(w:vW)(xs:vM)(h:vB)(kv:vV)(wr:vW):Prop:=∃ k:Nat,k<=xs.length/\kv=.int .i64 ((k:Nat):Int)/\Ext w wr/\∀ x∈xs.take k,jbc x h=true
theorem jv5(w:vW)(v u:vV)(a b:vL)(hv:RdP w v a)(hu:RdP w u b)(ha:jaz a=0)(hb:jaz b=0)(hI:InjL (jaM a++jaM b)) :
  vQ 11 #[v,u] w fun e w'=>∃ r xs,e=.returned r/\SRow w w' r xs.length xs/\TldB (jaM a) (jaM b) (jaM b).length xs/\xs.length<=121:=by
 have b0:=Hd (show vQ 28 #[v] w fun e w'=>∃ u n,e=.returned u/\SRow w w' u n (jaM a)from jm1 w v a hv ha);have b3:=Hd (fun(W:vW) (k:Ext w W)=>(show vQ 28 #[u] W fun e w'=>∃ u n,e=.returned u/\SRow W w' u n (jaM b)from jm1 W u b (hu.ext k) hb));have b4:=jcy hb;have b5:=jcy ha;have b6:(jaM b).Nodup:=jfg _;have b7:∀ t∈jaM b,t.size<=1000000:=fun t ht=>by
  obtain⟨n,rfl,g,hg⟩:=jc6 hb t ht
  exact bJ (jhs n (hg.one (inlP g))) vI
 have b8:InjL (jaM b):=fun x hx y hy e=>hI x (gA _ hx) y (gA _ hy) e
 obtain⟨a8,a3⟩:=vE (jaM a)
 obtain⟨A,a4⟩:=vE (jaM b)
 rw[<-a3]at b0 b5 ⊢;rw[<-a4]at b3 b4 b6 b7 b8 ⊢;have HL:=Hd (bB b4 (bB b5 (bB b6 (bB b7 b8))));clear hv hu ha hb hI b4 b5 b6 b7 b8 a3 a4;go_enter Tryz.func11,Tryz.ntmps11;go_wp2_with fail
 refine b0.o.mono ?_;rintro e w1 ⟨v1,n1,rfl,O⟩;have d6:Hid (RdS w1 v1 a8):=SRow.rd O;have d7:=Hd O.ext;clear O b0;go_wp2_with fail
 refine (b3.o w1 d7.o).mono ?_;rintro e w2 ⟨v2,n2,rfl,O⟩;have e3:Hid (RdS w2 v2 A):=SRow.rd O;have e4:=Hd (d6.o.ext O.ext);have e5:=Hd (d7.o.trans O.ext);clear O b3 d6
 obtain⟨ba,bc,e6,Q⟩:=e3.o.slice
 subst e6;have e7:=Hd Q;clear Q;go_wp2_with fail
 go_loopw [7,8,9,10,11] (fun ov iv _ _ _ wr=>jAN w2 a8 A ov iv wr) (fun _ iv _ _ _ _=>A.length - (intOf iv).toNat)
 case atStart=>exact⟨0,[],cD _,rfl,bL _,ORow.nil _ _ (ExtR _),TldB.zero _ _⟩
 case round =>
  obtain⟨i,xs,hi,rfl,d8,O,hT⟩:=hrel
  obtain⟨oa,oc,rfl⟩:=O.sl
  have HR:=Hd O;have HT:=Hd hT;have X:=Hd d8;have e1:A.length<=121:=HL.o.1;clear O hT d8
  by_cases hlt:i < A.length
  ·obtain⟨t,ht⟩:∃ t,A[i]?=some t:=⟨_,bA hlt⟩
   obtain⟨bb,bo,rfl,q1⟩:=e7.o i t ht
   have b1:(i:Int) < (A.length:Int):=vO
   have Q1:=Hd (jaa q1 HR.o.ext);have q1:=Q1.o;have b9:=Hd ht;have K:=Hd hlt;clear hlt ht;go_wp2_with fail
   refine vC (in_c wr _ a8 t (e4.o.ext HR.o.ext) (by have:=HL.o.2.1;omega)) fun w3 Z=>?_;have f1:=Hd Z;have Q1:=Hd (jaa q1 Z);have d9:=Hd (HR.o.mono Z);clear Z q1
   by_cases hw:t∈a8
   ·rw[jsw hw]
    have e8:=Hd (HT.o.skip b9.o hw);clear hw;go_wp2_with fail
    go_roundw
    case rel=>exact⟨i+1,xs,by have:=K.o;omega,by go_num,by have:=X.o;omega,d9.o,e8.o⟩
    case measure=>have:=K.o;simp[intOf];omega
   ·rw[jwN hw]
    have HW:=Hd hw;have q1:=Q1.o;clear hw;go_wp2_with fail
    refine vH (jAu w3 t (HL.o.2.2.2.1 t (bI b9.o))) fun w4 Z=>?_;have E:=Hd (d9.o.mono Z);have e0:=Hd (jbd t);have HP:=Hd (fun(k:Nat) (h1:∀ x∈xs.take k,jbc x (shaB t)=true) (h2:∀ y,xs[k]?=some y->jbc y (shaB t)=false)=>HT.o.put b9.o HW.o HL.o.2.2.1 HL.o.2.2.2.2 h1 h2)
    obtain⟨h,hh⟩:=vE (shaB t)
    rw[<-hh]at HP e0 ⊢;clear hh q1;have a6:xs.length<=121:=by have:=X.o;omega
    have e2:=Hd a6;go_wp2_with fail
    go_loopw [10] (fun kv wq=>jAI w4 xs h kv wq) (fun kv _=>xs.length - (intOf kv).toNat)
    case atStart=>exact⟨0,cD _,rfl,ExtR _,by simp⟩
    case round =>
     obtain⟨k,hk,rfl,Z,a5⟩:=hrel
     have a1:=Hd Z;have a0:=Hd a5;have f2:=Hd hk;clear Z a5
     by_cases hkl:k < xs.length
     ·obtain⟨y,hy⟩:∃ y,xs[k]?=some y:=⟨_,bA hkl⟩
      have b2:(k:Int) < (xs.length:Int):=vO
      have HY:=Hd hy;have e9:=Hd (show y.size=32 by obtain⟨t',_,_,e⟩:=(HT.o.2 y).1 (bI hy);rw[e];exact jbd _)
      obtain⟨_,_,d4,J⟩:=(SRow.rd E.o).slice
      cases d4
      obtain⟨ob,oo,rfl,q2⟩:=J k y hy
      have q2:=jaa q2 a1.o;clear J hy;go_wp2_with fail
      refine vH (jnw wr y h (by have:=e9.o;omega) (by have:=e0.o;omega)) fun w5 Z=>?_;have a9:=Hd (a1.o.trans Z);clear q2;cases hl:jbc y h with
      | true =>
       have a7:=Hd (show ∀ x∈xs.take (k+1),jbc x h=true from fun x hx=>by
        rw[bW,HY.o]at hx;rcases bU.1 hx with hx | hx
        ·exact a0.o x hx
        ·simp at hx;rw[hx];exact hl)
       clear hl;go_wp2_with fail
       go_roundw
       case rel=>exact⟨k+1,by omega,by go_num,a9.o,a7.o⟩
       case measure=>exact vJ
      | false =>
       have d5:xs.length<=oc:=RdS.cap (SRow.rd E.o);have f0:k<=oc:=vO
       have c0:Hid (∀ y,xs[k]?=some y->jbc y h=false):=(fun z hz=>by rw[HY.o]at hz;cases hz;exact hl);clear hl;have c1:=Hd (fun(W:vW) (vq:vV) (hq:ORow 9 1 w5 W vq (xs.length+1) ([]++(xs.take k).map Value.string++[h].map Value.string++(xs.drop k).map Value.string))=>(show SRow w2 W vq (xs.take k++h :: xs.drop k).length (xs.take k++h :: xs.drop k) by
        have e:(xs.take k++h :: xs.drop k).map Value.string=[]++(xs.take k).map Value.string++[h].map Value.string++(xs.drop k).map Value.string:=by simp
        have el:(xs.take k++h :: xs.drop k).length=xs.length+1:=by rw[bC,bF,cI,dQ];omega
        show ORow 9 1 w2 W vq _ _;rw[e,el];exact ORow.since hq (E.o.ext.trans a9.o)))
       have c2:=Hd (RdS.take ((SRow.rd E.o).ext a9.o) hk);have c3:=Hd (show RdS w5 (.slice (some ⟨ob,oo+k,none⟩) (xs.length - k) (oc - k)) (xs.drop k) by have hd:=RdS.dropT ((SRow.rd E.o).ext a9.o) rfl hk;rwa [if_neg vO]at hd);have c4:=Hd (show ORow 9 1 w5 w5 (.slice none 0 0) 0 []from ORow.nil _ _ (ExtR w5));have c5:=Hd (show 0+(xs.take k).length=k by rw[cI];omega);have c6:=Hd (show k+1+(xs.drop k).length=xs.length+1 by rw[dQ];omega);have c7:k<=1000000:=vO
       have c8:k+1<=1000000:=vO
       have c9:xs.length+1<=1000000:=vO
       go_wp2_with (first
        |(at_builtin;(refine jcA c4.o c2.o c5.o rfl rfl c7 ?_;intro v6 w6 H;have d0:=Hd H;clear H))
        |(at_builtin;(refine jcA (d0.o.mono ((ExtR w6).alloc (.cells #[.string h] 9))) (jb2 w6 [h] 9) (show k+[h].length=k+1 from rfl) rfl rfl c8 ?_;intro v7 w7 H;have a2:=Hd H;clear H))
        |(at_builtin;(refine jcA a2.o (c3.o.ext a2.o.ext) c6.o rfl rfl c9 ?_;intro v8 w8 H;have d3:=Hd H;clear H)))
       go_roundw
       case rel=>exact⟨i+1,xs.take k++h :: xs.drop k,by have:=K.o;omega,by go_num,by rw[bC,bF,cI,dQ];have:=X.o;omega,c1.o _ _ d3.o,HP.o k a0.o c0.o⟩
       case measure=>have:=K.o;simp[intOf];omega
     ·have d2:¬(k:Int) < (xs.length:Int):=vO
      have d5:xs.length<=oc:=RdS.cap (SRow.rd E.o);have f0:k<=oc:=vO
      have c0:Hid (∀ y,xs[k]?=some y->jbc y h=false):=fun y hy=>absurd (bP.1 hy).1 hkl;have c1:=Hd (fun(W:vW) (vq:vV) (hq:ORow 9 1 wr W vq (xs.length+1) ([]++(xs.take k).map Value.string++[h].map Value.string++(xs.drop k).map Value.string))=>(show SRow w2 W vq (xs.take k++h :: xs.drop k).length (xs.take k++h :: xs.drop k) by
       have e:(xs.take k++h :: xs.drop k).map Value.string=[]++(xs.take k).map Value.string++[h].map Value.string++(xs.drop k).map Value.string:=by simp
       have el:(xs.take k++h :: xs.drop k).length=xs.length+1:=by rw[bC,bF,cI,dQ];omega
       show ORow 9 1 w2 W vq _ _;rw[e,el];exact ORow.since hq (E.o.ext.trans a1.o)))
      have c2:=Hd (RdS.take ((SRow.rd E.o).ext a1.o) hk);have c3:=Hd (RdS.dropV ((SRow.rd E.o).ext a1.o) hk);have c4:=Hd (show ORow 9 1 wr wr (.slice none 0 0) 0 []from ORow.nil _ _ (ExtR wr));have c5:=Hd (show 0+(xs.take k).length=k by rw[cI];omega);have c6:=Hd (show k+1+(xs.drop k).length=xs.length+1 by rw[dQ];omega);have c7:k<=1000000:=vO
      have c8:k+1<=1000000:=vO
      have c9:xs.length+1<=1000000:=vO
      go_wp2_with (first
       |(at_builtin;(refine jcA c4.o c2.o c5.o rfl rfl c7 ?_;intro v6 w6 H;have d0:=Hd H;clear H))
       |(at_builtin;(refine jcA (d0.o.mono ((ExtR w6).alloc (.cells #[.string h] 9))) (jb2 w6 [h] 9) (show k+[h].length=k+1 from rfl) rfl rfl c8 ?_;intro v7 w7 H;have a2:=Hd H;clear H))
       |(at_builtin;(refine jcA a2.o (c3.o.ext a2.o.ext) c6.o rfl rfl c9 ?_;intro v8 w8 H;have d3:=Hd H;clear H)))
      go_roundw
      case rel=>exact⟨i+1,xs.take k++h :: xs.drop k,by have:=K.o;omega,by go_num,by rw[bC,bF,cI,dQ];have:=X.o;omega,c1.o _ _ d3.o,HP.o k a0.o c0.o⟩
      case measure=>have:=K.o;simp[intOf];omega
  ·obtain rfl:i=A.length:=vO
   have d1:¬(A.length:Int) < (A.length:Int):=vO
   go_wp2_with fail
   go_ret
   exact⟨_,rfl,xs,HR.o.since e5.o,HT.o,by have:=X.o;omega⟩
theorem ju3{l m:vL}(h1:jaz l=0)(h2:jaz m=0):(jcs l m).length<=80:=jjM (jaD h1).len (jaD h2).len
end
section
open Go Go.RowKit
theorem jzY{p q:Pair}(h1:jbc p.1 q.1=false):(p.1.toList == q.1.toList) = !jbc q.1 p.1:=by
 have o:¬ Lt p.k q.k:=fun e=>by rw[(jbl _ _).2 e]at h1;cases h1
 have hb:(p.1.toList == q.1.toList)=decide (p.k=q.k):=by
  rw[bR,bR]
  by_cases h:p.k=q.k
  ·rw[decide_eq_true h];simpa using h
  ·rw[decide_eq_false h,gD];intro E;exact h (eq_of_beq E)
 rw[hb];cases h2:jbc q.1 p.1 with
 | true =>
  have A:=(jbl _ _).1 h2;rw[decide_eq_false]; · rfl
  intro e;rw[show q.1.data.toList=p.k from e.symm]at A;exact lt_irrefl _ A
 | false =>
  rw[decide_eq_true]; · rfl
  rcases jiN p.k q.k with h | h | h
  ·exact absurd h o
  ·exact h
  ·rw[(jbl _ _).2 h]at h2;cases h2
theorem jd7{w:vW}{b o N c:Nat}{p:Pair}{l2:vL}(h:RdP w (.slice (some ⟨b,o,none⟩) N c) (p :: l2)):RdP w (.slice (if c=1 then some ⟨b,o,none⟩else some ⟨b,o+2,none⟩) (N - 1) (c - 1)) l2:=by
 rcases h with⟨_,_,_,h0⟩ |⟨b1,o1,c1,hh,hb,hc,hcell⟩
 ·cases h0
 ·obtain⟨e,A,E⟩:=cN hh
  have e:=bO e;injection e with e4 e5;subst e4;subst e5;subst E;have hN:N - 1=l2.length:=by rw[A,bF];omega
  rw[bF]at hc
  by_cases h1:c=1
  ·rw[if_pos h1,hN]
   have:l2=[]:=bE vO
   subst this;exact .inl ⟨_,_,rfl,rfl⟩
  ·rw[if_neg h1,hN]
   refine .inr ⟨b,o+2,c - 1,rfl,hb,by omega,fun j x H=>?_⟩
   have:=hcell (j+1) x (by simpa using H)
   rw[show o+2+j * 2=o+(j+1) * 2 by omega];exact this
structure RdS5(w:World)(l m:vL)(l' m':vL)(acc:List Chg)(av bv ov:Value)(wr:World):Prop where
 la:RdP w av l'
 lb:RdP w bv m'
 sa:je0 l'
 sb:je0 m'
 na:l'.length<=40
 nb:m'.length<=40
 nt:acc.length+l'.length+m'.length<=80
 row:CRow w wr ov acc.length acc
 eq:acc++ja0 l' m'=ja0 l m
def jzc(w:vW)(l m:vL)(av bv ov:vV)(wr:vW):Prop:=∃ l' m' acc,RdS5 w l m l' m' acc av bv ov wr
def lenOf:vV->Nat | .slice _ n _=>n | _=>0
theorem jye(w:vW)(v u:vV)(l m:vL)(hv:RdP w v l)(hu:RdP w u m)(hn1:l.length<=45)(hn2:m.length<=45)(hs1:je0 l)(hs2:je0 m) :
  vQ 9 #[v,u] w fun e w'=>∃ u,e=.returned u/\CRow w w' u (jcs l m).length (jcs l m):=by
 have a4:=Hd (jpH w v l hv vO hs1);have a9:=Hd (fun w1 (Q:Ext w w1)=>jpH w1 u m (hu.ext Q) vO hs2);have HV:=Hd hv;have HU:=Hd hu
 obtain⟨a,c,rfl⟩:=hv.sl
 obtain⟨a',c',d7⟩:=hu.sl
 subst d7;have e9:=Hd hs1;have f0:=Hd hs2;clear hv hu hs1 hs2
 by_cases hck:jaz l=0
 case neg =>
  have HD:=Hd (show jcs l m=[] by unfold jcs;rw[if_neg (fun h=>hck h.1)]);rw[HD.o]
  obtain⟨x,hx⟩:=vE (jaz l)
  rw[<-hx]at hck a4;have f1:(x == 0)=false:=by simpa using hck
  have d8:(x != 0)=true:=by simpa using hck
  clear hck hx HV HU a9 HD;go_enter Tryz.func9,Tryz.ntmps9;go_wp2_with fail
  refine a4.o.mono ?_;rintro e w1 ⟨rfl,hE⟩;have HE:=Hd hE;clear hE a4;go_wp2_with fail
  go_ret
  exact⟨_,rfl,ORow.nil _ _ HE.o⟩
 by_cases hck2:jaz m=0
 case neg =>
  have HD:=Hd (show jcs l m=[] by unfold jcs;rw[if_neg (fun h=>hck2 h.2)]);rw[HD.o];rw[hck]at a4
  obtain⟨x,hx⟩:=vE (jaz m)
  rw[<-hx]at hck2 a9;have f1:(x == 0)=false:=by simpa using hck2
  have d8:(x != 0)=true:=by simpa using hck2
  clear hck hck2 hx HV HU HD;go_enter Tryz.func9,Tryz.ntmps9;go_wp2_with fail
  refine a4.o.mono ?_;rintro e w1 ⟨rfl,hE⟩;have HE:=Hd hE;clear hE a4;go_wp2_with fail
  refine vH (a9.o w1 HE.o) fun w2 hE=>?_;have c8:=Hd (HE.o.trans hE);clear a9 HE;go_wp2_with fail
  go_ret
  exact⟨_,rfl,ORow.nil _ _ c8.o⟩
 have d9:=(jaD hck).len;have e0:=(jaD hck2).len;have HD:=Hd (show jcs l m=ja0 l m by unfold jcs;rw[if_pos ⟨hck,hck2⟩]);rw[HD.o];rw[hck]at a4;rw[hck2]at a9;clear hck hck2 HD hn1 hn2
 obtain⟨R,hR⟩:=vE (ja0 l m)
 rw[<-hR];have f2:=Hd hR;clear hR;go_enter Tryz.func9,Tryz.ntmps9;go_wp2_with fail
 refine a4.o.mono ?_;rintro e w1 ⟨rfl,hE⟩;have c9:=Hd hE;clear hE a4;go_wp2_with fail
 refine vH (a9.o w1 c9.o) fun w2 hE=>?_;have c8:=Hd (c9.o.trans hE);clear a9 c9;go_wp2_with fail
 go_loopw [0,1,5] (fun av bv ov wr=>jzc w l m av bv ov wr) (fun av bv _ _=>lenOf av+lenOf bv)
 case atStart=>exact⟨l,m,[],HV.o,HU.o,e9.o,f0.o,d9,e0,by simp;omega,ORow.nil _ _ c8.o,rfl⟩
 case round =>
  obtain⟨l',m',H,hS⟩:=hrel
  obtain⟨aa,ca,rfl⟩:=hS.la.sl
  obtain⟨ab,cb,rfl⟩:=hS.lb.sl
  obtain⟨ao,co,rfl⟩:=hS.row.sl
  have A:=Hd hS;have e2:=hS.na;have e3:=hS.nb;have c2:=hS.nt;clear hS
  match l',m' with
  | [],[] =>
   have HF:=Hd (show H=R by have:=A.o.eq;rw[f2.o];simpa [ja0]using this);rw[cF];go_wp2_with fail
   go_ret
   refine⟨_,rfl,?_⟩
   have h:=A.o.row;have hf:=HF.o;subst hf;exact h
  |(x1,x2) :: l2,[] =>
   rcases A.o.la with⟨_,_,_,h0⟩ |⟨bl,ol,c1,hh,hb,hcc,hcell⟩
   ·cases h0
   obtain⟨NA,a5⟩:∃ n,n=((x1,x2) :: l2).length:=⟨_,rfl⟩
   rw[<-a5]at hh e2 c2 hcc ⊢;cases hh
   obtain⟨q1,q2⟩:=hcell 0 (x1,x2) rfl
   simp only[gI,fN]at q1 q2;have a1:=Hd (jaa q1 A.o.row.ext);have b9:=Hd (jaa q2 A.o.row.ext);have e1:Hid (¬(Value.slice ao H.length co).ownBlock=some bl):=(fun e=>by have:=A.o.row.new _ e;omega);have f3:(0:Int) < (NA:Int):=by rw[a5,bF];omega
   have f4:(1:Int)<=(NA:Int):=vO
   have f5:((NA:Int) == 0)=false:=by simp;omega
   have d0:0 < NA:=vO
   have f6:decide (0 < NA)=true:=decide_eq_true d0;have f7:(1:Int)<=(ca:Int):=vO
   have b3:=Hd (show NA=l2.length+1 by rw[a5,bF]);clear hcell q1 q2 a5 hb hcc;have c0:H.length<=80:=vO
   rw[cF];have q1:=a1.o;go_wp2_with fail
   refine jag [0,1,2,3,4,5,6,7,8,9,10,11,12,13,14,15,16,17,18] Ext ExtR ExtT vY vY vY ?_;iterate 4 refine vK ?_
   iterate 14 (refine qKS _ rfl ?_;refine vS ?_)
   refine vK ?_
   refine qKE (fun w3 E=>?_);have d1:=Hd (A.o.row.mono ((jai _).trans E));have q1:=jaa q1 ((jai _).trans E);clear E;have d2:H.length+1<=maxLen:=by unfold maxLen;omega
   have d3:(H.length+1) * 40<=140737488355328:=vO
   go_wp2_with (at_builtin;refine jaO Tryz.sChgs (d1.o.mono ((ExtR w3).alloc _)) (.tmp 41) (.tmp 47) rfl rfl rfl (jaJ (Blk.new w3 _)) (news:=[.string x1,.string ⟨#[]⟩,.bool true]) (by intro u hu;simp at hu;rcases hu with rfl | rfl | rfl <;> rfl) rfl rfl d2 d3 ?_;intro v6 w6 r1 r2 r3)
   have J:CRow w w6 v6 (H++[(⟨x1,⟨#[]⟩,true⟩:Chg)]).length (H++[(⟨x1,⟨#[]⟩,true⟩:Chg)]):=by unfold CRow;rw[jbz,bC];exact r1
   obtain⟨a6,c6,rfl⟩:=J.sl
   have X:=Hd J;clear r1 r2 r3 J;go_wp2_with fail
   refine⟨⟨l2,[],_,jd7 (by have h:=A.o.la;rw[bF, <-b3.o]at h;exact h),A.o.lb,(fun z hz=>A.o.sa z (bD _ hz)),A.o.sb,?_,?_,?_,X.o,?_⟩,?_⟩
   ·have:=A.o.na;simp only[bF,cF]at this ⊢;omega
   ·have:=A.o.nb;simp only[bF,cF]at this ⊢;omega
   ·have:=A.o.nt;simp only[bF,cF,bC]at this ⊢;omega
   ·have:=A.o.eq
    rw[ja0]at this;simpa using this
   ·simp only[lenOf];omega
  | [],(y1,y2) :: m2 =>
   rcases A.o.lb with⟨_,_,_,h0⟩ |⟨bm,om,c1,hh,hb,hcc,hcell⟩
   ·cases h0
   obtain⟨NM,a7⟩:∃ n,n=((y1,y2) :: m2).length:=⟨_,rfl⟩
   rw[<-a7]at hh e3 c2 hcc ⊢;cases hh
   obtain⟨q1,q2⟩:=hcell 0 (y1,y2) rfl
   simp only[gI,fN]at q1 q2;have Z:=Hd (jaa q1 A.o.row.ext);have a3:=Hd (jaa q2 A.o.row.ext);have a0:Hid (¬(Value.slice ao H.length co).ownBlock=some bm):=(fun e=>by have:=A.o.row.new _ e;omega);have f8:(0:Int) < (NM:Int):=by rw[a7,bF];omega
   have f9:(1:Int)<=(NM:Int):=vO
   have g0:((NM:Int) == 0)=false:=by simp;omega
   have d4:0 < NM:=vO
   have g1:decide (0 < NM)=true:=decide_eq_true d4;have g2:(1:Int)<=(cb:Int):=vO
   have b4:=Hd (show NM=m2.length+1 by rw[a7,bF]);clear hcell q1 q2 a7 hb hcc;have c0:H.length<=80:=vO
   rw[cF];go_wp2_with fail
   refine jag [0,1,2,3,4,5,6,7,8,9,10,11,12,13,14,15,16,17,18] Ext ExtR ExtT vY vY vY ?_;iterate 8 refine vK ?_
   iterate 9 (refine qKS _ rfl ?_;refine vS ?_)
   iterate 2 refine vK ?_
   refine qKE (fun w3 E=>?_);have b0:=Hd ((jai _).trans E);clear E;go_wp2_with fail
   refine jag [0,1,2,3,4,5,6,7,8,9,10,11,12,13] Ext ExtR ExtT vY vY vY ?_;iterate 4 refine vK ?_
   iterate 9 (refine qKS _ rfl ?_;refine vS ?_)
   refine vK ?_
   refine qKE (fun w4 E=>?_);have O:=b0.o.trans ((jai _).trans E);have b5:=Hd (A.o.row.mono O);have b6:=Hd (jaa Z.o O);have b7:=Hd (jaa a3.o O);clear E O b0;go_wp2_with fail
   refine jaC [0,1,2,3,4,5,6,7,8,9,10,11,12] [10,11] Ext (jae (fun b=>(Value.slice ao H.length co).ownBlock=some b)) ExtR ExtT (fun x y z h k=>jae.trans h k) (fun x y h=>h.mono (fun _ _ h=>h.elim)) vY vY vY ?_;iterate 4 refine vD ?_
   refine qDL ⟨bm,om,none⟩ (.string y1) rfl (fun w3 h3=>jab Tryz.uStr rfl (jam (by exact b6.o) h3 a0.o)) ?_;refine vS ?_;iterate 3 refine vD ?_
   refine qDL ⟨bm,om+1,none⟩ (.string y2) rfl (fun w3 h3=>jab Tryz.uStr rfl (jam (by exact b7.o) h3 a0.o)) ?_;refine vS ?_
   refine vD ?_
   refine qDH _ rfl (fun w6 E K hK=>?_);have X:=Hd (b5.o.mono ((jai _).trans E));clear E;go_simp;refine hK _ _ ((jae.refl _ w6).alloc _) ?_;clear hK K;refine qDH _ rfl (fun w7 E K hK=>?_);have a8:=Hd (X.o.mono (((ExtR w6).alloc _).trans E));have hB:∀ k u,([.string y1,.string y2,.bool false]:List vV)[k]?=some u->w7.cell? ((⟨w6.heap.size,0,none⟩:Addr).add k)=some u:=fun k u hk=>jaa (jaJ (Blk.new w6 (.cells [Value.string y1,.string y2,.bool false].toArray 44)) k u hk) E;refine jfz Tryz.sChgs a8.o (.tmp 65) (.tmp 75) rfl rfl hB (by intro u hu;simp at hu;rcases hu with rfl | rfl | rfl <;> rfl) rfl rfl (by unfold maxLen;omega) vO (fun v' w8 r1 r2 r3=>hK _ _ r2 ?_);have J:CRow w w8 v' (H++[(⟨y1,y2,false⟩:Chg)]).length (H++[(⟨y1,y2,false⟩:Chg)]):=by unfold CRow;rw[jbz,bC];exact r1
   have a2:=Hd J;clear hK K E r1 r2 r3 J hB X a8
   obtain⟨a6,c6,rfl⟩:=a2.o.sl
   refine vS ?_
   refine vD ?_
   refine qDE (fun w9 E=>?_);have b1:=Hd (a2.o.mono E);clear E a2;go_wp2_with fail
   refine⟨⟨[],m2,_,A.o.la,jd7 (by have h:=A.o.lb;rw[bF, <-b4.o]at h;exact h),A.o.sa,(fun z hz=>A.o.sb z (bD _ hz)),?_,?_,?_,b1.o,?_⟩,?_⟩
   ·have:=A.o.na;simp only[bF,cF]at this ⊢;omega
   ·have:=A.o.nb;simp only[bF,cF]at this ⊢;omega
   ·have:=A.o.nt;simp only[bF,cF,bC]at this ⊢;omega
   ·have:=A.o.eq
    rw[ja0]at this;simpa using this
   ·simp only[lenOf];omega
  |(x1,x2) :: l2,(y1,y2) :: m2 =>
   rcases A.o.la with⟨_,_,_,h0⟩ |⟨bl,ol,c1,hh,hb,hcc,hcell⟩
   ·cases h0
   obtain⟨NA,a5⟩:∃ n,n=((x1,x2) :: l2).length:=⟨_,rfl⟩
   rw[<-a5]at hh e2 c2 hcc ⊢;cases hh
   obtain⟨q1,q2⟩:=hcell 0 (x1,x2) rfl
   simp only[gI,fN]at q1 q2;have a1:=Hd (jaa q1 A.o.row.ext);have b9:=Hd (jaa q2 A.o.row.ext);have e1:Hid (¬(Value.slice ao H.length co).ownBlock=some bl):=(fun e=>by have:=A.o.row.new _ e;omega);have f3:(0:Int) < (NA:Int):=by rw[a5,bF];omega
   have f4:(1:Int)<=(NA:Int):=vO
   have f5:((NA:Int) == 0)=false:=by simp;omega
   have d0:0 < NA:=vO
   have f6:decide (0 < NA)=true:=decide_eq_true d0;have f7:(1:Int)<=(ca:Int):=vO
   have b3:=Hd (show NA=l2.length+1 by rw[a5,bF]);clear hcell q1 q2 a5 hb hcc;rcases A.o.lb with⟨_,_,_,h0⟩ |⟨bm,om,c1,hh,hb,hcc,hcell⟩
   ·cases h0
   obtain⟨NM,a7⟩:∃ n,n=((y1,y2) :: m2).length:=⟨_,rfl⟩
   rw[<-a7]at hh e3 c2 hcc ⊢;cases hh
   obtain⟨q1,q2⟩:=hcell 0 (y1,y2) rfl
   simp only[gI,fN]at q1 q2;have Z:=Hd (jaa q1 A.o.row.ext);have a3:=Hd (jaa q2 A.o.row.ext);have a0:Hid (¬(Value.slice ao H.length co).ownBlock=some bm):=(fun e=>by have:=A.o.row.new _ e;omega);have f8:(0:Int) < (NM:Int):=by rw[a7,bF];omega
   have f9:(1:Int)<=(NM:Int):=vO
   have g0:((NM:Int) == 0)=false:=by simp;omega
   have d4:0 < NM:=vO
   have g1:decide (0 < NM)=true:=decide_eq_true d4;have g2:(1:Int)<=(cb:Int):=vO
   have b4:=Hd (show NM=m2.length+1 by rw[a7,bF]);clear hcell q1 q2 a7 hb hcc;have c0:H.length<=80:=vO
   have g3:=Hd (A.o.sa (x1,x2) bG);have g4:=Hd (A.o.sb (y1,y2) bG);have c3:=Hd (fun w1=>jnw w1 x1 y1 g3.o.1 g4.o.1);cases hls:jbc x1 y1 with
   | true =>
    rw[hls]at c3;have b8:=Hd hls;clear hls;go_wp2_with fail
    refine jag [0,1,2,3,4,5,6,7,8,9,10,11,12,13,14,15,16,17,18] Ext ExtR ExtT vY vY vY ?_;iterate 8 refine vK ?_
    iterate 3 refine vK ?_
    refine qKL ⟨bl,ol,none⟩ _ rfl (fun w1 Q=>jab Tryz.uStr rfl (jaa a1.o ((jai _).trans Q))) ?_;refine vS ?_;iterate 3 refine vK ?_
    refine qKL ⟨bm,om,none⟩ _ rfl (fun w1 Q=>jab Tryz.uStr rfl (jaa Z.o ((jai _).trans Q))) ?_;refine vS ?_;refine qKC _ 27 #[.string x1,.string y1] (.bool true) rfl (fun w1=>jat (vX 27) vY) (fun w1 Q=>c3.o w1) ?_;refine vS ?_;iterate 2 refine vK ?_
    refine qKE (fun w3 E=>?_);have d1:=Hd (A.o.row.mono ((jai _).trans E));have q1:=jaa a1.o ((jai _).trans E);clear E;have d2:H.length+1<=maxLen:=by unfold maxLen;omega
    have d3:(H.length+1) * 40<=140737488355328:=vO
    go_wp2_with (at_builtin;refine jaO Tryz.sChgs (d1.o.mono ((ExtR w3).alloc _)) (.tmp 41) (.tmp 47) rfl rfl rfl (jaJ (Blk.new w3 _)) (news:=[.string x1,.string ⟨#[]⟩,.bool true]) (by intro u hu;simp at hu;rcases hu with rfl | rfl | rfl <;> rfl) rfl rfl d2 d3 ?_;intro v6 w6 r1 r2 r3)
    have J:CRow w w6 v6 (H++[(⟨x1,⟨#[]⟩,true⟩:Chg)]).length (H++[(⟨x1,⟨#[]⟩,true⟩:Chg)]):=by unfold CRow;rw[jbz,bC];exact r1
    obtain⟨a6,c6,rfl⟩:=J.sl
    have X:=Hd J;clear r1 r2 r3 J;go_wp2_with fail
    refine⟨⟨l2,(y1,y2) :: m2,_,jd7 (by have h:=A.o.la;rw[bF, <-b3.o]at h;exact h),(by have h:=A.o.lb;rw[bF, <-b4.o]at h;exact h),(fun z hz=>A.o.sa z (bD _ hz)),A.o.sb,?_,?_,?_,X.o,?_⟩,?_⟩
    ·have:=A.o.na;simp only[bF,cF]at this ⊢;omega
    ·have:=A.o.nb;simp only[bF,cF]at this ⊢;omega
    ·have:=A.o.nt;simp only[bF,cF,bC]at this ⊢;omega
    ·have:=A.o.eq
     rw[ja0,if_pos b8.o]at this;simpa using this
    ·simp only[lenOf];omega
   | false =>
    rw[hls]at c3;have b8:=Hd hls;have e4:=Hd (jzY (p:=(x1,x2)) (q:=(y1,y2)) hls);clear hls;go_wp2_with fail
    refine jag [0,1,2,3,4,5,6,7,8,9,10,11,12,13,14,15,16,17,18] Ext ExtR ExtT vY vY vY ?_;iterate 8 refine vK ?_
    iterate 3 refine vK ?_
    refine qKL ⟨bl,ol,none⟩ _ rfl (fun w1 Q=>jab Tryz.uStr rfl (jaa a1.o ((jai _).trans Q))) ?_;refine vS ?_;iterate 3 refine vK ?_
    refine qKL ⟨bm,om,none⟩ _ rfl (fun w1 Q=>jab Tryz.uStr rfl (jaa Z.o ((jai _).trans Q))) ?_;refine vS ?_;refine qKC _ 27 #[.string x1,.string y1] (.bool false) rfl (fun w1=>jat (vX 27) vY) (fun w1 Q=>c3.o w1) ?_;refine vS ?_;iterate 2 refine vK ?_
    refine qKE (fun w3 E=>?_);have c4:=(jai _).trans E;have b0:=Hd c4;have e5:=Hd (jaa a1.o c4);have e6:=Hd (jaa Z.o c4);clear E c4;cases hkk:jbc y1 x1 with
    | true =>
     have d5:(x1.toList == y1.toList)=false:=by have:=e4.o;rw[hkk]at this;exact this
     have c5:=Hd hkk;clear hkk;go_wp2_with fail
     refine jag [0,1,2,3,4,5,6,7,8,9,10,11,12,13] Ext ExtR ExtT vY vY vY ?_;iterate 4 refine vK ?_
     iterate 3 refine vK ?_
     refine qKL ⟨bl,ol,none⟩ _ rfl (fun w1 Q=>jab Tryz.uStr rfl (jaa e5.o ((jai _).trans Q))) ?_;refine vS ?_;iterate 3 refine vK ?_
     refine qKL ⟨bm,om,none⟩ _ rfl (fun w1 Q=>jab Tryz.uStr rfl (jaa e6.o ((jai _).trans Q))) ?_;refine vS ?_;iterate 2 refine vK ?_
     refine qKE (fun w4 E=>?_);have O:=b0.o.trans ((jai _).trans E);have b5:=Hd (A.o.row.mono O);have b6:=Hd (jaa Z.o O);have b7:=Hd (jaa a3.o O);clear E O b0 d5;go_wp2_with fail
     refine jaC [0,1,2,3,4,5,6,7,8,9,10,11,12] [10,11] Ext (jae (fun b=>(Value.slice ao H.length co).ownBlock=some b)) ExtR ExtT (fun x y z h k=>jae.trans h k) (fun x y h=>h.mono (fun _ _ h=>h.elim)) vY vY vY ?_;iterate 4 refine vD ?_
     refine qDL ⟨bm,om,none⟩ (.string y1) rfl (fun w3 h3=>jab Tryz.uStr rfl (jam (by exact b6.o) h3 a0.o)) ?_;refine vS ?_;iterate 3 refine vD ?_
     refine qDL ⟨bm,om+1,none⟩ (.string y2) rfl (fun w3 h3=>jab Tryz.uStr rfl (jam (by exact b7.o) h3 a0.o)) ?_;refine vS ?_
     refine vD ?_
     refine qDH _ rfl (fun w6 E K hK=>?_);have X:=Hd (b5.o.mono ((jai _).trans E));clear E;go_simp;refine hK _ _ ((jae.refl _ w6).alloc _) ?_;clear hK K;refine qDH _ rfl (fun w7 E K hK=>?_);have a8:=Hd (X.o.mono (((ExtR w6).alloc _).trans E));have hB:∀ k u,([.string y1,.string y2,.bool false]:List vV)[k]?=some u->w7.cell? ((⟨w6.heap.size,0,none⟩:Addr).add k)=some u:=fun k u hk=>jaa (jaJ (Blk.new w6 (.cells [Value.string y1,.string y2,.bool false].toArray 44)) k u hk) E;refine jfz Tryz.sChgs a8.o (.tmp 65) (.tmp 75) rfl rfl hB (by intro u hu;simp at hu;rcases hu with rfl | rfl | rfl <;> rfl) rfl rfl (by unfold maxLen;omega) vO (fun v' w8 r1 r2 r3=>hK _ _ r2 ?_);have J:CRow w w8 v' (H++[(⟨y1,y2,false⟩:Chg)]).length (H++[(⟨y1,y2,false⟩:Chg)]):=by unfold CRow;rw[jbz,bC];exact r1
     have a2:=Hd J;clear hK K E r1 r2 r3 J hB X a8
     obtain⟨a6,c6,rfl⟩:=a2.o.sl
     refine vS ?_
     refine vD ?_
     refine qDE (fun w9 E=>?_);have b1:=Hd (a2.o.mono E);clear E a2;go_wp2_with fail
     refine⟨⟨(x1,x2) :: l2,m2,_,(by have h:=A.o.la;rw[bF, <-b3.o]at h;exact h),jd7 (by have h:=A.o.lb;rw[bF, <-b4.o]at h;exact h),A.o.sa,(fun z hz=>A.o.sb z (bD _ hz)),?_,?_,?_,b1.o,?_⟩,?_⟩
     ·have:=A.o.na;simp only[bF,cF]at this ⊢;omega
     ·have:=A.o.nb;simp only[bF,cF]at this ⊢;omega
     ·have:=A.o.nt;simp only[bF,cF,bC]at this ⊢;omega
     ·have:=A.o.eq
      rw[ja0,if_neg (by rw[b8.o];simp),if_pos c5.o]at this;simpa using this
     ·simp only[lenOf];omega
    | false =>
     have d5:(x1.toList == y1.toList)=true:=by have:=e4.o;rw[hkk]at this;exact this
     have c5:=Hd hkk;clear hkk;go_wp2_with fail
     refine jag [0,1,2,3,4,5,6,7,8,9,10,11,12,13] Ext ExtR ExtT vY vY vY ?_;iterate 4 refine vK ?_
     iterate 3 refine vK ?_
     refine qKL ⟨bl,ol,none⟩ _ rfl (fun w1 Q=>jab Tryz.uStr rfl (jaa e5.o ((jai _).trans Q))) ?_;refine vS ?_;iterate 3 refine vK ?_
     refine qKL ⟨bm,om,none⟩ _ rfl (fun w1 Q=>jab Tryz.uStr rfl (jaa e6.o ((jai _).trans Q))) ?_;refine vS ?_;iterate 2 refine vK ?_
     refine qKE (fun w4 E=>?_);have O:=b0.o.trans ((jai _).trans E);have c7:=Hd O;have e7:=Hd (jaa b9.o O);have e8:=Hd (jaa a3.o O);clear E O b0 d5;cases hvv:(x2.toList == y2.toList)with
     | false =>
      go_wp2_with fail
      refine jag [0,1,2,3,4,5,6,7,8] Ext ExtR ExtT vY vY vY ?_;iterate 3 refine vK ?_
      refine qKL ⟨bl,ol+1,none⟩ _ rfl (fun w1 Q=>jab Tryz.uStr rfl (jaa e7.o ((jai _).trans Q))) ?_;refine vS ?_;iterate 3 refine vK ?_
      refine qKL ⟨bm,om+1,none⟩ _ rfl (fun w1 Q=>jab Tryz.uStr rfl (jaa e8.o ((jai _).trans Q))) ?_;refine vS ?_
      refine vK ?_
      refine qKE (fun w5 E=>?_);have b2:=c7.o.trans ((jai _).trans E);have b5:=Hd (A.o.row.mono b2);have b6:=Hd (jaa Z.o b2);have b7:=Hd (jaa a3.o b2);have d6:=Hd hvv;clear E b2 c7 hvv;go_wp2_with fail
      refine jaC [0,1,2,3,4,5,6,7,8,9,10,11,12] [10,11] Ext (jae (fun b=>(Value.slice ao H.length co).ownBlock=some b)) ExtR ExtT (fun x y z h k=>jae.trans h k) (fun x y h=>h.mono (fun _ _ h=>h.elim)) vY vY vY ?_;iterate 4 refine vD ?_
      refine qDL ⟨bm,om,none⟩ (.string y1) rfl (fun w3 h3=>jab Tryz.uStr rfl (jam (by exact b6.o) h3 a0.o)) ?_;refine vS ?_;iterate 3 refine vD ?_
      refine qDL ⟨bm,om+1,none⟩ (.string y2) rfl (fun w3 h3=>jab Tryz.uStr rfl (jam (by exact b7.o) h3 a0.o)) ?_;refine vS ?_
      refine vD ?_
      refine qDH _ rfl (fun w6 E K hK=>?_);have X:=Hd (b5.o.mono ((jai _).trans E));clear E;go_simp;refine hK _ _ ((jae.refl _ w6).alloc _) ?_;clear hK K;refine qDH _ rfl (fun w7 E K hK=>?_);have a8:=Hd (X.o.mono (((ExtR w6).alloc _).trans E));have hB:∀ k u,([.string y1,.string y2,.bool false]:List vV)[k]?=some u->w7.cell? ((⟨w6.heap.size,0,none⟩:Addr).add k)=some u:=fun k u hk=>jaa (jaJ (Blk.new w6 (.cells [Value.string y1,.string y2,.bool false].toArray 44)) k u hk) E;refine jfz Tryz.sChgs a8.o (.tmp 88) (.tmp 98) rfl rfl hB (by intro u hu;simp at hu;rcases hu with rfl | rfl | rfl <;> rfl) rfl rfl (by unfold maxLen;omega) vO (fun v' w8 r1 r2 r3=>hK _ _ r2 ?_);have J:CRow w w8 v' (H++[(⟨y1,y2,false⟩:Chg)]).length (H++[(⟨y1,y2,false⟩:Chg)]):=by unfold CRow;rw[jbz,bC];exact r1
      have a2:=Hd J;clear hK K E r1 r2 r3 J hB X a8
      obtain⟨a6,c6,rfl⟩:=a2.o.sl
      refine vS ?_
      refine vD ?_
      refine qDE (fun w9 E=>?_);have b1:=Hd (a2.o.mono E);clear E a2;go_wp2_with fail
      refine⟨⟨l2,m2,_,jd7 (by have h:=A.o.la;rw[bF, <-b3.o]at h;exact h),jd7 (by have h:=A.o.lb;rw[bF, <-b4.o]at h;exact h),(fun z hz=>A.o.sa z (bD _ hz)),(fun z hz=>A.o.sb z (bD _ hz)),?_,?_,?_,b1.o,?_⟩,?_⟩
      ·have:=A.o.na;simp only[bF,cF]at this ⊢;omega
      ·have:=A.o.nb;simp only[bF,cF]at this ⊢;omega
      ·have:=A.o.nt;simp only[bF,cF,bC]at this ⊢;omega
      ·have:=A.o.eq
       rw[ja0,if_neg (by rw[b8.o];simp),if_neg (by rw[c5.o];simp),if_neg (by rw[d6.o];simp)]at this;simpa using this
      ·simp only[lenOf];omega
     | true =>
      go_wp2_with fail
      refine jag [0,1,2,3,4,5,6,7,8] Ext ExtR ExtT vY vY vY ?_;iterate 3 refine vK ?_
      refine qKL ⟨bl,ol+1,none⟩ _ rfl (fun w1 Q=>jab Tryz.uStr rfl (jaa e7.o ((jai _).trans Q))) ?_;refine vS ?_;iterate 3 refine vK ?_
      refine qKL ⟨bm,om+1,none⟩ _ rfl (fun w1 Q=>jab Tryz.uStr rfl (jaa e8.o ((jai _).trans Q))) ?_;refine vS ?_
      refine vK ?_
      refine qKE (fun w5 E=>?_);have b2:=c7.o.trans ((jai _).trans E);have b1:=Hd (A.o.row.mono b2);have d6:=Hd hvv;clear E b2 c7 hvv;go_wp2_with fail
      refine⟨⟨l2,m2,_,jd7 (by have h:=A.o.la;rw[bF, <-b3.o]at h;exact h),jd7 (by have h:=A.o.lb;rw[bF, <-b4.o]at h;exact h),(fun z hz=>A.o.sa z (bD _ hz)),(fun z hz=>A.o.sb z (bD _ hz)),?_,?_,?_,b1.o,?_⟩,?_⟩
      ·have:=A.o.na;simp only[bF,cF]at this ⊢;omega
      ·have:=A.o.nb;simp only[bF,cF]at this ⊢;omega
      ·have:=A.o.nt;simp only[bF,cF,bC]at this ⊢;omega
      ·have:=A.o.eq
       rw[ja0,if_neg (by rw[b8.o];simp),if_neg (by rw[c5.o];simp),if_pos d6.o]at this;simpa using this
      ·simp only[lenOf];omega
end
section
open Go Go.RowKit
attribute [local go_sem] Oper.semAt_some
def jA4(w:vW)(n:Nat)(iv:vV)(W:vW)(l m:vM):Prop:=∃ i:Nat,i<=n/\iv=.int .i64 i/\l.take i=m.take i/\Ext w W
theorem jyv(w:vW)(v u:vV)(l m:vM)(hv:RdS w v l)(hu:RdS w u m)(hn:l.length<=1000000)(hn2:m.length<=1000000):vR 10 #[v,u] w (.bool (decide (l=m))):=by
 obtain⟨a,c,rfl,_⟩:=hv.slice
 obtain⟨a2,c2,rfl,_⟩:=hu.slice
 have HV:=Hd hv;have HU:=Hd hu;clear hv hu
 by_cases hl:l.length=m.length
 ·have a5:(l.length:Int)=(m.length:Int):=vO
  obtain⟨n,E⟩:=vE l.length
  have X:m.length=n:=vO
  have Z:=Hd X;have a0:=Hd E;rw[X, <-E];rw[<-E]at hn;clear a5 hl X E hn2;unfold vR vQ;go_in;go_wp2_with fail
  go_loopw [5] (fun iv wr=>jA4 w n iv wr l m) (fun iv _=>n - (intOf iv).toNat)
  case atStart=>exact⟨0,cD _,rfl,rfl,ExtR w⟩
  case round =>
   obtain⟨i,hi,rfl,a1,hE⟩:=hrel
   have HE:=Hd hE;have a3:=Hd a1;clear hE a1
   by_cases hlt:i < n
   ·have b1:(i:Int) < (n:Int):=vO
    have H:i < l.length:=by have:=a0.o;omega
    have J:i < m.length:=by have:=Z.o;omega
    obtain⟨x,hx⟩:∃ x,l[i]?=some x:=⟨_,bA H⟩
    obtain⟨y,hy⟩:∃ y,m[i]?=some y:=⟨_,bA J⟩
    have a6:RdS w (.slice a n c) l:=by have:=HV.o;rwa [<-a0.o]at this
    have a7:RdS w (.slice a2 n c2) m:=by have:=HU.o;rwa [Z.o]at this
    have K:∃ ba oa,a=some ⟨ba,oa,none⟩/\wr.cell? ⟨ba,oa+i,none⟩=some (.string x):=by
     rcases HV.o with⟨_,_,_,h0⟩ |⟨bq,oq,cq,hh,_,_,hcell⟩
     ·rw[h0]at H;cases H
     ·exact⟨bq,oq,(cN hh).1,jaa (hcell i x hx) HE.o⟩
    have O:∃ ba oa,a2=some ⟨ba,oa,none⟩/\wr.cell? ⟨ba,oa+i,none⟩=some (.string y):=by
     rcases HU.o with⟨_,_,_,h0⟩ |⟨bq,oq,cq,hh,_,_,hcell⟩
     ·rw[h0]at J;cases J
     ·exact⟨bq,oq,(cN hh).1,jaa (hcell i y hy) HE.o⟩
    obtain⟨ba,oa,rfl,K⟩:=K
    obtain⟨a8,a9,rfl,O⟩:=O
    have HX:=Hd hx;have HY:=Hd hy;have Q1:=Hd K;have Q2:=Hd O;clear a6 a7 H J hx hy K O;go_wp2_with fail
    refine jag [0,1,2,3,4,5,6,7,8] Ext ExtR ExtT vY vY vY ?_;iterate 3 refine vK ?_
    refine qKL ⟨ba,oa+i,none⟩ _ rfl (fun w1 Q=>jab Tryz.underlying9 rfl (jaa Q1.o ((jai wr).trans Q))) ?_;refine vS ?_;iterate 3 refine vK ?_
    refine qKL ⟨a8,a9+i,none⟩ _ rfl (fun w1 Q=>jab Tryz.underlying9 rfl (jaa Q2.o ((jai wr).trans Q))) ?_;refine vS ?_
    refine vK ?_
    refine qKE (fun w3 he=>?_);have a4:=Hd (HE.o.trans ((jai wr).trans he));clear he HE Q1 Q2
    by_cases hxy:x=y
    ·subst hxy
     have A:(!x.toList == x.toList)=false:=by simp
     rw[A];clear A;have HT:=Hd (show l.take (i+1)=m.take (i+1) by rw[bW,bW,HX.o,HY.o,a3.o]);go_wp2_with fail
     go_roundw
     case rel=>exact⟨i+1,by omega,by go_num,HT.o,a4.o⟩
     case measure=>exact vJ
    ·have A:(!x.toList == y.toList)=true:=by
      have:¬ x.toList=y.toList:=fun e=>hxy (jdJ e)
      simpa using this
     rw[A];clear A;have HN:=Hd (show decide (l=m)=false from decide_eq_false (fun e=>by
      have Q:=HX.o;rw[e,HY.o]at Q;exact hxy (bO Q).symm))
     go_wp2_with fail
     go_ret
     exact⟨by rw[HN.o];rfl,a4.o⟩
   ·have b0:i=n:=vO
    have HD:=Hd (show decide (l=m)=true from decide_eq_true (by
     have Q:=a3.o;rw[b0,bN (by rw[<-a0.o];exact bL _),bN (by rw[Z.o];exact bL _)]at Q;exact Q))
    go_wp2_with fail
    go_ret
    exact⟨by rw[HD.o];rfl,HE.o⟩
 ·have HL:Hid (decide (l=m)=false):=(decide_eq_false (fun e=>hl (by rw[e])))
  have hb:((l.length:Int) ==(m.length:Int))=false:=by simp;omega
  have b2:¬(l.length:Int)=(m.length:Int):=vO
  rw[HL.o];unfold vR vQ;go_in;go_wp2_with fail
  go_ret
  exact⟨rfl,ExtR w⟩
theorem jyD(w:vW)(hc:jb0 w)(he:ErrT w)(u v:vV)(a b:vL)(ha:RdP w u a)(hb:RdP w v b)(hna:a.length<=9223372036854775807)(hnb:b.length<=9223372036854775807)(hsa:je0 a)(hsb:je0 b) :
  vR 3 #[u,v] w (.bool true):=by
 have HC:=Hd hc;have b0:=Hd he;have HA:=Hd ha;have HB:=Hd hb;have HN:=Hd (bB (bB hna hnb) (bB hsa hsb))
 obtain⟨ua,uc,rfl⟩:=ha.sl
 obtain⟨va,vc,rfl⟩:=hb.sl
 clear hc he ha hb hna hnb hsa hsb;go_enter Tryz.func3,Tryz.ntmps3;go_wp2_with fail
 refine vH (jui w HC.o b0.o) fun w1 H=>?_;go_wp2_with fail
 refine (jzw w1 (HC.o.ext H.o) (b0.o.ext H.o) _ _ (.slice none 0 0) a b [] (HA.o.ext H.o) (HB.o.ext H.o) HN.o.1.1 HN.o.1.2 HN.o.2.1 HN.o.2.2 (fV _ _ _ _) vI).mono ?_;rintro e w2 (⟨rfl,hE⟩ |⟨s,bm,S,rfl,X⟩)
 ·have A:=Hd (H.o.trans hE)
  clear hE;go_wp2_with fail
  go_ret
  exact⟨rfl,A.o⟩
 have E:=Hd X;have A:=Hd (H.o.trans X.tst.ext);have a6:S.length<=100000:=by have:=X.tst.len;omega
 have d9:=Hd a6;have a8:=Hd (fun(W:vW) (k:Ext w2 W)=>jmd W s bm 2000 S (E.o.tst.st.ext k) E.o.nodes a6 E.o.ha E.o.hb E.o.injU E.o.flatA E.o.flatB)
 obtain⟨ra,Z⟩:=vE (rootM a)
 obtain⟨rb,a1⟩:=vE (rootM b)
 have e0:=Hd (bB Z a1);rw[<-Z, <-a1]at a8 ⊢;have b1:=Hd (fun(W:vW) (k:Ext w2 W)=>jye W (.slice ua a.length uc) (.slice va b.length vc) a b (HA.o.ext (A.o.trans k)) (HB.o.ext (A.o.trans k)) (by have:=(jaD E.o.ha.ok).len;omega) (by have:=(jaD E.o.hb.ok).len;omega) HN.o.2.1 HN.o.2.2);have c2:=Hd (fun(W:vW) (k:Ext w2 W)=>jv5 W (.slice ua a.length uc) (.slice va b.length vc) a b (HA.o.ext (A.o.trans k)) (HB.o.ext (A.o.trans k)) E.o.ha.ok E.o.hb.ok E.o.injU);have HO:=Hd (jth w2 s bm 2000 S X.tst.st X.ha X.hb X.injU X.flatA X.flatB);rw[<-Z, <-a1]at HO;clear X Z a1;go_wp2_with fail
 refine HO.o.mono ?_;rintro e w3 ⟨v3,rfl,a2⟩;have b2:=Hd a2.ext;have b3:=Hd a2.rdT
 obtain⟨a3,c3,rfl⟩:=a2.sl
 obtain⟨dl,b4⟩:=vE (jcs a b)
 have a9:=ju3 E.o.ha.ok E.o.hb.ok;rw[<-b4]at b3 b1 a9 ⊢;have c6:=Hd a9;clear a2 HO b4 a9
 obtain⟨B,hB,K⟩:=a8.o w3 b2.o
 have c8:=Hd hB;have b5:=Hd K;clear hB K a6 a8;go_wp2_with fail
 refine b5.o.mono ?_;rintro e w4 ⟨v4,rfl,O⟩;have b6:=Hd (b2.o.trans O.ext);have c9:=Hd (SRow.rd O);have d0:=Hd (b3.o.ext O.ext)
 obtain⟨a4,c4,rfl⟩:=O.sl
 clear O b5;go_wp2_with fail
 refine (b1.o w4 b6.o).mono ?_;rintro e w5 ⟨v5,rfl,J⟩;have d1:=Hd (b6.o.trans J.ext);have d2:=Hd (c9.o.ext J.ext);have d3:=Hd (d0.o.ext J.ext);have d4:=Hd J.rdT
 obtain⟨a5,c5,rfl⟩:=J.sl
 clear J;go_wp2_with fail
 refine vH (jtV w5 _ _ dl d3.o d4.o (by have:=c6.o;omega)) fun w6 hE=>?_;have b7:=Hd (d1.o.trans hE);have d5:=Hd (d2.o.ext hE);go_wp2_with fail
 refine (c2.o w6 b7.o).mono ?_;rintro e w7 ⟨v7,xs,rfl,Q,b8,a0⟩;have d6:=Hd (b7.o.trans Q.ext);have b9:=Hd (d5.o.ext Q.ext);have he:=b8.all c8.o E.o.injU;have d7:=Hd (SRow.rd Q)
 obtain⟨a7,c7,rfl⟩:=Q.sl
 rw[<-he]at b9;have c0:xs.length<=1000000:=vO
 have c1:=Hd c0;clear Q b8 he c0 a0;go_wp2_with fail
 refine vH (jyv w7 _ _ xs xs b9.o d7.o c1.o c1.o) fun w8 hE=>?_;have d8:=Hd (d6.o.trans hE);rw[show decide (xs=xs)=true by simp];go_wp2_with fail
 go_ret
 exact⟨rfl,A.o.trans d8.o⟩
end
section
open Go Go.ChangeShapes Go.WideShapes Go.ChangeAt Go.RowKit Go.Deep
theorem Tryz.ownK:ownKnob Tryz.prog.godebug=none:=vY
theorem Tryz.laidOutK:laidOutB Tryz.prog=true:=vY
theorem Tryz.cellsEnt:Tryz.prog.cellsOf 42=2:=vY
theorem Tryz.cellsStr:Tryz.prog.cellsOf 9=1:=vY
theorem jhr:maxLen<=9223372036854775807:=by unfold maxLen;omega
section
variable {H:Type} {enc:TypeId × vV->H} {w:vW} {base:Nat} {spare:Nat->Bool} {held:Bool}
theorem jvL{n:Nat}{a:Addr}{cs:List vV}{x:DataW H × List MemPlace}(hc:w.cells? base a 2=some cs)(h:DataW.trod enc Tryz.prog w base spare held n 42 cs=some x) :
  ∃ p:Pair,w.cell? (a.add 0)=some (.string p.1)/\w.cell? (a.add 1)=some (.string p.2)/\p.1.size<=9223372036854775807/\p.2.size<=9223372036854775807:=by
 obtain⟨_,X,E⟩:=World.cells?_some hc
 obtain⟨xs,m,_,_,_,A,J⟩:=DataW.trod_struct Tryz.underlying42 h
 match cs,X with
 | [c0,c1],_ =>
  have e:DataW.trod enc Tryz.prog w base spare held m 9 (([c0,c1].drop 0).take (Tryz.prog.cellsOf 9))=xs[0]?:=J 0 _ rfl;have o:DataW.trod enc Tryz.prog w base spare held m 9 (([c0,c1].drop 1).take (Tryz.prog.cellsOf 9))=xs[1]?:=J 1 _ rfl;rw[Tryz.cellsStr]at e o;dsimp only[List.drop,List.take]at e o;have K:∀ i,i < 2->∃ y,xs[i]?=some y:=fun i Z=>⟨_,bA (by rw[A];exact Z)⟩
  obtain⟨y0,e0⟩:=K 0 vO
  obtain⟨y1,e1⟩:=K 1 vO
  rw[e0]at e;rw[e1]at o
  obtain⟨r,O,_,w0⟩:=DataW.trod_string Tryz.underlying9 e
  obtain⟨s,Q,_,w1⟩:=DataW.trod_string Tryz.underlying9 o
  simp only[List.cons.injEq,and_true]at O Q;subst O Q
  exact⟨(r,s),E 0 vO,E 1 vO,bJ w0 jhr,bJ w1 jhr⟩
theorem jxX{α:Type}(n:Nat)(d:α)(P:Nat->α->Prop)(h:∀ i,i < n->∃ x,P i x):∃ l:List α,l.length=n/\∀ i x,l[i]?=some x->P i x:=by
 induction n with
 | zero=>exact⟨[],rfl,fun i x o=>by simp at o⟩
 | succ n ih =>
  obtain⟨l,A,E⟩:=ih fun i H=>h i vO
  obtain⟨x,o⟩:=h n vO
  refine⟨l++[x],by simp[A],fun i y e=>?_⟩
  by_cases H:i < n
  ·rw[cS vO]at e;exact E i y e
  ·rw[cQ vO]at e
   have:i - l.length=0:=by
    have:=(bP.1 e).1
    simp at this;omega
   rw[this]at e;simp at e;subst e;rw[show i=n by omega];exact o
theorem jhG{v:vV}{d:DataW H}{p:List MemPlace}(hv:∃ a n c,v=.slice a n c)(h:DataW.Trod enc Tryz.prog w 0 spare held 22 v d p) :
  ∃ l:vL,RdP w v l/\l.length<=9223372036854775807/\∀ p∈l,p.1.size<=9223372036854775807/\p.2.size<=9223372036854775807:=by
 obtain⟨Z,n0,c0,rfl⟩:=hv
 obtain⟨a1,hf⟩:=h
 rcases open_slice Tryz.underlying22 hf with⟨hcs,_⟩ |⟨a,len,cap,m,n,D,Pl,hcs,_,hl,hm,hmm,_,Q⟩
 ·simp only[Value.cells]at hcs
  have e:Value.slice Z n0 c0=.slice none 0 0:=by simpa using hcs
  rw[e]
  exact⟨[],.inl ⟨none,0,rfl,rfl⟩,by simp,by simp⟩
 ·have e:Value.slice Z n0 c0=.slice (some a) len cap:=by simpa [Value.cells]using hcs
  rw[e];have a2:len<=m:=by rw[hmm];split <;> omega
  obtain⟨l,J,E⟩:=jxX len pd (fun i p=>w.cell? ((a.add (i * 2)).add 0)=some (.string p.1)/\w.cell? ((a.add (i * 2)).add 1)=some (.string p.2)/\p.1.size<=9223372036854775807/\p.2.size<=9223372036854775807) (fun i a3=>by
   obtain⟨a4,h1,h2⟩:=Q i vO
   rw[Tryz.cellsEnt]at h1;exact jvL h1 h2)
  have X:∀ p∈l,p.1.size<=9223372036854775807/\p.2.size<=9223372036854775807:=fun p hp=>by
   obtain⟨i,Q⟩:=iL hp
   exact (E i p Q).2.2
  have K:l.length<=9223372036854775807:=by have:=jhr;omega
  refine⟨l,?_,K,X⟩
  by_cases h0:len=0
  ·subst h0
   exact .inl ⟨some a,cap,rfl,bE J⟩
  ·obtain⟨p0,O⟩:∃ p,l[0]?=some p:=⟨_,bA vO⟩
   have A:a.spot=none:=by simpa [Addr.add]using World.cell?_spot (E 0 p0 O).1
   obtain⟨b,o,sp⟩:=a
   dsimp only at A;subst A;refine .inr ⟨b,o,cap,by rw[J],fS w _ (E 0 p0 O).1,by omega,fun j x hx=>?_⟩
   obtain⟨q1,q2,_⟩:=E j x hx
   rw[Go.Deep.add_add,Go.WideShapes.add_plain]at q1 q2
   exact⟨q1,q2⟩
end
end
section
open Go Go.RowKit
def jr0:List Int:=je2.map fun x=>(x.toNat:Int)
theorem jr1:(Rows.laid_guilloche_sha_cubes:DataW Unit)=Lib.tabData .u32 jr0:=vY
theorem Tryz.gCubes:Tryz.prog.globalNamed "guilloche/sha.cubes"=some 0:=vY
theorem Tryz.gCubesType:(Tryz.prog.globals[0]?).map (·.type)=some 215:=vY
theorem Tryz.uCubes:Tryz.prog.underlying 215=some (.array 64 119):=vY
theorem Tryz.cellsU32:Tryz.prog.cellsOf 119=1:=vY
theorem Tryz.cellsCubes:Tryz.prog.cellsOf 215=64:=vY
theorem juU{W:vW}(h:laidMetH Tryz.prog [("errors.errorType",Rows.laid_errors_errorType),("guilloche/sha.cubes",Rows.laid_guilloche_sha_cubes)] W):jb0 W:=by
 have e:laidMet Tryz.prog [("guilloche/sha.cubes",Rows.laid_guilloche_sha_cubes)] W:=(laidMetH_iff.1 h).1;rw[jr1]at e;have o:=Lib.tabIs_of_head Tryz.gCubes Tryz.gCubesType Tryz.uCubes Tryz.uU32 Tryz.cellsU32 Tryz.cellsCubes e;intro i A
 have:=o.cell Tryz.gCubes i (by unfold jr0;rw[cC];exact A)
 rw[this];unfold jr0 wv;simp only[bH,bX];cases je2[i]? <;> rfl
theorem Tryz.gErr:Tryz.prog.globalNamed "errors.errorType"=some 1:=vY
theorem Tryz.rtypeCut:(Tryz.prog.cutTypes.find? (·.1 == "internal/reflectlite.rtype")).map (·.2)=some 155:=vY
theorem Tryz.errRow:(List.range Tryz.prog.types.size).all (fun t => !(Tryz.prog.rowNamed t [101,114,114,111,114]) || t == 55)=true:=vY
theorem Tryz.errHandle:typeHandle Tryz.prog 55=.pointer (some ⟨3,55,none⟩):=vY
theorem jzP{W:vW}(h:laidMetH Tryz.prog [("errors.errorType",Rows.laid_errors_errorType),("guilloche/sha.cubes",Rows.laid_guilloche_sha_cubes)] W):ErrT W:=by
 have E:=(laidMetH_iff.1 h).2 ("errors.errorType",Rows.laid_errors_errorType) (by simp[Rows.laid_errors_errorType,DataW.handleName?]);have H:∃ e u ty,(Rows.laid_errors_errorType:DataW Unit).handleName?=some e/\(Tryz.prog.cutTypes.find? (·.1 == "internal/reflectlite.rtype")).map (·.2)=some u/\ty < Tryz.prog.types.size/\Tryz.prog.rowNamed ty e=true/\W.var? Tryz.prog "errors.errorType"=some #[.iface u (.agg #[typeHandle Tryz.prog ty])]:=E
 obtain⟨e,u,ty,J,K,O,Q,o⟩:=H
 obtain rfl:u=155:=bO (K.symm.trans Tryz.rtypeCut);obtain rfl:e=[101,114,114,111,114]:=(bO (show some [101,114,114,111,114]=some e from J)).symm;have A:=fH.1 Tryz.errRow ty (fA.2 O);rw[Q]at A;obtain rfl:ty=55:=by simpa using A
 rw[Tryz.errHandle]at o
 have:=World.var?_cell Tryz.gErr o 0
 exact this
end
section
open Go Go.ChangeShapes Go.WideShapes Go.ChangeAt Go.RowKit
def jwh:Obj->Obj
 | .cells _ t frozen=>.cells (je2.map wv).toArray t frozen
 | o=>o
def jAw:Obj->Obj
 | .cells _ t frozen=>.cells #[.iface 155 (.agg #[.pointer (some ⟨3,55,none⟩)])] t frozen
 | o=>o
noncomputable def laidWorld(os:Os):vW:=
 { World.holding Tryz.prog os ⟨#[],#[],[]⟩with heap:=((World.holding Tryz.prog os ⟨#[],#[],[]⟩).heap.modify 0 jwh).modify 1 jAw }
theorem jvx(os:Os)(args:Array vV):laidMetH Tryz.prog [("errors.errorType",Rows.laid_errors_errorType),("guilloche/sha.cubes",Rows.laid_guilloche_sha_cubes)] ((laidWorld os).forCall (fun _ _=>0) ⟨#[],args,[]⟩).memory:=
 laidMetH_of_parts (laidMet_of_run' 8 vY vY) vY
end
