/- Lemmas; each is under no condition but those that it states. -/
import Derived.Test.YtegloohdmjadoaaGreatDoorPu10
import Derived.Test.YtegloohdmjadoaaGreatDoorPu9
namespace Go.Proofs.YtegloohdmjadoaaGreatDoor
set_option linter.unusedSimpArgs false
set_option linter.unusedVariables false
set_option maxRecDepth 100000
set_option maxHeartbeats 16000000
open Go Go.RowKit
def jd6(leaf odd:Bool):vU:=(if leaf then 2 else 0)+(if odd then 1 else 0)
theorem jw2(leaf odd:Bool):jy9 leaf odd=((jd6 leaf odd).toNat:Int):=by cases leaf <;> cases odd <;> rfl
def oddB(p:vB):Bool:=p.size % 2 == 1
def jce(p:vB)(leaf:Bool):vN:=jd6 leaf (oddB p) ::(if oddB p then []else [0])
def putB(p:vB)(leaf:Bool):vB:=jbD ⟨(jce p leaf++p.data.toList).toArray⟩
theorem jzq(w:vW)(p:vB)(b:Nat)(hp:w.cell? ⟨b,0,none⟩=some (.string p)):vQ 172 #[.pointer (some ⟨b,0,none⟩)] w fun e w'=>e=.returned (.bool (oddB p))/\w=w':=by
 have e:oddB p=decide ((p.size:Int) % 2=1):=by
  unfold oddB
  by_cases h:p.size % 2=1
  ·have m:(p.size:Int) % 2=1:=vO
   simp[h,m]
  ·have m:¬(p.size:Int) % 2=1:=vO
   simp only[m,decide_false];simp;omega
 go_enter Tryz.func172,Tryz.ntmps172;go_wp2_with fail
 go_ret
 exact⟨by rw[e];rfl,rfl⟩
theorem Tryz.run_lit1(w:vW)(b:vU):(convert 52 9 (.slice (some ⟨w.heap.size,0,none⟩) 1 1)).run Tryz.prog (w.alloc (.cells #[.int .u8 (b.toNat:Int)] 5))=.ok (.string ⟨#[b]⟩) (w.alloc (.cells #[.int .u8 (b.toNat:Int)] 5)):=by
 refine run_convert_bytes_back (w.alloc (.cells #[.int .u8 (b.toNat:Int)] 5)) _ _ _ ⟨w.heap.size,0,none⟩ 1 [b] Tryz.uBytes Tryz.uU8 Tryz.uStr (fun j e=>?_);have m:j=0:=by simp at e;omega
 subst m;exact (Blk.new w _).cell vF
theorem jzA(w:vW)(p:vB)(leaf:Bool)(hs:p.size<=900000)(hv:jaz p=true):vR 155 #[.string p,.bool leaf] w (.tuple #[.string (putB p leaf),.bool true]):=by
 have HV:=Hd hv;clear hv;go_enter Tryz.func155,Tryz.ntmps155;go_wp2_with fail
 refine vC (jk6 _ p vO) fun w1 E=>?_;rw[HV.o]
 obtain⟨g,hg⟩:=vE w.heap.size
 have q1:w1.cell? ⟨g,0,none⟩=some (.string p):=by rw[E,hg];exact (Blk.new w _).cell vF
 have hE:Ext w w1:=by rw[E];exact (ExtR w).alloc _
 rw[<-hg];have HE:=Hd hE;clear hE E hg;go_wp2_with fail
 refine (jzq w1 p g q1).mono ?_;rintro e Z ⟨rfl,rfl⟩
 obtain⟨od,H⟩:∃ o,o=oddB p:=⟨_,rfl⟩
 rw[<-H];have J:=Hd H;clear H;go_wp2_with fail
 refine (jza w1 leaf od).mono ?_;rintro e Z ⟨rfl,rfl⟩;rw[jw2]
 obtain⟨A,K⟩:∃ f,f=jd6 leaf od:=⟨_,rfl⟩
 rw[<-K];have a4:=Tryz.run_lit1 Z A;have a0:=jaa q1 ((ExtR Z).alloc (.cells #[Value.int .u8 (A.toNat:Int)] 5));have a1:Ext w (Z.alloc (.cells #[Value.int .u8 (A.toNat:Int)] 5)):=HE.o.alloc _;have O:=Hd a1;have a2:=Hd K;clear a1 HE K q1;go_wp2_with fail
 clear a4
 obtain⟨w3,a3⟩:∃ x,x=Z.alloc (.cells #[Value.int .u8 (A.toNat:Int)] 5):=⟨_,rfl⟩
 rw[<-a3]at a0 O ⊢;clear a3;refine (jzq w3 p g a0).mono ?_;rintro e w4 ⟨rfl,rfl⟩;rw[<-J.o];cases od with
 | true =>
  go_wp2_with fail
  have Q:((⟨#[A]⟩:vB)++p).size<=1000000:=by rw[bY];show 1+p.size<=_;omega
  refine vC (jnx _ _ Q) fun w5 X=>?_;have hX:=O.o.trans X;have m:jbD ((⟨#[A]⟩:vB)++p)=putB p leaf:=by
   unfold putB jce;rw[<-J.o, <-a2.o,if_pos rfl]
   congr 1
  rw[m];go_wp2_with fail
  exact bodyPost_ret (v:=.tuple #[.string (putB p leaf),.bool true]) vY rfl ⟨rfl,hX⟩
 | false =>
  go_wp2_with fail
  have Q:((⟨#[A]⟩:vB)++⟨#[0]⟩++p).size<=1000000:=by rw[bY,bY];show 1+1+p.size<=_;omega
  refine vC (jnx _ _ Q) fun w5 X=>?_;have hX:=O.o.trans X;have m:jbD ((⟨#[A]⟩:vB)++⟨#[0]⟩++p)=putB p leaf:=by
   unfold putB jce;rw[<-J.o, <-a2.o,if_neg vI]
   congr 1
  rw[m];go_wp2_with fail
  exact bodyPost_ret (v:=.tuple #[.string (putB p leaf),.bool true]) vY rfl ⟨rfl,hX⟩
section
attribute [local go_sem] Oper.semAt_some
def padZ(l:vN)(j:Nat):vN:=l++128 :: List.replicate j 0
theorem jsM(l:vN)(j:Nat):padZ l (j+1)=padZ l j++[0]:=by unfold padZ;rw[List.replicate_succ'];simp
theorem jkI(l:vN)(j:Nat):(padZ l j).length=l.length+1+j:=by unfold padZ;simp;omega
def zPad(n:Nat):Nat:=(119 - n % 64) % 64
def jAX(v:vV):Nat:=match v with | .string s=>s.size | _=>0
def jAi(w:vW)(l:vN)(sz:UInt64)(v iv:vV)(wr:vW):Prop:=∃ j:Nat,j<=8/\iv=.int .i64 (7 - (j:Int))/\v=.string ⟨(padZ l (zPad l.length)++(lenL sz).take j).toArray⟩/\Ext w wr
theorem jnQ(n:Nat):zPad n < 64:=Nat.mod_lt _ vI
theorem jpt(n:Nat):(n+1+zPad n) % 64=56:=by unfold zPad;omega
theorem jvR{n j:Nat}(h:j < zPad n):(n+1+j) % 64≠56:=by unfold zPad at h;omega
def jAh(w:vW)(l:vN)(v:vV)(wr:vW):Prop:=∃ j:Nat,j<=zPad l.length/\v=.string ⟨(padZ l j).toArray⟩/\Ext w wr
theorem jwf(w:vW)(l:vN)(hs:l.length<=1000000):vR 85 #[.string ⟨l.toArray⟩] w (.string ⟨(padZ l (zPad l.length)++lenL (UInt64.ofNat l.length)).toArray⟩):=by
 obtain⟨R,hR⟩:∃ R:vB,R=⟨(padZ l (zPad l.length)++lenL (UInt64.ofNat l.length)).toArray⟩:=⟨_,rfl⟩
 have a5:=Hd hR;rw[<-hR];clear hR;have a6:(⟨l.toArray⟩:vB).size=l.length:=rfl;have A:=Tryz.run_lit1 w 128;rw[show (((128:vU).toNat:Nat):Int)=128 from rfl]at A;have b5:¬(9223372036854775807 < (⟨l.toArray⟩:vB).size+(⟨#[128]⟩:vB).size):=by show ¬(_ < l.length+1);omega
 go_enter Tryz.func85,Tryz.ntmps85;go_wp2_with fail
 rw[show (⟨l.toArray⟩:vB)++⟨#[128]⟩=⟨(padZ l 0).toArray⟩from by rw[show (⟨#[128]⟩:vB)=⟨[128].toArray⟩from rfl,jhw];rfl]
 obtain⟨w0,Q⟩:=vE (w.alloc (.cells #[.int .u8 128] 5))
 have a7:=Hd (show Ext w w0 by rw[Q];exact (ExtR w).alloc _);rw[<-Q];clear A Q b5 a6;go_loopw [0] (fun v wr=>jAh w l v wr) (fun v _=>zPad l.length+l.length+1 - jAX v)
 case atStart=>exact⟨0,cD _,rfl,a7.o⟩
 case round =>
  obtain⟨j,hj,rfl,hE⟩:=hrel
  have HE:=Hd hE;have m:=jkI l j;have H:=jsM l j
  obtain⟨t,ht⟩:=vE (padZ l j)
  rw[<-ht]at m H ⊢;have HT:=Hd ht;have a8:=Hd H
  obtain⟨u,hu⟩:∃ u:vB,u=⟨t.toArray⟩:=⟨_,rfl⟩
  have e:u.size=l.length+1+j:=by rw[hu];exact m
  have HU:=Hd hu;have a9:=Hd e;have hz:=jnQ l.length;rw[<-hu]
  by_cases hlt:j < zPad l.length
  ·have a0:=jvR hlt
   rw[<-e]at a0;have X:((u.size:Int) % 64 == 56)=false:=beq_eq_false_iff_ne.2 vO;have b4:((u.size:Int) % 64 != 56)=true:=by rw[bne,X];rfl
   have K:¬(u.size:Int) % 64=56:=vO
   have A:=Tryz.run_lit1 wr 0;rw[show (((0:vU).toNat:Nat):Int)=0 from rfl]at A;have b5:¬(9223372036854775807 < u.size+(⟨#[0]⟩:vB).size):=by rw[e];show ¬(_ < l.length+1+j+1);omega
   clear hE m H ht hu e a0;go_wp2_with fail
   go_roundw
   case rel=>exact⟨j+1,by omega,by rw[a8.o, <-jhw, <-HU.o],HE.o.alloc _⟩
   case measure =>
    show _ - (u++(⟨#[0]⟩:vB)).size < _ - u.size;rw[bY,a9.o];show _ - (l.length+1+j+1) < _;omega
  ·have J:j=zPad l.length:=vO
   have he:=jpt l.length;have X:((u.size:Int) % 64 == 56)=true:=by rw[e,J];exact beq_iff_eq.2 vO
   have K:(u.size:Int) % 64=56:=by rw[e,J];omega
   clear hE m H ht hu e he hz hlt;go_wp2_with fail
   have Z:t=padZ l (zPad l.length):=by rw[HT.o,J]
   have b6:t.length<=1000100:=by rw[Z,jkI];have:=jnQ l.length;omega
   obtain⟨sz,E⟩:=vE (UInt64.ofNat l.length)
   have O:sz.toNat=l.length:=by rw[E,UInt64.toNat_ofNat'];omega
   have b0:=Hd E;have b1:=Hd O;have a1:=Hd Z;clear E O Z X K J;go_loopw [0,4] (fun v iv wr=>jAi w l sz v iv wr) (fun _ iv _=>(intOf iv+1).toNat)
   case atStart=>exact⟨0,by omega,rfl,by rw[<-a1.o,HU.o];simp,HE.o⟩
   case round =>
    obtain⟨k,hk,rfl,rfl,hE⟩:=hrel
    have a2:=Hd hE;clear hE
    by_cases hlt:k < 8
    ·have c1:(0:Int)<=7 - (k:Int):=vO
     have c3:8 * (7 - (k:Int))=56 - 8 * (k:Int):=vO
     have c4:(0:Int)<=56 - 8 * (k:Int):=vO
     have c5:(56 - 8 * (k:Int)).toNat=56 - 8 * k:=vO
     have c6:56 - 8 * (k:Int) < 64:=vO
     obtain⟨v,hv⟩:∃ v:vB,v=⟨(padZ l (zPad l.length)++(lenL sz).take k).toArray⟩:=⟨_,rfl⟩
     have HV:=Hd hv;have a3:(l.length:Int) * 8 / 2 ^ (56 - 8 * k) % 256=((jd7 sz k).toNat:Int):=by
      have h:=jv9 sz k;rw[b1.o,show IntKind.u64.wrap ((l.length:Int) * 8)=(l.length:Int) * 8 by rw[IntKind.wrap_u64];omega]at h;exact h
     have A:=Tryz.run_lit1 wr (jd7 sz k);rw[<-a3]at A;have b7:v.size<=1000300:=by
      rw[hv];show (padZ l (zPad l.length)++(lenL sz).take k).length<=_;rw[bF,cL,jeI, <-a1.o];omega
     have b5:¬(9223372036854775807 < v.size+(⟨#[jd7 sz k]⟩:vB).size):=by show ¬(_ < v.size+1);omega
     have a4:(lenL sz).take (k+1)=(lenL sz).take k++[jd7 sz k]:=by
      rw[bS,bA (by rw[jeI];exact hlt)];simp[lenL]
     have b2:=Hd a4;rw[<-hv];clear hv a3 a4;go_wp2_with fail
     go_roundw
     case rel=>exact⟨k+1,by omega,by simp;omega,by rw[b2.o, <-cB, <-jhw, <-HV.o],a2.o.alloc _⟩
     case measure=>exact vJ
    ·have b3:k=8:=vO
     subst b3;have c1:¬(0:Int)<=7 - ((8:Nat):Int):=vO
     have HF:=Hd (show (⟨(padZ l (zPad l.length)++(lenL sz).take 8).toArray⟩:vB)=R by
      rw[a5.o, <-b0.o,bQ (by rw[jeI];exact bM _)])
     rw[HF.o];clear hlt;go_wp2_with fail
     go_ret
     exact⟨rfl,a2.o⟩
end
def hBlk(V:W8)(P:vN):Nat->W8
 | 0=>V
 | j+1=>mixW (hBlk V P j) ((P.drop (64 * j)).take 64)
theorem jxe{B X:vN}(h:B.length=64)(hx:X.length=64):layB B 0 X=X:=by
 unfold layB;rw[jC,cM,gW vO,cC]
theorem jf1(s:HSt)(P:vN)(hs:s.Ok)(o:s.n=0):∀ j:Nat,64 * j<=P.length->∃ B,jbn s (P.take (64 * j))=⟨hBlk s.V P j,B,0⟩
 | 0,_=>⟨s.B,by
  obtain⟨V,B,n⟩:=s
  have o:n=0:=o;subst o;simp[jbn,hBlk]⟩
 | j+1,h=>by
  obtain⟨B,A⟩:=jf1 s P hs o j vO
  have m:(jbn s (P.take (64 * j))).Ok:=hs.all _;rw[A]at m;have E:((P.drop (64 * j)).take 64).length=64:=by rw[cL,fY];omega
  have e:P.take (64 * (j+1))=P.take (64 * j)++(P.drop (64 * j)).take 64:=by
   rw[show 64 * (j+1)=64 * j+64 by omega,List.take_add]
  refine⟨(P.drop (64 * j)).take 64,?_⟩
  rw[e,jcB,A,jhB _ _ m (by rw[E])];show HSt.mk (mixW (hBlk s.V P j) (layB B 0 _)) (layB B 0 _) 0=_;rw[jxe m.1 E];rfl
theorem jzz(l:vN):(jbn jhE l).n=l.length % 64:=by
 obtain⟨B,o⟩:=jf1 jhE l jhT rfl (l.length / 64) vO
 have m:(jbn jhE (l.take (64 * (l.length / 64)))).Ok:=jhT.all _;rw[o]at m;have e:l=l.take (64 * (l.length / 64))++l.drop (64 * (l.length / 64)):=(cQ _ _).symm;have A:(l.drop (64 * (l.length / 64))).length=l.length % 64:=by rw[fY];omega
 conv=>lhs;rw[e]
 rw[jcB,o,jhC _ _ m (by rw[A];show 0+_ < 64;omega)];show 0+_=_;rw[A];omega
def padL(l:vN):vN:=padZ l (zPad l.length)++lenL (UInt64.ofNat l.length)
theorem jkH(l:vN):(padL l).length=l.length+9+zPad l.length:=by
 unfold padL;rw[bF,jkI,jeI];omega
theorem jsL(l:vN):(padL l).length % 64=0:=by
 rw[jkH];have:=jpt l.length;omega
theorem jxU(l:vN):shaL l=⟨(outL (hBlk jjG (padL l) ((padL l).length / 64)).words).toArray⟩:=by
 have o:jj1 (jbn jhE l).n=zPad l.length:=by rw[jzz];unfold jj1 zPad;omega
 have e:l++jmG (zPad l.length) (UInt64.ofNat l.length)=padL l:=by unfold padL padZ jmG;simp
 obtain⟨B,m⟩:=jf1 jhE (padL l) jhT rfl ((padL l).length / 64) vO
 rw[bQ (by have:=jsL l;omega)]at m;unfold shaL sumB;rw[o, <-jcB,e,m];rfl
end Go.Proofs.YtegloohdmjadoaaGreatDoor
