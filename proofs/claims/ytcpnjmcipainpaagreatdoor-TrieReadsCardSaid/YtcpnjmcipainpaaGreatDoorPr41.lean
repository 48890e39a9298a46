/- Lemmas; each is under no condition but those that it states. -/
import Derived.Test.YtcpnjmcipainpaaGreatDoorPr40
namespace Go.Proofs.YtcpnjmcipainpaaGreatDoor
set_option linter.unusedSimpArgs false
set_option linter.unusedVariables false
set_option maxRecDepth 100000
set_option maxHeartbeats 16000000
open Go Go.RowKit
section
attribute [local go_sem] Oper.semAt_some
def padZ(l:List UInt8)(j:Nat):List UInt8:=l++128 :: List.replicate j 0
theorem jrb(l:List UInt8)(j:Nat):padZ l (j+1)=padZ l j++[0]:=by unfold padZ;rw[List.replicate_succ'];simp
theorem jjO(l:List UInt8)(j:Nat):(padZ l j).length=l.length+1+j:=by unfold padZ;simp;omega
def zPad(n:Nat):Nat:=(119 - n % 64) % 64
def jyZ(v:Value):Nat:=match v with | .string s=>s.size | _=>0
def jyo(w:World)(l:List UInt8)(sz:UInt64)(v iv:Value)(wr:World):Prop:=∃ j:Nat,j<=8/\iv=.int .i64 (7 - (j:Int))/\v=.string ⟨(padZ l (zPad l.length)++(lenL sz).take j).toArray⟩/\Ext w wr
theorem jmO(n:Nat):zPad n < 64:=Nat.mod_lt _ vI
theorem jn5(n:Nat):(n+1+zPad n) % 64=56:=by unfold zPad;omega
theorem jub{n j:Nat}(h:j < zPad n):(n+1+j) % 64≠56:=by unfold zPad at h;omega
def jyn(w:World)(l:List UInt8)(v:Value)(wr:World):Prop:=∃ j:Nat,j<=zPad l.length/\v=.string ⟨(padZ l j).toArray⟩/\Ext w wr
theorem juv(w:World)(l:List UInt8)(hs:l.length<=1000000):vR 140 #[.string ⟨l.toArray⟩] w (.string ⟨(padZ l (zPad l.length)++lenL (UInt64.ofNat l.length)).toArray⟩):=by
 obtain⟨R,hR⟩:∃ R:vB,R=⟨(padZ l (zPad l.length)++lenL (UInt64.ofNat l.length)).toArray⟩:=⟨_,rfl⟩
 have HRR:=Hd hR;rw[<-hR];clear hR;have hsz:(⟨l.toArray⟩:vB).size=l.length:=rfl;have hcv:=Tryz.run_lit1 w 128;rw[show (((128:UInt8).toNat:Nat):Int)=128 from rfl]at hcv;have b5:¬(9223372036854775807 < (⟨l.toArray⟩:vB).size+(⟨#[128]⟩:vB).size):=by show ¬(_ < l.length+1);omega
 go_enter Tryz.func140,Tryz.ntmps140;go_wp2_with fail
 rw[show (⟨l.toArray⟩:vB)++⟨#[128]⟩=⟨(padZ l 0).toArray⟩from by rw[show (⟨#[128]⟩:vB)=⟨[128].toArray⟩from rfl,jgT];rfl]
 obtain⟨w0,hw0⟩:=vE (w.alloc (.cells #[.int .u8 128] 5))
 have HE0:=Hd (show Ext w w0 by rw[hw0];exact (ExtR w).alloc _);rw[<-hw0];clear hcv hw0 b5 hsz;go_loopw [0] (fun v wr=>jyn w l v wr) (fun v _=>zPad l.length+l.length+1 - jyZ v)
 case atStart=>exact⟨0,Nat.zero_le _,rfl,HE0.o⟩
 case round =>
  obtain⟨j,hj,rfl,hE⟩:=hrel
  have HE:=Hd hE;have hlen:=jjO l j;have hst:=jrb l j
  obtain⟨t,ht⟩:=vE (padZ l j)
  rw[<-ht]at hlen hst ⊢;have HT:=Hd ht;have HST:=Hd hst
  obtain⟨u,hu⟩:∃ u:vB,u=⟨t.toArray⟩:=⟨_,rfl⟩
  have hus:u.size=l.length+1+j:=by rw[hu];exact hlen
  have HU:=Hd hu;have HUS:=Hd hus;have hz:=jmO l.length;rw[<-hu]
  by_cases hlt:j < zPad l.length
  ·have hne:=jub hlt
   rw[<-hus]at hne;have hmi:((u.size:Int) % 64 == 56)=false:=beq_eq_false_iff_ne.2 vO;have hmi2:((u.size:Int) % 64 != 56)=true:=by rw[bne,hmi];rfl
   have hmi3:¬(u.size:Int) % 64=56:=by omega
   have hcv:=Tryz.run_lit1 wr 0;rw[show (((0:UInt8).toNat:Nat):Int)=0 from rfl]at hcv;have b5:¬(9223372036854775807 < u.size+(⟨#[0]⟩:vB).size):=by rw[hus];show ¬(_ < l.length+1+j+1);omega
   clear hE hlen hst ht hu hus hne;go_wp2_with fail
   go_roundw
   case rel=>exact⟨j+1,by omega,by rw[HST.o, <-jgT, <-HU.o],HE.o.alloc _⟩
   case measure =>
    show _ - (u++(⟨#[0]⟩:vB)).size < _ - u.size;rw[ByteArray.size_append,HUS.o];show _ - (l.length+1+j+1) < _;omega
  ·have hje:j=zPad l.length:=by omega
   have he:=jn5 l.length;have hmi:((u.size:Int) % 64 == 56)=true:=by rw[hus,hje];exact beq_iff_eq.2 vO
   have hmi3:(u.size:Int) % 64=56:=by rw[hus,hje];omega
   clear hE hlen hst ht hu hus he hz hlt;go_wp2_with fail
   have hte:t=padZ l (zPad l.length):=by rw[HT.o,hje]
   have htl:t.length<=1000100:=by rw[hte,jjO];have:=jmO l.length;omega
   obtain⟨sz,hszd⟩:=vE (UInt64.ofNat l.length)
   have hszn:sz.toNat=l.length:=by rw[hszd,UInt64.toNat_ofNat'];omega
   have HSZ:=Hd hszd;have HSN:=Hd hszn;have HTE:=Hd hte;clear hszd hszn hte hmi hmi3 hje;go_loopw [0,4] (fun v iv wr=>jyo w l sz v iv wr) (fun _ iv _=>(intOf iv+1).toNat)
   case atStart=>exact⟨0,by omega,rfl,by rw[<-HTE.o,HU.o];simp,HE.o⟩
   case round =>
    obtain⟨k,hk,rfl,rfl,hE⟩:=hrel
    have HE2:=Hd hE;clear hE
    by_cases hlt:k < 8
    ·have c1:(0:Int)<=7 - (k:Int):=by omega
     have c3:8 * (7 - (k:Int))=56 - 8 * (k:Int):=by omega
     have c4:(0:Int)<=56 - 8 * (k:Int):=by omega
     have c5:(56 - 8 * (k:Int)).toNat=56 - 8 * k:=by omega
     have c6:56 - 8 * (k:Int) < 64:=by omega
     obtain⟨v,hv⟩:∃ v:vB,v=⟨(padZ l (zPad l.length)++(lenL sz).take k).toArray⟩:=⟨_,rfl⟩
     have HV:=Hd hv;have hlb:(l.length:Int) * 8 / 2 ^ (56 - 8 * k) % 256=((jdP sz k).toNat:Int):=by
      have h:=juq sz k;rw[HSN.o,show IntKind.u64.wrap ((l.length:Int) * 8)=(l.length:Int) * 8 by rw[IntKind.wrap_u64];omega]at h;exact h
     have hcv:=Tryz.run_lit1 wr (jdP sz k);rw[<-hlb]at hcv;have hvs:v.size<=1000300:=by
      rw[hv];show (padZ l (zPad l.length)++(lenL sz).take k).length<=_;rw[List.length_append,List.length_take,jet, <-HTE.o];omega
     have b5:¬(9223372036854775807 < v.size+(⟨#[jdP sz k]⟩:vB).size):=by show ¬(_ < v.size+1);omega
     have htk:(lenL sz).take (k+1)=(lenL sz).take k++[jdP sz k]:=by
      rw[List.take_add_one,List.getElem?_eq_getElem (by rw[jet];exact hlt)];simp[lenL]
     have HTK:=Hd htk;rw[<-hv];clear hv hlb htk;go_wp2_with fail
     go_roundw
     case rel=>exact⟨k+1,by omega,by simp;omega,by rw[HTK.o, <-List.append_assoc, <-jgT, <-HV.o],HE2.o.alloc _⟩
     case measure=>simp[intOf];omega
    ·have hk8:k=8:=by omega
     subst hk8;have c1:¬(0:Int)<=7 - ((8:Nat):Int):=by omega
     have HF:=Hd (show (⟨(padZ l (zPad l.length)++(lenL sz).take 8).toArray⟩:vB)=R by
      rw[HRR.o, <-HSZ.o,List.take_of_length_le (by rw[jet];exact Nat.le_refl _)])
     rw[HF.o];clear hlt;go_wp2_with fail
     go_ret
     exact⟨rfl,HE2.o⟩
end
def hBlk(V:W8)(P:List UInt8):Nat->W8
 | 0=>V
 | j+1=>mixW (hBlk V P j) ((P.drop (64 * j)).take 64)
theorem jvu{B X:List UInt8}(h:B.length=64)(hx:X.length=64):layB B 0 X=X:=by
 unfold layB;rw[List.take_zero,List.nil_append,List.drop_of_length_le vO,List.append_nil]
theorem jfH(s:HSt)(P:List UInt8)(hs:s.Ok)(h0:s.n=0):∀ j:Nat,64 * j<=P.length->∃ B,jbj s (P.take (64 * j))=⟨hBlk s.V P j,B,0⟩
 | 0,_=>⟨s.B,by
  obtain⟨V,B,n⟩:=s
  have h0:n=0:=h0;subst h0;simp[jbj,hBlk]⟩
 | j+1,h=>by
  obtain⟨B,hB⟩:=jfH s P hs h0 j vO
  have hok:(jbj s (P.take (64 * j))).Ok:=hs.all _;rw[hB]at hok;have hx:((P.drop (64 * j)).take 64).length=64:=by rw[List.length_take,List.length_drop];omega
  have e:P.take (64 * (j+1))=P.take (64 * j)++(P.drop (64 * j)).take 64:=by
   rw[show 64 * (j+1)=64 * j+64 by omega,List.take_add]
  refine⟨(P.drop (64 * j)).take 64,?_⟩
  rw[e,jcq,hB,jgW _ _ hok (by rw[hx])];show HSt.mk (mixW (hBlk s.V P j) (layB B 0 _)) (layB B 0 _) 0=_;rw[jvu hok.1 hx];rfl
theorem jxJ(l:List UInt8):(jbj jg0 l).n=l.length % 64:=by
 obtain⟨B,hB⟩:=jfH jg0 l jhe rfl (l.length / 64) vO
 have hok:(jbj jg0 (l.take (64 * (l.length / 64)))).Ok:=jhe.all _;rw[hB]at hok;have e:l=l.take (64 * (l.length / 64))++l.drop (64 * (l.length / 64)):=(List.take_append_drop _ _).symm;have hl:(l.drop (64 * (l.length / 64))).length=l.length % 64:=by rw[List.length_drop];omega
 conv=>lhs;rw[e]
 rw[jcq,hB,jgX _ _ hok (by rw[hl];show 0+_ < 64;omega)];show 0+_=_;rw[hl];omega
def padL(l:List UInt8):List UInt8:=padZ l (zPad l.length)++lenL (UInt64.ofNat l.length)
theorem jjN(l:List UInt8):(padL l).length=l.length+9+zPad l.length:=by
 unfold padL;rw[List.length_append,jjO,jet];omega
theorem jra(l:List UInt8):(padL l).length % 64=0:=by
 rw[jjN];have:=jn5 l.length;omega
theorem jv4(l:List UInt8):shaL l=⟨(outL (hBlk jiS (padL l) ((padL l).length / 64)).words).toArray⟩:=by
 have hz:jjd (jbj jg0 l).n=zPad l.length:=by rw[jxJ];unfold jjd zPad;omega
 have e:l++jlI (zPad l.length) (UInt64.ofNat l.length)=padL l:=by unfold padL padZ jlI;simp
 obtain⟨B,hB⟩:=jfH jg0 (padL l) jhe rfl ((padL l).length / 64) vO
 rw[List.take_of_length_le (by have:=jra l;omega)]at hB;unfold shaL sumB;rw[hz, <-jcq,e,hB];rfl
end Go.Proofs.YtcpnjmcipainpaaGreatDoor
