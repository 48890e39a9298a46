/- Lemmas; each is under no condition but those that it states. -/
import Derived.Test.YtepbencaoiompaaGreatDoorPa41
namespace Go.Proofs.YtepbencaoiompaaGreatDoor
set_option linter.unusedSimpArgs false
set_option linter.unusedVariables false
set_option maxRecDepth 100000
set_option maxHeartbeats 16000000
open Go Go.RowKit
section
attribute [local go_sem] Oper.semAt_some
theorem jyM{w W W':vW}{s bm:Nat}{L:vM}{e:Ending}(h:AnT w s bm [] W)(hL:L.length=1)(hA:jrv W s bm 100 [] L e W') :
  ∃ (nn:vB) (k:Int) (S:vT),e=.returned (.tuple #[.string nn,.int .i64 k])/\AnT w s bm S W'/\∀ x∈S,x.2.2.held<=(1:Int):=by
 rcases hA with⟨k,_,rfl,hE⟩ |⟨top,G,M,_,hY⟩
 ·exact⟨_,k,[],rfl,h.more hE,fun x o=>by cases o⟩
 ·exact⟨_,0,addS [] G M top,hY.res,h.add (n:=0) vO (fun x o=>by cases o) vI hY,jk1 (n:=0) (fun x o=>by cases o) vI hY.given⟩
theorem jxW(w:vW)(hc:jbN w)(he:ErrT w)(v u:vV)(l:vM)(cs:List Chg)(root:vB)(hv:RdS w v l)(hn:l.length<=9223372036854775807)(hs:∀ t∈l,t.size<=9223372036854775807)(hr:root.size<=9223372036854775807)(hu:RdC w u cs)(hnc:cs.length<=9223372036854775807)(hsc:∀ c∈cs,c.key.size<=9223372036854775807/\c.value.size<=9223372036854775807) :
  vR 4 #[v,.string root,u] w (.bool true):=by
 have HC:=Hd hc;have HG:=Hd he;have HV:=Hd hv;have HU:=Hd hu;have H:=Hd (bB hn (bB hnc (bB hs hsc)))
 obtain⟨va,vc,b4,b5⟩:=hv.slice
 subst b4
 obtain⟨ua,uc,b6⟩:=hu.sl
 subst b6;clear hc he hv hu hn hs hnc hsc b5;go_enter Tryz.func4,Tryz.ntmps4;go_wp2_with fail
 refine vH (juA w HC.o HG.o) fun w1 a5=>?_;go_wp2_with fail
 refine (jnl w1 100).mono ?_;rintro e w2 ⟨s,bm,rfl,z,a6,a7,b7,b8⟩;have A2:=Hd (AnT.none a6 (a5.o.trans z) a7 a5.o.size);clear z a6 a7 b7 b8;go_wp2_with fail
 refine vC (jxn w2 _ cs (HU.o.ext A2.o.ext) H.o.2.1 H.o.2.2.2) fun w3 z=>?_;have A3:=Hd (A2.o.more z);clear z A2;cases hfc:fewC cs with
 | false =>
  go_wp2_with fail
  go_ret
  exact⟨rfl,A3.o.ext⟩
 | true =>
  by_cases c0:(10:Int) < (l.length:Int)
  ·go_wp2_with fail
   go_ret
   exact⟨rfl,A3.o.ext⟩
  by_cases c1:(50:Int) < (root.size:Int)
  ·go_wp2_with fail
   go_ret
   exact⟨rfl,A3.o.ext⟩
  have HL:=Hd (show l.length<=10/\root.size<=50 by omega);go_wp2_with fail
  clear c0 c1;go_loopw [10] (fun iv wr=>AnR w3 l iv wr) (fun iv _=>l.length - (intOf iv).toNat)
  case atStart=>exact⟨0,bY _,rfl,rfl,fun t ht=>by cases ht⟩
  case round =>
   obtain⟨i,hi,rfl,rfl,J⟩:=hrel
   by_cases hlt:i < l.length
   ·have b1:(i:Int) < (l.length:Int):=vO
    obtain⟨t,ht⟩:∃ t,l[i]?=some t:=⟨_,bA hlt⟩
    rcases HV.o with⟨_,_,_,h0⟩ |⟨b,o,c1',hv',hb,hcc,hcell⟩
    ·rw[h0]at hlt;cases hlt
    cases hv';have q1:=jaa (hcell i t ht) A3.o.ext;have HT:=Hd (bB ht J);clear hcell ht hb hcc J
    by_cases c1:(700:Int) < (t.size:Int)
    ·go_wp2_with fail
     go_ret
     exact⟨rfl,A3.o.ext⟩
    ·go_wp2_with fail
     go_roundw
     case rel=>exact⟨i+1,by omega,by go_num,rfl,fun x Z=>by
      rw[cE,HT.o.1]at Z;rcases bT.1 Z with Z | Z
      ·exact HT.o.2 x Z
      ·rw[bP.1 Z];omega⟩
     case measure=>exact vJ
   ·have b9:i=l.length:=vO
    subst b9;rw[cF]at J;have c2:=Hd J;clear J;have A0:=A3;have c3:∀ W:vW,(convert 42 9 (.slice (some ⟨W.heap.size,0,none⟩) 1 1)).run Tryz.prog (W.alloc (.cells #[.int .u8 128] 5))=.ok (.string ⟨#[128]⟩) (W.alloc (.cells #[.int .u8 128] 5)):=fun W =>
     jbj (l:=[128]) _ Tryz.uBytes Tryz.uU8 Tryz.uStr (World.ownsRow_lit W #[.int .u8 128] 1 (bY _) (by unfold maxLen;omega) rfl)
    go_wp2_with fail
    obtain⟨W4,a1⟩:∃ W,W=(wr.alloc (.cells #[.int .u8 128] 5)).alloc (.cells #[.string ⟨#[128]⟩] 9):=⟨_,rfl⟩
    have a8:Ext wr W4:=by rw[a1];exact ((ExtR wr).alloc _).alloc _
    have a9:RdS W4 (.slice (some ⟨wr.heap.size+1,0,none⟩) 1 1) [⟨#[128]⟩]:=by
     rw[a1]
     have:=jbK (wr.alloc (.cells #[.int .u8 128] 5)) [⟨#[128]⟩] 9
     rwa [bK]at this
    have A4:=Hd (A0.o.more a8);rw[<-a1];refine (jkv _ (HC.o.ext A4.o.ext) (HG.o.ext A4.o.ext) s bm 100 [] A4.o.st _ [⟨#[128]⟩] a9 (jhY fun t ht=>by rw[bP.1 ht];decide) vI vI vI (by simp) (fun x Z=>by cases Z) (fun x Z=>by cases Z)).mono ?_;clear a8 a9 c3;rintro e W5 a0
    obtain⟨nn,k0,S0,rfl,b0,b2⟩:=jyM A4.o rfl a0
    have A0:=Hd b0;have c4:=Hd b2;clear b0 b2 a0;go_wp2_with fail
    have hb:=A0.o.bds;refine (jkv _ (HC.o.ext A0.o.ext) (HG.o.ext A0.o.ext) s bm 100 S0 A0.o.st _ l (HV.o.ext A0.o.ext) (jhY fun t ht=>bH (c2.o t ht) vI) (by have:=HL.o;omega) vI vI hb.1 hb.2.1 hb.2.2).mono ?_;rintro e w5 (⟨k,A,rfl,z⟩ |⟨top,G,M,d6,hA⟩)
    ·have d7:(k == 0)=false:=by simpa using A
     have q:=Hd (A0.o.more z)
     obtain⟨S,hS⟩:∃ S:vT,S=S0:=⟨_,rfl⟩
     rw[<-hS]at q;clear z hS A hb;go_wp2_with fail
     refine vC (jdF _ s bm 100 S root q.o.st) fun wg z=>?_;have q:=Hd (q.o.more z);clear z
     obtain⟨gt,gb,K,O⟩:∃ (gt:vB) (gb:Bool),optV ((atL S root.data.toList).map (·.2.2.text))=.tuple #[.string gt,.bool gb]/\(gb=false->atL S root.data.toList=none):=by
      cases atL S root.data.toList with
      | none=>exact⟨_,_,rfl,fun _=>rfl⟩
      | some y=>exact⟨_,_,rfl,fun h=>(by cases h)⟩
     rw[K];have a2:=Hd O;clear K O;go_wp2_with fail
     refine (jpF q.o nn root).mono ?_;rintro e c5 ⟨c6,c7,rfl,A,z⟩;have q:=Hd (q.o.more z);have Q:=Hd A;clear z A;go_wp2_with fail
     refine (jiJ q.o root nn).mono ?_;rintro e c8 ⟨c9,d0,rfl,A,z⟩;have q:=Hd (q.o.more z);have X:=Hd A;clear z A;go_wp2_with fail
     refine (jlG q.o root _ cs (HU.o.ext q.o.ext) H.o.2.1 H.o.2.2.2).mono ?_;rintro e d1 ⟨d2,d3,rfl,A,z⟩;have q:=Hd (q.o.more z);clear z;cases gb with
     | true =>
      clear A;go_wp2_with fail
      go_ret
      exact⟨rfl,q.o.ext⟩
     | false =>
      have E:jbA S root=false:=by unfold jbA;rw[a2.o rfl];rfl
      obtain rfl:=Q.o (by rw[E,iY]);obtain rfl:=X.o (by rw[E,Bool.false_and]);obtain rfl:=A E;have a3:=Hd E;clear A E;go_wp2_with fail
      refine (jiS (HC.o.ext q.o.ext) (HG.o.ext q.o.ext) q.o root _ cs (HU.o.ext q.o.ext) H.o.2.1 H.o.2.2.2 nn).mono ?_;rintro e d4 ⟨d5,rfl,A,z⟩;obtain rfl:=A a3.o;have q:=Hd (q.o.more z);clear A z;go_wp2_with fail
      go_ret
      exact⟨rfl,q.o.ext⟩
    ·have a4:=hA.res
     subst a4;have q:=Hd (A0.o.add (by have:=HL.o;omega) c4.o vI hA)
     obtain⟨S,hS⟩:=vE (addS S0 G M top)
     obtain⟨rt,b3⟩:=vE (shaB top)
     rw[<-hS]at q;rw[<-b3];clear hA hS b3 hb;go_wp2_with fail
     refine (jpF q.o rt nn).mono ?_;rintro e d8 ⟨d9,e0,rfl,A,z⟩;have q:=Hd (q.o.more z);clear z A;go_wp2_with fail
     refine (jpF q.o nn rt).mono ?_;rintro e e1 ⟨e2,e3,rfl,A,z⟩;have q:=Hd (q.o.more z);clear z A;go_wp2_with fail
     refine (jiJ q.o nn rt).mono ?_;rintro e e4 ⟨e5,e6,rfl,A,z⟩;have q:=Hd (q.o.more z);clear z A;go_wp2_with fail
     refine (jiS (HC.o.ext q.o.ext) (HG.o.ext q.o.ext) q.o rt _ cs (HU.o.ext q.o.ext) H.o.2.1 H.o.2.2.2 nn).mono ?_;rintro e e7 ⟨e8,rfl,A,z⟩;have q:=Hd (q.o.more z);clear z A;go_wp2_with fail
     refine (jlG q.o rt _ cs (HU.o.ext q.o.ext) H.o.2.1 H.o.2.2.2).mono ?_;rintro e e9 ⟨f0,f1,rfl,A,z⟩;have q:=Hd (q.o.more z);clear z A;go_wp2_with fail
     refine vC (jdF _ s bm 100 S root q.o.st) fun wg z=>?_;have q:=Hd (q.o.more z);clear z
     obtain⟨gt,gb,K,O⟩:∃ (gt:vB) (gb:Bool),optV ((atL S root.data.toList).map (·.2.2.text))=.tuple #[.string gt,.bool gb]/\(gb=false->atL S root.data.toList=none):=by
      cases atL S root.data.toList with
      | none=>exact⟨_,_,rfl,fun _=>rfl⟩
      | some y=>exact⟨_,_,rfl,fun h=>(by cases h)⟩
     rw[K];have a2:=Hd O;clear K O;go_wp2_with fail
     refine (jpF q.o nn root).mono ?_;rintro e c5 ⟨c6,c7,rfl,A,z⟩;have q:=Hd (q.o.more z);have Q:=Hd A;clear z A;go_wp2_with fail
     refine (jiJ q.o root nn).mono ?_;rintro e c8 ⟨c9,d0,rfl,A,z⟩;have q:=Hd (q.o.more z);have X:=Hd A;clear z A;go_wp2_with fail
     refine (jlG q.o root _ cs (HU.o.ext q.o.ext) H.o.2.1 H.o.2.2.2).mono ?_;rintro e d1 ⟨d2,d3,rfl,A,z⟩;have q:=Hd (q.o.more z);clear z;cases gb with
     | true =>
      clear A;go_wp2_with fail
      go_ret
      exact⟨rfl,q.o.ext⟩
     | false =>
      have E:jbA S root=false:=by unfold jbA;rw[a2.o rfl];rfl
      obtain rfl:=Q.o (by rw[E,iY]);obtain rfl:=X.o (by rw[E,Bool.false_and]);obtain rfl:=A E;have a3:=Hd E;clear A E;go_wp2_with fail
      refine (jiS (HC.o.ext q.o.ext) (HG.o.ext q.o.ext) q.o root _ cs (HU.o.ext q.o.ext) H.o.2.1 H.o.2.2.2 nn).mono ?_;rintro e d4 ⟨d5,rfl,A,z⟩;obtain rfl:=A a3.o;have q:=Hd (q.o.more z);clear A z;go_wp2_with fail
      go_ret
      exact⟨rfl,q.o.ext⟩
end
end Go.Proofs.YtepbencaoiompaaGreatDoor
