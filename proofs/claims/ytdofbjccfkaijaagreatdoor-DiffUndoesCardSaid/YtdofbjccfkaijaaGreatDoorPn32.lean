/- Lemmas; each is under no condition but those that it states. -/
import Derived.Test.YtdofbjccfkaijaaGreatDoorPn31
namespace Go.Proofs.YtdofbjccfkaijaaGreatDoor
set_option linter.unusedSimpArgs false
set_option linter.unusedVariables false
set_option maxRecDepth 100000
set_option maxHeartbeats 16000000
open Go Go.RowKit
section
attribute [local go_sem] Oper.semAt_some
def jrk(x:vB):Prop:=0 < x.size/\∀ (w:vW) (y:vB),(x++y).size<=1000000->vQ 187 #[.string (x++y)] w fun e w'=>∃ l b,e=.returned (.tuple #[.bool l,.string b,.string y,.int .i64 0])/\Ext w w'
def RIt(w:vW)(xs:vM)(sv ov:vV)(wr:vW):Prop:=∃ k:Nat,k<=xs.length/\sv=.string (catB (xs.drop k))/\ORow 9 1 w wr ov k ((xs.take k).map Value.string)
def strL(v:vV):Nat:=match v with | .string s=>s.size | _=>0
theorem jqk(x:vB)(xs:vM):catB (x :: xs)=x++catB xs:=by
 have:=jgx [x] xs
 rw[jgw]at this;exact this
theorem jh9(w:vW)(xs:vM)(hx:∀ x∈xs,jrk x)(hn:xs.length<=1000)(hl:(catB xs).size<=100000):vQ 188 #[.string (catB xs)] w fun e w'=>∃ v,e=.returned (.tuple #[v,.int .i64 0])/\ORow 9 1 w w' v xs.length (xs.map Value.string):=by
 have HX:=Hd hx;have HL:=Hd hl
 obtain⟨s,hs⟩:=vE (catB xs)
 have HS:=Hd hs;rw[<-hs];clear hx hl hs;unfold vQ;go_in;go_wp2_with fail
 go_loopw [0,4] (fun sv ov wr=>RIt w xs sv ov wr) (fun sv _ _=>strL sv)
 case atStart=>exact⟨0,cE _,by rw[HS.o];rfl,ORow.nil _ _ (ExtR w)⟩
 case round =>
  obtain⟨k,hk,rfl,A⟩:=hrel
  have HR:=Hd A
  by_cases hlt:k < xs.length
  ·obtain⟨x,z⟩:=vE (xs[k])
   have hd:xs.drop k=x :: xs.drop (k+1):=by rw[z];exact fY hlt
   have ht:xs.take (k+1)=xs.take k++[x]:=by rw[bY,bA hlt,z];rfl
   obtain⟨K,O⟩:=HX.o x (by rw[z];exact dG hlt)
   have E:(catB (xs.drop k)).size<=100000:=by
    have:=jgx (xs.take k) (xs.drop k)
    rw[cX]at this;have h1:=HL.o;rw[this,bU]at h1;omega
   rw[hd,jqk]at E ⊢
   obtain⟨y,hy⟩:=vE (catB (xs.drop (k+1)))
   rw[<-hy]at E ⊢;have HY:=Hd hy;have HT:=Hd ht;have Q:(x++y).size=x.size+y.size:=bU;have a2:=jkA x y;have X:=Hd (fun w1=>O w1 y vO)
   obtain⟨J,Z⟩:=vE (x++y)
   rw[<-Z]at E Q a2 X ⊢;have b3:J.toList.isEmpty=false:=jbe vO;have d1:(J.size:Int) - (y.size:Int)=(x.size:Int):=vO
   have d2:(x.size:Int)<=(J.size:Int):=vO
   have d3 : -9223372036854775808<=(J.size:Int) - (y.size:Int):=vO
   have d4:(J.size:Int) - (y.size:Int)<=9223372036854775807:=vO
   have a0:y.size < J.size:=vO
   have a3:=Hd a0
   obtain⟨ra,rc,rfl⟩:=A.sl
   have a4:k+1<=maxLen:=by unfold maxLen;omega
   have a5:(k+1) * 16<=140737488355328:=vO
   clear A z hd ht K O hy Z Q a0;go_wp2_with fail
   refine (X.o wr).mono ?_;rintro e w1 ⟨l,b,rfl,hE⟩;have a1:=Hd (HR.o.mono hE);have a7:=Hd (jaI (Blk.new w1 (.cells #[.string x] 9)));clear hE
   obtain⟨i0,a8,a9,b0,b1⟩:=info_parts Tryz.infoStr
   go_wp2_with (at_builtin;refine jcy _ rfl (.tmp 21) (.tmp 29) 28 rfl 9 i0 _ 1 16 Tryz.uStrs a8 a9 b0 b1 rfl vI (.slice ra k rc) k _ rfl (jbo a1.o.own ((ExtR w1).alloc _)) ⟨w1.heap.size,0,none⟩ 1 1 [.string x] rfl rfl a7.o (by simp[Value.oneCell']) a4 a5 ?_;intro v' w6 r1 r2 r3;obtain⟨a6,c6,rfl⟩:=jaU r1;have H:=Hd ((a1.o.mono ((ExtR w1).alloc (.cells #[.string x] 9))).step r1 r2 r3);clear r1 r2 r3)
   go_roundw
   case rel=>exact⟨k+1,by omega,by rw[HY.o],by rw[HT.o,cB];exact H.o⟩
   case measure=>exact a3.o
  ·have b2:k=xs.length:=vO
   subst b2;rw[cJ]at A
   obtain⟨ra,rc,rfl⟩:=A.sl
   have H:=Hd A;rw[gH,show catB []=⟨#[]⟩from rfl];clear A HR;go_wp2_with fail
   go_ret2
   exact⟨_,rfl,H.o⟩
end
