/- Lemmas; each is under no condition but those that it states. -/
import Derived.Test.YtfjmkebdhojanaaGreatDoorPt19
namespace Go.Proofs.YtfjmkebdhojanaaGreatDoor
set_option linter.unusedSimpArgs false
set_option linter.unusedVariables false
set_option maxRecDepth 100000
set_option maxHeartbeats 16000000
open Go Go.RowKit
def RdC(w:vW)(v:vV)(xs:List Chg):Prop:=
 (∃ a c,v=.slice a 0 c/\xs=[])\/∃ b o c,v=.slice (some ⟨b,o,none⟩) xs.length c/\b < w.heap.size/\xs.length<=c/\∀ (j:Nat) x,xs[j]?=some x->w.cell? ⟨b,o+j * 3,none⟩=some (.string x.key)/\w.cell? ⟨b,o+j * 3+1,none⟩=some (.string x.value)/\w.cell? ⟨b,o+j * 3+2,none⟩=some (.bool x.gone)
theorem RdC.ext{w w':vW}{v:vV}{xs:List Chg}(h:RdC w v xs)(k:Ext w w'):RdC w' v xs:=by
 rcases h with h |⟨b,o,c,h1,h2,h3,h4⟩
 ·exact .inl h
 ·exact .inr ⟨b,o,c,h1,bQ h2 k.size,h3,fun j x e=>⟨jaa (h4 j x e).1 k,jaa (h4 j x e).2.1 k,jaa (h4 j x e).2.2 k⟩⟩
theorem RdC.sl{w:vW}{v:vV}{xs:List Chg}(h:RdC w v xs):∃ a c,v=.slice a xs.length c:=by
 rcases h with⟨a,c,h1,h2⟩ |⟨b,o,c,h1,_⟩
 ·exact⟨a,c,by rw[h1,h2];rfl⟩
 ·exact⟨_,c,h1⟩
theorem Tryz.makeMapSE(W:vW):(Instr.makeMap 133 none).run Tryz.prog W=.ok (.map (some W.heap.size)) (W.alloc (.map #[] 0)):=vY
theorem Tryz.zeroE(w:vW):(zeroValue 42).run Tryz.prog w=.ok (.agg #[.string ⟨#[]⟩,.string ⟨#[]⟩]) w:=vY
def jeY(w:vW)(l:vL)(cs:List Chg)(e:Ending)(w':vW):Prop:=
 if jbk l cs=0 then ∃ r,e=.returned (.tuple #[r,.int .i64 0])/\ERow w w' r (jc1 (je1 l cs)).length (jc1 (je1 l cs))else e=.returned (.tuple #[.slice none 0 0,.int .i64 (jbk l cs)])/\Ext w w'
theorem jeY.bad{w w':vW}{l:vL}{cs:List Chg}{x:Int}(h:jbk l cs=x)(h0:x≠0)(he:Ext w w'):jeY w l cs (.returned (.tuple #[.slice none 0 0,.int .i64 x])) w':=by
 unfold jeY;rw[h,if_neg h0];exact⟨rfl,he⟩
def jyM(w:vW)(cs:List Chg)(i:vV)(wr:vW):Prop:=∃ k:Nat,k<=cs.length/\i=.int .i64 k/\Ext w wr/\(cs.take k).any Chg.bad=false
def jyN(w:vW)(bm:Nat)(l:vL)(i:vV)(wr:vW):Prop:=∃ k:Nat,k<=l.length/\i=.int .i64 k/\Ext w wr/\∃ es ck,Blk wr bm (.map (Tryz.ES.arr es) ck)/\MapR es ck ((l.take k).foldl putM [])
def jyO(w:vW)(bm:Nat)(l:vL)(cs:List Chg)(i:vV)(wr:vW):Prop:=∃ k:Nat,k<=cs.length/\i=.int .i64 k/\Ext w wr/\∃ es ck,Blk wr bm (.map (Tryz.ES.arr es) ck)/\MapR es ck ((cs.take k).foldl doM (l.foldl putM []))
def jyP(w5:vW)(M:vL)(v i:vV)(wr:vW):Prop:=∃ k:Nat,k<=M.length/\i=.int .i64 k/\ERow w5 wr v k ((jc1 M).take k)
theorem juz{cs:List Chg}{k:Nat}{c:Chg}(h:cs[k]?=some c):(cs.take (k+1)).any Chg.bad=((cs.take k).any Chg.bad || c.bad):=by
 rw[bW,h,List.any_append];simp
theorem jwB{cs:List Chg}{k:Nat}{c:Chg}(h:cs[k]?=some c)(hb:c.bad=true):cs.any Chg.bad=true:=fP.2 ⟨c,bI h,hb⟩
theorem jry(w:vW)(v u:vV)(l:vL)(cs:List Chg)(hv:RdP w v l)(hu:RdC w u cs)(hn:l.length<=9223372036854775807)(hnc:cs.length<=9223372036854775807)(hs:∀ p∈l,p.1.size<=9223372036854775807/\p.2.size<=9223372036854775807)(hsc:∀ c∈cs,c.key.size<=9223372036854775807/\c.value.size<=9223372036854775807) :
  vQ 34 #[v,u] w (jeY w l cs):=by
 have a9:=Hd (jg8 w v l hv hn hs);have HV:=Hd hv;have HU:=Hd hu;have d8:=Hd hsc
 obtain⟨a,c,rfl⟩:=hv.sl
 obtain⟨a',c',d6⟩:=hu.sl
 subst d6;clear hv hu hs hsc
 by_cases hck:jaz l=0
 case neg =>
  obtain⟨x,hx⟩:=vE (jaz l)
  have HB:=Hd (show jbk l cs=x by unfold jbk;rw[if_pos hck,hx]);rw[<-hx]at hck a9;have f9:(x == 0)=false:=by simpa using hck
  have HX:=Hd hck;clear hck hx HV HU d8;go_enter Tryz.func34,Tryz.ntmps34;go_wp2_with fail
  refine a9.o.mono ?_;rintro e w1 ⟨rfl,X⟩;have J:=Hd X;clear X a9;go_wp2_with fail
  go_ret2;exact jeY.bad HB.o HX.o J.o
 rw[hck]at a9;have g8:=Hd (jaD hck).len;have a3:=Hd hck;clear hck;go_enter Tryz.func34,Tryz.ntmps34;go_wp2_with fail
 refine a9.o.mono ?_;rintro e w1 ⟨rfl,X⟩;have d9:=Hd X;clear X a9;go_wp2_with fail
 go_loopw [24] (fun i wr=>jyM w cs i wr) (fun i _=>cs.length - (intOf i).toNat)
 case atStart=>exact⟨0,by omega,rfl,d9.o,rfl⟩
 case round =>
  obtain⟨k,hk,rfl,X,b6⟩:=hrel
  have J:=Hd X;have a0:=Hd b6;clear X b6
  by_cases hlt:k < cs.length
  ·rcases HU.o with⟨_,_,_,h0⟩ |⟨b,o,c1,hh,hb,hc,A⟩
   ·rw[h0]at hlt;cases hlt
   cases hh
   obtain⟨p,hp⟩:∃ p,cs[k]?=some p:=⟨_,bA hlt⟩
   obtain⟨q1,q2,q3⟩:=A k p hp
   have q1:=jaa q1 J.o;have q2:=jaa q2 J.o;have q3:=jaa q3 J.o;have c4:=d8.o p (bI hp);have b1:(k:Int) < (cs.length:Int):=vO
   have HP:=Hd hp
   obtain⟨ky,vl,gn⟩:=p
   simp only at q1 q2 q3 c4;clear A hp hb hc;have a4:=Hd (fun(h:Chg.bad ⟨ky,vl,gn⟩=true)=>(show jbk l cs=1 by
    unfold jbk;rw[if_neg (by rw[a3.o];simp),if_pos (jwB HP.o h)]))
   have e0:=Hd (fun(h:Chg.bad ⟨ky,vl,gn⟩=false)=>(show (cs.take (k+1)).any Chg.bad=false by rw[juz HP.o,a0.o,h];rfl));have b3:=Hd (J.o.alloc (.cells #[.string ky,.string vl,.bool gn] 44));clear HP a0;go_wp2_with fail
   refine (jhl _ ky c4.1).mono ?_;rintro e w3 ⟨rfl,rfl⟩;clear q1 q2 q3;cases hky:jcB ky with
   | false =>
    have HB:=Hd (a4.o (by unfold Chg.bad;simp[hky]));clear hky;go_wp2_with fail
    go_ret2;exact jeY.bad HB.o vI b3.o
   | true =>
    cases gn with
    | true =>
     by_cases hz:vl.size=0
     ·have:=jby hz
      subst this;have HG:=Hd (e0.o (by unfold Chg.bad;simp[hky];rfl));clear hky hz;go_wp2_with fail
      go_roundw
      case rel=>exact⟨k+1,by omega,by go_num,b3.o,HG.o⟩
      case measure=>exact vJ
     ·have f9:=jbe (s:=vl) vO
      have HB:=Hd (a4.o (by unfold Chg.bad;simp[hky,hz]));clear hky hz;go_wp2_with fail
      go_ret2;exact jeY.bad HB.o vI b3.o
    | false =>
     go_wp2_with fail
     refine (jgW _ vl c4.2).mono ?_;rintro e w3 ⟨rfl,rfl⟩;cases hvl:jbY vl with
     | true =>
      have HG:=Hd (e0.o (by unfold Chg.bad;simp[hky,hvl]));clear hky hvl;go_wp2_with fail
      go_roundw
      case rel=>exact⟨k+1,by omega,by go_num,b3.o,HG.o⟩
      case measure=>exact vJ
     | false =>
      have HB:=Hd (a4.o (by unfold Chg.bad;simp[hky,hvl]));clear hky hvl;go_wp2_with fail
      go_ret2;exact jeY.bad HB.o vI b3.o
  ·have e4:k=cs.length:=vO
   have HB:=Hd (show cs.any Chg.bad=false by have h:=a0.o;rwa [e4,cL]at h);clear e4 a0;have g0:=Tryz.makeMapSE wr;go_wp2_with fail
   obtain⟨bm,b8⟩:=vE wr.heap.size
   have e5:=Hd (show Blk (wr.alloc (.map #[] 0)) bm (.map #[] 0) by rw[b8];exact Blk.new wr _);have c5:w.heap.size<=bm:=by rw[b8];exact J.o.size
   have e6:=Hd (J.o.alloc (.map #[] 0));rw[<-b8];clear g0 b8;go_loopw [56] (fun i w2=>jyN w bm l i w2) (fun i _=>l.length - (intOf i).toNat)
   case atStart=>exact⟨0,by omega,rfl,e6.o,[],0,e5.o,MapR.nil 0⟩
   case round =>
    clear J e6 e5 d9
    obtain⟨j,hj,rfl,X,es,ck,hM,hR⟩:=hrel
    have J:=Hd X;have Z:=Hd hR
    by_cases hlt2:j < l.length
    ·rcases HV.o with⟨_,_,_,h0⟩ |⟨b,o,c1,hh,hb,hc,A⟩
     ·rw[h0]at hlt2;cases hlt2
     cases hh
     obtain⟨p,hp⟩:∃ p,l[j]?=some p:=⟨_,bA hlt2⟩
     obtain⟨q1,q2⟩:=A j p hp
     have q1:=jaa q1 J.o;have q2:=jaa q2 J.o;have b1:(j:Int) < (l.length:Int):=vO
     have HP:=Hd hp
     obtain⟨x,y⟩:=p
     simp only at q1 q2;have Q:=hM.alloc (.cells #[.string x,.string y] 42)
     obtain⟨E,H⟩:=vE (jbt es x.data.toList (Pair.V (x,y)) ck)
     obtain⟨K,O⟩:=vE (if (jaX es x.data.toList).isSome then ck else ck+1)
     have g1:(Instr.mapUpdate 133 (.map (some bm)) (.string x) (.agg #[.string x,.string y])).run Tryz.prog (wr.alloc (.cells #[.string x,.string y] 42))=.ok () ((wr.alloc (.cells #[.string x,.string y] 42)).putObj bm (.map (Tryz.ES.arr E) K)):=by
      have:=jb4 Tryz.ES Tryz.uMapSE Q x.data.toList (Pair.V (x,y))
      rw[<-H, <-O]at this;exact this
     have a1:=Hd (show MapR E K ((l.take (j+1)).foldl putM []) by
      rw[bW,HP.o,dU,H,O];exact Z.o.put (x,y))
     have b4:=Hd (Q.put_same (.map (Tryz.ES.arr E) K));have b5:=Hd ((J.o.alloc (.cells #[.string x,.string y] 42)).putObj (.inr c5) (.map (Tryz.ES.arr E) K));clear A hp hb hc hM hR Q H O X Z J;go_wp2_with fail
     go_roundw
     case rel=>exact⟨j+1,by omega,by go_num,b5.o,E,K,b4.o,a1.o⟩
     case measure=>exact vJ
    ·have e7:j=l.length:=vO
     have a1:=Hd (show MapR es ck (l.foldl putM []) by have h:=Z.o;rwa [e7,cL]at h);have e8:=Hd hM;have e9:=Hd X;clear e7 hM hR X Z J;go_wp2_with fail
     go_loopw [67] (fun i w2=>jyO w bm l cs i w2) (fun i _=>cs.length - (intOf i).toNat)
     case atStart=>exact⟨0,by omega,rfl,e9.o,es,ck,e8.o,a1.o⟩
     case round =>
      clear e9 e8 a1
      obtain⟨q,hq,rfl,X,es,ck,hM,hR⟩:=hrel
      have J:=Hd X;have Z:=Hd hR
      by_cases hlt3:q < cs.length
      ·rcases HU.o with⟨_,_,_,h0⟩ |⟨b,o,c1,hh,hb,hc,A⟩
       ·rw[h0]at hlt3;cases hlt3
       cases hh
       obtain⟨p,hp⟩:∃ p,cs[q]?=some p:=⟨_,bA hlt3⟩
       obtain⟨q1,q2,q3⟩:=A q p hp
       have q1:=jaa q1 J.o;have q2:=jaa q2 J.o;have q3:=jaa q3 J.o;have b1:(q:Int) < (cs.length:Int):=vO
       have HP:=Hd hp
       obtain⟨x,y,gn⟩:=p
       simp only at q1 q2 q3;have Q:=hM.alloc (.cells #[.string x,.string y,.bool gn] 44);have b0:(cs.take (q+1)).foldl doM (l.foldl putM [])=doM ((cs.take q).foldl doM (l.foldl putM [])) ⟨x,y,gn⟩:=by
        rw[bW,HP.o,dU];rfl
       have b2:=Hd b0;cases gn with
       | true =>
        obtain⟨E,H⟩:=vE (jd3 es x.data.toList)
        have h3:(Builtin.delete_ #[133,9] 0 #[.map (some bm),.string x]).run Tryz.prog (wr.alloc (.cells #[.string x,.string y,.bool true] 44))=.ok (.tuple #[]) ((wr.alloc (.cells #[.string x,.string y,.bool true] 44)).putObj bm (.map (Tryz.ES.arr E) ck)):=by
         have:=jq2 Tryz.ES Tryz.uMapSE Q x.data.toList 9 0
         rw[<-H]at this;exact this
        have a1:=Hd (show MapR E ck ((cs.take (q+1)).foldl doM (l.foldl putM [])) by
         rw[b2.o,H];exact Z.o.del x)
        have b4:=Hd (Q.put_same (.map (Tryz.ES.arr E) ck));have b5:=Hd ((J.o.alloc (.cells #[.string x,.string y,.bool true] 44)).putObj (.inr c5) (.map (Tryz.ES.arr E) ck));clear A hp hb hc hM hR Q H X Z J b0 b2;go_wp2_with fail
        go_roundw
        case rel=>exact⟨q+1,by omega,by go_num,b5.o,E,ck,b4.o,a1.o⟩
        case measure=>exact vJ
       | false =>
        obtain⟨E,H⟩:=vE (jbt es x.data.toList (Pair.V (x,y)) ck)
        obtain⟨K,O⟩:=vE (if (jaX es x.data.toList).isSome then ck else ck+1)
        have g1:(Instr.mapUpdate 133 (.map (some bm)) (.string x) (.agg #[.string x,.string y])).run Tryz.prog (wr.alloc (.cells #[.string x,.string y,.bool false] 44))=.ok () ((wr.alloc (.cells #[.string x,.string y,.bool false] 44)).putObj bm (.map (Tryz.ES.arr E) K)):=by
         have:=jb4 Tryz.ES Tryz.uMapSE Q x.data.toList (Pair.V (x,y))
         rw[<-H, <-O]at this;exact this
        have a1:=Hd (show MapR E K ((cs.take (q+1)).foldl doM (l.foldl putM [])) by
         rw[b2.o,H,O];exact Z.o.put (x,y))
        have b4:=Hd (Q.put_same (.map (Tryz.ES.arr E) K));have b5:=Hd ((J.o.alloc (.cells #[.string x,.string y,.bool false] 44)).putObj (.inr c5) (.map (Tryz.ES.arr E) K));clear A hp hb hc hM hR Q H O X Z J b0 b2;go_wp2_with fail
        go_roundw
        case rel=>exact⟨q+1,by omega,by go_num,b5.o,E,K,b4.o,a1.o⟩
        case measure=>exact vJ
      ·have f0:q=cs.length:=vO
       obtain⟨M,c9⟩:=vE (je1 l cs)
       have a2:=Hd (show MapR es ck M by have h:=Z.o;rw[f0,cL]at h;rw[c9];exact h);have d0:=Hd c9;have f1:=jja Tryz.ES Tryz.uMapSE hM;rw[a2.o.len]at f1;have f2:=Hd hM;have d1:=Hd X;clear f0 hM hR X Z J c9
       by_cases h40:40 < M.length
       ·have g2:(40:Int) < (M.length:Int):=vO
        have d2:=Hd (show jbk l cs=12 by unfold jbk;rw[if_neg (by rw[a3.o];simp),HB.o, <-d0.o];simp[h40]);clear h40;go_wp2_with fail
        go_ret2;exact jeY.bad d2.o vI d1.o
       ·have g2:¬(40:Int) < (M.length:Int):=vO
        have d2:=Hd (show jbk l cs=0 by unfold jbk;rw[if_neg (by rw[a3.o];simp),HB.o, <-d0.o];simp[h40]);have g9:M.length<=40:=vO
        clear h40;go_wp2_with fail
        refine (jsR wr bm).mono ?_;rintro e w4 ⟨rfl,f3,d3⟩;have f4:=Hd f3;have a5:=Hd (f2.o.keeps d3 (fun h=>h));have f5:=Hd (d1.o.trans d3);clear f3 d3 f1;go_wp2_with fail
        refine (jwk w4 wr.heap.size bm ck es ⟨f4.o,a5.o⟩ a2.o.born a2.o.keys a2.o.lt (by have:=a2.o.len;omega)).mono ?_;rintro e w5 ⟨u,rfl,hS⟩;rw[a2.o.keysEq,a2.o.len]at hS
        obtain⟨KS,b9⟩:=vE (jdZ (M.map Pair.k))
        rw[<-b9]at hS;have f6:KS.length=M.length:=by rw[b9,jgT,cC]
        have HK:=Hd b9;have g3:=Hd f6
        obtain⟨a6,c6,rfl⟩:=hS.sl
        have g4:=Hd hS.rd;have f7:=Hd (f5.o.trans hS.ext);have d7:=Hd (a5.o.keeps hS.ext (fun h=>h));have d4:=Hd (show (jc1 M).length=M.length by unfold jc1;rw[cC,jgT,cC]);clear hS b9 f6 a5 f5 f4 d1 f2;go_wp2_with fail
        go_loopw [14,92] (fun v i wr=>jyP w5 M v i wr) (fun _ i _=>M.length - (intOf i).toNat)
        case atStart=>exact⟨0,by omega,rfl,ORow.nil _ _ (ExtR w5)⟩
        case round =>
         obtain⟨t,ht,rfl,hR⟩:=hrel
         obtain⟨a7,c7,rfl⟩:=hR.sl
         have Z:=Hd hR;clear hR
         by_cases hlt4:t < M.length
         ·obtain⟨kk,c0⟩:∃ kk,KS[t]?=some kk:=⟨_,bA (by rw[g3.o];exact hlt4)⟩
          obtain⟨x,hx⟩:∃ x:vB,x=⟨kk.toArray⟩:=⟨_,rfl⟩
          obtain⟨y,hy⟩:=vE (valM M kk)
          obtain⟨_,_,hh,A⟩:=g4.o.slice
          obtain⟨b,o,g5,f8⟩:=A t x (by unfold baL;rw[bX,c0,hx];rfl)
          obtain⟨e1,e2,e3⟩:=cN hh
          subst e1;subst e3;subst g5;clear hh e2;have q1:=jaa f8 Z.o.ext;have b7:kk∈M.map Pair.k:=by
           have h1:=bI c0;rw[HK.o]at h1;exact (gW _ _).mem_iff.1 h1
          have h4:(Instr.lookup 133 (.map (some bm)) (.string x) false).run Tryz.prog wr=.ok (.agg #[.string x,.string y]) wr:=by
           have:=jcx Tryz.ES Tryz.uMapSE (d7.o.keeps Z.o.ext (fun h=>h)) (Tryz.zeroE wr) kk false
           rw[a2.o.get b7, <-hx, <-hy]at this;rw[hx];rw[hx]at this;exact this
          have b0:(jc1 M).take (t+1)=(jc1 M).take t++[(x,y)]:=by
           rw[bW]
           have:(jc1 M)[t]?=some (x,y):=by
            unfold jc1;rw[<-HK.o,bX,c0,hx,hy];rfl
           rw[this];rfl
          have b2:=Hd b0;have b1:(t:Int) < (M.length:Int):=vO
          clear A f8 b7 b0 c0 hx hy;go_wp2_with (at_builtin;refine jaO Tryz.sEnts (Z.o.mono ((ExtR wr).alloc _)) (.tmp 96) (.tmp 100) rfl rfl rfl (jaJ (Blk.new wr _)) (news:=[.string x,.string y]) (by intro u hu;simp at hu;rcases hu with rfl | rfl <;> rfl) rfl rfl ?c1 ?c2 (fun v' w' r1 r2 r3=>?_))
          case c1=>unfold maxLen;omega
          case c2=>omega
          have d5:ERow w5 w' v' (t+1) ((jc1 M).take (t+1)):=by unfold ERow;rw[b2.o,jbb];exact r1
          obtain⟨a8,c8,rfl⟩:=d5.sl
          have g6:=Hd d5;clear r1 r2 r3 d5 Z;go_wp2_with fail
          go_roundw
          case rel=>exact⟨t+1,by omega,by go_num,g6.o⟩
          case measure=>exact vJ
         ·have c3:t=M.length:=vO
          have g7:=Hd (show ERow w wr (.slice a7 t c7) (jc1 M).length (jc1 M) by
           have h:=Z.o;rw[show (jc1 M).take t=jc1 M from by rw[c3, <-d4.o,cL]]at h;have h2:ERow w5 wr (.slice a7 t c7) (jc1 M).length (jc1 M):=by rw[d4.o, <-c3];exact h
           exact⟨by rw[d4.o, <-c3];exact⟨_,_,rfl⟩,h2.own,f7.o.trans h2.ext,fun b hb=>bJ f7.o.size (h2.new b hb)⟩)
          clear c3 Z;go_wp2_with fail
          go_ret2;unfold jeY;rw[if_pos d2.o, <-d0.o]
          exact⟨_,rfl,g7.o⟩
