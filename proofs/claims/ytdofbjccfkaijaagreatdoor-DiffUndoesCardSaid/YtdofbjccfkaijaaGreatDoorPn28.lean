/- Lemmas; each is under no condition but those that it states. -/
import Derived.Test.YtdofbjccfkaijaaGreatDoorPn27
namespace Go.Proofs.YtdofbjccfkaijaaGreatDoor
set_option linter.unusedSimpArgs false
set_option linter.unusedVariables false
set_option maxRecDepth 100000
set_option maxHeartbeats 16000000
open Go Go.RowKit
section
attribute [local go_sem] Oper.semAt_some
theorem UpdP.bad{w w':vW}{S:vT}{l:vL}{cs:List Chg}{x:Int}(h:jaW l cs=x)(h0:x≠0)(he:Ext w w'):UpdP w S l cs (.returned (.tuple #[.slice none 0 0,.int .i64 x])) w':=by
 unfold UpdP;rw[h,if_neg h0];exact⟨rfl,he⟩
theorem jAO(w:vW)(hc:jbY w)(he:ErrT w)(s bm:Nat)(room:Int)(S:vT)(hs:jaS w s bm room S)(hN:jjs S)(l:vL)(h:HasM S l)(u:vV)(cs:List Chg)(hu:RdC w u cs)(hnc:cs.length<=9223372036854775807)(hsc:∀ c∈cs,c.key.size<=9223372036854775807/\c.value.size<=9223372036854775807) :
  vQ 40 #[.pointer (some ⟨s,0,none⟩),.string (rootM l),u] w (UpdP w S l cs):=by
 have HR:=Hd (js4 w s bm room S hs hN l h);have HK:=Hd h.ok;have g3:=Hd (bB hc he);have l0:=Hd hs;have c5:=jaA h.ok;have g4:=Hd (show (l.length<=9223372036854775807)/\∀ p∈l,p.1.size<=9223372036854775807/\p.2.size<=9223372036854775807 from⟨by have:=c5.len;omega,fun p hp=>by have:=c5.size p hp;omega⟩);have f3:=Hd (fun(w2:vW) (v:vV) (hv:RdP w2 v l) (e:Ext w w2)=>jnn w2 v u l cs hv (hu.ext e) g4.o.1 hnc g4.o.2 hsc)
 obtain⟨a,c,m4⟩:=hu.sl
 subst m4
 obtain⟨P,hP⟩:=vE (ja4 13 (jaR l))
 have HP:=Hd hP;have o4:=jep P;have g5:=Hd (fun(w3:vW) (v:vV) (hv:RdP w3 v l) (e:Ext w w3)=>jyA w3 v l (hc.ext e) hv h.ok);have l1:Hid (shaB (jaF l).text=rootM l):=rfl;rw[l1.o]at g5;clear hs hN h hP hc he c5 hu hsc l1
 obtain⟨rt,l2⟩:=vE (rootM l)
 rw[<-l2]at HR g5 ⊢;clear l2;go_enter Tryz.func40,Tryz.ntmps40;go_wp2_with fail
 refine HR.o.mono ?_;rintro e w1 ⟨T,x,rfl,hM⟩;have HM:=Hd hM;have c6:=hM.pa.at'.meth;rw[<-HP.o]at c6;have m5:∀ w,(Go.method (420+1) T x "guilloche/trie.entries").run Tryz.prog w=.ok (jgf P,x) w:=c6.ent;have HC:=Hd (jwV w1 w1 l HK.o T x _ hM.pa (ExtR w1));rw[<-HP.o]at HC;clear hM c6;go_wp2_with fail
 refine HC.o.mono ?_;rintro e w2 ⟨v,rfl,h1⟩;have H1:=Hd h1;have i2:=Hd (HM.o.ext.trans h1.ext);have d5:=Hd (bB (HM.o.pa.ext h1.ext) h1.ext.size);rw[<-HP.o]at d5;have HA:=Hd (f3.o w2 v h1.rd i2.o)
 obtain⟨a1,c1,hv⟩:=h1.sl
 subst hv;clear h1 m5 f3 HC;go_wp2_with fail
 refine HA.o.mono ?_;rintro e w3 e0;unfold jej at e0
 by_cases h0:jaW l cs=0
 case neg =>
  rw[if_neg h0]at e0
  obtain⟨rfl,hE⟩:=e0
  have HX:=Hd (i2.o.trans hE)
  obtain⟨x0,i3⟩:=vE (jaW l cs)
  have m6:=Hd i3.symm;rw[<-i3]at h0 ⊢;clear hE i3;go_wp2_with fail
  go_ret2;exact UpdP.bad m6.o h0 HX.o
 rw[if_pos h0]at e0
 obtain⟨r,rfl,h3⟩:=e0
 have m7:=Hd h0;have g6:=jbZ h0
 obtain⟨m,hm⟩:=vE (jcH (jcT l cs))
 rw[<-hm]at h3 g6;have m8:=Hd hm;have b8:=Hd g6;have c5:=jaA g6;have f4:=Hd (show (m.length<=9223372036854775807)/\∀ p∈m,p.1.size<=9223372036854775807/\p.2.size<=9223372036854775807 from⟨by have:=c5.len;omega,fun p hp=>by have:=c5.size p hp;omega⟩);have l3:=Hd (i2.o.trans h3.ext);have f5:=Hd (bB (d5.o.1.ext h3.ext) (bK d5.o.2 h3.ext.size));have HV:=Hd (bB (ERow.rd (H1.o.mono h3.ext)) h3.rd)
 obtain⟨a2,c2,hr⟩:=h3.sl
 subst hr;have l4:=Hd (g5.o w3 _ HV.o.1 l3.o);clear h3 c5 g6 hm h0 HA H1 g5;go_wp2_with fail
 refine l4.o.mono ?_;rintro e w4 ⟨rfl,hE⟩;have m9:=Hd (l3.o.trans hE);have d6:=Hd (bB (f5.o.1.ext hE) (bK f5.o.2 hE.size));have l5:=Hd (jsb w4 _ _ l m (HV.o.1.ext hE) (HV.o.2.ext hE) g4.o.1 f4.o.1 g4.o.2 f4.o.2);clear hE l4;go_wp2_with fail
 refine l5.o.mono ?_;rintro e w5 ⟨dv,rfl,hd⟩;have HD:=Hd hd;have n0:=Hd (m9.o.trans hd.ext);have k3:=Hd (bB (d6.o.1.ext hd.ext) (bK d6.o.2 hd.ext.size));have i4:=jqr HK.o b8.o;have n1:=jjI (jaA HK.o).len (jaA b8.o).len
 obtain⟨ds,i5⟩:=vE (jcf l m)
 rw[<-i5]at HD i4 n1;have i6:=Hd i4
 obtain⟨a3,c3,l6⟩:=hd.sl
 rw[<-i5]at l6;subst l6;clear hd i4 i5 l5;have f6:=Hd (jAm HK.o);rw[<-HP.o]at f6;have k4:=Hd HD.o.rdT;go_wp2_with fail
 go_loopw [8,56] (fun pv iv wr=>jzx w5 (jlu w w1) P ds pv iv wr) (fun _ iv _=>ds.length - (intOf iv).toNat)
 case atStart=>exact⟨0,T,x,jlu w w1,by omega,rfl,rfl,k3.o.1,fun z hz=>.inl hz,(ExtR w5).mono (fun _ _ e=>e.elim)⟩
 case round =>
  obtain⟨k,Tk,xk,D,hk,rfl,rfl,c8,hD,c9⟩:=hrel
  by_cases hlt:k < ds.length
  ·rcases k4.o with⟨_,_,_,hz⟩ |⟨b,o,cd,hh,hb,hcd,hcell⟩
   ·rw[hz]at hlt;cases hlt
   cases hh
   obtain⟨p,hp⟩:∃ p,ds[k]?=some p:=⟨_,bA hlt⟩
   obtain⟨q1,q2,q3⟩:=hcell k p hp
   have g7:¬ jlu w w1 b:=fun e=>by have h1:=HD.o.new b rfl;have h2:=d6.o.2;have h3:=e.2;omega
   have q1:=jar q1 c9 g7;have q2:=jar q2 c9 g7;have q3:=jar q3 c9 g7;have O:p.bad=false:=by
    cases e:p.bad with
    | false=>rfl
    | true=>exact absurd (jrz hp e) (by rw[i6.o.fine];simp)
   have i7:=joZ O;have b1:(k:Int) < (ds.length:Int):=vO
   have b3:=jvm f6.o ds i6.o.fine k;have a9:(ds.take (k+1)).foldl jcq P=jcq ((ds.take k).foldl jcq P) p:=by rw[joi hp,dX];rfl
   obtain⟨Q,hQ⟩:=vE ((ds.take k).foldl jcq P)
   rw[<-hQ]at c8 b3 a9;have d9:=Hd (bB b3 (b3.step O));have c4:=Hd a9;have c6:=c8.at'.meth;have K:=Hd (bB c8 (bB hD c9))
   obtain⟨ky,vl,gn⟩:=p
   simp only at q1 q2 q3 i7;clear hcell hp hb hcd g7 O b3 a9 c8 hD c9 hQ;have o5:=jfC Q;have o6:=jiz Q;have o7:∀ w,(Go.method (420+1) Tk xk "guilloche/trie.drop").run Tryz.prog w=.ok (jfj Q,xk) w:=c6.drop;have o8:∀ w,(Go.method (420+1) Tk xk "guilloche/trie.put").run Tryz.prog w=.ok (jkR Q,xk) w:=c6.put;clear c6;go_wp2_with fail
   have o9:=Hd i7;clear q1 q2 q3;refine vC (jpw _ ky vO) fun w6 d0=>?_;have i8:=(Blk.new wr (.cells #[.string ky,.string vl,.bool gn] 49)).keeps d0 (fun e=>e);have f7:=((ExtR wr).alloc (.cells #[.string ky,.string vl,.bool gn] 49)).trans d0;have q1:w6.cell? ⟨wr.heap.size,1,none⟩=some (.string vl):=i8.cell (i:=1) vF;have q2:w6.cell? ⟨wr.heap.size,2,none⟩=some (.bool gn):=i8.cell (i:=2) vF;have b9:=Hd f7;have l7:(jbu ky).size<=900000:=by have:=jgQ ky;omega
   have l8:=Hd l7;clear d0 i8 f7 i7 l7;cases gn with
   | true =>
    have X:=Hd (jh8 Q d9.o.1.va w6 Tk xk D (jbu ky) (K.o.1.ext b9.o) l8.o (jex ky) d9.o.1.dp9)
    obtain⟨pb,O⟩:=vE (jbu ky)
    have e2:=Hd O;rw[<-O]at X ⊢;clear O;go_wp2_with fail
    refine X.o.mono ?_;rintro e J ⟨v7,rfl,d1,d2⟩;have a4:(ds.take (k+1)).foldl jcq P=jbU Q pb:=by rw[c4.o,e2.o];rfl
    have d3:=d9.o.2.there;rw[show jcq Q ⟨ky,vl,true⟩=jbU Q pb by rw[e2.o];rfl]at d3
    obtain⟨T7,x7,rfl⟩:=d1.form d3
    have HF:=Hd (show PaO ((ds.take (k+1)).foldl jcq P) (.iface T7 x7) (Grow D w6 J) J from by rw[a4];exact PaTo.own d1 d2 (K.o.1.ext b9.o).lt);have i9:=Hd d2;clear d1 d2 a4 d3;go_wp2_with fail
    go_roundw
    case rel=>exact⟨k+1,T7,x7,_,by omega,by go_num,rfl,HF.o,fun z hz=>by
     rcases hz with hz | hz
     ·exact K.o.2.1 z hz
     ·exact .inr (bK K.o.2.2.size (bK b9.o.size hz.1)),K.o.2.2.trans' ((b9.o.mono (fun _ _ e=>e.elim)).trans i9.o) (fun z hz e=>(K.o.2.1 z e).resolve_right vO)⟩
    case measure=>exact vJ
   | false =>
    have X:=Hd (jn1 Q d9.o.1.va w6 Tk xk D (jbu ky) vl (K.o.1.ext b9.o) l8.o (jex ky) d9.o.1.dp9)
    obtain⟨pb,O⟩:=vE (jbu ky)
    have e2:=Hd O;rw[<-O]at X ⊢;clear O;go_wp2_with fail
    refine X.o.mono ?_;rintro e J ⟨v7,rfl,d1,d2⟩;have a4:(ds.take (k+1)).foldl jcq P=putP Q pb vl:=by rw[c4.o,e2.o];rfl
    have d3:=d9.o.2.there;rw[show jcq Q ⟨ky,vl,false⟩=putP Q pb vl by rw[e2.o];rfl]at d3
    obtain⟨T7,x7,rfl⟩:=d1.form d3
    have HF:=Hd (show PaO ((ds.take (k+1)).foldl jcq P) (.iface T7 x7) (Grow D w6 J) J from by rw[a4];exact PaTo.own d1 d2 (K.o.1.ext b9.o).lt);have i9:=Hd d2;clear d1 d2 a4 d3;go_wp2_with fail
    go_roundw
    case rel=>exact⟨k+1,T7,x7,_,by omega,by go_num,rfl,HF.o,fun z hz=>by
     rcases hz with hz | hz
     ·exact K.o.2.1 z hz
     ·exact .inr (bK K.o.2.2.size (bK b9.o.size hz.1)),K.o.2.2.trans' ((b9.o.mono (fun _ _ e=>e.elim)).trans i9.o) (fun z hz e=>(K.o.2.1 z e).resolve_right vO)⟩
    case measure=>exact vJ
  ·obtain rfl:k=ds.length:=vO
   rw[cJ,HP.o,jvl HK.o b8.o i6.o]at c8;have j0:Hid (Ext w wr):=(n0.o.trans' c9 (fun z hz e=>by have:=e.1;omega))
   obtain⟨W6,g8⟩:=vE (wr.alloc (.cells #[.slice none 0 0] 139))
   have d0:Ext wr W6:=by rw[g8];exact (ExtR wr).alloc _
   have j1:WrAt wr.heap.size wr.heap.size (.slice none 0 0) [] W6:=⟨bL _,by rw[g8];exact Blk.new wr _,gA _ _ _ _,fun b hb=>(by cases hb),fun _=>rfl⟩;have k5:cntP (ja4 13 (jaR m))=cntT 12 (jaR m):=jkt 12 _ (jbw (jaA b8.o));have b4:=jts 12 (jaR m) (jbw (jaA b8.o)) wr W6 Tk xk D wr.heap.size (.slice none 0 0) [] (g3.o.1.ext j0.o) (g3.o.2.ext j0.o) c8 d0 j1 (by have:=jks (jaA b8.o);have:([]:vM).length=0:=rfl;show 0+cntP (ja4 13 (jaR m))<=100000;omega);rw[cP,show textP (ja4 (12+1) (jaR m))=(jaF m).text from jyN b8.o,show underP (ja4 (12+1) (jaR m))=belowM m from rfl]at b4;have g9:=Hd (jlD b8.o);have f8:=Hd (show newM S (ja6 l cs)=(jaF m).text :: freshU S (belowM m)from by unfold newM ja6;rw[<-m8.o])
   obtain⟨t,ht⟩:=vE (jaF m).text
   obtain⟨U,hU⟩:=vE (belowM m)
   rw[<-ht, <-hU]at f8;rw[<-hU]at g9;rw[<-ht, <-hU]at b4;have k6:=Hd b4;have j2:=Hd (bB j1 (bB d0 g8));clear c8 hD c9 d0 j1 k5 b4 ht hU g8;go_wp2_with fail
   rw[<-j2.o.2.2];refine k6.o.mono ?_;rintro e J ⟨rfl,v7,h4⟩;have b2:=Hd (bB h4.at' (bB (j0.o.trans (h4.ext0 j2.o.1 j2.o.2.1 (bL _))) h4.at'.var.lt))
   obtain⟨g,hg⟩:=vE wr.heap.size
   rw[<-hg]at b2 ⊢;clear h4 hg
   obtain⟨a7,c7,l9⟩:=jaU b2.o.1.row
   obtain⟨n7,j3⟩:∃ n,n=U.length:=⟨_,rfl⟩
   have b0:=Hd b2.o.1.row;rw[<-j3]at l9 b0;subst l9;have j4:=Hd j3;have q7:=b2.o.1.var.cell (i:=0) (v:=.slice a7 n7 c7) vF;clear j3;have n2:(Instr.makeMap 61 none).run Tryz.prog (J.alloc (.cells #[.string t] 9))=.ok (.map (some (J.heap.size+1))) ((J.alloc (.cells #[.string t] 9)).alloc (.map #[] 0)):=by
    rw[<-bR J (.cells #[.string t] 9)];exact Tryz.makeMapSI _
   obtain⟨W8,e4⟩:=vE ((J.alloc (.cells #[.string t] 9)).alloc (.map #[] 0))
   obtain⟨mb,j5⟩:=vE (J.heap.size+1)
   rw[<-e4, <-j5]at n2;have m0:Ext J W8:=by rw[e4];exact ((ExtR J).alloc _).alloc _
   have m1:Blk W8 mb (.map (Tryz.ES.arr []) 0):=by
    rw[e4,j5, <-bR J (.cells #[.string t] 9)];exact Blk.new _ _
   have h7:SRow J (J.alloc (.cells #[.string t] 9)) (.slice (some ⟨J.heap.size,0,none⟩) 1 1) 1 [t]:=ORow.lit (n:=1) #[.string t] (ExtR J) vI rfl;have h7:SRow J W8 (.slice (some ⟨J.heap.size,0,none⟩) 1 1) 1 [t]:=by rw[e4];exact h7.mono ((ExtR _).alloc _)
   have n3:=Hd (show UpB J S mb t U 0 (.slice (some ⟨J.heap.size,0,none⟩) 1 1) W8 from⟨⟨1,h7⟩,fun e=>by injection e with e;have e:J.heap.size=mb:=e;omega,[],0,m1,fun y=>rfl⟩);have q7:=jaa q7 m0;have n4:=Hd (show J.heap.size<=mb by omega);clear e4 j5 m0 m1 h7;go_wp2_with fail
   go_loopw [19,86] (fun rv iv wr=>jzy J S mb t U rv iv wr) (fun _ iv _=>U.length - (intOf iv).toNat)
   case atStart=>exact⟨0,by omega,rfl,n3.o⟩
   case round =>
    obtain⟨k,hk,rfl,m2⟩:=hrel
    by_cases hlt:k < U.length
    ·rcases Nat.eq_zero_or_pos n7 with h0 | h0
     ·have:=j4.o;omega
     obtain⟨b7,rfl⟩:=jnW b0.o vO
     obtain⟨x,hx⟩:∃ x,U[k]?=some x:=⟨_,bA hlt⟩
     obtain⟨⟨n,A⟩,d7,es,ck,h5,h6⟩:=m2
     obtain⟨ar,cr,j6⟩:=A.sl
     subst j6;have HX:=Hd A.ext;have qx:=jaa (jev b0.o (j:=k) (u:=.string x) (by rw[cA,hx];rfl)) A.ext
     obtain⟨cn,e5⟩:=vE (cntB (U.take k) x)
     have p0:cn<=1000000:=by
      rw[e5];unfold cntB;refine bK jI ?_;rw[cC,cQ];have:=g9.o;omega
     have e6:=h6 x;rw[<-e5]at e6;have j7:(Instr.lookup 61 (.map (some mb)) (.string x) false).run Tryz.prog wr=.ok (.int .i64 (cn:Int)) wr:=by
      have:=jcw Tryz.ES Tryz.uMapSI h5 (Tryz.zeroI wr) x.data.toList false
      rw[e6]at this;unfold cntV at this
      by_cases h0:cn=0
      ·rw[if_pos h0]at this;rw[h0];exact this
      ·rw[if_neg h0]at this;exact this
     obtain⟨a5,b5⟩:∃ es2,es2=jbs es x.data.toList (.int .i64 ((cn:Int)+1)) ck:=⟨_,rfl⟩
     obtain⟨b6,f9⟩:∃ ck2,ck2=(if (jaZ es x.data.toList).isSome then ck else ck+1):=⟨_,rfl⟩
     obtain⟨W2,h8⟩:=vE (wr.putObj mb (.map (Tryz.ES.arr a5) b6))
     have j8:(Instr.mapUpdate 61 (.map (some mb)) (.string x) (.int .i64 ((cn:Int)+1))).run Tryz.prog wr=.ok () W2:=by
      have:=jb2 Tryz.ES Tryz.uMapSI h5 x.data.toList (.int .i64 ((cn:Int)+1))
      rw[<-b5, <-f9, <-h8]at this;exact this
     have B2:Blk W2 mb (.map (Tryz.ES.arr a5) b6):=by rw[h8];exact h5.put_same _
     have e7:∀ y:vB,jaZ a5 y.data.toList=cntV (cntB (U.take (k+1)) y):=fun y=>by
      rw[b5,jcZ,h6 y,joi hx,jqm]
      by_cases hxy:y.data.toList=x.data.toList
      ·have n5:y=x:=ByteArray.ext (Array.ext' hxy)
       subst n5;rw[if_pos rfl,if_pos rfl, <-e5];unfold cntV;rw[if_neg vO];simp
      ·rw[if_neg hxy,if_neg (fun e=>hxy e.symm)];rfl
     have g0:∀ W3,Ext W2 W3->(Instr.lookup 61 (.map (some mb)) (.string x) false).run Tryz.prog W3=.ok (.int .i64 ((cn:Int)+1)) W3:=fun W3 e3=>by
      have:=jcw Tryz.ES Tryz.uMapSI (B2.keeps e3 (fun e=>e)) (Tryz.zeroI W3) x.data.toList false
      rw[b5,jcZ,if_pos rfl]at this;exact this
     have K2:jaf (fun z=>z=mb) wr W2:=by rw[h8];exact jaf.onePut _ _ _
     have O2:SRow J W2 (.slice ar n cr) n (t :: freshU S (U.take k)):=A.keeps K2 (fun b hb e=>d7 (by rw[hb];exact congrArg some e)) (fun b hb e=>by have e:b=mb:=e;have:=n4.o;omega);have g1:=Hd (show n<=119 by
      have h1:=A.len;rw[cC,bF]at h1;have h2:=jl2 S (U.take k);rw[cQ]at h2
      have:=g9.o;omega)
     have g2:=Hd (show memB (jbf (U.take k)) x=true↔cn≠0 from by
      rw[jfH,jaX,e5];unfold cntB;rw[<-Nat.pos_iff_ne_zero,gX,bJ]
      exact⟨fun hm=>⟨x,hm,rfl⟩,fun ⟨y,hy,e⟩=>by rw[<-show y=x from ByteArray.ext (Array.ext' e)];exact hy⟩)
     have h9:=Hd (jqy S (U.take k) x);rw[<-joi hx]at h9;have d8:=Hd (show ∀ W3,Ext W2 W3->∃ es ck,Blk W3 mb (.map (Tryz.ES.arr es) ck)/\∀ y:vB,jaZ es y.data.toList=cntV (cntB (U.take (k+1)) y)from fun W3 e3=>⟨a5,b6,B2.keeps e3 (fun e=>e),e7⟩);have j9:=Hd (bB B2 e7);have k0:=Hd g0;have c0:=Hd O2;have a6:=Hd d7;have b1:(k:Int) < (n7:Int):=by have:=j4.o;omega
     have i0:=Hd (bB hk hlt);have p1:=g9.o;clear A d7 h5 h6 hx e5 e6 b5 f9 h8 B2 e7 g0 K2 O2 h0
     by_cases hc0:cn=0
     ·subst hc0
      have i1:=Hd (show memB (jbf (U.take k)) x=false by
       cases hm:memB (jbf (U.take k)) x with
       | false=>rfl
       | true=>exact absurd rfl (g2.o.1 hm))
      have o2:(Instr.lookup 61 (.map (some mb)) (.string x) false).run Tryz.prog wr=.ok (.int .i64 0) wr:=j7;have o3:(Instr.mapUpdate 61 (.map (some mb)) (.string x) (.int .i64 1)).run Tryz.prog wr=.ok () W2:=j8;have k7:Hid (∀ W3,Ext W2 W3->(Instr.lookup 61 (.map (some mb)) (.string x) false).run Tryz.prog W3=.ok (.int .i64 1) W3):=k0.o;clear j7 j8 k0;go_wp2_with fail
      refine vC (of_t _ _ [x] (by simp) (jcm W2 [x] 9) (g3.o.1.ext (b2.o.2.1.trans (c0.o.ext.alloc _)))) fun w8 Z=>?_;rw[jdx];have Z:=((ExtR W2).alloc (.cells #[.string x] 9)).trans Z;have e8:=Hd Z;have E:=Hd (jjd w8 s bm room S (shaB x) (l0.o.ext (b2.o.2.1.trans (c0.o.ext.trans Z))));have k1:Hid (lackB S x=(atL S (shaB x).data.toList).isNone):=rfl
      obtain⟨ag,e9⟩:=vE (atL S (shaB x).data.toList)
      rw[<-e9]at E k1
      obtain⟨sx,f0⟩:=vE (shaB x)
      rw[<-f0]at E ⊢;clear Z e9 f0 qx;cases ag with
      | some y =>
       obtain⟨ty,f1⟩:=vE y.2.2.text
       have d4:=Hd (show vQ 63 #[.pointer (some ⟨s,0,none⟩),.string sx] w8 (fun e w'=>e=.returned (.tuple #[.string y.2.2.text,.bool true])/\Ext w8 w')from E.o);go_wp2_with fail
       refine d4.o.mono ?_;rintro e w9 ⟨rfl,a0⟩;have H:=Hd (e8.o.trans a0);clear a0;rw[<-f1];clear f1;have f2:freshU S (U.take (k+1))=freshU S (U.take k):=by rw[h9.o];rw[if_neg (by rw[i1.o];simp),if_neg (by rw[k1.o];simp),bW]
       have HF:=Hd f2;clear f2;go_wp2_with fail
       go_roundw
       case rel=>exact⟨k+1,by have:=i0.o;omega,by go_num,⟨n,by rw[HF.o];exact c0.o.mono H.o⟩,a6.o,d8.o w9 H.o⟩
       case measure=>exact vJ
      | none =>
       have d4:=Hd (show vQ 63 #[.pointer (some ⟨s,0,none⟩),.string sx] w8 (fun e w'=>e=.returned (.tuple #[.string ⟨#[]⟩,.bool false])/\Ext w8 w')from E.o);go_wp2_with fail
       refine d4.o.mono ?_;rintro e w9 ⟨rfl,a0⟩;have H:=Hd (e8.o.trans a0);clear a0;have k8:=k7.o w9 H.o;have n6:n+1<=maxLen:=by have:=g1.o;unfold maxLen;omega
       have n8:(n+1) * 16<=140737488355328:=by have:=g1.o;omega
       go_wp2_with (at_builtin;refine jaK Tryz.sStrs ((c0.o.mono H.o).mono ((ExtR w9).alloc _)) (.tmp 110) (.tmp 112) rfl rfl rfl (jaI (Blk.new w9 _)) (news:=[.string x]) (by intro u hu;simp at hu;rcases hu with rfl;rfl) rfl rfl n6 n8 ?_;intro v' w' r1 r2 r3)
       have k2:SRow J w' v' (n+1) (t :: freshU S (U.take (k+1))):=by
        have e1:freshU S (U.take (k+1))=freshU S (U.take k)++[x]:=by rw[h9.o,if_neg (by rw[i1.o];simp),if_pos (by rw[k1.o];rfl)]
        unfold SRow;rw[e1, <-cZ,cB];exact r1
       obtain⟨n9,o0,rfl⟩:=k2.sl
       have k9:=(j9.o.1.keeps H.o (fun e=>e)).lt;have m3:=Hd (bB k2 (show (Value.slice n9 (n+1) o0).ownBlock≠some mb from fun e=>by
        rcases r3 with r3 | r3
        ·exact a6.o (r3 ▸ e)
        ·have:=r3 mb e;rw[bR]at this;omega))
       have o1:=Hd (((j9.o.1.keeps H.o (fun e=>e)).alloc (.cells #[.string x] 9)).keeps r2 (fun e=>a6.o e));clear r1 r2 r3 k2 k9;go_wp2_with fail
       go_roundw
       case rel=>exact⟨k+1,by have:=i0.o;omega,by go_num,⟨n+1,m3.o.1⟩,m3.o.2,a5,b6,o1.o,j9.o.2⟩
       case measure=>exact vJ
     ·have p2:¬((cn:Int)+1=1):=vO
      have p3:(((cn:Int)+1) == 1)=false:=by simp;omega
      have i1:=Hd (g2.o.2 hc0);go_wp2_with fail
      refine vC (of_t _ _ [x] (by simp) (jcm W2 [x] 9) (g3.o.1.ext (b2.o.2.1.trans (c0.o.ext.alloc _)))) fun w8 Z=>?_;rw[jdx];have Z:=((ExtR W2).alloc (.cells #[.string x] 9)).trans Z;have e8:=Hd Z;have E:=Hd (jjd w8 s bm room S (shaB x) (l0.o.ext (b2.o.2.1.trans (c0.o.ext.trans Z))))
      obtain⟨ag,e9⟩:=vE (atL S (shaB x).data.toList)
      rw[<-e9]at E
      obtain⟨sx,f0⟩:=vE (shaB x)
      rw[<-f0]at E ⊢;clear Z e9 f0 qx j7 j8;have f2:freshU S (U.take (k+1))=freshU S (U.take k):=by rw[h9.o,if_pos i1.o,bW]
      have HF:=Hd f2;clear f2;cases ag with
      | some y =>
       obtain⟨ty,f1⟩:=vE y.2.2.text
       have d4:=Hd (show vQ 63 #[.pointer (some ⟨s,0,none⟩),.string sx] w8 (fun e w'=>e=.returned (.tuple #[.string y.2.2.text,.bool true])/\Ext w8 w')from E.o);go_wp2_with fail
       refine d4.o.mono ?_;rintro e w9 ⟨rfl,a0⟩;have H:=Hd (e8.o.trans a0);clear a0;rw[<-f1];clear f1;go_wp2_with fail
       go_roundw
       case rel=>exact⟨k+1,by have:=i0.o;omega,by go_num,⟨n,by rw[HF.o];exact c0.o.mono H.o⟩,a6.o,d8.o w9 H.o⟩
       case measure=>exact vJ
      | none =>
       have d4:=Hd (show vQ 63 #[.pointer (some ⟨s,0,none⟩),.string sx] w8 (fun e w'=>e=.returned (.tuple #[.string ⟨#[]⟩,.bool false])/\Ext w8 w')from E.o);go_wp2_with fail
       refine d4.o.mono ?_;rintro e w9 ⟨rfl,a0⟩;have H:=Hd (e8.o.trans a0);clear a0;have k8:=k0.o w9 H.o;go_wp2_with fail
       go_roundw
       case rel=>exact⟨k+1,by have:=i0.o;omega,by go_num,⟨n,by rw[HF.o];exact c0.o.mono H.o⟩,a6.o,d8.o w9 H.o⟩
       case measure=>exact vJ
    ·obtain rfl:k=U.length:=vO
     obtain⟨⟨n,A⟩, -, -⟩:=m2
     obtain⟨ar,cr,j6⟩:=A.sl
     subst j6;rw[cJ]at A;have a8:=Hd A;have p4:¬((U.length:Int) < (n7:Int)):=by have:=j4.o;omega
     clear A;go_wp2_with fail
     go_ret2;unfold UpdP;rw[if_pos m7.o,f8.o];have hn:(t :: freshU S U).length=n:=by have:=a8.o.len;simpa using this
     rw[hn]
     exact⟨_,rfl,a8.o.sl,a8.o.own,b2.o.2.1.trans a8.o.ext,fun b hb=>bK b2.o.2.1.size (a8.o.new b hb)⟩
theorem jfT{S:vT}{out:List Pl}{k:Nat}{ts M:List Pl}{R:vL}(h:jcA S out k ts M R):M.length<=k/\R.length<=M.length/\∀ p∈R,p.1.size<=9223372036854775807/\p.2.size<=9223372036854775807:=by
 induction h with
 | nil=>exact⟨cE _,bL _,fun p e=>(cN e).elim⟩
 | full=>exact⟨cE _,bL _,fun p e=>(cN e).elim⟩
 | skip _ _ _ _ _ _ _ ih=>exact ih
 | no _ _ _ _ _ _ _ _ ih=>exact ih
 | go k t ts n M R h1 h2 h3 h4 ih =>
  obtain⟨H,J,A⟩:=ih
  obtain⟨d,z⟩:=h3.good
  have e:=(z.one (inlP d)).path;have K:=(z.one (inlP d)).value;have E:(entN n t.1).length<=1/\∀ p∈entN n t.1,p.1.size<=9223372036854775807/\p.2.size<=9223372036854775807:=by
   unfold entN keyR;split
   ·exact⟨cE _,fun p e=>(cN e).elim⟩
   ·split
    ·refine⟨bL _,fun p o=>?_⟩
     rw[bZ.1 o]
     have:(jbt (t.1++n.path)).size=(t.1++n.path).size / 2:=jdo _
     rw[bU]at this
     exact⟨by show (jbt _).size<=_;omega,by show n.value.size<=_;omega⟩
    ·exact⟨cE _,fun p e=>(cN e).elim⟩
  refine⟨by rw[bF];omega,by rw[bC,bF];omega,fun p e=>?_⟩
  rcases bT.1 e with e | e
  ·exact E.2 p e
  ·exact A p e
theorem LRow.rd{w0 w:vW}{v:vV}{n:Nat}{xs:List Pl}(h:LRow w0 w v n xs):RdP w v xs:=by
 have z:xs.length=n:=by have:=h.len;rw[jdH]at this;omega
 obtain⟨_,⟨rfl,O⟩ |⟨g,e,A,rfl,Q,E,H,X,Z⟩⟩:=h.own
 ·exact .inl ⟨none,0,rfl,bD vO⟩
 ·subst z
  refine .inr ⟨g,0,e,rfl,(dK.1 E).1,H,fun j x o=>?_⟩;have hj:=(bP.1 o).1
  obtain⟨J,K⟩:=jdG xs j x o
  exact⟨by rw[cG,h.own.cellAt (j * 2) vO,J],by rw[cG,h.own.cellAt (j * 2+1) vO,K]⟩
theorem jBK(W:vW)(s bm:Nat)(room:Int)(S:vT)(hs:jaS W s bm room S)(a b:vB)(h:(jdC S a && jdC S b)=false) :
  vR 18 #[.pointer (some ⟨s,0,none⟩),.string a,.string b] W (.tuple #[.slice none 0 0,.int .i64 4]):=by
 have z:([a,b].all (jdC S))=false:=by simpa using h
 have A:=Hd (fun(v:vV) (W1:vW) (e:Ext W W1) (hv:RdS W1 v [a,b])=>jiJ W1 s bm room S (hs.ext e) v [a,b] hv (show (2:Nat)<=1000 by decide));rw[z]at A;clear hs h z;go_enter Tryz.func18,Tryz.ntmps18;go_wp2_with fail
 refine vH (A.o _ _ ((ExtR W).alloc _) (jcm W [a,b] _)) fun E H=>?_;have J:=Hd (((ExtR W).alloc (.cells ([a,b].map Value.string).toArray 9)).trans H);go_wp2_with fail
 refine (jkI E).mono ?_;rintro e K ⟨rfl,rfl⟩;go_wp2_with fail
 go_ret2
 exact⟨rfl,J.o⟩
def OfP(W:vW)(l m:vL)(e:Ending)(w':vW):Prop:=∃ v,e=.returned (.tuple #[v,.int .i64 0])/\CRow W w' v (jcf l m).length (jcf l m)
theorem jAk(W:vW)(s bm:Nat)(room:Int)(S:vT)(hs:jaS W s bm room S)(a b:vB)(h:(jdC S a && jdC S b)=true)(ha:a.size<=100000)(hb:b.size<=100000){MA MB M1 M2:List Pl}{R1 R2 R3 R4:vL}
  (h1:jcA S [] 400 [(⟨#[]⟩,jan a)] MA R3) (h2:jcA S MA 400 [(⟨#[]⟩,jan b)] M2 R2) (h3:jcA S [] 400 [(⟨#[]⟩,jan b)] MB R4) (h4:jcA S MB 400 [(⟨#[]⟩,jan a)] M1 R1) :
  vQ 18 #[.pointer (some ⟨s,0,none⟩),.string a,.string b] W (OfP W R1 R2):=by
 have hk:([a,b].all (jdC S))=true:=by simpa using h
 have HC:=Hd (fun(v:vV) (W1:vW) (e:Ext W W1) (hv:RdS W1 v [a,b])=>jiJ W1 s bm room S (hs.ext e) v [a,b] hv (show (2:Nat)<=1000 by decide));rw[hk]at HC;have J:=jfT h1;have K:=jfT h2;have O:=jfT h3;have Q:=jfT h4;have HZ:=Hd (bB (bB J K) (bB O Q));have HA:=Hd (fun(W1:vW) (e:Ext W W1)=>jp3 W1 s bm room S (hs.ext e) a ha (.slice none 0 0) [] (.inl ⟨_,_,rfl,rfl⟩) (cE _) h1);have HB:=Hd (fun(W1:vW) (e:Ext W W1) (v:vV) (hv:RdP W1 v MA)=>jp3 W1 s bm room S (hs.ext e) b hb v MA hv (by have:=J.1;omega) h2);have a7:=Hd (fun(W1:vW) (e:Ext W W1)=>jp3 W1 s bm room S (hs.ext e) b hb (.slice none 0 0) [] (.inl ⟨_,_,rfl,rfl⟩) (cE _) h3);have a8:=Hd (fun(W1:vW) (e:Ext W W1) (v:vV) (hv:RdP W1 v MB)=>jp3 W1 s bm room S (hs.ext e) a ha v MB hv (by have:=O.1;omega) h4);clear hs h hk h1 h2 h3 h4 J K O Q;go_enter Tryz.func18,Tryz.ntmps18;go_wp2_with fail
 refine vH (HC.o _ _ ((ExtR W).alloc _) (jcm W [a,b] _)) fun W2 hE=>?_;have HE:=Hd (((ExtR W).alloc (.cells ([a,b].map Value.string).toArray 9)).trans hE);go_wp2_with fail
 refine (jhp W2).mono ?_;rintro e W3 ⟨rfl,rfl⟩;go_wp2_with fail
 refine (HA.o W2 HE.o).mono ?_;rintro e W4 ⟨u1,v1,rfl,E,a9⟩;have b0:=Hd E;have X:=Hd (HE.o.trans E.ext);clear E a9;go_wp2_with fail
 refine (HB.o W4 X.o u1 b0.o.rd).mono ?_;rintro e W5 ⟨u2,v2,rfl,Z,a2⟩;have b1:=Hd a2;have a3:=Hd (X.o.trans Z.ext);clear Z a2;go_wp2_with fail
 refine (a7.o W5 a3.o).mono ?_;rintro e W6 ⟨u3,v3,rfl,z,b2⟩;have b3:=Hd z;have a4:=Hd (a3.o.trans z.ext);have a0:=Hd (ORow.mono b1.o z.ext);clear z b2;go_wp2_with fail
 refine (a8.o W6 a4.o u3 b3.o.rd).mono ?_;rintro e W7 ⟨u4,v4,rfl,H,a5⟩;have b4:=Hd a5;have a6:=Hd (a4.o.trans H.ext);have a1:=Hd (ORow.mono a0.o H.ext);clear H a5;go_wp2_with fail
 obtain⟨⟨J,K⟩,O,Q⟩:=HZ.o
 refine (jsb W7 v4 v2 R1 R2 (ERow.rd b4.o) (ERow.rd a1.o) vO vO Q.2.2 K.2.2).mono ?_;rintro e W8 ⟨u,rfl,hC⟩;have A:=Hd hC;clear hC J K O Q;go_wp2_with fail
 go_ret2
 exact⟨_,rfl,A.o.sl,A.o.own,a6.o.trans A.o.ext,fun b hb=>bK a6.o.size (A.o.new b hb)⟩
theorem jwW(W:vW)(s bm:Nat)(room:Int)(S:vT)(hs:jaS W s bm room S){a b:vL}(ha:HasM S a)(hb:HasM S b){U:vM}(hU:InjL U)(h1:∀ x∈jax (jaF a),x∈U)(h2:∀ x∈jax (jaF b),x∈U) :
  vQ 18 #[.pointer (some ⟨s,0,none⟩),.string (rootM a),.string (rootM b)] W (OfP W a b):=by
 have o:∀ {l:vL},HasM S l->jdC S (rootM l)=true:=fun {l} h=>by
  obtain⟨y,e,_⟩:=h.has _ (jbX _)
  unfold jdC rootM;rw[show (shaB (jaF l).text).data.toList=ky (jaF l).text from rfl,e];rfl
 have z:∀ l,(rootM l).size<=100000:=fun l=>by unfold rootM;rw[jbk];omega
 have:=jAk W s bm room S hs (rootM a) (rootM b) (by rw[o ha,o hb];rfl) (z a) (z b) (jib (out:=[]) ha) (jib (out:=metT [] a) hb) (jib (out:=[]) hb) (jib (out:=metT [] b) ha)
 obtain⟨_,_,e⟩:=jvO W ha.ok hb.ok hU h1 h2
 refine this.mono fun A w' h=>?_;unfold OfP at h ⊢;rw[e]at h;exact h
end
