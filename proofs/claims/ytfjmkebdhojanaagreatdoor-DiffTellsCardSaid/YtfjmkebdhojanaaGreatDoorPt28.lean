/- Lemmas; each is under no condition but those that it states. -/
import Derived.Test.YtfjmkebdhojanaaGreatDoorPt27
namespace Go.Proofs.YtfjmkebdhojanaaGreatDoor
set_option linter.unusedSimpArgs false
set_option linter.unusedVariables false
set_option maxRecDepth 100000
set_option maxHeartbeats 16000000
open Go Go.RowKit
section
attribute [local go_sem] Oper.semAt_some
theorem UpdP.bad{w w':vW}{S:vT}{l:vL}{cs:List Chg}{x:Int}(h:jbk l cs=x)(h0:x≠0)(he:Ext w w'):UpdP w S l cs (.returned (.tuple #[.slice none 0 0,.int .i64 x])) w':=by
 unfold UpdP;rw[h,if_neg h0];exact⟨rfl,he⟩
theorem jAD(w:vW)(hc:jb0 w)(he:ErrT w)(s bm:Nat)(room:Int)(S:vT)(hs:jaT w s bm room S)(hN:jic S)(l:vL)(h:HasM S l)(u:vV)(cs:List Chg)(hu:RdC w u cs)(hnc:cs.length<=9223372036854775807)(hsc:∀ c∈cs,c.key.size<=9223372036854775807/\c.value.size<=9223372036854775807) :
  vQ 32 #[.pointer (some ⟨s,0,none⟩),.string (rootM l),u] w (UpdP w S l cs):=by
 have HR:=Hd (js3 w s bm room S hs hN l h);have HK:=Hd h.ok;have g3:=Hd (bB hc he);have l0:=Hd hs;have c5:=jaD h.ok;have g4:=Hd (show (l.length<=9223372036854775807)/\∀ p∈l,p.1.size<=9223372036854775807/\p.2.size<=9223372036854775807 from⟨by have:=c5.len;omega,fun p hp=>by have:=c5.size p hp;omega⟩);have f3:=Hd (fun(w2:vW) (v:vV) (hv:RdP w2 v l) (e:Ext w w2)=>jry w2 v u l cs hv (hu.ext e) g4.o.1 hnc g4.o.2 hsc)
 obtain⟨a,c,m4⟩:=hu.sl
 subst m4
 obtain⟨P,hP⟩:=vE (ja2 13 (jaP l))
 have HP:=Hd hP;have o4:=jeo P;have g5:=Hd (fun(w3:vW) (v:vV) (hv:RdP w3 v l) (e:Ext w w3)=>jys w3 v l (hc.ext e) hv h.ok);have l1:Hid (shaB (jaG l).text=rootM l):=rfl;rw[l1.o]at g5;clear hs hN h hP hc he c5 hu hsc l1
 obtain⟨rt,l2⟩:=vE (rootM l)
 rw[<-l2]at HR g5 ⊢;clear l2;go_enter Tryz.func32,Tryz.ntmps32;go_wp2_with fail
 refine HR.o.mono ?_;rintro e w1 ⟨T,x,rfl,hM⟩;have HM:=Hd hM;have c6:=hM.pa.at'.meth;rw[<-HP.o]at c6;have m5:∀ w,(Go.method (421+1) T x "guilloche/trie.entries").run Tryz.prog w=.ok (jgd P,x) w:=c6.ent;have HC:=Hd (jwP w1 w1 l HK.o T x _ hM.pa (ExtR w1));rw[<-HP.o]at HC;clear hM c6;go_wp2_with fail
 refine HC.o.mono ?_;rintro e w2 ⟨v,rfl,h1⟩;have H1:=Hd h1;have i2:=Hd (HM.o.ext.trans h1.ext);have d5:=Hd (bB (HM.o.pa.ext h1.ext) h1.ext.size);rw[<-HP.o]at d5;have HA:=Hd (f3.o w2 v h1.rd i2.o)
 obtain⟨a1,c1,hv⟩:=h1.sl
 subst hv;clear h1 m5 f3 HC;go_wp2_with fail
 refine HA.o.mono ?_;rintro e w3 e0;unfold jeY at e0
 by_cases h0:jbk l cs=0
 case neg =>
  rw[if_neg h0]at e0
  obtain⟨rfl,hE⟩:=e0
  have HX:=Hd (i2.o.trans hE)
  obtain⟨x0,i3⟩:=vE (jbk l cs)
  have m6:=Hd i3.symm;rw[<-i3]at h0 ⊢;clear hE i3;go_wp2_with fail
  go_ret2;exact UpdP.bad m6.o h0 HX.o
 rw[if_pos h0]at e0
 obtain⟨r,rfl,h3⟩:=e0
 have m7:=Hd h0;have g6:=jdN h0
 obtain⟨m,hm⟩:=vE (jc1 (je1 l cs))
 rw[<-hm]at h3 g6;have m8:=Hd hm;have b8:=Hd g6;have c5:=jaD g6;have f4:=Hd (show (m.length<=9223372036854775807)/\∀ p∈m,p.1.size<=9223372036854775807/\p.2.size<=9223372036854775807 from⟨by have:=c5.len;omega,fun p hp=>by have:=c5.size p hp;omega⟩);have l3:=Hd (i2.o.trans h3.ext);have f5:=Hd (bB (d5.o.1.ext h3.ext) (bJ d5.o.2 h3.ext.size));have HV:=Hd (bB (ERow.rd (H1.o.mono h3.ext)) h3.rd)
 obtain⟨a2,c2,hr⟩:=h3.sl
 subst hr;have l4:=Hd (g5.o w3 _ HV.o.1 l3.o);clear h3 c5 g6 hm h0 HA H1 g5;go_wp2_with fail
 refine l4.o.mono ?_;rintro e w4 ⟨rfl,hE⟩;have m9:=Hd (l3.o.trans hE);have d6:=Hd (bB (f5.o.1.ext hE) (bJ f5.o.2 hE.size));have l5:=Hd (jsa w4 _ _ l m (HV.o.1.ext hE) (HV.o.2.ext hE) g4.o.1 f4.o.1 g4.o.2 f4.o.2);clear hE l4;go_wp2_with fail
 refine l5.o.mono ?_;rintro e w5 ⟨dv,rfl,hd⟩;have HD:=Hd hd;have n0:=Hd (m9.o.trans hd.ext);have k3:=Hd (bB (d6.o.1.ext hd.ext) (bJ d6.o.2 hd.ext.size));have i4:=jqv HK.o b8.o;have n1:=jjM (jaD HK.o).len (jaD b8.o).len
 obtain⟨ds,i5⟩:=vE (jcs l m)
 rw[<-i5]at HD i4 n1;have i6:=Hd i4
 obtain⟨a3,c3,l6⟩:=hd.sl
 rw[<-i5]at l6;subst l6;clear hd i4 i5 l5;have f6:=Hd (jAa HK.o);rw[<-HP.o]at f6;have k4:=Hd HD.o.rdT;go_wp2_with fail
 go_loopw [8,56] (fun pv iv wr=>jzl w5 (jlC w w1) P ds pv iv wr) (fun _ iv _=>ds.length - (intOf iv).toNat)
 case atStart=>exact⟨0,T,x,jlC w w1,by omega,rfl,rfl,k3.o.1,fun z hz=>.inl hz,(ExtR w5).mono (fun _ _ e=>e.elim)⟩
 case round =>
  obtain⟨k,Tk,xk,D,hk,rfl,rfl,c8,hD,c9⟩:=hrel
  by_cases hlt:k < ds.length
  ·rcases k4.o with⟨_,_,_,hz⟩ |⟨b,o,cd,hh,hb,hcd,hcell⟩
   ·rw[hz]at hlt;cases hlt
   cases hh
   obtain⟨p,hp⟩:∃ p,ds[k]?=some p:=⟨_,bA hlt⟩
   obtain⟨q1,q2,q3⟩:=hcell k p hp
   have g7:¬ jlC w w1 b:=fun e=>by have h1:=HD.o.new b rfl;have h2:=d6.o.2;have h3:=e.2;omega
   have q1:=jam q1 c9 g7;have q2:=jam q2 c9 g7;have q3:=jam q3 c9 g7;have O:p.bad=false:=by
    cases e:p.bad with
    | false=>rfl
    | true=>exact absurd (jwB hp e) (by rw[i6.o.fine];simp)
   have i7:=jpb O;have b1:(k:Int) < (ds.length:Int):=vO
   have b3:=jvj f6.o ds i6.o.fine k;have a9:(ds.take (k+1)).foldl jcp P=jcp ((ds.take k).foldl jcp P) p:=by rw[jov hp,dU];rfl
   obtain⟨Q,hQ⟩:=vE ((ds.take k).foldl jcp P)
   rw[<-hQ]at c8 b3 a9;have d9:=Hd (bB b3 (b3.step O));have c4:=Hd a9;have c6:=c8.at'.meth;have K:=Hd (bB c8 (bB hD c9))
   obtain⟨ky,vl,gn⟩:=p
   simp only at q1 q2 q3 i7;clear hcell hp hb hcd g7 O b3 a9 c8 hD c9 hQ;have o5:=jfG Q;have o6:=jiz Q;have o7:∀ w,(Go.method (421+1) Tk xk "guilloche/trie.drop").run Tryz.prog w=.ok (jfo Q,xk) w:=c6.drop;have o8:∀ w,(Go.method (421+1) Tk xk "guilloche/trie.put").run Tryz.prog w=.ok (jkX Q,xk) w:=c6.put;clear c6;go_wp2_with fail
   have o9:=Hd i7;clear q1 q2 q3;refine vC (jpC _ ky vO) fun w6 d0=>?_;have i8:=(Blk.new wr (.cells #[.string ky,.string vl,.bool gn] 44)).keeps d0 (fun e=>e);have f7:=((ExtR wr).alloc (.cells #[.string ky,.string vl,.bool gn] 44)).trans d0;have q1:w6.cell? ⟨wr.heap.size,1,none⟩=some (.string vl):=i8.cell (i:=1) vF;have q2:w6.cell? ⟨wr.heap.size,2,none⟩=some (.bool gn):=i8.cell (i:=2) vF;have b9:=Hd f7;have l7:(jbv ky).size<=900000:=by have:=jgL ky;omega
   have l8:=Hd l7;clear d0 i8 f7 i7 l7;cases gn with
   | true =>
    have X:=Hd (jh4 Q d9.o.1.va w6 Tk xk D (jbv ky) (K.o.1.ext b9.o) l8.o (jex ky) d9.o.1.dp9)
    obtain⟨pb,O⟩:=vE (jbv ky)
    have e2:=Hd O;rw[<-O]at X ⊢;clear O;go_wp2_with fail
    refine X.o.mono ?_;rintro e J ⟨v7,rfl,d1,d2⟩;have a4:(ds.take (k+1)).foldl jcp P=jbT Q pb:=by rw[c4.o,e2.o];rfl
    have d3:=d9.o.2.there;rw[show jcp Q ⟨ky,vl,true⟩=jbT Q pb by rw[e2.o];rfl]at d3
    obtain⟨T7,x7,rfl⟩:=d1.form d3
    have HF:=Hd (show PaO ((ds.take (k+1)).foldl jcp P) (.iface T7 x7) (Grow D w6 J) J from by rw[a4];exact PaTo.own d1 d2 (K.o.1.ext b9.o).lt);have i9:=Hd d2;clear d1 d2 a4 d3;go_wp2_with fail
    go_roundw
    case rel=>exact⟨k+1,T7,x7,_,by omega,by go_num,rfl,HF.o,fun z hz=>by
     rcases hz with hz | hz
     ·exact K.o.2.1 z hz
     ·exact .inr (bJ K.o.2.2.size (bJ b9.o.size hz.1)),K.o.2.2.trans' ((b9.o.mono (fun _ _ e=>e.elim)).trans i9.o) (fun z hz e=>(K.o.2.1 z e).resolve_right vO)⟩
    case measure=>exact vJ
   | false =>
    have X:=Hd (jof Q d9.o.1.va w6 Tk xk D (jbv ky) vl (K.o.1.ext b9.o) l8.o (jex ky) d9.o.1.dp9)
    obtain⟨pb,O⟩:=vE (jbv ky)
    have e2:=Hd O;rw[<-O]at X ⊢;clear O;go_wp2_with fail
    refine X.o.mono ?_;rintro e J ⟨v7,rfl,d1,d2⟩;have a4:(ds.take (k+1)).foldl jcp P=putP Q pb vl:=by rw[c4.o,e2.o];rfl
    have d3:=d9.o.2.there;rw[show jcp Q ⟨ky,vl,false⟩=putP Q pb vl by rw[e2.o];rfl]at d3
    obtain⟨T7,x7,rfl⟩:=d1.form d3
    have HF:=Hd (show PaO ((ds.take (k+1)).foldl jcp P) (.iface T7 x7) (Grow D w6 J) J from by rw[a4];exact PaTo.own d1 d2 (K.o.1.ext b9.o).lt);have i9:=Hd d2;clear d1 d2 a4 d3;go_wp2_with fail
    go_roundw
    case rel=>exact⟨k+1,T7,x7,_,by omega,by go_num,rfl,HF.o,fun z hz=>by
     rcases hz with hz | hz
     ·exact K.o.2.1 z hz
     ·exact .inr (bJ K.o.2.2.size (bJ b9.o.size hz.1)),K.o.2.2.trans' ((b9.o.mono (fun _ _ e=>e.elim)).trans i9.o) (fun z hz e=>(K.o.2.1 z e).resolve_right vO)⟩
    case measure=>exact vJ
  ·obtain rfl:k=ds.length:=vO
   rw[cL,HP.o,jvi HK.o b8.o i6.o]at c8;have j0:Hid (Ext w wr):=(n0.o.trans' c9 (fun z hz e=>by have:=e.1;omega))
   obtain⟨W6,g8⟩:=vE (wr.alloc (.cells #[.slice none 0 0] 131))
   have d0:Ext wr W6:=by rw[g8];exact (ExtR wr).alloc _
   have j1:WrAt wr.heap.size wr.heap.size (.slice none 0 0) [] W6:=⟨bL _,by rw[g8];exact Blk.new wr _,fV _ _ _ _,fun b hb=>(by cases hb),fun _=>rfl⟩;have k5:cntP (ja2 13 (jaP m))=cntT 12 (jaP m):=jkA 12 _ (jbD (jaD b8.o));have b4:=jts 12 (jaP m) (jbD (jaD b8.o)) wr W6 Tk xk D wr.heap.size (.slice none 0 0) [] (g3.o.1.ext j0.o) (g3.o.2.ext j0.o) c8 d0 j1 (by have:=jkz (jaD b8.o);have:([]:vM).length=0:=rfl;show 0+cntP (ja2 13 (jaP m))<=100000;omega);rw[cT,show textP (ja2 (12+1) (jaP m))=(jaG m).text from jyE b8.o,show underP (ja2 (12+1) (jaP m))=belowM m from rfl]at b4;have g9:=Hd (jlN b8.o);have f8:=Hd (show newM S (jbh l cs)=(jaG m).text :: freshU S (belowM m)from by unfold newM jbh;rw[<-m8.o])
   obtain⟨t,ht⟩:=vE (jaG m).text
   obtain⟨U,hU⟩:=vE (belowM m)
   rw[<-ht, <-hU]at f8;rw[<-hU]at g9;rw[<-ht, <-hU]at b4;have k6:=Hd b4;have j2:=Hd (bB j1 (bB d0 g8));clear c8 hD c9 d0 j1 k5 b4 ht hU g8;go_wp2_with fail
   rw[<-j2.o.2.2];refine k6.o.mono ?_;rintro e J ⟨rfl,v7,h4⟩;have b2:=Hd (bB h4.at' (bB (j0.o.trans (h4.ext0 j2.o.1 j2.o.2.1 (bL _))) h4.at'.var.lt))
   obtain⟨g,hg⟩:=vE wr.heap.size
   rw[<-hg]at b2 ⊢;clear h4 hg
   obtain⟨a7,c7,l9⟩:=jaU b2.o.1.row
   obtain⟨n7,j3⟩:∃ n,n=U.length:=⟨_,rfl⟩
   have b0:=Hd b2.o.1.row;rw[<-j3]at l9 b0;subst l9;have j4:=Hd j3;have q7:=b2.o.1.var.cell (i:=0) (v:=.slice a7 n7 c7) vF;clear j3;have n2:(Instr.makeMap 60 none).run Tryz.prog (J.alloc (.cells #[.string t] 9))=.ok (.map (some (J.heap.size+1))) ((J.alloc (.cells #[.string t] 9)).alloc (.map #[] 0)):=by
    rw[<-bT J (.cells #[.string t] 9)];exact Tryz.makeMapSI _
   obtain⟨W8,e4⟩:=vE ((J.alloc (.cells #[.string t] 9)).alloc (.map #[] 0))
   obtain⟨mb,j5⟩:=vE (J.heap.size+1)
   rw[<-e4, <-j5]at n2;have m0:Ext J W8:=by rw[e4];exact ((ExtR J).alloc _).alloc _
   have m1:Blk W8 mb (.map (Tryz.ES.arr []) 0):=by
    rw[e4,j5, <-bT J (.cells #[.string t] 9)];exact Blk.new _ _
   have h7:SRow J (J.alloc (.cells #[.string t] 9)) (.slice (some ⟨J.heap.size,0,none⟩) 1 1) 1 [t]:=ORow.lit (n:=1) #[.string t] (ExtR J) vI rfl;have h7:SRow J W8 (.slice (some ⟨J.heap.size,0,none⟩) 1 1) 1 [t]:=by rw[e4];exact h7.mono ((ExtR _).alloc _)
   have n3:=Hd (show UpB J S mb t U 0 (.slice (some ⟨J.heap.size,0,none⟩) 1 1) W8 from⟨⟨1,h7⟩,fun e=>by injection e with e;have e:J.heap.size=mb:=e;omega,[],0,m1,fun y=>rfl⟩);have q7:=jaa q7 m0;have n4:=Hd (show J.heap.size<=mb by omega);clear e4 j5 m0 m1 h7;go_wp2_with fail
   go_loopw [19,86] (fun rv iv wr=>jzm J S mb t U rv iv wr) (fun _ iv _=>U.length - (intOf iv).toNat)
   case atStart=>exact⟨0,by omega,rfl,n3.o⟩
   case round =>
    obtain⟨k,hk,rfl,m2⟩:=hrel
    by_cases hlt:k < U.length
    ·rcases Nat.eq_zero_or_pos n7 with h0 | h0
     ·have:=j4.o;omega
     obtain⟨b7,rfl⟩:=joa b0.o vO
     obtain⟨x,hx⟩:∃ x,U[k]?=some x:=⟨_,bA hlt⟩
     obtain⟨⟨n,A⟩,d7,es,ck,h5,h6⟩:=m2
     obtain⟨ar,cr,j6⟩:=A.sl
     subst j6;have HX:=Hd A.ext;have qx:=jaa (jev b0.o (j:=k) (u:=.string x) (by rw[bX,hx];rfl)) A.ext
     obtain⟨cn,e5⟩:=vE (cntB (U.take k) x)
     have p0:cn<=1000000:=by
      rw[e5];unfold cntB;refine bJ jG ?_;rw[cC,cI];have:=g9.o;omega
     have e6:=h6 x;rw[<-e5]at e6;have j7:(Instr.lookup 60 (.map (some mb)) (.string x) false).run Tryz.prog wr=.ok (.int .i64 (cn:Int)) wr:=by
      have:=jcx Tryz.ES Tryz.uMapSI h5 (Tryz.zeroI wr) x.data.toList false
      rw[e6]at this;unfold cntV at this
      by_cases h0:cn=0
      ·rw[if_pos h0]at this;rw[h0];exact this
      ·rw[if_neg h0]at this;exact this
     obtain⟨a5,b5⟩:∃ es2,es2=jbt es x.data.toList (.int .i64 ((cn:Int)+1)) ck:=⟨_,rfl⟩
     obtain⟨b6,f9⟩:∃ ck2,ck2=(if (jaX es x.data.toList).isSome then ck else ck+1):=⟨_,rfl⟩
     obtain⟨W2,h8⟩:=vE (wr.putObj mb (.map (Tryz.ES.arr a5) b6))
     have j8:(Instr.mapUpdate 60 (.map (some mb)) (.string x) (.int .i64 ((cn:Int)+1))).run Tryz.prog wr=.ok () W2:=by
      have:=jb4 Tryz.ES Tryz.uMapSI h5 x.data.toList (.int .i64 ((cn:Int)+1))
      rw[<-b5, <-f9, <-h8]at this;exact this
     have B2:Blk W2 mb (.map (Tryz.ES.arr a5) b6):=by rw[h8];exact h5.put_same _
     have e7:∀ y:vB,jaX a5 y.data.toList=cntV (cntB (U.take (k+1)) y):=fun y=>by
      rw[b5,jc3,h6 y,jov hx,jqq]
      by_cases hxy:y.data.toList=x.data.toList
      ·have n5:y=x:=ByteArray.ext (Array.ext' hxy)
       subst n5;rw[if_pos rfl,if_pos rfl, <-e5];unfold cntV;rw[if_neg vO];simp
      ·rw[if_neg hxy,if_neg (fun e=>hxy e.symm)];rfl
     have g0:∀ W3,Ext W2 W3->(Instr.lookup 60 (.map (some mb)) (.string x) false).run Tryz.prog W3=.ok (.int .i64 ((cn:Int)+1)) W3:=fun W3 e3=>by
      have:=jcx Tryz.ES Tryz.uMapSI (B2.keeps e3 (fun e=>e)) (Tryz.zeroI W3) x.data.toList false
      rw[b5,jc3,if_pos rfl]at this;exact this
     have K2:jae (fun z=>z=mb) wr W2:=by rw[h8];exact jae.onePut _ _ _
     have O2:SRow J W2 (.slice ar n cr) n (t :: freshU S (U.take k)):=A.keeps K2 (fun b hb e=>d7 (by rw[hb];exact congrArg some e)) (fun b hb e=>by have e:b=mb:=e;have:=n4.o;omega);have g1:=Hd (show n<=119 by
      have h1:=A.len;rw[cC,bF]at h1;have h2:=jmc S (U.take k);rw[cI]at h2
      have:=g9.o;omega)
     have g2:=Hd (show memB (ja9 (U.take k)) x=true↔cn≠0 from by
      rw[jd6,jaV,e5];unfold cntB;rw[<-Nat.pos_iff_ne_zero,gZ,bK]
      exact⟨fun hm=>⟨x,hm,rfl⟩,fun ⟨y,hy,e⟩=>by rw[<-show y=x from ByteArray.ext (Array.ext' e)];exact hy⟩)
     have h9:=Hd (jqC S (U.take k) x);rw[<-jov hx]at h9;have d8:=Hd (show ∀ W3,Ext W2 W3->∃ es ck,Blk W3 mb (.map (Tryz.ES.arr es) ck)/\∀ y:vB,jaX es y.data.toList=cntV (cntB (U.take (k+1)) y)from fun W3 e3=>⟨a5,b6,B2.keeps e3 (fun e=>e),e7⟩);have j9:=Hd (bB B2 e7);have k0:=Hd g0;have c0:=Hd O2;have a6:=Hd d7;have b1:(k:Int) < (n7:Int):=by have:=j4.o;omega
     have i0:=Hd (bB hk hlt);have p1:=g9.o;clear A d7 h5 h6 hx e5 e6 b5 f9 h8 B2 e7 g0 K2 O2 h0
     by_cases hc0:cn=0
     ·subst hc0
      have i1:=Hd (show memB (ja9 (U.take k)) x=false by
       cases hm:memB (ja9 (U.take k)) x with
       | false=>rfl
       | true=>exact absurd rfl (g2.o.1 hm))
      have o2:(Instr.lookup 60 (.map (some mb)) (.string x) false).run Tryz.prog wr=.ok (.int .i64 0) wr:=j7;have o3:(Instr.mapUpdate 60 (.map (some mb)) (.string x) (.int .i64 1)).run Tryz.prog wr=.ok () W2:=j8;have k7:Hid (∀ W3,Ext W2 W3->(Instr.lookup 60 (.map (some mb)) (.string x) false).run Tryz.prog W3=.ok (.int .i64 1) W3):=k0.o;clear j7 j8 k0;go_wp2_with fail
      refine vC (of_t _ _ [x] (by simp) (jb2 W2 [x] 9) (g3.o.1.ext (b2.o.2.1.trans (c0.o.ext.alloc _)))) fun w8 Z=>?_;rw[jdx];have Z:=((ExtR W2).alloc (.cells #[.string x] 9)).trans Z;have e8:=Hd Z;have E:=Hd (jjc w8 s bm room S (shaB x) (l0.o.ext (b2.o.2.1.trans (c0.o.ext.trans Z))));have k1:Hid (lackB S x=(atL S (shaB x).data.toList).isNone):=rfl
      obtain⟨ag,e9⟩:=vE (atL S (shaB x).data.toList)
      rw[<-e9]at E k1
      obtain⟨sx,f0⟩:=vE (shaB x)
      rw[<-f0]at E ⊢;clear Z e9 f0 qx;cases ag with
      | some y =>
       obtain⟨ty,f1⟩:=vE y.2.2.text
       have d4:=Hd (show vQ 45 #[.pointer (some ⟨s,0,none⟩),.string sx] w8 (fun e w'=>e=.returned (.tuple #[.string y.2.2.text,.bool true])/\Ext w8 w')from E.o);go_wp2_with fail
       refine d4.o.mono ?_;rintro e w9 ⟨rfl,a0⟩;have H:=Hd (e8.o.trans a0);clear a0;rw[<-f1];clear f1;have f2:freshU S (U.take (k+1))=freshU S (U.take k):=by rw[h9.o];rw[if_neg (by rw[i1.o];simp),if_neg (by rw[k1.o];simp),bZ]
       have HF:=Hd f2;clear f2;go_wp2_with fail
       go_roundw
       case rel=>exact⟨k+1,by have:=i0.o;omega,by go_num,⟨n,by rw[HF.o];exact c0.o.mono H.o⟩,a6.o,d8.o w9 H.o⟩
       case measure=>exact vJ
      | none =>
       have d4:=Hd (show vQ 45 #[.pointer (some ⟨s,0,none⟩),.string sx] w8 (fun e w'=>e=.returned (.tuple #[.string ⟨#[]⟩,.bool false])/\Ext w8 w')from E.o);go_wp2_with fail
       refine d4.o.mono ?_;rintro e w9 ⟨rfl,a0⟩;have H:=Hd (e8.o.trans a0);clear a0;have k8:=k7.o w9 H.o;have n6:n+1<=maxLen:=by have:=g1.o;unfold maxLen;omega
       have n8:(n+1) * 16<=140737488355328:=by have:=g1.o;omega
       go_wp2_with (at_builtin;refine jaO Tryz.sStrs ((c0.o.mono H.o).mono ((ExtR w9).alloc _)) (.tmp 110) (.tmp 112) rfl rfl rfl (jaJ (Blk.new w9 _)) (news:=[.string x]) (by intro u hu;simp at hu;rcases hu with rfl;rfl) rfl rfl n6 n8 ?_;intro v' w' r1 r2 r3)
       have k2:SRow J w' v' (n+1) (t :: freshU S (U.take (k+1))):=by
        have e1:freshU S (U.take (k+1))=freshU S (U.take k)++[x]:=by rw[h9.o,if_neg (by rw[i1.o];simp),if_pos (by rw[k1.o];rfl)]
        unfold SRow;rw[e1, <-dA,cB];exact r1
       obtain⟨n9,o0,rfl⟩:=k2.sl
       have k9:=(j9.o.1.keeps H.o (fun e=>e)).lt;have m3:=Hd (bB k2 (show (Value.slice n9 (n+1) o0).ownBlock≠some mb from fun e=>by
        rcases r3 with r3 | r3
        ·exact a6.o (r3 ▸ e)
        ·have:=r3 mb e;rw[bT]at this;omega))
       have o1:=Hd (((j9.o.1.keeps H.o (fun e=>e)).alloc (.cells #[.string x] 9)).keeps r2 (fun e=>a6.o e));clear r1 r2 r3 k2 k9;go_wp2_with fail
       go_roundw
       case rel=>exact⟨k+1,by have:=i0.o;omega,by go_num,⟨n+1,m3.o.1⟩,m3.o.2,a5,b6,o1.o,j9.o.2⟩
       case measure=>exact vJ
     ·have p2:¬((cn:Int)+1=1):=vO
      have p3:(((cn:Int)+1) == 1)=false:=by simp;omega
      have i1:=Hd (g2.o.2 hc0);go_wp2_with fail
      refine vC (of_t _ _ [x] (by simp) (jb2 W2 [x] 9) (g3.o.1.ext (b2.o.2.1.trans (c0.o.ext.alloc _)))) fun w8 Z=>?_;rw[jdx];have Z:=((ExtR W2).alloc (.cells #[.string x] 9)).trans Z;have e8:=Hd Z;have E:=Hd (jjc w8 s bm room S (shaB x) (l0.o.ext (b2.o.2.1.trans (c0.o.ext.trans Z))))
      obtain⟨ag,e9⟩:=vE (atL S (shaB x).data.toList)
      rw[<-e9]at E
      obtain⟨sx,f0⟩:=vE (shaB x)
      rw[<-f0]at E ⊢;clear Z e9 f0 qx j7 j8;have f2:freshU S (U.take (k+1))=freshU S (U.take k):=by rw[h9.o,if_pos i1.o,bZ]
      have HF:=Hd f2;clear f2;cases ag with
      | some y =>
       obtain⟨ty,f1⟩:=vE y.2.2.text
       have d4:=Hd (show vQ 45 #[.pointer (some ⟨s,0,none⟩),.string sx] w8 (fun e w'=>e=.returned (.tuple #[.string y.2.2.text,.bool true])/\Ext w8 w')from E.o);go_wp2_with fail
       refine d4.o.mono ?_;rintro e w9 ⟨rfl,a0⟩;have H:=Hd (e8.o.trans a0);clear a0;rw[<-f1];clear f1;go_wp2_with fail
       go_roundw
       case rel=>exact⟨k+1,by have:=i0.o;omega,by go_num,⟨n,by rw[HF.o];exact c0.o.mono H.o⟩,a6.o,d8.o w9 H.o⟩
       case measure=>exact vJ
      | none =>
       have d4:=Hd (show vQ 45 #[.pointer (some ⟨s,0,none⟩),.string sx] w8 (fun e w'=>e=.returned (.tuple #[.string ⟨#[]⟩,.bool false])/\Ext w8 w')from E.o);go_wp2_with fail
       refine d4.o.mono ?_;rintro e w9 ⟨rfl,a0⟩;have H:=Hd (e8.o.trans a0);clear a0;have k8:=k0.o w9 H.o;go_wp2_with fail
       go_roundw
       case rel=>exact⟨k+1,by have:=i0.o;omega,by go_num,⟨n,by rw[HF.o];exact c0.o.mono H.o⟩,a6.o,d8.o w9 H.o⟩
       case measure=>exact vJ
    ·obtain rfl:k=U.length:=vO
     obtain⟨⟨n,A⟩, -, -⟩:=m2
     obtain⟨ar,cr,j6⟩:=A.sl
     subst j6;rw[cL]at A;have a8:=Hd A;have p4:¬((U.length:Int) < (n7:Int)):=by have:=j4.o;omega
     clear A;go_wp2_with fail
     go_ret2;unfold UpdP;rw[if_pos m7.o,f8.o];have hn:(t :: freshU S U).length=n:=by have:=a8.o.len;simpa using this
     rw[hn]
     exact⟨_,rfl,a8.o.sl,a8.o.own,b2.o.2.1.trans a8.o.ext,fun b hb=>bJ b2.o.2.1.size (a8.o.new b hb)⟩
theorem jfU{S:vT}{out:List Pl}{k:Nat}{ts M:List Pl}{R:vL}(h:jcD S out k ts M R):M.length<=k/\R.length<=M.length/\∀ p∈R,p.1.size<=9223372036854775807/\p.2.size<=9223372036854775807:=by
 induction h with
 | nil=>exact⟨cD _,bL _,fun p e=>(cM e).elim⟩
 | full=>exact⟨cD _,bL _,fun p e=>(cM e).elim⟩
 | skip _ _ _ _ _ _ _ ih=>exact ih
 | no _ _ _ _ _ _ _ _ ih=>exact ih
 | go k t ts n M R h1 h2 h3 h4 ih =>
  obtain⟨J,K,E⟩:=ih
  obtain⟨d,A⟩:=h3.good
  have e:=(A.one (inlP d)).path;have O:=(A.one (inlP d)).value;have H:(entN n t.1).length<=1/\∀ p∈entN n t.1,p.1.size<=9223372036854775807/\p.2.size<=9223372036854775807:=by
   unfold entN keyR;split
   ·exact⟨cD _,fun p e=>(cM e).elim⟩
   ·split
    ·refine⟨bL _,fun p o=>?_⟩
     rw[bY.1 o]
     have:(jbu (t.1++n.path)).size=(t.1++n.path).size / 2:=jdo _
     rw[bV]at this
     exact⟨by show (jbu _).size<=_;omega,by show n.value.size<=_;omega⟩
    ·exact⟨cD _,fun p e=>(cM e).elim⟩
  refine⟨by rw[bF];omega,by rw[bC,bF];omega,fun p e=>?_⟩
  rcases bU.1 e with e | e
  ·exact H.2 p e
  ·exact E p e
theorem LRow.rd{w0 w:vW}{v:vV}{n:Nat}{xs:List Pl}(h:LRow w0 w v n xs):RdP w v xs:=by
 have A:xs.length=n:=by have:=h.len;rw[jdF]at this;omega
 obtain⟨_,⟨rfl,Q⟩ |⟨g,e,E,rfl,X,H,J,Z,h7⟩⟩:=h.own
 ·exact .inl ⟨none,0,rfl,bE vO⟩
 ·subst A
  refine .inr ⟨g,0,e,rfl,(dJ.1 H).1,J,fun j x o=>?_⟩;have hj:=(bP.1 o).1
  obtain⟨K,O⟩:=jdE xs j x o
  exact⟨by rw[cH,h.own.cellAt (j * 2) vO,K],by rw[cH,h.own.cellAt (j * 2+1) vO,O]⟩
theorem jBz(W:vW)(s bm:Nat)(room:Int)(S:vT)(hs:jaT W s bm room S)(a b:vB)(h:(jdB S a && jdB S b)=false) :
  vR 6 #[.pointer (some ⟨s,0,none⟩),.string a,.string b] W (.tuple #[.slice none 0 0,.int .i64 4]):=by
 have A:([a,b].all (jdB S))=false:=by simpa using h
 have E:=Hd (fun(v:vV) (W1:vW) (e:Ext W W1) (hv:RdS W1 v [a,b])=>jiJ W1 s bm room S (hs.ext e) v [a,b] hv (show (2:Nat)<=1000 by decide));rw[A]at E;clear hs h A;go_enter Tryz.func6,Tryz.ntmps6;go_wp2_with fail
 refine vH (E.o _ _ ((ExtR W).alloc _) (jb2 W [a,b] _)) fun H J=>?_;have K:=Hd (((ExtR W).alloc (.cells ([a,b].map Value.string).toArray 9)).trans J);go_wp2_with fail
 refine (jkO H).mono ?_;rintro e O ⟨rfl,rfl⟩;go_wp2_with fail
 go_ret2
 exact⟨rfl,K.o⟩
def OfP(W:vW)(l m:vL)(e:Ending)(w':vW):Prop:=∃ v,e=.returned (.tuple #[v,.int .i64 0])/\CRow W w' v (jcs l m).length (jcs l m)
theorem jz8(W:vW)(s bm:Nat)(room:Int)(S:vT)(hs:jaT W s bm room S)(a b:vB)(h:(jdB S a && jdB S b)=true)(ha:a.size<=100000)(hb:b.size<=100000){MA MB M1 M2:List Pl}{R1 R2 R3 R4:vL}
  (h1:jcD S [] 400 [(⟨#[]⟩,jao a)] MA R3) (h2:jcD S MA 400 [(⟨#[]⟩,jao b)] M2 R2) (h3:jcD S [] 400 [(⟨#[]⟩,jao b)] MB R4) (h4:jcD S MB 400 [(⟨#[]⟩,jao a)] M1 R1) :
  vQ 6 #[.pointer (some ⟨s,0,none⟩),.string a,.string b] W (OfP W R1 R2):=by
 have hk:([a,b].all (jdB S))=true:=by simpa using h
 have HC:=Hd (fun(v:vV) (W1:vW) (e:Ext W W1) (hv:RdS W1 v [a,b])=>jiJ W1 s bm room S (hs.ext e) v [a,b] hv (show (2:Nat)<=1000 by decide));rw[hk]at HC;have K:=jfU h1;have O:=jfU h2;have Q:=jfU h3;have X:=jfU h4;have HZ:=Hd (bB (bB K O) (bB Q X));have HA:=Hd (fun(W1:vW) (e:Ext W W1)=>jp7 W1 s bm room S (hs.ext e) a ha (.slice none 0 0) [] (.inl ⟨_,_,rfl,rfl⟩) (cD _) h1);have HB:=Hd (fun(W1:vW) (e:Ext W W1) (v:vV) (hv:RdP W1 v MA)=>jp7 W1 s bm room S (hs.ext e) b hb v MA hv (by have:=K.1;omega) h2);have a8:=Hd (fun(W1:vW) (e:Ext W W1)=>jp7 W1 s bm room S (hs.ext e) b hb (.slice none 0 0) [] (.inl ⟨_,_,rfl,rfl⟩) (cD _) h3);have a9:=Hd (fun(W1:vW) (e:Ext W W1) (v:vV) (hv:RdP W1 v MB)=>jp7 W1 s bm room S (hs.ext e) a ha v MB hv (by have:=Q.1;omega) h4);clear hs h hk h1 h2 h3 h4 K O Q X;go_enter Tryz.func6,Tryz.ntmps6;go_wp2_with fail
 refine vH (HC.o _ _ ((ExtR W).alloc _) (jb2 W [a,b] _)) fun W2 hE=>?_;have HE:=Hd (((ExtR W).alloc (.cells ([a,b].map Value.string).toArray 9)).trans hE);go_wp2_with fail
 refine (jhk W2).mono ?_;rintro e W3 ⟨rfl,rfl⟩;go_wp2_with fail
 refine (HA.o W2 HE.o).mono ?_;rintro e W4 ⟨u1,v1,rfl,H,b0⟩;have b1:=Hd H;have Z:=Hd (HE.o.trans H.ext);clear H b0;go_wp2_with fail
 refine (HB.o W4 Z.o u1 b1.o.rd).mono ?_;rintro e W5 ⟨u2,v2,rfl,a2,a3⟩;have b2:=Hd a3;have a4:=Hd (Z.o.trans a2.ext);clear a2 a3;go_wp2_with fail
 refine (a8.o W5 a4.o).mono ?_;rintro e W6 ⟨u3,v3,rfl,A,b3⟩;have b4:=Hd A;have a5:=Hd (a4.o.trans A.ext);have a0:=Hd (ORow.mono b2.o A.ext);clear A b3;go_wp2_with fail
 refine (a9.o W6 a5.o u3 b4.o.rd).mono ?_;rintro e W7 ⟨u4,v4,rfl,J,a6⟩;have b5:=Hd a6;have a7:=Hd (a5.o.trans J.ext);have a1:=Hd (ORow.mono a0.o J.ext);clear J a6;go_wp2_with fail
 obtain⟨⟨K,O⟩,Q,X⟩:=HZ.o
 refine (jsa W7 v4 v2 R1 R2 (ERow.rd b5.o) (ERow.rd a1.o) vO vO X.2.2 O.2.2).mono ?_;rintro e W8 ⟨u,rfl,hC⟩;have E:=Hd hC;clear hC K O Q X;go_wp2_with fail
 go_ret2
 exact⟨_,rfl,E.o.sl,E.o.own,a7.o.trans E.o.ext,fun b hb=>bJ a7.o.size (E.o.new b hb)⟩
theorem jth(W:vW)(s bm:Nat)(room:Int)(S:vT)(hs:jaT W s bm room S){a b:vL}(ha:HasM S a)(hb:HasM S b){U:vM}(hU:InjL U)(h1:∀ x∈jav (jaG a),x∈U)(h2:∀ x∈jav (jaG b),x∈U) :
  vQ 6 #[.pointer (some ⟨s,0,none⟩),.string (rootM a),.string (rootM b)] W (OfP W a b):=by
 have o:∀ {l:vL},HasM S l->jdB S (rootM l)=true:=fun {l} h=>by
  obtain⟨y,e,_⟩:=h.has _ (jbW _)
  unfold jdB rootM;rw[show (shaB (jaG l).text).data.toList=ky (jaG l).text from rfl,e];rfl
 have A:∀ l,(rootM l).size<=100000:=fun l=>by unfold rootM;rw[jbd];omega
 have:=jz8 W s bm room S hs (rootM a) (rootM b) (by rw[o ha,o hb];rfl) (A a) (A b) (jh8 (out:=[]) ha) (jh8 (out:=metT [] a) hb) (jh8 (out:=[]) hb) (jh8 (out:=metT [] b) ha)
 obtain⟨_,_,e⟩:=jvK W ha.ok hb.ok hU h1 h2
 refine this.mono fun E w' h=>?_;unfold OfP at h ⊢;rw[e]at h;exact h
theorem jdc(x:UInt32)(s n:Nat)(hs:s+n=32)(hn:0 < n)(hn2:n < 32):bits .or .u32 ((x.toNat:Int) / (2:Int) ^ n) ((x.toNat:Int) * (2:Int) ^ s % (4294967296:Int))=((rotW x (UInt32.ofNat n)).toNat:Int):=by
 have e:(x.toNat:Int) * (2:Int) ^ s % (4294967296:Int)=((x <<< (32 - UInt32.ofNat n)).toNat:Int):=by
  rw[UInt32.toNat_shiftLeft];have o:(32 - UInt32.ofNat n).toNat=s:=by
   rw[UInt32.toNat_sub_of_le]
   ·rw[gJ];show 32 - n % 2 ^ 32=s;omega
   ·rw[UInt32.le_iff_toNat_le,gJ];show n % 2 ^ 32<=32;omega
  rw[o,fT (show s < 32 by omega),Nat.shiftLeft_eq]
  simp
 have A:(x.toNat:Int) / (2:Int) ^ n=((x >>> UInt32.ofNat n).toNat:Int):=by
  rw[UInt32.toNat_shiftRight];rw[gJ,fT (show n < 2 ^ 32 by omega),fT hn2,Nat.shiftRight_eq_div_pow]
  simp
 rw[e,A,jgo,UInt32.or_comm];rfl
theorem jBD(w:vW)(x:UInt32):vQ 107 #[wv x,.int .u64 2] w fun e w'=>e=.returned (wv (rotW x 2))/\w=w':=by
 have A:=Hd (jdc x 30 2 vI vI vI);unfold wv;unfold vQ;go_in;go_wp2;go_ret;have E:bits .or .u32 ((x.toNat:Int) / (4:Int)) ((x.toNat:Int) * (1073741824:Int) % (4294967296:Int))=((rotW x 2).toNat:Int):=A.o
 exact⟨congrArg (fun z=>Ending.returned (Value.int .u32 z)) E,rfl⟩
theorem jBE(w:vW)(x:UInt32):vQ 107 #[wv x,.int .u64 6] w fun e w'=>e=.returned (wv (rotW x 6))/\w=w':=by
 have A:=Hd (jdc x 26 6 vI vI vI);unfold wv;unfold vQ;go_in;go_wp2;go_ret;have E:bits .or .u32 ((x.toNat:Int) / (64:Int)) ((x.toNat:Int) * (67108864:Int) % (4294967296:Int))=((rotW x 6).toNat:Int):=A.o
 exact⟨congrArg (fun z=>Ending.returned (Value.int .u32 z)) E,rfl⟩
theorem jBF(w:vW)(x:UInt32):vQ 107 #[wv x,.int .u64 7] w fun e w'=>e=.returned (wv (rotW x 7))/\w=w':=by
 have A:=Hd (jdc x 25 7 vI vI vI);unfold wv;unfold vQ;go_in;go_wp2;go_ret;have E:bits .or .u32 ((x.toNat:Int) / (128:Int)) ((x.toNat:Int) * (33554432:Int) % (4294967296:Int))=((rotW x 7).toNat:Int):=A.o
 exact⟨congrArg (fun z=>Ending.returned (Value.int .u32 z)) E,rfl⟩
theorem jAj(w:vW)(x:UInt32):vQ 107 #[wv x,.int .u64 11] w fun e w'=>e=.returned (wv (rotW x 11))/\w=w':=by
 have A:=Hd (jdc x 21 11 vI vI vI);unfold wv;unfold vQ;go_in;go_wp2;go_ret;have E:bits .or .u32 ((x.toNat:Int) / (2048:Int)) ((x.toNat:Int) * (2097152:Int) % (4294967296:Int))=((rotW x 11).toNat:Int):=A.o
 exact⟨congrArg (fun z=>Ending.returned (Value.int .u32 z)) E,rfl⟩
theorem jAk(w:vW)(x:UInt32):vQ 107 #[wv x,.int .u64 13] w fun e w'=>e=.returned (wv (rotW x 13))/\w=w':=by
 have A:=Hd (jdc x 19 13 vI vI vI);unfold wv;unfold vQ;go_in;go_wp2;go_ret;have E:bits .or .u32 ((x.toNat:Int) / (8192:Int)) ((x.toNat:Int) * (524288:Int) % (4294967296:Int))=((rotW x 13).toNat:Int):=A.o
 exact⟨congrArg (fun z=>Ending.returned (Value.int .u32 z)) E,rfl⟩
theorem jAl(w:vW)(x:UInt32):vQ 107 #[wv x,.int .u64 17] w fun e w'=>e=.returned (wv (rotW x 17))/\w=w':=by
 have A:=Hd (jdc x 15 17 vI vI vI);unfold wv;unfold vQ;go_in;go_wp2;go_ret;have E:bits .or .u32 ((x.toNat:Int) / (131072:Int)) ((x.toNat:Int) * (32768:Int) % (4294967296:Int))=((rotW x 17).toNat:Int):=A.o
 exact⟨congrArg (fun z=>Ending.returned (Value.int .u32 z)) E,rfl⟩
theorem jAm(w:vW)(x:UInt32):vQ 107 #[wv x,.int .u64 18] w fun e w'=>e=.returned (wv (rotW x 18))/\w=w':=by
 have A:=Hd (jdc x 14 18 vI vI vI);unfold wv;unfold vQ;go_in;go_wp2;go_ret;have E:bits .or .u32 ((x.toNat:Int) / (262144:Int)) ((x.toNat:Int) * (16384:Int) % (4294967296:Int))=((rotW x 18).toNat:Int):=A.o
 exact⟨congrArg (fun z=>Ending.returned (Value.int .u32 z)) E,rfl⟩
theorem jAn(w:vW)(x:UInt32):vQ 107 #[wv x,.int .u64 19] w fun e w'=>e=.returned (wv (rotW x 19))/\w=w':=by
 have A:=Hd (jdc x 13 19 vI vI vI);unfold wv;unfold vQ;go_in;go_wp2;go_ret;have E:bits .or .u32 ((x.toNat:Int) / (524288:Int)) ((x.toNat:Int) * (8192:Int) % (4294967296:Int))=((rotW x 19).toNat:Int):=A.o
 exact⟨congrArg (fun z=>Ending.returned (Value.int .u32 z)) E,rfl⟩
theorem jAo(w:vW)(x:UInt32):vQ 107 #[wv x,.int .u64 22] w fun e w'=>e=.returned (wv (rotW x 22))/\w=w':=by
 have A:=Hd (jdc x 10 22 vI vI vI);unfold wv;unfold vQ;go_in;go_wp2;go_ret;have E:bits .or .u32 ((x.toNat:Int) / (4194304:Int)) ((x.toNat:Int) * (1024:Int) % (4294967296:Int))=((rotW x 22).toNat:Int):=A.o
 exact⟨congrArg (fun z=>Ending.returned (Value.int .u32 z)) E,rfl⟩
theorem jAp(w:vW)(x:UInt32):vQ 107 #[wv x,.int .u64 25] w fun e w'=>e=.returned (wv (rotW x 25))/\w=w':=by
 have A:=Hd (jdc x 7 25 vI vI vI);unfold wv;unfold vQ;go_in;go_wp2;go_ret;have E:bits .or .u32 ((x.toNat:Int) / (33554432:Int)) ((x.toNat:Int) * (128:Int) % (4294967296:Int))=((rotW x 25).toNat:Int):=A.o
 exact⟨congrArg (fun z=>Ending.returned (Value.int .u32 z)) E,rfl⟩
theorem jhV{s:vB}{k:Nat}(h:k < s.size):s.data.toList.getD k 0=s[k]:=by
 rw[bH,bA (show k < s.data.toList.length from h)];rfl
theorem jyu(w:vW)(s:vB)(k:Nat)(h:4 * k+3 < s.size)(hs:s.size<=1000000):vR 106 #[.string s,.int .i64 k] w (wv (je7 s.data.toList k)):=by
 have J:(0:Int)<=4 * (k:Int):=vO
 have K:(0:Int)<=4 * (k:Int)+1:=vO
 have O:(0:Int)<=4 * (k:Int)+2:=vO
 have Q:(0:Int)<=4 * (k:Int)+3:=vO
 have X:4 * (k:Int) < (s.size:Int):=vO
 have Z:4 * (k:Int)+1 < (s.size:Int):=vO
 have d2:4 * (k:Int)+2 < (s.size:Int):=vO
 have d3:4 * (k:Int)+3 < (s.size:Int):=vO
 have n0:(4 * (k:Int)).toNat=4 * k:=vO
 have n1:(4 * (k:Int)+1).toNat=4 * k+1:=vO
 have n2:(4 * (k:Int)+2).toNat=4 * k+2:=vO
 have n3:(4 * (k:Int)+3).toNat=4 * k+3:=vO
 have E:=Hd (show je7 s.data.toList k=beW (s[4 * k]'(by omega)) (s[4 * k+1]'(by omega)) (s[4 * k+2]'(by omega)) (s[4 * k+3]'(by omega)) by unfold je7;rw[jhV,jhV,jhV,jhV]);unfold vR vQ;go_in;go_wp2_with fail
 refine jag [0,1,2,3,4,5,6,7,8,9,10,11,12,13,14,15,16,17,18,19,20,21,22,23,24,25,26,27,28,29] Ext ExtR ExtT vY vY vY ?_;iterate 30 refine vK ?_
 refine qKE (fun w1 A=>?_);have H:=Hd ((jai w).trans A);have e:=jzu (s[4 * k]'(by omega)) (s[4 * k+1]'(by omega)) (s[4 * k+2]'(by omega)) (s[4 * k+3]'(by omega));rw[<-E.o]at e;rw[e];clear e A;go_wp2_with fail
 go_ret
 exact⟨rfl,H.o⟩
def jjV:W8:=⟨0x6a09e667,0xbb67ae85,0x3c6ef372,0xa54ff53a,0x510e527f,0x9b05688c,0x1f83d9ab,0x5be0cd19⟩
def Tab3(w:vW)(e:Ending)(w':vW):Prop:=∃ b1 b2,e=.returned (.tuple #[.slice (some ⟨b1,0,none⟩) 8 8,.slice (some ⟨b2,0,none⟩) 64 64])/\w.heap.size<=b1/\w.heap.size<=b2/\b1≠b2/\Ext w w'/\Blk w' b1 (.cells (jjV.words.map wv).toArray 119)/\Blk w' b2 (.cells (je2.map wv).toArray 119)
theorem jwo(w:vW):vQ 59 #[] w (Tab3 w):=by
 unfold vQ;go_in;go_wp2_with fail
 go_ret2;have hb:∀ {W:vW} {b:Nat} {c d:Array vV} {T:TypeId},c=d->Blk W b (.cells c T)->Blk W b (.cells d T):=fun e h=>e ▸ h;have A:∀ o,(w.alloc o).heap.size=w.heap.size+1:=fun o=>by simp
 refine⟨w.heap.size,w.heap.size+1,rfl,bL _,Nat.le_succ _,by omega,((ExtR w).alloc _).alloc _,hb ?_ (Blk.alloc (Blk.new w _) _),hb ?_ (A _ ▸ Blk.new (w.alloc _) _)⟩
 ·kernel_rfl
 ·kernel_rfl
end
