/- Lemmas. -/
import Derived.Test.YtgmmpefjadjajaaGreatDoorPa0
import Derived.Test.YtgmmpefjadjajaaGreatDoorPa17
namespace Go.Proofs.YtgmmpefjadjajaaGreatDoor
open Go.Proofs.Tryz
set_option linter.unusedSimpArgs false
set_option linter.unusedVariables false
set_option maxRecDepth 100000
set_option maxHeartbeats 16000000
open Go Go.RowKit
variable (B C:vL->PT){F:Bd}{c:Br}{cs xs:List Br}{b f n ck bm i j win next sz by' d bg:Nat}{D E:Nat->Prop}{T U:PT}{p q:Ay}{a t x y pa va z u s:vB}{l m l' m':vL}{M L rs:vM}{r:vN}{v pv:vV}{W w w0 w' w2 w3 W':vW}
def Jj(w:vW)(v:vV)(xs:List Br):Prop:=
 (∃ a c,v=.slice a 0 c/\xs=[])\/∃ b o c,v=.slice (some ⟨b,o,none⟩) xs.length c/\b<(w:Nat)/\xs.length<=c/\∀ (j:Nat) x,xs[j]?=some x->w.cell? ⟨b,o+j*3,none⟩=some (.string x.key)/\w.cell? ⟨b,o+j*3+1,none⟩=some (.string x.value)/\w.cell? ⟨b,o+j*3+2,none⟩=some (.bool x.gone)
theorem Jj.ext(h:Jj w v xs)(k:Af w w'):Jj w' v xs:=by
 rcases h with h|⟨b,o,c,h1,h2,h3,h4⟩
 ·exact .inl h
 ·exact .inr ⟨b,o,c,h1,bE h2 k.size,h3,λj x e=>⟨Am (h4 j x e).1 k,Am (h4 j x e).2.1 k,Am (h4 j x e).2.2 k⟩⟩
theorem Jj.sl(h:Jj w v xs):∃ a c,v=.slice a xs.length c:=by
 rcases h with⟨a,c,h1,h2⟩|⟨b,o,c,h1,_⟩
 ·exact⟨a,c,by rw[h1,h2];rfl⟩
 ·exact⟨_,c,h1⟩
theorem Og(W:vW):(Instr.makeMap 140 none).run prog W=.ok (.map (some ↑W)) (W.alloc (.map #[] 0)):=vY
theorem Uo(w:vW):(zeroValue 49).run prog w=.ok (.agg #[(),()]) w:=vY
def Xa(w:vW)(l:vL)(cs:List Br)(e:Ending)(w':vW):Prop:=
 if Ez l cs=0 then ∃ r,e=.returned (.tuple #[r,qa])/\Fg w w' r (Jc (Pf l cs)).length (Jc (Pf l cs))else e=.returned (.tuple #[qe,.int .i64 (Ez l cs)])/\Af w w'
theorem Xa.bad{x:Int}(h:Ez l cs=x)(h0:x≠0)(he:Af w w'):Xa w l cs (.returned (.tuple #[qe,.int .i64 x])) w':=by
 unfold Xa;rw[h,if_neg h0];exact⟨rfl,he⟩
def jzy(w:vW)(cs:List Br)(i:vV)(wr:vW):Prop:=∃ k:Nat,k<=cs.length/\i=.int .i64 k/\Af w wr/\(cs.take k).any Br.bad=false
def jzz(w:vW)(bm:Nat)(l:vL)(i:vV)(wr:vW):Prop:=∃ k:Nat,k<=l.length/\i=.int .i64 k/\Af w wr/\∃ es ck,Ae wr bm (.map (Al.arr es) ck)/\Gu es ck ((l.take k).foldl Hb [])
def Z8(w:vW)(bm:Nat)(l:vL)(cs:List Br)(i:vV)(wr:vW):Prop:=∃ k:Nat,k<=cs.length/\i=.int .i64 k/\Af w wr/\∃ es ck,Ae wr bm (.map (Al.arr es) ck)/\Gu es ck ((cs.take k).foldl Xm (l.foldl Hb []))
def Z9(w5:vW)(M:vL)(v i:vV)(wr:vW):Prop:=∃ k:Nat,k<=M.length/\i=.int .i64 k/\Fg w5 wr v k ((Jc M).take k)
theorem B4{k:Nat}(h:cs[k]?=some c):(cs.take (k+1)).any Br.bad=((cs.take k).any Br.bad || c.bad):=by
 rw[cB,h,List.any_append];simp
theorem sI{k:Nat}(h:cs[k]?=some c)(hb:c.bad=true):cs.any Br.bad=true:=iN.2 ⟨c,bD h,hb⟩
theorem WF(w:vW)(v u:vV)(l:vL)(cs:List Br)(hv:Jv w v l)(hu:Jj w u cs)(hn:l.length<=9223372036854775807)(hnc:cs.length<=9223372036854775807)(hs:∀ p∈l,p.1.size<=9223372036854775807/\p.2.size<=9223372036854775807)(hsc:∀ c∈cs,c.key.size<=9223372036854775807/\c.value.size<=9223372036854775807):vQ 30 #[v,u] w (Xa w l cs):=by
 have a9:=J (GZ w v l hv hn hs);have HV:=J hv;have HU:=J hu;have d8:=J hsc
 obtain⟨a,c,rfl⟩:=hv.sl
 obtain⟨a',c',d6⟩:=hu.sl
 subst d6;clear hv hu hs hsc
 by_cases hck:Em l=0
 case neg =>obtain⟨x,hx⟩:=vE (Em l);(have HB:=J (show Ez l cs=x by unfold Ez;rw[if_pos hck,hx]);rw[<-hx]at hck a9;have f9:(x == 0)=false:=by simpa using hck);(have HX:=J hck;clear hck hx HV HU d8;unfold vQ;go_in;go_wp2_with fail);(refine a9.o.mono ?_;rintro e w1 ⟨rfl,hE⟩;have K:=J hE;clear hE a9;go_wp2);go_ret2;exact Xa.bad HB.o HX.o K.o
 rw[hck]at a9;have a3:=J hck;clear hck;unfold vQ;go_in;go_wp2_with fail
 refine a9.o.mono ?_;rintro e w1 ⟨rfl,hE⟩;have d9:=J hE;clear hE a9;go_wp2
 go_loopw [24] (λi wr=>jzy w cs i wr) (λi _=>cs.length-(intOf i).toNat)
 case atStart=>exact⟨0,by omega,rfl,d9.o,rfl⟩
 case round =>obtain⟨k,hk,rfl,hE,b6⟩:=hrel;have K:=J hE;have a0:=J b6;clear hE b6;by_cases hlt:k<cs.length;{rcases HU.o with⟨_,_,_,h0⟩|⟨b,o,c1,hh,hb,hc,A⟩;{rw[h0]at hlt;cases hlt};cases hh;obtain⟨p,hp⟩:∃ p,cs[k]?=some p:=⟨_,bB hlt⟩;obtain⟨q1,q2,q3⟩:=A k p hp;have q1:=Am q1 K.o;have q2:=Am q2 K.o;have q3:=Am q3 K.o;have c4:=d8.o p (bD hp);have b1:(k:Int)<(cs.length:Int):=vO;have HP:=J hp;obtain⟨ky,vl,gn⟩:=p;simp only at q1 q2 q3 c4;clear A hp hb hc;have a4:=J (λ(h:Br.bad ⟨ky,vl,gn⟩=true)=>(show Ez l cs=1 by unfold Ez;rw[if_neg (by rw[a3.o];simp),if_pos (sI HP.o h)]));(have e0:=J (λ(h:Br.bad ⟨ky,vl,gn⟩=false)=>(show (cs.take (k+1)).any Br.bad=false by rw[B4 HP.o,a0.o,h];rfl));have b3:=J (K.o.alloc (.cells #[ky,vl,gn] 46));clear HP a0;go_wp2_with fail);refine (IA _ ky c4.1).mono ?_;rintro e w3 ⟨rfl,rfl⟩;clear q1 q2 q3;cases hky:Vv ky with| false =>(have HB:=J (a4.o (by unfold Br.bad;simp[hky]));clear hky;go_wp2);go_ret2;exact Xa.bad HB.o vI b3.o| true =>cases gn with| true =>by_cases hz:vl.size=0;{have:=Ov hz;(subst this;have HG:=J (e0.o (by unfold Br.bad;simp[hky];rfl));clear hky hz;go_wp2);go_roundw;(case rel=>exact⟨k+1,by omega,by go_num,b3.o,HG.o⟩);case measure=>exact vJ};have f9:=Sf (s:=vl) vO;(have HB:=J (a4.o (by unfold Br.bad;simp[hky,hz]));clear hky hz;go_wp2);go_ret2;exact Xa.bad HB.o vI b3.o| false =>(go_wp2_with fail);refine (KQ _ vl c4.2).mono ?_;rintro e w3 ⟨rfl,rfl⟩;cases hvl:Xt vl with| true =>(have HG:=J (e0.o (by unfold Br.bad;simp[hky,hvl]));clear hky hvl;go_wp2);go_roundw;(case rel=>exact⟨k+1,by omega,by go_num,b3.o,HG.o⟩);case measure=>exact vJ| false =>(have HB:=J (a4.o (by unfold Br.bad;simp[hky,hvl]));clear hky hvl;go_wp2);go_ret2;exact Xa.bad HB.o vI b3.o};have e4:k=cs.length:=vO;(have HB:=J (show cs.any Br.bad=false by have h:=a0.o;rwa [e4,cF]at h);clear e4 a0;have g0:=Og wr;go_wp2_with fail);obtain⟨bm,b8⟩:=vE wr.heap.size;(have e5:=J (show Ae (wr.alloc (.map #[] 0)) bm (.map #[] 0) by rw[b8];exact Ae.new wr _);have c5:(w:Nat)<=bm:=by rw[b8];exact K.o.size);(have e6:=J (K.o.alloc (.map #[] 0));rw[<-b8];clear g0 b8;go_loopw [56] (λi w2=>jzz w bm l i w2) (λi _=>l.length-(intOf i).toNat));(case atStart=>exact⟨0,by omega,rfl,e6.o,[],0,e5.o,Gu.nil 0⟩);case round =>clear K e6 e5 d9;obtain⟨j,hj,rfl,hE,es,ck,hM,hR⟩:=hrel;have K:=J hE;have HR:=J hR;by_cases hlt2:j<l.length;{rcases HV.o with⟨_,_,_,h0⟩|⟨b,o,c1,hh,hb,hc,A⟩;{rw[h0]at hlt2;cases hlt2};cases hh;obtain⟨p,hp⟩:∃ p,l[j]?=some p:=⟨_,bB hlt2⟩;obtain⟨q1,q2⟩:=A j p hp;have q1:=Am q1 K.o;have q2:=Am q2 K.o;have b1:(j:Int)<(l.length:Int):=vO;have HP:=J hp;obtain⟨x,y⟩:=p;simp only at q1 q2;have Z:=hM.alloc (.cells #[x,y] 49);obtain⟨Gb,H⟩:=vE (Iv es x.data.toList (Ay.V (x,y)) ck);obtain⟨O,X⟩:=vE (if (Cp es x.data.toList).isSome then ck else ck+1);(have g2:(Instr.mapUpdate 140 (.map (some bm)) x (.agg #[x,y])).run prog (wr.alloc (.cells #[x,y] 49))=.ok () ((wr.alloc (.cells #[x,y] 49)).putObj bm (.map (Al.arr Gb) O)):=by have:=Yq Al Ey Z x.data.toList (Ay.V (x,y));rw[<-H, <-X]at this;exact this);have a1:=J (show Gu Gb O ((l.take (j+1)).foldl Hb []) by rw[cB,HP.o,fE,H,X];exact HR.o.put (x,y));(have b4:=J (Z.put_same (.map (Al.arr Gb) O));have b5:=J ((K.o.alloc (.cells #[x,y] 49)).putObj (.inr c5) (.map (Al.arr Gb) O));clear A hp hb hc hM hR Z H X hE HR K;go_wp2);go_roundw;(case rel=>exact⟨j+1,by omega,by go_num,b5.o,Gb,O,b4.o,a1.o⟩);case measure=>exact vJ};have e7:j=l.length:=vO;(have a1:=J (show Gu es ck (l.foldl Hb []) by have h:=HR.o;rwa [e7,cF]at h);have e8:=J hM;have e9:=J hE;clear e7 hM hR hE HR K;go_wp2);(go_loopw [67] (λi w2=>Z8 w bm l cs i w2) (λi _=>cs.length-(intOf i).toNat));(case atStart=>exact⟨0,by omega,rfl,e9.o,es,ck,e8.o,a1.o⟩);case round =>clear e9 e8 a1;obtain⟨q,hq,rfl,hE,es,ck,hM,hR⟩:=hrel;have K:=J hE;have HR:=J hR;by_cases hlt3:q<cs.length;{rcases HU.o with⟨_,_,_,h0⟩|⟨b,o,c1,hh,hb,hc,A⟩;{rw[h0]at hlt3;cases hlt3};cases hh;obtain⟨p,hp⟩:∃ p,cs[q]?=some p:=⟨_,bB hlt3⟩;obtain⟨q1,q2,q3⟩:=A q p hp;have q1:=Am q1 K.o;have q2:=Am q2 K.o;have q3:=Am q3 K.o;have b1:(q:Int)<(cs.length:Int):=vO;have HP:=J hp;obtain⟨x,y,gn⟩:=p;(simp only at q1 q2 q3;have Z:=hM.alloc (.cells #[x,y,gn] 46);have b0:(cs.take (q+1)).foldl Xm (l.foldl Hb [])=Xm ((cs.take q).foldl Xm (l.foldl Hb [])) ⟨x,y,gn⟩:=by rw[cB,HP.o,fE];rfl);have b2:=J b0;cases gn with| true =>obtain⟨Gb,H⟩:=vE (Kb es x.data.toList);(have h3:(Builtin.delete_ #[140,9] 0 #[.map (some bm),x]).run prog (wr.alloc (.cells #[x,y,true] 46))=.ok (.tuple #[]) ((wr.alloc (.cells #[x,y,true] 46)).putObj bm (.map (Al.arr Gb) ck)):=by have:=TB Al Ey Z x.data.toList 9 0;rw[<-H]at this;exact this);have a1:=J (show Gu Gb ck ((cs.take (q+1)).foldl Xm (l.foldl Hb [])) by rw[b2.o,H];exact HR.o.del x);(have b4:=J (Z.put_same (.map (Al.arr Gb) ck));have b5:=J ((K.o.alloc (.cells #[x,y,true] 46)).putObj (.inr c5) (.map (Al.arr Gb) ck));clear A hp hb hc hM hR Z H hE HR K b0 b2;go_wp2);go_roundw;(case rel=>exact⟨q+1,by omega,by go_num,b5.o,Gb,ck,b4.o,a1.o⟩);case measure=>exact vJ| false =>obtain⟨Gb,H⟩:=vE (Iv es x.data.toList (Ay.V (x,y)) ck);obtain⟨O,X⟩:=vE (if (Cp es x.data.toList).isSome then ck else ck+1);(have g2:(Instr.mapUpdate 140 (.map (some bm)) x (.agg #[x,y])).run prog (wr.alloc (.cells #[x,y,false] 46))=.ok () ((wr.alloc (.cells #[x,y,false] 46)).putObj bm (.map (Al.arr Gb) O)):=by have:=Yq Al Ey Z x.data.toList (Ay.V (x,y));rw[<-H, <-X]at this;exact this);have a1:=J (show Gu Gb O ((cs.take (q+1)).foldl Xm (l.foldl Hb [])) by rw[b2.o,H,X];exact HR.o.put (x,y));(have b4:=J (Z.put_same (.map (Al.arr Gb) O));have b5:=J ((K.o.alloc (.cells #[x,y,false] 46)).putObj (.inr c5) (.map (Al.arr Gb) O));clear A hp hb hc hM hR Z H X hE HR K b0 b2;go_wp2);go_roundw;(case rel=>exact⟨q+1,by omega,by go_num,b5.o,Gb,O,b4.o,a1.o⟩);case measure=>exact vJ};have f0:q=cs.length:=vO;obtain⟨M,c9⟩:=vE (Pf l cs);have a2:=J (show Gu es ck M by have h:=HR.o;rw[f0,cF]at h;rw[c9];exact h);have d0:=J c9;have f1:=SP Al Ey hM;rw[a2.o.len]at f1;have f2:=J hM;have d1:=J hE;clear f0 hM hR hE HR K c9;by_cases h40:40<M.length;{have g3:(40:Int)<(M.length:Int):=vO;(have d2:=J (show Ez l cs=12 by unfold Ez;rw[if_neg (by rw[a3.o];simp),HB.o, <-d0.o];simp[h40]);clear h40;go_wp2);go_ret2;exact Xa.bad d2.o vI d1.o};have g3:¬(40:Int)<(M.length:Int):=vO;have d2:=J (show Ez l cs=0 by unfold Ez;rw[if_neg (by rw[a3.o];simp),HB.o, <-d0.o];simp[h40]);have g9:M.length<=40:=vO;(clear h40;go_wp2_with fail);(refine (p3 wr bm).mono ?_;rintro e w4 ⟨rfl,f3,d3⟩;have f4:=J f3;have a5:=J (f2.o.Z d3 kI);have f5:=J (d1.o.trans d3);clear f3 d3 f1;go_wp2_with fail);refine (L6 w4 wr bm ck es ⟨f4.o,a5.o⟩ a2.o.born a2.o.keys a2.o.lt (kL a2.o.len)).mono ?_;rintro e w5 ⟨u,rfl,hS⟩;rw[a2.o.keysEq,a2.o.len]at hS;obtain⟨KS,b9⟩:=vE (Ru (M.map Ay.k));(rw[<-b9]at hS;have f6:KS.length=M.length:=by rw[b9,NP,bT]);have HK:=J b9;have g4:=J f6;obtain⟨a6,c6,rfl⟩:=hS.sl;(have g5:=J hS.rd;have f7:=J (f5.o.trans hS.ext);have d7:=J (a5.o.Z hS.ext kI);have d4:=J (show (Jc M).length=M.length by unfold Jc;rw[bT,NP,bT]);clear hS b9 f6 a5 f5 f4 d1 f2;go_wp2);(go_loopw [14,92] (λv i wr=>Z9 w5 M v i wr) (λ_ i _=>M.length-(intOf i).toNat));(case atStart=>exact⟨0,by omega,rfl,Ar.nil _ _ (Aa w5)⟩);case round =>obtain⟨t,ht,rfl,hR⟩:=hrel;obtain⟨a7,c7,rfl⟩:=hR.sl;have HR:=J hR;clear hR;by_cases hlt4:t<M.length;{obtain⟨kk,c0⟩:∃ kk,KS[t]?=some kk:=⟨_,bB (by rw[g4.o];exact hlt4)⟩;obtain⟨x,hx⟩:∃ x:vB,x=⟨kk.toArray⟩:=⟨_,rfl⟩;obtain⟨y,hy⟩:=vE (Zm M kk);obtain⟨_,_,hh,A⟩:=g5.o.slice;obtain⟨b,o,g6,f8⟩:=A t x (by unfold FP;rw[bY,c0,hx];rfl);obtain⟨e1,e2,e3⟩:=dF hh;(subst e1;subst e3;subst g6;clear hh e2;have q1:=Am f8 HR.o.ext;have b7:kk∈M.map Ay.k:=by have h1:=bD c0;rw[HK.o]at h1;exact (iR _ _).mem_iff.1 h1);(have h4:(Instr.lookup 140 (.map (some bm)) x false).run prog wr=.ok (.agg #[x,y]) wr:=by have:=Wx Al Ey (d7.o.Z HR.o.ext kI) (Uo wr) kk false;rw[a2.o.get b7, <-hx, <-hy]at this;rw[hx];rw[hx]at this;exact this);(have b0:(Jc M).take (t+1)=(Jc M).take t++[(x,y)]:=by rw[cB];(have:(Jc M)[t]?=some (x,y):=by unfold Jc;rw[<-HK.o,bY,c0,hx,hy];rfl);rw[this];rfl);have b2:=J b0;have b1:(t:Int)<(M.length:Int):=vO;(clear A f8 b7 b0 c0 hx hy;go_wp2_with (at_builtin;refine Qm Fk (HR.o.mono ((Aa wr).alloc _)) (.tmp 96) (.tmp 100) rfl rfl rfl (Jx (Ae.new wr _)) (news:=[x,y]) (by intro u hu;simp at hu;rcases hu with rfl|rfl<;>rfl) rfl rfl ?c1 ?c2 λv' w' r1 r2 r3=>?_));(case c1=>unfold maxLen;omega);(case c2=>omega);(have d5:Fg w5 w' v' (t+1) ((Jc M).take (t+1)):=by unfold Fg;rw[b2.o,FT];exact r1);obtain⟨a8,c8,rfl⟩:=d5.sl;(have g7:=J d5;clear r1 r2 r3 d5 HR;go_wp2);go_roundw;(case rel=>exact⟨t+1,by omega,by go_num,g7.o⟩);case measure=>exact vJ};have c3:t=M.length:=vO;have g8:=J (show Fg w wr (.slice a7 t c7) (Jc M).length (Jc M) by(have h:=HR.o;rw[show (Jc M).take t=Jc M from by rw[c3, <-d4.o,cF]]at h;have h2:Fg w5 wr (.slice a7 t c7) (Jc M).length (Jc M):=by rw[d4.o, <-c3];exact h);exact⟨by rw[d4.o, <-c3];exact⟨_,_,rfl⟩,h2.own,f7.o.trans h2.ext,λb hb=>bH f7.o.size (h2.new b hb)⟩);(clear c3 HR;go_wp2);go_ret2;unfold Xa;rw[if_pos d2.o, <-d0.o];exact⟨_,rfl,g8.o⟩
def XY(l:vL):Prop:=l.Pairwise λp q=>Lt p.k q.k
theorem lK{k:vN}:∀ {m:vL},k ∉ m.map Ay.k->look m k=none
 |[],_=>rfl
 |q::r,h=>by
  simp only[bP,bU,not_or]at h;rw[GL,if_neg h.1,lK h.2]
theorem PQ:∀ (a b:vN),Lt a b\/a=b\/Lt b a
 |[],[]=>.inr (.inl rfl)
 |[],_::_=>.inl PO
 |_::_,[]=>.inr (.inr PO)
 |a::x,b::y=>by
  rcases Nat.lt_trichotomy a.toNat b.toNat with h|h|h
  ·exact .inl (Nm.2 (.inl (dU.2 h)))
  ·have e:=dO.1 h
   subst e;rcases PQ x y with h|h|h
   ·exact .inl (Nm.2 (.inr ⟨rfl,h⟩))
   ·exact .inr (.inl (by rw[h]))
   ·exact .inr (.inr (Nm.2 (.inr ⟨rfl,h⟩)))
  ·exact .inr (.inr (Nm.2 (.inl (dU.2 h))))
theorem mN(h1:p.k=q.k)(h2:p.2=q.2):p=q:=by
 obtain⟨⟨⟨a⟩⟩,b⟩:=p
 obtain⟨⟨⟨c⟩⟩,d⟩:=q
 simp only[Ay.k]at h1 h2;subst h1;subst h2;rfl
theorem n3:∀ {a b:vL},XY a->XY b->(∀ k,look a k=look b k)->a=b
 |[],[],_,_,_=>rfl
 |[],q::b,_,_,h=>by have:=h q.k;rw[GL,if_pos rfl]at this;cases this
 |p::a,[],_,_,h=>by have:=h p.k;rw[GL,if_pos rfl]at this;cases this
 |p::a,q::b,h1,h2,h=>by
  have K:=fU.1 h1;have O:=fU.1 h2;have H:∀ (x:vN) (y:Ay) (m:vL),(∀ z∈m,Lt y.k z.k)->Lt x y.k->look (y::m) x=none:=λx y m X hl=>by
   refine lK λA=>?_;rw[bP,bU]at A;rcases A with e|A
   ·exact lt_irrefl _ (e ▸ hl)
   ·obtain⟨z,Z,e⟩:=bC.1 A
    exact lt_irrefl _ (KM _ _ _ hl (e ▸ X z Z))
  have hk:p.k=q.k:=by
   rcases PQ p.k q.k with e|e|e
   ·have:=h p.k
    rw[H p.k q b O.1 e,GL,if_pos rfl]at this;cases this
   ·exact e
   ·have:=h q.k
    rw[H q.k p a K.1 e,GL,if_pos rfl]at this;cases this
  have hv:p.2=q.2:=by
   have:=h p.k
   rw[GL,if_pos rfl,GL,if_pos hk]at this;exact bV this
  have e:=mN hk hv;subst e
  have:a=b:=n3 K.2 O.2 λk=>by
   have hh:=h k;rw[GL,GL]at hh
   by_cases e:k=p.k
   ·have n1:∀ m:vL,(∀ z∈m,Lt p.k z.k)->look m k=none:=λm X=>lK λA=>by
     obtain⟨z,Z,e2⟩:=bC.1 A
     have:=X z Z
     rw[e2,e]at this;exact lt_irrefl _ this
    rw[n1 a K.1,n1 b O.1]
   ·rwa [if_neg e,if_neg e]at hh
  rw[this]
theorem D7(m:vL)(k:vN):Zm m k=(look m k).getD ():=rfl
theorem lL{k:vN}:∀ {m:vL},k∈m.map Ay.k->∃ v,look m k=some v
 |[],h=>by cases h
 |q::r,h=>by
  rw[GL]
  by_cases e:k=q.k
  ·exact⟨_,if_pos e⟩
  ·rw[if_neg e]
   rcases bU.1 h with h|h
   ·exact absurd h e
   ·exact lL h
theorem nM{k:vN}{v:vB}:∀ {m:vL},look m k=some v->∃ p∈m,p.k=k/\p.2=v
 |[],h=>by cases h
 |q::r,h=>by
  rw[GL]at h
  by_cases e:k=q.k
  ·rw[if_pos e]at h
   exact⟨q,bN,e.symm,bV h⟩
  ·rw[if_neg e]at h
   obtain⟨p,A,H⟩:=nM h
   exact⟨p,bM _ A,H⟩
theorem nZ(k:vB):∀ m:vL,(Px m k).map Ay.k=(m.map Ay.k).erase k.data.toList
 |[]=>rfl
 |q::r=>by
  rw[Px,bP,List.erase_cons]
  by_cases h:k.data.toList=q.k
  ·rw[if_pos h,if_pos (by simp[h])]
  ·rw[if_neg h,if_neg (by intro e;exact h (by simpa using (eq_of_beq e).symm)),bP,nZ k r]
theorem lV(p:Ay):∀ m:vL,(Hb m p).map Ay.k=if p.k∈m.map Ay.k then m.map Ay.k else m.map Ay.k++[p.k]
 |[]=>rfl
 |q::r=>by
  rw[Hb]
  by_cases h:p.k=q.k
  ·rw[if_pos h,if_pos (by simp[h])];simp[h]
  ·rw[if_neg h,bP,lV p r]
   by_cases h2:p.k∈r.map Ay.k
   ·rw[if_pos h2,if_pos (by rw[bP];exact bM _ h2)];rfl
   ·rw[if_neg h2,if_neg (by rw[bP,bU];exact λe=>e.elim h h2)];rfl
theorem lW(p:Ay)(h:(m.map Ay.k).Nodup):((Hb m p).map Ay.k).Nodup:=by
 rw[lV];split
 ·exact h
 ·rename_i hn;rw[dW];exact⟨h,by simp,λa q b hb e=>by simp at hb;subst hb;subst e;exact hn q⟩
theorem s3(k:vB)(h:(m.map Ay.k).Nodup):((Px m k).map Ay.k).Nodup:=by
 rw[nZ];exact h.erase _
theorem I9(c:Br)(h:(m.map Ay.k).Nodup):((Xm m c).map Ay.k).Nodup:=by
 unfold Xm;split
 ·exact s3 _ h
 ·exact lW _ h
theorem kE:∀ (cs:List Br) {m:vL},(m.map Ay.k).Nodup->((cs.foldl Xm m).map Ay.k).Nodup
 |[],_,h=>h
 |c::r,_,h=>kE r (I9 c h)
theorem aF:∀ (l:vL) {m:vL},(m.map Ay.k).Nodup->((l.foldl Hb m).map Ay.k).Nodup
 |[],_,h=>h
 |c::r,_,h=>aF r (lW c h)
theorem a2(l:vL)(cs:List Br):((Pf l cs).map Ay.k).Nodup:=kE cs (aF l (by simp))
def DG(k:vN)(o:Option vB)(c:Br):Option vB:=if k=c.key.data.toList then (if c.gone then none else some c.value)else o
theorem qJ:∀ (a b:vN),Lt a b↔a<b
 |a,[]=>⟨λh=>absurd h (not_lt_nil _),λh=>absurd h (List.not_lt_nil _)⟩
 |[],b::y=>⟨λ_=>List.nil_lt_cons _ _,λ_=>PO⟩
 |a::x,b::y=>by rw[Nm,List.cons_lt_cons_iff,qJ x y]
theorem h6(ks:List (vN))(k:vN):k∈Ru ks↔k∈ks:=(iR _ _).mem_iff
theorem a9{ks:List (vN)}(h:ks.Nodup):(Ru ks).Pairwise Lt:=by
 have H:∀ a b c:vN,decide (a<=b)=true->decide (b<=c)=true->decide (a<=c)=true:=λa b c q A=>by simp only[decide_eq_true_eq]at *;exact List.le_trans q A
 have to:∀ a b:vN,(decide (a<=b) || decide (b<=a))=true:=λa b=>by simp only[Bool.or_eq_true,decide_eq_true_eq];exact List.le_total a b
 have q:(Ru ks).Pairwise (λx y=>decide (x<=y)=true):=List.pairwise_mergeSort H to ks;have A:(Ru ks).Nodup:=(iR _ _).nodup_iff.2 h;refine (q.and A).imp λ{a b} h=>?_;have K:a<=b:=by simpa using h.1
 rcases PQ a b with e|e|e
 ·exact e
 ·exact absurd e h.2
 ·exact absurd ((qJ _ _).1 e) (List.not_lt.2 K)
theorem h5(m:vL):(Jc m).map Ay.k=Ru (m.map Ay.k):=by
 unfold Jc;rw[dB]
 conv=>rhs;rw[<-jK (Ru (m.map Ay.k))]
 exact dA λk _=>rfl
theorem t7(m:vL):(Jc m).length=m.length:=by
 unfold Jc;rw[bT,NP,bT]
theorem a8(h:(m.map Ay.k).Nodup):XY (Jc m):=by
 have e:=a9 h;rw[<-h5,gO]at e;exact e
def We(p:Ay):Prop:=Vv p.1=true/\Xt p.2=true
theorem WK{p x:Ay}:∀ {m:vL},x∈Hb m p->x=p\/x∈m
 |[],h=>.inl (by simpa [Hb]using h)
 |q::r,h=>by
  rw[Hb]at h;split at h
  ·rcases bU.1 h with h|h
   ·exact .inl h
   ·exact .inr (bM _ h)
  ·rcases bU.1 h with h|h
   ·exact .inr (h ▸ bN)
   ·exact (WK h).imp id (bM _)
theorem nX(k:vB):∀ m:vL,(Px m k).Sublist m
 |[]=>List.Sublist.refl _
 |x::r=>by
  unfold Px;split
  ·exact iH _ _
  ·exact (nX k r).cons_cons _
theorem rI:∀ (l:vL) {m:vL},(∀ p∈l,We p)->(∀ p∈m,We p)->∀ p∈l.foldl Hb m,We p
 |[],_,_,h=>h
 |q::r,m,h1,h2=>rI r (λp A=>h1 p (bM _ A)) λp A=>(WK A).elim (λe=>e ▸ h1 q bN) (h2 p)
theorem sR:∀ (cs:List Br) {m:vL},cs.any Br.bad=false->(∀ p∈m,We p)->∀ p∈cs.foldl Xm m,We p
 |[],_,_,h=>h
 |c::r,m,h1,h2=>by
  rw[List.any_cons,gT]at h1;refine sR r h1.2 λp e=>?_;unfold Xm at e;have hb:=h1.1;unfold Br.bad at hb;cases hg:c.gone with
  |true=>rw[if_pos hg]at e;exact h2 p ((nX _ _).subset e)
  |false =>
   rw[if_neg (by rw[hg];simp)]at e;rcases WK e with rfl|e
   ·simp[hg]at hb;exact hb
   ·exact h2 p e
theorem qM(h:Em l=0):∀ p∈l,We p:=λp e=>by
 obtain⟨q,A,H,K⟩:=(Ge h).size p e
 exact⟨decide_eq_true ⟨q,A⟩,decide_eq_true ⟨H,K⟩⟩
theorem n4(h:Em l=0)(hc:cs.any Br.bad=false):∀ p∈Pf l cs,We p:=
 sR cs hc (rI l (qM h) (by simp))
theorem N6(h1:∀ p∈l,We p)(h2:XY l)(h3:l.length<=40):Em l=0:=by
 unfold Em;rw[if_neg,if_neg vO];intro h
 obtain⟨i,e,hb⟩:=iN.1 h
 have e:=dY.1 e;have g:∀ j (A:j<l.length),l.getD j (⟨#[]⟩,⟨#[]⟩)=l[j]:=λj A=>by rw[bL,bB A];rfl
 unfold Kz at hb;rw[g i e,(h1 _ (dR e)).1,(h1 _ (dR e)).2]at hb;simp only[Bool.not_true,Bool.or_self,Bool.false_or,cI,decide_eq_true_eq,gP]at hb;rw[g (i-1) vO]at hb
 have:=gD.1 h2 (i-1) i vO e vO
 have q:=hb.2;unfold Qf at q;rw[cA,cA]at q;have H:Op.bytesLess (l[i-1]).1.data.toList (l[i]).1.data.toList=true:=this;rw[H]at q;cases q
theorem a3(h:Ez l cs=0):Em l=0/\cs.any Br.bad=false/\(Pf l cs).length<=40:=by
 unfold Ez at h;split at h
 ·rename_i h1;exact absurd h h1
 rename_i h1
 split at h
 ·cases h
 rename_i h2
 split at h
 ·cases h
 rename_i h3
 exact⟨by simpa using h1,by simpa using h2,by omega⟩
theorem m8(h:∀ p∈m,We p):∀ p∈Jc m,We p:=λp H=>by
 obtain⟨k,K,rfl⟩:=bC.1 H
 obtain⟨v,A⟩:=lL ((h6 _ _).1 K)
 obtain⟨q,O,X,Z⟩:=nM A
 have:=h q O
 rw[D7,A];have e:((⟨k.toArray⟩,(some v).getD ()):Ay)=q:=mN X.symm Z.symm;rw[e];exact this
theorem Zo(h:Ez l cs=0):Em (Jc (Pf l cs))=0:=by
 obtain⟨e,q,A⟩:=a3 h
 exact N6 (m8 (n4 e q)) (a8 (a2 l cs)) (by rw[t7];exact A)
def Pg(xs:List Br):List vV:=xs.flatMap λc=>[c.key,c.value,c.gone]
theorem JO(xs:List Br)(c:Br):Pg (xs++[c])=Pg xs++[.string c.key,.string c.value,.bool c.gone]:=by simp[Pg]
theorem TJ(xs:List Br):(Pg xs).length=xs.length*3:=by
 induction xs with
 |nil=>rfl
 |cons x r ih=>unfold Pg at *;rw[dJ,bK,ih];simp;omega
theorem Qy:(prog.info? 46).map (λi=>(i.zero,i.size,i.bytes))=some (some (.agg #[(),(),false]),3,40):=vY
theorem Ol:prog.underlying 35=some (.slice 46):=vY
theorem Fj:Mn prog 35 46 3 40:=Mn.mk' Ol Qy rfl vI
abbrev Ji(w0 w:vW)(v:vV)(n:Nat)(xs:List Br):Prop:=Ar 46 3 w0 w v n (Pg xs)
def Fv:vL->vL->List Br
 |[],[]=>[]
 |p::l,[]=>⟨p.1,⟨#[]⟩,true⟩::Fv l []
 |[],q::m=>⟨q.1,q.2,false⟩::Fv [] m
 |p::l,q::m =>
  if Qf p.1 q.1=true then ⟨p.1,⟨#[]⟩,true⟩::Fv l (q::m)
  else if Qf q.1 p.1=true then ⟨q.1,q.2,false⟩::Fv (p::l) m
  else if (p.2.toList == q.2.toList)=true then Fv l m else ⟨q.1,q.2,false⟩::Fv l m
termination_by l m=>l.length+m.length
def Ph(l m:vL):List Br:=if Em l=0/\Em m=0 then Fv l m else []
theorem AA{α:Type}{l:List α}{x:α}(h:l[i]?=some x):l.drop i=x::l.drop (i+1):=by
 obtain⟨q,e⟩:=bI.1 h
 rw[<-e];exact gY q
structure uC(w:World)(l m:vL)(c:Value)(i j:Nat)(wr:World)(n:Nat)(acc:List Br):Prop where
 hi:i<=l.length
 hj:j<=m.length
 hn:n<=i+j
 row:Ji w wr c n acc
 eq:acc++Fv (l.drop i) (m.drop j)=Fv l m
def xY(w:vW)(l m:vL)(c vi vj:vV)(wr:vW):Prop:=∃ i j n acc,vi=.int .i64 (i:Nat)/\vj=.int .i64 (j:Nat)/\uC w l m c i j wr n acc
theorem xD(hi:i=l.length)(hj:j=m.length):Fv (l.drop i) (m.drop j)=[]:=by
 subst hi;subst hj;rw[gI,gI];simp[Fv]
theorem I6(hp:l[i]?=some p)(hj:j=m.length):Fv (l.drop i) (m.drop j)=⟨p.1,⟨#[]⟩,true⟩::Fv (l.drop (i+1)) (m.drop j):=by
 subst hj;rw[gI,AA hp];simp[Fv]
theorem W7(hq:m[j]?=some q)(hi:i=l.length):Fv (l.drop i) (m.drop j)=⟨q.1,q.2,false⟩::Fv (l.drop i) (m.drop (j+1)):=by
 subst hi;rw[gI,AA hq];simp[Fv]
theorem I7(hp:l[i]?=some p)(hq:m[j]?=some q)(h:Qf p.1 q.1=true):Fv (l.drop i) (m.drop j)=⟨p.1,⟨#[]⟩,true⟩::Fv (l.drop (i+1)) (m.drop j):=by
 rw[AA hp,AA hq,Fv,if_pos h]
theorem a00(hp:l[i]?=some p)(hq:m[j]?=some q)(h:Qf p.1 q.1=false)(h2:Qf q.1 p.1=true):Fv (l.drop i) (m.drop j)=⟨q.1,q.2,false⟩::Fv (l.drop i) (m.drop (j+1)):=by
 rw[AA hp,AA hq,Fv,if_neg (by rw[h];simp),if_pos h2]
theorem a01(hp:l[i]?=some p)(hq:m[j]?=some q)(h:Qf p.1 q.1=false)(h2:Qf q.1 p.1=false)(h3:(p.2.toList == q.2.toList)=true):Fv (l.drop i) (m.drop j)=Fv (l.drop (i+1)) (m.drop (j+1)):=by
 rw[AA hp,AA hq,Fv,if_neg (by rw[h];simp),if_neg (by rw[h2];simp),if_pos h3]
theorem I8(hp:l[i]?=some p)(hq:m[j]?=some q)(h:Qf p.1 q.1=false)(h2:Qf q.1 p.1=false)(h3:(p.2.toList == q.2.toList)=false):Fv (l.drop i) (m.drop j)=⟨q.1,q.2,false⟩::Fv (l.drop (i+1)) (m.drop (j+1)):=by
 rw[AA hp,AA hq,Fv,if_neg (by rw[h];simp),if_neg (by rw[h2];simp),if_neg (by rw[h3];simp)]
theorem sQ(w:vW)(v u:vV)(l m:vL)(hv:Jv w v l)(hu:Jv w u m)(hn1:l.length<=9223372036854775807)(hn2:m.length<=9223372036854775807)(hs1:∀ p∈l,p.1.size<=9223372036854775807/\p.2.size<=9223372036854775807)(hs2:∀ p∈m,p.1.size<=9223372036854775807/\p.2.size<=9223372036854775807):vQ 94 #[v,u] w λe w'=>∃ u,e=.returned u/\Ji w w' u (Ph l m).length (Ph l m):=by
 have a9:=J (GZ w v l hv hn1 hs1);have b7:=J (λw1 (h1:Af w w1)=>GZ w1 u m (hu.ext h1) hn2 hs2);have HV:=J hv;have HU:=J hu
 obtain⟨a,c,rfl⟩:=hv.sl
 obtain⟨a',c',e3⟩:=hu.sl
 subst e3;clear hv hu hs1 hs2
 by_cases hck:Em l=0
 case neg =>have HD:=J (show Ph l m=[] by unfold Ph;rw[if_neg λh=>hck h.1]);rw[HD.o];obtain⟨x,hx⟩:=vE (Em l);(rw[<-hx]at hck a9;have e4:(x != 0)=true:=by simpa using hck);(clear hck hx HV HU b7 HD;unfold vQ;go_in;go_wp2_with fail);(refine a9.o.mono ?_;rintro e w1 ⟨rfl,hE⟩;have HE:=J hE;clear hE a9;go_wp2);go_ret;exact⟨_,rfl,Ar.nil _ _ HE.o⟩
 by_cases hck2:Em m=0
 case neg =>have HD:=J (show Ph l m=[] by unfold Ph;rw[if_neg λh=>hck2 h.2]);rw[HD.o];rw[hck]at a9;obtain⟨x,hx⟩:=vE (Em m);(rw[<-hx]at hck2 b7;have e4:(x != 0)=true:=by simpa using hck2);(clear hck hck2 hx HV HU HD;unfold vQ;go_in;go_wp2_with fail);(refine a9.o.mono ?_;rintro e w1 ⟨rfl,hE⟩;have HE:=J hE;clear hE a9;go_wp2_with fail);(refine vH (b7.o w1 HE.o) λw2 hE=>?_;have d2:=J (HE.o.trans hE);clear b7 HE;go_wp2);go_ret;exact⟨_,rfl,Ar.nil _ _ d2.o⟩
 have f4:=(Ge hck).len;have f5:=(Ge hck2).len;have HD:=J (show Ph l m=Fv l m by unfold Ph;rw[if_pos ⟨hck,hck2⟩]);rw[HD.o];rw[hck]at a9;rw[hck2]at b7;clear hck hck2 HD hn1 hn2
 obtain⟨R,hR⟩:=vE (Fv l m)
 rw[<-hR];have e5:=J hR;clear hR;unfold vQ;go_in;go_wp2_with fail
 refine a9.o.mono ?_;rintro e w1 ⟨rfl,hE⟩;have HE:=J hE;clear hE a9;go_wp2_with fail
 refine vH (b7.o w1 HE.o) λw2 hE=>?_;have d2:=J (HE.o.trans hE);clear b7 HE;go_wp2
 go_loopw [5,6,7] (λv i j wr=>xY w l m v i j wr) (λ_ i j _=>(l.length-(intOf i).toNat)+(m.length-(intOf j).toNat))
 case atStart=>exact⟨0,0,0,[],rfl,rfl,by omega,by omega,by omega,Ar.nil _ _ d2.o,by simp⟩
 case round =>obtain⟨i,j,n,Z,rfl,rfl,f1⟩:=hrel;obtain⟨hi,hj,hn,c0,e6⟩:=f1;obtain⟨a2,c2,rfl⟩:=c0.sl;have HR:=J c0;have X:=J e6;clear c0 e6 d2;by_cases hjm:j<m.length;{by_cases hil:i<l.length;{obtain⟨q,hq⟩:∃ q,m[j]?=some q:=⟨_,bB hjm⟩;rcases HU.o with⟨_,_,_,h0⟩|⟨bm,om,cm,hh,hb,hc,hcell⟩;{rw[h0]at hjm;cases hjm};cases hh;obtain⟨d6,d7⟩:=hcell j q hq;have a7:=J (Am d6 HR.o.ext);have b4:=J (Am d7 HR.o.ext);have NB:Hid (¬(Value.slice a2 n c2).ownBlock=some bm):=(λe=>kL (HR.o.new bm e));have HQ:=J hq;have b2:(j:Int)<(m.length:Int):=vO;obtain⟨y1,y2⟩:=q;simp only at a7 b4;clear hcell hb hc hq;obtain⟨p,hp⟩:∃ p,l[i]?=some p:=⟨_,bB hil⟩;rcases HV.o with⟨_,_,_,h0⟩|⟨bl,ol,cl,hh,hb,hc,hcell⟩;{rw[h0]at hil;cases hil};cases hh;obtain⟨d8,d9⟩:=hcell i p hp;have a1:=J (Am d8 HR.o.ext);have b8:=J (Am d9 HR.o.ext);have HP:=J hp;have b1:(i:Int)<(l.length:Int):=vO;obtain⟨x1,x2⟩:=p;(simp only at a1 b8;clear hcell hb hc hp;have eA:((j:Int) ==(m.length:Int))=false:=by simp;omega);(have eN:((i:Int) ==(l.length:Int))=false:=by simp;omega);cases hls:Qf x1 y1 with| true =>(have HN:=J (show Z++[_]++Fv _ _=Fv l m from by rw[bZ,iJ, <-I7 HP.o HQ.o hls];exact X.o);unfold Qf at hls;clear X;go_wp2_with fail);(refine Hs [0,1,2,3,4,5,6,7,8,9,10,11,12,13,14,15,16,17,18,19,20,21,22,23] Af Aa Ap vY vY vY ?_;iterate 14 refine vK ?_);(refine Db ⟨bl,ol+i*2,none⟩ x1 rfl (λw3 H=>Bv Ag rfl (Am (by exact a1.o) ((Ao _).trans H))) (vS ?_);iterate 4 refine vK ?_);(refine Db ⟨bm,om+j*2,none⟩ y1 rfl (λw3 H=>Bv Ag rfl (Am (by exact a7.o) ((Ao _).trans H))) (vS ?_);iterate 4 refine vK ?_);(refine Hi (λw5 A=>?_);have a3:=J (HR.o.mono ((Ao _).trans A));have f2:=Am a1.o ((Ao _).trans A);clear A HR a1 b8 a7 b4;go_wp2_with (at_builtin;refine Qm Fj (a3.o.mono ((Aa _).alloc _)) (.tmp 79) (.tmp 86) rfl rfl rfl (Jx (Ae.new _ _)) (news:=[x1,(),true]) (by intro u hu;simp at hu;rcases hu with rfl|rfl|rfl<;>rfl) rfl rfl ?c1 ?c2 λv' w' r1 r2 r3=>?_));(case c1=>unfold maxLen;omega);(case c2=>omega);(have O:Ji w w' v' (n+1) (Z++[⟨x1,⟨#[]⟩,true⟩]):=by unfold Ji;rw[JO];exact r1);obtain⟨a8,c8,rfl⟩:=O.sl;(have e0:=J O;clear r1 r2 r3 O;go_wp2);go_roundw;(case rel=>exact⟨i+1,j,n+1,_,by go_num,rfl,by omega,hj,by omega,e0.o,HN.o⟩);case measure=>exact vJ| false =>(have e1:=J hls;unfold Qf at hls;go_wp2_with fail);(refine Hs [0,1,2,3,4,5,6,7,8,9,10,11,12,13,14,15,16,17,18,19,20,21,22,23] Af Aa Ap vY vY vY ?_;iterate 14 refine vK ?_);(refine Db ⟨bl,ol+i*2,none⟩ x1 rfl (λw3 H=>Bv Ag rfl (Am (by exact a1.o) ((Ao _).trans H))) (vS ?_);iterate 4 refine vK ?_);(refine Db ⟨bm,om+j*2,none⟩ y1 rfl (λw3 H=>Bv Ag rfl (Am (by exact a7.o) ((Ao _).trans H))) (vS ?_);iterate 4 refine vK ?_);refine Hi (λw5 A=>?_);have b9:=J (HR.o.mono ((Ao _).trans A));have b0:=J (Am a1.o ((Ao _).trans A));have c3:=J (Am b8.o ((Ao _).trans A));have a0:=J (Am a7.o ((Ao _).trans A));have b3:=J (Am b4.o ((Ao _).trans A));clear A HR a1 b8 a7 b4 hls;cases hlt2:Qf y1 x1 with| true =>(have HN:=J (show Z++[_]++Fv _ _=Fv l m from by rw[bZ,iJ, <-a00 HP.o HQ.o e1.o hlt2];exact X.o);unfold Qf at hlt2;clear X;go_wp2_with fail);(refine Hs [0,1,2,3,4,5,6,7,8,9,10,11,12,13,14,15,16,17] Af Aa Ap vY vY vY ?_;iterate 9 refine vK ?_);(refine Db ⟨bm,om+j*2,none⟩ y1 rfl (λw3 H=>Bv Ag rfl (Am (by exact a0.o) ((Ao _).trans H))) (vS ?_);iterate 4 refine vK ?_);(refine Db ⟨bl,ol+i*2,none⟩ x1 rfl (λw3 H=>Bv Ag rfl (Am (by exact b0.o) ((Ao _).trans H))) (vS ?_);iterate 3 refine vK ?_);(refine Hi (λw5 A=>?_);have a3:=J (b9.o.mono ((Ao _).trans A));have c5:=J (Am a0.o ((Ao _).trans A));have c7:=J (Am b3.o ((Ao _).trans A));clear A b9 b0 c3 a0 b3 hlt2;go_wp2_with fail);(refine Na [0,1,2,3,4,5,6,7,8,9,10,11,12,13,14] [12,13] Af (Ad λb=>(Value.slice a2 n c2).ownBlock=some b) Aa Ap (λx y z h k=>Ad.trans h k) (λx y h=>h.mono kZ) vY vY vY ?_;iterate 5 refine vD ?_);(refine Fa ⟨bm,om+j*2,none⟩ y1 rfl (λw3 H=>Bv Ag rfl (Ed (by exact c5.o) H NB.o)) (vS ?_);iterate 4 refine vD ?_);refine Fa ⟨bm,om+j*2+1,none⟩ y2 rfl (λw3 H=>Bv Ag rfl (Ed (by exact c7.o) H NB.o)) (vS ?_);refine vD ?_;(refine Hh _ rfl (λw6 A K hK=>?_);have b5:=J (a3.o.mono ((Ao _).trans A));clear A;go_simp;refine hK _ _ ((Ad.refl _ w6).alloc _) ?_;clear hK K;refine Hh _ rfl (λw7 A K hK=>?_);have b6:=J (b5.o.mono (((Aa w6).alloc _).trans A));have hB:∀ k u,([y1,y2,false]:List vV)[k]?=some u->w7.cell? ((w6:Addr).add k)=some u:=λk u hk=>Am (Jx (Ae.new w6 (.cells [Value.string y1,.string y2,.bool false].toArray 46)) k u hk) A;refine DE Fj b6.o (.tmp 108) (.tmp 120) rfl rfl hB (by intro u hu;simp at hu;rcases hu with rfl|rfl|rfl<;>rfl) rfl rfl zi vO (λv' w8 r1 r2 r3=>hK _ _ r2 ?_);have O:Ji w w8 v' (n+1) (Z++[⟨y1,y2,false⟩]):=by unfold Ji;rw[JO];exact r1);have a5:=J O;clear hK K A r1 r2 r3 O hB b5 b6;obtain⟨a4,c4,rfl⟩:=a5.o.sl;refine vS ?_;refine vD ?_;(refine Mt (λw9 A=>?_);have c9:=J (a5.o.mono A);clear A a5;go_wp2);go_roundw;(case rel=>exact⟨i,j+1,n+1,_,rfl,by go_num,by omega,by omega,by omega,c9.o,HN.o⟩);case measure=>exact vJ| false =>(have e7:=J hlt2;unfold Qf at hlt2;go_wp2_with fail);(refine Hs [0,1,2,3,4,5,6,7,8,9,10,11,12,13,14,15,16,17] Af Aa Ap vY vY vY ?_;iterate 9 refine vK ?_);(refine Db ⟨bm,om+j*2,none⟩ y1 rfl (λw3 H=>Bv Ag rfl (Am (by exact a0.o) ((Ao _).trans H))) (vS ?_);iterate 4 refine vK ?_);(refine Db ⟨bl,ol+i*2,none⟩ x1 rfl (λw3 H=>Bv Ag rfl (Am (by exact b0.o) ((Ao _).trans H))) (vS ?_);iterate 3 refine vK ?_);refine Hi (λw5 A=>?_);have d3:=J (b9.o.mono ((Ao _).trans A));have d4:=J (Am c3.o ((Ao _).trans A));have e2:=J (Am a0.o ((Ao _).trans A));have d0:=J (Am b3.o ((Ao _).trans A));clear A b9 b0 c3 a0 b3 hlt2;cases hvv:(x2.toList == y2.toList)with| true =>(have HN:=J (show Z++Fv _ _=Fv l m from by rw[<-a01 HP.o HQ.o e1.o e7.o hvv];exact X.o);clear X;go_wp2_with fail);(refine Hs [0,1,2,3,4,5,6,7,8,9,10] Af Aa Ap vY vY vY ?_;iterate 4 refine vK ?_);(refine Db ⟨bl,ol+i*2+1,none⟩ x2 rfl (λw3 H=>Bv Ag rfl (Am (by exact d4.o) ((Ao _).trans H))) (vS ?_);iterate 4 refine vK ?_);refine Db ⟨bm,om+j*2+1,none⟩ y2 rfl (λw3 H=>Bv Ag rfl (Am (by exact d0.o) ((Ao _).trans H))) (vS ?_);refine vK ?_;(refine Hi (λw5 A=>?_);have a3:=J (d3.o.mono ((Ao _).trans A));clear A d3 d4 e2 d0;go_wp2);go_roundw;(case rel=>exact⟨i+1,j+1,n,Z,by go_num,by go_num,by omega,by omega,by omega,a3.o,HN.o⟩);case measure=>exact vJ| false =>(have HN:=J (show Z++[_]++Fv _ _=Fv l m from by rw[bZ,iJ, <-I8 HP.o HQ.o e1.o e7.o hvv];exact X.o);clear X;go_wp2_with fail);(refine Hs [0,1,2,3,4,5,6,7,8,9,10] Af Aa Ap vY vY vY ?_;iterate 4 refine vK ?_);(refine Db ⟨bl,ol+i*2+1,none⟩ x2 rfl (λw3 H=>Bv Ag rfl (Am (by exact d4.o) ((Ao _).trans H))) (vS ?_);iterate 4 refine vK ?_);refine Db ⟨bm,om+j*2+1,none⟩ y2 rfl (λw3 H=>Bv Ag rfl (Am (by exact d0.o) ((Ao _).trans H))) (vS ?_);refine vK ?_;(refine Hi (λw5 A=>?_);have a3:=J (d3.o.mono ((Ao _).trans A));have c5:=J (Am e2.o ((Ao _).trans A));have c7:=J (Am d0.o ((Ao _).trans A));clear A d3 d4 e2 d0;go_wp2_with fail);(refine Na [0,1,2,3,4,5,6,7,8,9,10,11,12,13,14] [12,13] Af (Ad λb=>(Value.slice a2 n c2).ownBlock=some b) Aa Ap (λx y z h k=>Ad.trans h k) (λx y h=>h.mono kZ) vY vY vY ?_;iterate 5 refine vD ?_);(refine Fa ⟨bm,om+j*2,none⟩ y1 rfl (λw3 H=>Bv Ag rfl (Ed (by exact c5.o) H NB.o)) (vS ?_);iterate 4 refine vD ?_);refine Fa ⟨bm,om+j*2+1,none⟩ y2 rfl (λw3 H=>Bv Ag rfl (Ed (by exact c7.o) H NB.o)) (vS ?_);refine vD ?_;(refine Hh _ rfl (λw6 A K hK=>?_);have b5:=J (a3.o.mono ((Ao _).trans A));clear A;go_simp;refine hK _ _ ((Ad.refl _ w6).alloc _) ?_;clear hK K;refine Hh _ rfl (λw7 A K hK=>?_);have b6:=J (b5.o.mono (((Aa w6).alloc _).trans A));have hB:∀ k u,([y1,y2,false]:List vV)[k]?=some u->w7.cell? ((w6:Addr).add k)=some u:=λk u hk=>Am (Jx (Ae.new w6 (.cells [Value.string y1,.string y2,.bool false].toArray 46)) k u hk) A;refine DE Fj b6.o (.tmp 37) (.tmp 49) rfl rfl hB (by intro u hu;simp at hu;rcases hu with rfl|rfl|rfl<;>rfl) rfl rfl zi vO (λv' w8 r1 r2 r3=>hK _ _ r2 ?_);have O:Ji w w8 v' (n+1) (Z++[⟨y1,y2,false⟩]):=by unfold Ji;rw[JO];exact r1);have a5:=J O;clear hK K A r1 r2 r3 O hB b5 b6;obtain⟨a4,c4,rfl⟩:=a5.o.sl;refine vS ?_;refine vD ?_;(refine Mt (λw9 A=>?_);have c9:=J (a5.o.mono A);clear A a5;go_wp2);go_roundw;(case rel=>exact⟨i+1,j+1,n+1,_,by go_num,by go_num,by omega,by omega,by omega,c9.o,HN.o⟩);case measure=>exact vJ};obtain⟨q,hq⟩:∃ q,m[j]?=some q:=⟨_,bB hjm⟩;rcases HU.o with⟨_,_,_,h0⟩|⟨bm,om,cm,hh,hb,hc,hcell⟩;{rw[h0]at hjm;cases hjm};cases hh;obtain⟨d6,d7⟩:=hcell j q hq;have a7:=J (Am d6 HR.o.ext);have b4:=J (Am d7 HR.o.ext);have NB:Hid (¬(Value.slice a2 n c2).ownBlock=some bm):=(λe=>kL (HR.o.new bm e));have HQ:=J hq;have b2:(j:Int)<(m.length:Int):=vO;obtain⟨y1,y2⟩:=q;simp only at a7 b4;clear hcell hb hc hq;have d1:i=l.length:=vO;have b1:¬(i:Int)<(l.length:Int):=vO;(have eA:((j:Int) ==(m.length:Int))=false:=by simp;omega);(have eN:((i:Int) ==(l.length:Int))=true:=by simp;omega);(have HN:=J (show Z++[_]++Fv _ _=Fv l m from by rw[bZ,iJ, <-W7 HQ.o d1];exact X.o);clear d1 X;go_wp2_with fail);(refine Hs [0,1,2,3,4,5,6,7,8,9,10,11,12,13,14,15,16,17,18,19,20,21,22,23] Af Aa Ap vY vY vY ?_;iterate 10 refine vK ?_);(iterate 11 (refine Xh _ rfl (vS ?_)));(iterate 3 refine vK ?_);(refine Hi (λw5 A=>?_);have b9:=J (HR.o.mono ((Ao _).trans A));have e8:=J (Am a7.o ((Ao _).trans A));have e9:=J (Am b4.o ((Ao _).trans A));clear A HR a7 b4;go_wp2_with fail);(refine Hs [0,1,2,3,4,5,6,7,8,9,10,11,12,13,14,15,16,17] Af Aa Ap vY vY vY ?_;iterate 5 refine vK ?_);(iterate 11 (refine Xh _ rfl (vS ?_)));(iterate 2 refine vK ?_);(refine Hi (λw5 A=>?_);have a3:=J (b9.o.mono ((Ao _).trans A));have c5:=J (Am e8.o ((Ao _).trans A));have c7:=J (Am e9.o ((Ao _).trans A));clear A b9 e8 e9;go_wp2_with fail);(refine Na [0,1,2,3,4,5,6,7,8,9,10,11,12,13,14] [12,13] Af (Ad λb=>(Value.slice a2 n c2).ownBlock=some b) Aa Ap (λx y z h k=>Ad.trans h k) (λx y h=>h.mono kZ) vY vY vY ?_;iterate 5 refine vD ?_);(refine Fa ⟨bm,om+j*2,none⟩ y1 rfl (λw3 H=>Bv Ag rfl (Ed (by exact c5.o) H NB.o)) (vS ?_);iterate 4 refine vD ?_);refine Fa ⟨bm,om+j*2+1,none⟩ y2 rfl (λw3 H=>Bv Ag rfl (Ed (by exact c7.o) H NB.o)) (vS ?_);refine vD ?_;(refine Hh _ rfl (λw6 A K hK=>?_);have b5:=J (a3.o.mono ((Ao _).trans A));clear A;go_simp;refine hK _ _ ((Ad.refl _ w6).alloc _) ?_;clear hK K;refine Hh _ rfl (λw7 A K hK=>?_);have b6:=J (b5.o.mono (((Aa w6).alloc _).trans A));have hB:∀ k u,([y1,y2,false]:List vV)[k]?=some u->w7.cell? ((w6:Addr).add k)=some u:=λk u hk=>Am (Jx (Ae.new w6 (.cells [Value.string y1,.string y2,.bool false].toArray 46)) k u hk) A;refine DE Fj b6.o (.tmp 108) (.tmp 120) rfl rfl hB (by intro u hu;simp at hu;rcases hu with rfl|rfl|rfl<;>rfl) rfl rfl zi vO (λv' w8 r1 r2 r3=>hK _ _ r2 ?_);have O:Ji w w8 v' (n+1) (Z++[⟨y1,y2,false⟩]):=by unfold Ji;rw[JO];exact r1);have a5:=J O;clear hK K A r1 r2 r3 O hB b5 b6;obtain⟨a4,c4,rfl⟩:=a5.o.sl;refine vS ?_;refine vD ?_;(refine Mt (λw9 A=>?_);have c9:=J (a5.o.mono A);clear A a5;go_wp2);go_roundw;(case rel=>exact⟨i,j+1,n+1,_,rfl,by go_num,by omega,by omega,by omega,c9.o,HN.o⟩);case measure=>exact vJ};have d5:j=m.length:=vO;by_cases hil:i<l.length;{obtain⟨p,hp⟩:∃ p,l[i]?=some p:=⟨_,bB hil⟩;rcases HV.o with⟨_,_,_,h0⟩|⟨bl,ol,cl,hh,hb,hc,hcell⟩;{rw[h0]at hil;cases hil};cases hh;obtain⟨d8,d9⟩:=hcell i p hp;have a1:=J (Am d8 HR.o.ext);have b8:=J (Am d9 HR.o.ext);have HP:=J hp;have b1:(i:Int)<(l.length:Int):=vO;obtain⟨x1,x2⟩:=p;simp only at a1 b8;clear hcell hb hc hp;have b2:¬(j:Int)<(m.length:Int):=vO;(have eA:((j:Int) ==(m.length:Int))=true:=by simp;omega);(have HN:=J (show Z++[_]++Fv _ _=Fv l m from by rw[bZ,iJ, <-I6 HP.o d5];exact X.o);clear d5 X;go_wp2_with fail);(refine Hs [0,1,2,3,4,5,6,7,8,9,10,11,12,13,14,15,16,17,18,19,20,21,22,23] Af Aa Ap vY vY vY ?_;iterate 5 refine vK ?_);(iterate 17 (refine Xh _ rfl (vS ?_)));(iterate 2 refine vK ?_);(refine Hi (λw5 A=>?_);have a3:=J (HR.o.mono ((Ao _).trans A));have f2:=Am a1.o ((Ao _).trans A);clear A HR a1 b8;go_wp2_with (at_builtin;refine Qm Fj (a3.o.mono ((Aa _).alloc _)) (.tmp 79) (.tmp 86) rfl rfl rfl (Jx (Ae.new _ _)) (news:=[x1,(),true]) (by intro u hu;simp at hu;rcases hu with rfl|rfl|rfl<;>rfl) rfl rfl ?c1 ?c2 λv' w' r1 r2 r3=>?_));(case c1=>unfold maxLen;omega);(case c2=>omega);(have O:Ji w w' v' (n+1) (Z++[⟨x1,⟨#[]⟩,true⟩]):=by unfold Ji;rw[JO];exact r1);obtain⟨a8,c8,rfl⟩:=O.sl;(have e0:=J O;clear r1 r2 r3 O;go_wp2);go_roundw;(case rel=>exact⟨i+1,j,n+1,_,by go_num,rfl,by omega,hj,by omega,e0.o,HN.o⟩);case measure=>exact vJ};have d1:i=l.length:=vO;have HF:=J (show Z=R by have h:=X.o;rw[xD d1 d5,cC, <-e5.o]at h;exact h);have b1:¬(i:Int)<(l.length:Int):=vO;have b2:¬(j:Int)<(m.length:Int):=vO;(have f0:n=R.length:=by have:=HR.o.len;rw[HF.o]at this;rw[TJ]at this;omega);(have f3:=J f0;clear d1 d5 f0 X e5;go_wp2);go_ret;exact⟨_,rfl,by rw[<-f3.o, <-HF.o];exact HR.o⟩
abbrev Br.k(c:Br):vN:=c.key.data.toList
def Br.o(c:Br):Option vB:=if c.gone then none else some c.value
theorem TR{k:vN}:∀ {cs:List Br},(∀ c∈cs,c.k≠k)->∀ o,cs.foldl (DG k) o=o
 |[],_,_=>rfl
 |c::r,h,o=>by
  have e:DG k o c=o:=by unfold DG;rw[if_neg λe=>h c bN e.symm]
  rw[dQ,e,TR λx q=>h x (bM _ q)]
theorem lI{c:Br}:∀ {cs:List Br},c∈cs->(cs.map Br.k).Nodup->∀ o,cs.foldl (DG c.k) o=c.o
 |[],h,_,_=>by cases h
 |d::r,h,hn,o=>by
  rw[bP,dL]at hn;rw[dQ];rcases bU.1 h with rfl|h
  ·rw[TR λx q e=>hn.1 (by rw[<-e];exact gF q)]
   unfold DG Br.o;rw[if_pos rfl]
  ·exact lI h hn.2 _
structure DJ(l m:vL)(cs:List Br):Prop where
 keys:(cs.map Br.k).Nodup
 done:∀ c∈cs,look m c.k=c.o
 rest:∀ k,(∀ c∈cs,c.k≠k)->look l k=look m k
 fine:cs.any Br.bad=false
theorem DJ.looks(h:DJ l m cs)(k:vN):cs.foldl (DG k) (look l k)=look m k:=by
 by_cases hk:∃ c∈cs,c.k=k
 ·obtain⟨c,q,rfl⟩:=hk;rw[lI q h.keys,h.done c q]
 ·have A:∀ c∈cs,c.k≠k:=λc q e=>hk ⟨c,q,e⟩;rw[TR A,h.rest k A]
def AO(l:vL):Prop:=(∀ p∈l,We p)/\XY l
theorem AO.tail(h:AO (p::l)):AO l:=⟨λq e=>h.1 q (bM _ e),(fU.1 h.2).2⟩
theorem AO.head(h:AO (p::l)):We p:=h.1 p bN
theorem AO.lt(h:AO (p::l)):∀ q∈l,Lt p.k q.k:=(fU.1 h.2).1
theorem c8(l m:vL):∀ c∈Fv l m,c.k∈l.map Ay.k\/c.k∈m.map Ay.k:=by
 fun_induction Fv l m with
 |case1=>intro c e;cases e
 |case2 p l ih =>(intro c e;rcases bU.1 e with rfl|e;{exact .inl (by simp[Br.k,Ay.k])};rcases ih c e with h|h;{exact .inl (bM _ h)};exact .inr h)
 |case3 q m ih =>(intro c e;rcases bU.1 e with rfl|e;{exact .inr (by simp[Br.k,Ay.k])};rcases ih c e with h|h;{exact .inl h};exact .inr (bM _ h))
 |case4 p l q m h ih =>(intro c e;rcases bU.1 e with rfl|e;{exact .inl (by simp[Br.k,Ay.k])};rcases ih c e with h|h;{exact .inl (bM _ h)};exact .inr h)
 |case5 p l q m h h2 ih =>(intro c e;rcases bU.1 e with rfl|e;{exact .inr (by simp[Br.k,Ay.k])};rcases ih c e with h|h;{exact .inl h};exact .inr (bM _ h))
 |case6 p l q m h h2 h3 ih =>(intro c e;rcases ih c e with h|h;{exact .inl (bM _ h)};exact .inr (bM _ h))
 |case7 p l q m h h2 h3 ih =>intro c e;rcases bU.1 e with rfl|e;{exact .inr (by simp[Br.k,Ay.k])};rcases ih c e with h|h;{exact .inl (bM _ h)};exact .inr (bM _ h)
theorem j6{k:vN}(h:∀ q∈m,Lt k q.k):look m k=none:=lK λA=>by
 obtain⟨q,H,e⟩:=bC.1 A
 exact lt_irrefl _ (e ▸ h q H)
theorem IB{k:vN}(h1:∀ q∈l,Lt k q.k)(h2:∀ q∈m,Lt k q.k):∀ c∈Fv l m,Lt k c.k:=λc H=>by
 rcases c8 l m c H with h|h
 ·obtain⟨q,A,e⟩:=bC.1 h;rw[<-e];exact h1 q A
 ·obtain⟨q,A,e⟩:=bC.1 h;rw[<-e];exact h2 q A
theorem DJ.cons(h:DJ l m cs)(hk:∀ d∈cs,Lt c.k d.k)(hc:look m' c.k=c.o)(hb:c.bad=false)
  (hl:∀ k,k≠c.k->look l' k=look l k) (hm:∀ k,k≠c.k->look m' k=look m k):DJ l' m' (c::cs):=by
 refine⟨?_,?_,?_,?_⟩
 ·rw[bP,dL];refine⟨λA=>?_,h.keys⟩;obtain⟨d,q,e⟩:=bC.1 A;exact lt_irrefl _ (e ▸ hk d q)
 ·intro d q;rcases bU.1 q with rfl|q;{exact hc};rw[hm _ λe=>lt_irrefl _ (e ▸ hk d q),h.done d q]
 ·intro k A;have H:k≠c.k:=λe=>A c bN e.symm;rw[hl k H,hm k H,h.rest k λd q=>A d (bM _ q)]
 ·rw[List.any_cons,hb,h.fine];rfl
theorem qO(h:We p):Br.bad ⟨p.1,⟨#[]⟩,true⟩=false:=by
 unfold Br.bad;rw[h.1];rfl
theorem XN(h:We p):Br.bad ⟨p.1,p.2,false⟩=false:=by
 unfold Br.bad;rw[h.1,h.2];rfl
theorem KL(q:Ay)(m:vL):look (q::m) q.k=some q.2:=by rw[GL,if_pos rfl]
theorem BH{k:vN}(h:k≠q.k):look (q::m) k=look m k:=by rw[GL,if_neg h]
theorem xR:∀ (l m:vL),AO l->AO m->DJ l m (Fv l m):=by
 intro l m
 fun_induction Fv l m with
 |case1=>exact λ_ _=>⟨by simp,by simp,λ_ _=>rfl,rfl⟩
 |case2 p l ih =>intro H A;refine (ih H.tail A).cons (IB H.lt (by simp)) rfl (qO H.head) (λk K=>BH K) (λ_ _=>rfl)
 |case3 q m ih =>intro H A;exact (ih H A.tail).cons (IB (by simp) A.lt) (KL q m) (XN A.head) (λ_ _=>rfl) (λk K=>BH K)
 |case4 p l q m h ih =>(intro H A;have Z:=(GK _ _).1 h;have hq:∀ x∈q::m,Lt p.k x.k:=λx O=>by rcases bU.1 O with rfl|O;{exact Z};exact KM _ _ _ Z (A.lt x O));refine (ih H.tail A).cons (IB H.lt hq) (j6 hq) (qO H.head) (λk K=>BH K) (λ_ _=>rfl)
 |case5 p l q m h h' ih =>(intro H A;have Z:=(GK _ _).1 h';have hp:∀ x∈p::l,Lt q.k x.k:=λx O=>by rcases bU.1 O with rfl|O;{exact Z};exact KM _ _ _ Z (H.lt x O));exact (ih H A.tail).cons (IB hp A.lt) (KL q m) (XN A.head) (λ_ _=>rfl) (λk K=>BH K)
 |case6 p l q m h h' h3 ih =>(intro H A;have K:p.k=q.k:=by rcases PQ p.k q.k with e|e|e;{exact absurd ((GK _ _).2 e) h};{exact e};exact absurd ((GK _ _).2 e) h');(have hv:p.2=q.2:=by rw[cA,cA]at h3;obtain⟨⟨⟨a⟩⟩,⟨⟨b⟩⟩⟩:=p;obtain⟨⟨⟨c⟩⟩,⟨⟨d⟩⟩⟩:=q;simp at h3;simp[h3]);have:=mN K hv;subst this;have hi:=ih H.tail A.tail;have X:=IB H.lt A.lt;refine⟨hi.keys,λc hc=>?_,λk hh=>?_,hi.fine⟩;{rw[BH λe=>lt_irrefl _ (e ▸ X c hc),hi.done c hc]};by_cases e:k=p.k;{rw[e,KL,KL]};rw[BH e,BH e,hi.rest k hh]
 |case7 p l q m h h' h3 ih =>(intro H A;have K:p.k=q.k:=by rcases PQ p.k q.k with e|e|e;{exact absurd ((GK _ _).2 e) h};{exact e};exact absurd ((GK _ _).2 e) h');have X:=IB (λx O=>K ▸ H.lt x O) A.lt;exact (ih H.tail A.tail).cons X (KL q m) (XN A.head) (λk e=>BH (by rw[K];exact e)) (λk e=>BH e)
theorem jS(h:Em l=0):AO l:=⟨qM h,(Ge h).rise⟩
theorem aV(h1:Em l=0)(h2:Em m=0):DJ l m (Ph l m):=by
 unfold Ph;rw[if_pos ⟨h1,h2⟩];exact xR l m (jS h1) (jS h2)
structure Au where
 block:Nat
 ents:vL
 chgs:List Br
 pins:Nat
structure Dm where
 win:Nat
 next:Nat
 all:List Au
def Si(win next:Nat)(v:Au):Bool:=decide (next<=v.block+win) || decide (0<v.pins)
def Iu(win next:Nat):List Au->List Au
 |[]=>[]
 |[v]=>[v]
 |v::u::t=>if Si win next v=true then v::Iu win next (u::t)else Iu win next (u::t)
theorem FW{v:Au}{t:List Au}(h:t≠[]):Iu win next (v::t)=if Si win next v=true then v::Iu win next t else Iu win next t:=by
 cases t with
 |nil=>exact absurd rfl h
 |cons u t=>rfl
theorem NY{win next:Nat}:∀ {l:List Au},l≠[]->Iu win next l≠[]
 |[],h=>h
 |[v],_=>by show [v]≠[];simp
 |v::u::t,_=>by
  rw[FW (by simp)];split
  ·simp
  ·exact NY (by simp)
theorem BG{win next:Nat}:∀ {l:List Au},(Iu win next l).Sublist l
 |[]=>.refl _
 |[v]=>.refl _
 |v::u::t=>by
  rw[FW (by simp)];split
  ·exact (BG (l:=u::t)).cons_cons v
  ·exact (BG (l:=u::t)).cons v
theorem KV{α:Type}{a b:List α}(h:b≠[]):(a++b).getLast?=b.getLast?:=by
 rw[List.getLast?_append];cases e:b.getLast? with
 |none=>exact absurd (List.getLast?_eq_none_iff.1 e) h
 |some x=>rfl
theorem NJ{win next:Nat}:∀ {l:List Au},(Iu win next l).getLast?=l.getLast?
 |[]=>rfl
 |[v]=>rfl
 |v::u::t=>by
  have e:=NJ (win:=win) (next:=next) (l:=u::t);rw[FW (by simp)];have q:=NY (win:=win) (next:=next) (l:=u::t) (by simp);split
  ·rw[show v::Iu win next (u::t)=[v]++Iu win next (u::t)from rfl,show v::u::t=[v]++(u::t)from rfl,KV q,KV (by simp)]
   exact e
  ·rw[show v::u::t=[v]++(u::t)from rfl,KV (by simp)]
   exact e
def Qu(win next:Nat):List Au->Prop
 |[]=>True
 |[_]=>True
 |v::u::t=>Si win next v=true/\Qu win next (u::t)
theorem jP{v:Au}{t:List Au}(h:t≠[]):Qu win next (v::t)↔Si win next v=true/\Qu win next t:=by
 cases t with
 |nil=>exact absurd rfl h
 |cons u t=>exact Iff.rfl
theorem NI{win next:Nat}:∀ {l:List Au},Qu win next (Iu win next l)
 |[]=>trivial
 |[v]=>trivial
 |v::u::t=>by
  rw[FW (by simp)];have e:=NY (win:=win) (next:=next) (l:=u::t) (by simp);split
  ·rename_i h
   exact (jP e).2 ⟨h,NI⟩
  ·exact NI
theorem qS{win next:Nat}:∀ {l:List Au},Qu win next l->∀ {i:Nat} {v:Au},l[i]?=some v->i+1=l.length\/Si win next v=true
 |[],_,i,v,h=>by simp at h
 |[u],_,0,v,h=>.inl rfl
 |[u],_,i+1,v,h=>by simp at h
 |x::u::t,hk,0,v,h=>by
  have e:x=v:=by simpa using h
  exact .inr (e ▸ hk.1)
 |x::u::t,hk,i+1,v,h=>by
  rcases qS hk.2 (i:=i) (v:=v) (by simpa using h)with e|e
  ·exact .inl (by simp only[bQ]at e ⊢;omega)
  ·exact .inr e
structure YT(v:Au):Prop where
 map:Em v.ents=0
 pins:v.pins<=1048576
 chgs:v.chgs.length<=80
 fine:v.chgs.any Br.bad=false
structure Fh(M:Dm):Prop where
 win:1<=M.win/\M.win<=8
 next:1<=M.next/\M.next<=1048576
 last:∃ v,M.all.getLast?=some v/\v.block+1=M.next
 rise:M.all.Pairwise λa b=>a.block<b.block
 ver:∀ v∈M.all,YT v
 kept:Qu M.win M.next M.all
theorem Fh.ne{M:Dm}(h:Fh M):M.all≠[]:=λe=>by
 obtain⟨v,q,_⟩:=h.last
 rw[e]at q;cases q
theorem Fh.less{M:Dm}(h:Fh M):∀ v∈M.all,v.block<M.next:=λv q=>by
 obtain⟨u,K,e⟩:=h.last
 obtain⟨A,H⟩:=List.getLast?_eq_some_iff.1 K
 rw[H]at q;rcases bR.1 q with q|q
 ·have:=(jJ.1 (H ▸ h.rise)).2.2 v q u (by simp)
  omega
 ·rw[bG.1 q];omega
def Nu(M:Dm):Au:=M.all.getLast?.getD ⟨0,[],[],0⟩
def Js(window:Int):Dm:=⟨(min (max window 1) 8).toNat,1,[⟨0,[],[],0⟩]⟩
theorem wN(window:Int):Fh (Js window):=by
 refine⟨⟨?_,?_⟩,⟨bO _,by show 1<=1048576;decide⟩,⟨⟨0,[],[],0⟩,rfl,rfl⟩,by show List.Pairwise _ [_];simp,λv e=>?_,trivial⟩
 ·show 1<=(min (max window 1) 8).toNat;omega
 ·show (min (max window 1) 8).toNat<=8;omega
 ·have e:v∈[(⟨0,[],[],0⟩:Au)]:=e;rw[bG.1 e];exact⟨by decide,by decide,by decide,rfl⟩
def Hn(M:Dm)(cs:List Br):Dm × Nat × Int:=
 if Ez (Nu M).ents cs≠0 then (M,0,Ez (Nu M).ents cs)
 else if M.next=1048576 then (M,0,12)
 else (⟨M.win,M.next+1,Iu M.win (M.next+1) (M.all++[⟨M.next,Jc (Pf (Nu M).ents cs),Ph (Nu M).ents (Jc (Pf (Nu M).ents cs)),0⟩])⟩,M.next,0)
theorem aU(h1:l.length<=40)(h2:m.length<=40):(Ph l m).length<=80:=by
 have e:∀ l m:vL,(Fv l m).length<=l.length+m.length:=λl m=>by fun_induction Fv l m<;>simp only[bQ,cZ]at *<;>omega
 unfold Ph;split
 ·have:=e l m;omega
 ·simp
theorem Fh.newest{M:Dm}(h:Fh M):Nu M∈M.all/\(Nu M).block+1=M.next:=by
 obtain⟨v,q,e⟩:=h.last
 unfold Nu;rw[q]
 exact⟨List.mem_of_getLast? q,e⟩
theorem k7{M:Dm}(h:Fh M)(cs:List Br):Fh (Hn M cs).1:=by
 unfold Hn;split
 ·exact h
 split
 ·exact h
 rename_i A h1
 have A:Ez (Nu M).ents cs=0:=Classical.not_not.1 A;have X:=h.next;have e:=Zo A;have H:=aV (h.ver _ h.newest.1).map e;have K:=h.less
 refine⟨h.win,⟨by show 1<=M.next+1;omega,by show M.next+1<=_;omega⟩,⟨_,by show (Iu _ _ _).getLast?=_;rw[NJ,KV (by simp)];rfl,rfl⟩,?_,λv q=>?_,NI⟩
 ·refine List.Pairwise.sublist BG ?_;rw[jJ];exact⟨h.rise,by simp,λa O b hb=>by rw[bG.1 hb];exact K a O⟩
 ·rcases bR.1 (BG.subset q)with q|q;{exact h.ver v q};rw[bG.1 q];exact⟨e,cD _,aU (Ge (h.ver _ h.newest.1).map).len (Ge e).len,H.fine⟩
def Jp(l:List Au)(block:Int):Option Nat:=l.findIdx? λv=>decide ((v.block:Int)=block)
theorem MY{l:List Au}{b:Int}(h:Jp l b=some i):∃ v,l[i]?=some v/\(v.block:Int)=b:=by
 unfold Jp at h;rw[gC]at h
 obtain⟨e,q,_⟩:=h
 exact⟨l[i],bB e,of_decide_eq_true q⟩
theorem k2{l:List Au}{b:Int}(h:Jp l b=none):∀ v∈l,(v.block:Int)≠b:=λv q e=>by
 unfold Jp at h;rw[List.findIdx?_eq_none_iff]at h
 have:=h v q
 simp[e]at this
def EI(v:Au)(p:Nat):Au:=⟨v.block,v.ents,v.chgs,p⟩
def Lz(M:Dm)(i:Nat)(v:Au)(p:Nat):List Au:=M.all.set i (EI v p)
def JA(M:Dm)(at':Int):Option Nat:=if at' = -1 then some (M.all.length-1)else Jp M.all at'
def Gd(M:Dm)(at':Int):Dm × Nat × Int:=match JA M at' with
 |none=>(M,0,4)
 |some i=>match M.all[i]? with
  |none=>(M,0,4)
  |some v=>if v.pins=1048576 then (M,0,12)else (⟨M.win,M.next,Lz M i v (v.pins+1)⟩,v.block,0)
def Nv(M:Dm)(b:Int):Dm × Int:=match Jp M.all b with
 |none=>(M,4)
 |some i=>match M.all[i]? with
  |none=>(M,4)
  |some v=>if v.pins=0 then (M,4)else (⟨M.win,M.next,Iu M.win M.next (Lz M i v (v.pins-1))⟩,0)
theorem h2{M:Dm}{v:Au}{p:Nat}(h:M.all[i]?=some v):(Lz M i v p).map Au.block=M.all.map Au.block:=by
 unfold Lz;rw[gV];refine iZ λj=>?_;rw[iW];split
 ·rename_i e;subst e;rw[bY,h];have q:=(bI.1 h).1;rw[if_pos (by rw[bT];exact q)];rfl
 ·rfl
theorem tG{M:Dm}(hM:Fh M){v:Au}{p:Nat}(h:M.all[i]?=some v)(hp:p<=1048576):(∃ u,(Lz M i v p).getLast?=some u/\u.block+1=M.next)/\(Lz M i v p).Pairwise (λa b=>a.block<b.block)/\∀ u∈Lz M i v p,YT u:=by
 have hb:=h2 (p:=p) h
 refine⟨?_,?_,λu A=>?_⟩
 ·obtain⟨u,A,e⟩:=hM.last;(have q:((Lz M i v p).map Au.block).getLast?=some u.block:=by rw[hb,List.getLast?_map,A];rfl);rw[List.getLast?_map,dH]at q;obtain⟨H,q,K⟩:=q;exact⟨H,q,by rw[K];exact e⟩
 ·have q:=gO.2 hM.rise;rw[<-hb]at q;exact gO.1 q
 ·unfold Lz at A;rcases fR A with A|rfl;{exact hM.ver u A};have:=hM.ver v (bD h);exact⟨this.map,hp,this.chgs,this.fine⟩
theorem nH{win next:Nat}{x:Au}(hx:Si win next x=true):∀ {l:List Au} {i:Nat},Qu win next l->Qu win next (l.set i x)
 |[],_,_=>trivial
 |[v],0,_=>trivial
 |[v],i+1,_=>trivial
 |v::u::t,0,h=>⟨hx,h.2⟩
 |v::u::t,i+1,h=>by
  have:=nH hx (l:=u::t) (i:=i) h.2
  show Qu win next (v ::(u::t).set i x);exact (jP (by simp)).2 ⟨h.1,this⟩
theorem yZ{M:Dm}(h:Fh M)(at':Int):Fh (Gd M at').1:=by
 unfold Gd;split
 ·exact h
 split
 ·exact h
 split
 ·exact h
 rename_i v hv hp
 have:=(h.ver v (bD hv)).pins
 obtain⟨e,q,A⟩:=tG h hv (p:=v.pins+1) vO
 refine⟨h.win,h.next,e,q,A,nH ?_ h.kept⟩
 unfold Si EI
 simp
theorem M5{M:Dm}(h:Fh M)(b:Int):Fh (Nv M b).1:=by
 unfold Nv;split
 ·exact h
 split
 ·exact h
 split
 ·exact h
 rename_i v hv hp
 have:=(h.ver v (bD hv)).pins
 obtain⟨e,q,A⟩:=tG h hv (p:=v.pins-1) vO
 exact⟨h.win,h.next,by show ∃ u,(Iu _ _ _).getLast?=some u/\_;rw[NJ];exact e,q.sublist BG,λu H=>A u (BG.subset H),NI⟩
def Fs(w w':vW):Nat->Prop:=λb=>(w:Nat)<=b/\b<(w':Nat)
def Ga(D:Nat->Prop)(w:vW)(v:vV)(xs:vL):Prop:=Jv w v xs/\∀ b,v.ownBlock=some b->D b
def Fz(D:Nat->Prop)(w:vW)(v:vV)(xs:List Br):Prop:=Jj w v xs/\∀ b,v.ownBlock=some b->D b
theorem Jv.Z{xs:vL}(h:Jv w v xs)(k:Ad F w w')(hF:∀ b,v.ownBlock=some b->¬ F b):Jv w' v xs:=by
 rcases h with h|⟨b,o,c,rfl,h2,h3,h4⟩
 ·exact .inl h
 ·have hb:=hF b rfl;exact .inr ⟨b,o,c,rfl,bE h2 k.size,h3,λj x e=>⟨Ed (h4 j x e).1 k hb,Ed (h4 j x e).2 k hb⟩⟩
theorem Jj.Z(h:Jj w v xs)(k:Ad F w w')(hF:∀ b,v.ownBlock=some b->¬ F b):Jj w' v xs:=by
 rcases h with h|⟨b,o,c,rfl,h2,h3,h4⟩
 ·exact .inl h
 ·have hb:=hF b rfl;exact .inr ⟨b,o,c,rfl,bE h2 k.size,h3,λj x e=>⟨Ed (h4 j x e).1 k hb,Ed (h4 j x e).2.1 k hb,Ed (h4 j x e).2.2 k hb⟩⟩
theorem Ga.Z{xs:vL}(h:Ga D w v xs)(k:Ad F w w')(hF:∀ b,D b->¬ F b):Ga D w' v xs:=⟨h.1.Z k λb e=>hF b (h.2 b e),h.2⟩
theorem Fz.Z(h:Fz D w v xs)(k:Ad F w w')(hF:∀ b,D b->¬ F b):Fz D w' v xs:=⟨h.1.Z k λb e=>hF b (h.2 b e),h.2⟩
theorem Ga.mono{xs:vL}(h:Ga D w v xs)(k:∀ b,D b->E b):Ga E w v xs:=⟨h.1,λb e=>k b (h.2 b e)⟩
theorem Fz.mono(h:Fz D w v xs)(k:∀ b,D b->E b):Fz E w v xs:=⟨h.1,λb e=>k b (h.2 b e)⟩
structure DL(D:Nat->Prop)(w:World)(b o:Nat)(x:Au):Prop where
 block:w.cell? ⟨b,o,none⟩=some (.int .i64 (x.block:Int))
 ents:∃ v,w.cell? ⟨b,o+1,none⟩=some v/\Ga D w v x.ents
 chgs:∃ v,w.cell? ⟨b,o+2,none⟩=some v/\Fz D w v x.chgs
 pins:w.cell? ⟨b,o+3,none⟩=some (.int .i64 (x.pins:Int))
def Dh(D:Nat->Prop)(w:vW)(v:vV)(l:List Au):Prop:=
 (∃ a c,v=.slice a 0 c/\l=[])\/∃ b o c,v=.slice (some ⟨b,o,none⟩) l.length c/\D b/\b<(w:Nat)/\l.length<=c/\∀ (j:Nat) x,l[j]?=some x->DL D w b (o+j*4) x
theorem DL.Z{b o:Nat}{x:Au}(h:DL D w b o x)(k:Ad F w w')(hb:¬ F b)(hF:∀ b,D b->¬ F b):DL D w' b o x:=by
 obtain⟨e,q,A⟩:=h.ents
 obtain⟨H,K,O⟩:=h.chgs
 exact⟨Ed h.block k hb,⟨e,Ed q k hb,A.Z k hF⟩,⟨H,Ed K k hb,O.Z k hF⟩,Ed h.pins k hb⟩
theorem DL.mono{b o:Nat}{x:Au}(h:DL D w b o x)(k:∀ b,D b->E b):DL E w b o x:=by
 obtain⟨e,q,A⟩:=h.ents
 obtain⟨H,K,O⟩:=h.chgs
 exact⟨h.block,⟨e,q,A.mono k⟩,⟨H,K,O.mono k⟩,h.pins⟩
theorem Dh.Z{l:List Au}(h:Dh D w v l)(k:Ad F w w')(hF:∀ b,D b->¬ F b):Dh D w' v l:=by
 rcases h with h|⟨b,o,c,h1,h2,h3,h4,h5⟩
 ·exact .inl h
 ·exact .inr ⟨b,o,c,h1,h2,bE h3 k.size,h4,λj x e=>(h5 j x e).Z k (hF b h2) hF⟩
theorem Dh.ext{l:List Au}(h:Dh D w v l)(k:Af w w'):Dh D w' v l:=h.Z k λ_ _ e=>e
theorem Dh.mono{l:List Au}(h:Dh D w v l)(k:∀ b,D b->E b):Dh E w v l:=by
 rcases h with h|⟨b,o,c,h1,h2,h3,h4,h5⟩
 ·exact .inl h
 ·exact .inr ⟨b,o,c,h1,k b h2,h3,h4,λj x e=>(h5 j x e).mono k⟩
theorem Dh.sl{l:List Au}(h:Dh D w v l):∃ a c,v=.slice a l.length c:=by
 rcases h with⟨a,c,h1,h2⟩|⟨b,o,c,h1,_⟩
 ·exact⟨a,c,by rw[h1,h2];rfl⟩
 ·exact⟨_,c,h1⟩
structure VX where
 v:Au
 ev:vV
 cv:vV
def VX.cells(x:VX):List vV:=[(x.v.block:Int),x.ev,x.cv,(x.v.pins:Int)]
def Hw(l:List VX):List vV:=l.flatMap VX.cells
theorem Zv:∀ l:List VX,(Hw l).length=l.length*4
 |[]=>rfl
 |x::t=>by
  show (x.cells++Hw t).length=_;rw[bK,Zv t,bQ];show 4+_=_;omega
theorem KC:∀ (l:List VX) (j:Nat) (x:VX),l[j]?=some x->∀ i,i<4->(Hw l)[j*4+i]?=x.cells[i]?
 |[],j,x,h=>by simp at h
 |y::t,0,x,h=>λi q=>by
  have e:y=x:=by simpa using h
  subst e;show (y.cells++Hw t)[0*4+i]?=_;rw[iS,bX,cJ (show i<y.cells.length from q)]
 |y::t,j+1,x,h=>λi q=>by
  show (y.cells++Hw t)[(j+1)*4+i]?=_;rw[cN (show y.cells.length<=_ from by show 4<=_;omega),show (j+1)*4+i-y.cells.length=j*4+i by show _-4=_;omega];exact KC t j x (by simpa using h) i q
def DA(D:Nat->Prop)(w:vW)(l:List VX):Prop:=∀ x∈l,Ga D w x.ev x.v.ents/\Fz D w x.cv x.v.chgs
theorem Lq:(prog.info? 91).map (λi=>(i.zero,i.size,i.bytes))=some (some (.agg #[qa,qe,qe,qa]),4,64):=vY
theorem Ky:prog.underlying 70=some (.slice 91):=vY
theorem Oi:Mn prog 70 91 4 64:=Mn.mk' Ky Lq rfl vI
def FE:VX:=⟨⟨0,[],[],0⟩,qe,qe⟩
theorem Cb(w:vW):(Instr.alloc 91 true (.tuple #[])).run prog w=.ok w (w.alloc (.cells FE.cells.toArray 91)):=vY
theorem Bo:(prog.info? 91).map (·.size)=some 4:=vY
theorem Ui:Xq (prog.underlying 91)=true:=vY
theorem U_(W:vW)(b o:Nat)(vs:List vV)(hl:vs.length=4)(h:∀ i v,vs[i]?=some v->W.cell? ⟨b,o+i,none⟩=some v):(Instr.loadAt 91 (.pointer (some ⟨b,o,none⟩))).run prog W=.ok (.agg vs.toArray) W:=by
 obtain⟨A,e⟩:=Yo Ui
 exact Yr e (by rw[hl];exact Bo) (λj v q=>by rw[Go.WideShapes.add_plain];exact h j v q)
theorem Uf:Xq (prog.underlying 72)=true:=vY
theorem Aq:(prog.info? 72).map (·.size)=some 3:=vY
theorem JR(W:vW)(b o:Nat)(vs:List vV)(hl:vs.length=3)(h:∀ i v,vs[i]?=some v->W.cell? ⟨b,o+i,none⟩=some v):(Instr.loadAt 72 (.pointer (some ⟨b,o,none⟩))).run prog W=.ok (.agg vs.toArray) W:=by
 obtain⟨A,e⟩:=Yo Uf
 exact Yr e (by rw[hl];exact Aq) (λj v q=>by rw[Go.WideShapes.add_plain];exact h j v q)
theorem SA(W:vW)(b o:Nat)(vs:List vV)(hl:vs.length=4)(h:∀ i v,vs[i]?=some v->W.cell? ⟨b,o+i,none⟩=some v):(loadVar 91 ⟨b,o,none⟩).run prog W=.ok (.agg vs.toArray) W:=by
 have:=U_ W b o vs hl h
 simpa [Instr.loadAt,Instr.sureAddr,bS,Result.andThen]using this
theorem Vl(W:vW)(b o:Nat)(vs:List vV)(hl:vs.length=3)(h:∀ i v,vs[i]?=some v->W.cell? ⟨b,o+i,none⟩=some v):(loadVar 72 ⟨b,o,none⟩).run prog W=.ok (.agg vs.toArray) W:=by
 have:=JR W b o vs hl h
 simpa [Instr.loadAt,Instr.sureAddr,bS,Result.andThen]using this
def Il(M:Dm)(av:vV):vV:=.agg #[(M.win:Int),(M.next:Int),av]
structure DU(sz:Nat)(w:World)(v:Value)(m:Nat)(cs:List Value):Prop where
 len:cs.length=m*sz
 one:∀ u∈cs,u.oneCell'=true
 at':(∃ a c,v=.slice a 0 c/\m=0)\/∃ b o c,v=.slice (some ⟨b,o,none⟩) m c/\∀ j u,cs[j]?=some u->w.cell? ⟨b,o+j,none⟩=some u
theorem DU.ext{m:Nat}{cs:List vV}(h:DU sz w v m cs)(k:Af w w'):DU sz w' v m cs:=by
 refine⟨h.len,h.one,?_⟩
 rcases h.at' with h|⟨b,o,c,h1,h2⟩
 ·exact .inl h
 ·exact .inr ⟨b,o,c,h1,λj u e=>Am (h2 j u e) k⟩
theorem TK:∀ (xs:vL) (j:Nat) (u:vV),(Qp xs)[j]?=some u->∃ i p,xs[i]?=some p/\((j=i*2/\u=.string p.1)\/(j=i*2+1/\u=.string p.2))
 |[],j,u,h=>by simp[Qp]at h
 |x::t,0,u,h=>⟨0,x,rfl,.inl ⟨rfl,by simpa [Qp]using h.symm⟩⟩
 |x::t,1,u,h=>⟨0,x,rfl,.inr ⟨rfl,by simpa [Qp]using h.symm⟩⟩
 |x::t,j+2,u,h=>by
  have h:(Qp t)[j]?=some u:=by simpa [Qp]using h
  obtain⟨i,p,e,q⟩:=TK t j u h
  exact⟨i+1,p,by simpa using e,q.imp (λ⟨a,b⟩=>⟨by omega,b⟩) λ⟨a,b⟩=>⟨by omega,b⟩⟩
theorem TI:∀ (xs:List Br) (j:Nat) (u:vV),(Pg xs)[j]?=some u->∃ i p,xs[i]?=some p/\((j=i*3/\u=.string p.key)\/(j=i*3+1/\u=.string p.value)\/(j=i*3+2/\u=.bool p.gone))
 |[],j,u,h=>by simp[Pg]at h
 |x::t,0,u,h=>⟨0,x,rfl,.inl ⟨rfl,by simpa [Pg]using h.symm⟩⟩
 |x::t,1,u,h=>⟨0,x,rfl,.inr (.inl ⟨rfl,by simpa [Pg]using h.symm⟩)⟩
 |x::t,2,u,h=>⟨0,x,rfl,.inr (.inr ⟨rfl,by simpa [Pg]using h.symm⟩)⟩
 |x::t,j+3,u,h=>by
  have h:(Pg t)[j]?=some u:=by simpa [Pg]using h
  obtain⟨i,p,e,q⟩:=TI t j u h
  exact⟨i+1,p,by simpa using e,q.imp (λ⟨a,b⟩=>⟨by omega,b⟩) λh=>h.imp (λ⟨a,b⟩=>⟨by omega,b⟩) λ⟨a,b⟩=>⟨by omega,b⟩⟩
theorem Jv.g{xs:vL}(h:Jv w v xs):DU 2 w v xs.length (Qp xs):=by
 refine⟨NG xs,λu e=>?_,?_⟩
 ·obtain⟨j,A⟩:=dP e;obtain⟨i,p,_,⟨_,rfl⟩|⟨_,rfl⟩⟩:=TK xs j u A<;>rfl
 ·rcases h with⟨a,c,h1,h2⟩|⟨b,o,c,h1,h2,h3,h4⟩;{exact .inl ⟨a,c,h1,by rw[h2];rfl⟩};refine .inr ⟨b,o,c,h1,λj u e=>?_⟩;obtain⟨i,p,q,⟨rfl,rfl⟩|⟨rfl,rfl⟩⟩:=TK xs j u e;{exact (h4 i p q).1};exact (h4 i p q).2
theorem Jj.g(h:Jj w v xs):DU 3 w v xs.length (Pg xs):=by
 refine⟨TJ xs,λu e=>?_,?_⟩
 ·obtain⟨j,A⟩:=dP e;obtain⟨i,p,_,⟨_,rfl⟩|⟨_,rfl⟩|⟨_,rfl⟩⟩:=TI xs j u A<;>rfl
 ·rcases h with⟨a,c,h1,h2⟩|⟨b,o,c,h1,h2,h3,h4⟩;{exact .inl ⟨a,c,h1,by rw[h2];rfl⟩};refine .inr ⟨b,o,c,h1,λj u e=>?_⟩;obtain⟨i,p,q,⟨rfl,rfl⟩|⟨rfl,rfl⟩|⟨rfl,rfl⟩⟩:=TI xs j u e;{exact (h4 i p q).1};{exact (h4 i p q).2.1};exact (h4 i p q).2.2
theorem lB(h:∃ a n c,v=Value.slice a n c):v.oneCell'=true:=by obtain⟨_,_,_,rfl⟩:=h;rfl
theorem aQ:∀ (xs:List VX) (j:Nat) (u:vV),(Hw xs)[j]?=some u->∃ i x k,xs[i]?=some x/\k<4/\j=i*4+k/\x.cells[k]?=some u
 |[],j,u,h=>by simp[Hw]at h
 |x::t,j,u,h=>by
  have e:Hw (x::t)=x.cells++Hw t:=rfl;rw[e]at h
  by_cases hj:j<4
  ·rw[cJ (show j<x.cells.length from hj)]at h
   exact⟨0,x,j,rfl,hj,by omega,h⟩
  ·rw[cN (show x.cells.length<=j from by show 4<=j;omega)]at h
   obtain⟨i,y,k,q,A,K,H⟩:=aQ t (j-4) u h
   exact⟨i+1,y,k,by simpa using q,A,by omega,H⟩
theorem VX.one{x:VX}(h:Ga D w x.ev x.v.ents/\Fz D w x.cv x.v.chgs):∀ u∈x.cells,u.oneCell'=true:=λu e=>by
 obtain⟨a,c,q⟩:=h.1.1.sl
 obtain⟨A,H,K⟩:=h.2.1.sl
 simp only[VX.cells,bU,gU,or_false]at e;rcases e with rfl|rfl|rfl|rfl
 ·rfl
 ·exact lB ⟨a,_,c,q⟩
 ·exact lB ⟨A,_,H,K⟩
 ·rfl
theorem Dh.g{l:List Au}(h:Dh D w v l):∃ X:List VX,X.map VX.v=l/\DA D w X/\DU 4 w v l.length (Hw X):=by
 rcases h with⟨a,c,h1,O⟩|⟨b,o,c,h1,hd,hb,hc,h4⟩
 ·exact⟨[],by rw[O];rfl,λx q=>(by cases q),by rw[O];rfl,λu H=>(by cases H),.inl ⟨a,c,h1,by rw[O];rfl⟩⟩
 ·(obtain⟨X,K,Z⟩:∃ X:List VX,X.map VX.v=l/\∀ j x,X[j]?=some x->w.cell? ⟨b,o+j*4+1,none⟩=some x.ev/\Ga D w x.ev x.v.ents/\w.cell? ⟨b,o+j*4+2,none⟩=some x.cv/\Fz D w x.cv x.v.chgs:=by(have a0:∀ (l:List Au) (o:Nat),(∀ (j:Nat) x,l[j]?=some x->DL D w b (o+j*4) x)->∃ X:List VX,X.map VX.v=l/\∀ j x,X[j]?=some x->w.cell? ⟨b,o+j*4+1,none⟩=some x.ev/\Ga D w x.ev x.v.ents/\w.cell? ⟨b,o+j*4+2,none⟩=some x.cv/\Fz D w x.cv x.v.chgs:=by intro l;induction l with| nil=>exact λo _=>⟨[],rfl,λj x q=>by simp at q⟩| cons y t ih =>intro o h;have h0:=h 0 y rfl;obtain⟨ev,e1,e2⟩:=h0.ents;obtain⟨cv,c1,c2⟩:=h0.chgs;(obtain⟨X,x1,x2⟩:=ih (o+4) λj x q=>by have:=h (j+1) x (by simpa using q);rwa [show o+(j+1)*4=o+4+j*4 by omega]at this);refine⟨⟨y,ev,cv⟩::X,by rw[bP,x1],λj x q=>?_⟩;cases j with| zero =>(have e:(⟨y,ev,cv⟩:VX)=x:=by simpa using q);subst e;rw[iS,gJ]at e1 c1 ⊢;exact⟨e1,e2,c1,c2⟩| succ j =>have:=x2 j x (by simpa using q);rwa [show o+4+j*4=o+(j+1)*4 by omega]at this);exact a0 l o h4);(have hH:DA D w X:=λx q=>by obtain⟨j,hj⟩:=dP q;obtain⟨_,O,_,h3⟩:=Z j x hj;exact⟨O,h3⟩);(have hl:X.length=l.length:=by rw[<-K,bT]);refine⟨X,K,hH,by rw[Zv,hl],λu H=>?_,.inr ⟨b,o,c,h1,λj u H=>?_⟩⟩;{obtain⟨x,q,H⟩:=dE.1 H;exact VX.one (hH x q) u H};obtain⟨i,x,k,h5,h6,rfl,A⟩:=aQ X j u H;obtain⟨q1,_,q2,_⟩:=Z i x h5;(have hv:l[i]?=some x.v:=by rw[<-K,bY,h5];rfl);have hc:=h4 i x.v hv;rw[show o+(i*4+k)=o+i*4+k by omega];match k,h6,A with| 0,_,A=>rw[<-bV A];exact hc.block| 1,_,A=>rw[<-bV A];exact q1| 2,_,A=>rw[<-bV A];exact q2| 3,_,A=>rw[<-bV A];exact hc.pins
theorem eP{P:Program}{t T:TypeId}(I:Mn P t T sz by'){ops:Array Oper}{rest:List Oper}{d:Option Tmp}{ty:TypeId}{pos:String}{af:Array Edge}{a:Act}{Q:Exit->Act->vW->Prop}{s x:Operand}{m:Nat}{xs cs:List vV}
  (hR:Ar T sz w0 w v n xs) (hP:DU sz w pv m cs) (hs:a.eval s=v) (hx:a.eval x=pv) (h63:n+m<=1000000) (hb:by'<=1000)
  (h:∀ A w',Ar T sz w0 w' A (n+m) (xs++cs)->Ad (λb=>v.ownBlock=some b) w w'->(A.ownBlock=v.ownBlock\/∀ b,A.ownBlock=some b->(w:Nat)<=b)->wpList P ops Q rest (a.put d A) w') :
  wpList P ops Q (⟨d,.call { callee:=.builtin .append,args:=#[s,x],argTypes:=#[t,t] },ty,pos,af,none⟩::rest) a w:=by
 obtain⟨i,z,H,e2,e3,e4,e5⟩:=I.hi
 have X:n+m<=maxLen:=by unfold maxLen;omega
 have Z:(n+m)*by'<=140737488355328:=bH (Nat.mul_le_mul h63 hb) vI
 have q:∀ (ad:Addr) (c:Nat),pv=.slice (some ad) m c->(∀ j u,cs[j]?=some u->w.cell? (ad.add j)=some u)->wpList P ops Q (⟨d,.call { callee:=.builtin .append,args:=#[s,x],argTypes:=#[t,t] },ty,pos,af,none⟩::rest) a w:=λad c e hc =>FR w rfl s x t rfl T i z sz by' I.ht H e2 e3 e4 e5 I.hsz v n xs hs hR.own ad m c cs (hx.trans e) hP.len hc hP.one X Z (λA w' r1 r2 r3=>h A w' (hR.step r1 r2 r3) r2 r3)
 rcases hP.at' with⟨ad,c,e,rfl⟩|⟨b,o,c,e,hc⟩
 ·have K:cs=[]:=bF (by rw[hP.len];omega);cases ad with| some ad=>exact q ad c e (λj u O=>by rw[K]at O;simp at O)| none =>obtain⟨ad,a0,hv⟩:=hR.sl;(have a1:n<=a0:=by obtain⟨_,⟨H,e2⟩|⟨g,cp,a2,H,h3,h4,h5,_⟩⟩:=hR.own;{omega};rw[hv]at H;obtain⟨_,_,e3⟩:=dF H;omega);refine b7 I (hs.trans hv) (hx.trans e) a1 ?_;rw[<-hv];exact h v w (by rw[K,cC];exact hR) (Ad.refl _ w) (.inl rfl)
 ·exact q ⟨b,o,none⟩ c e (λj u O=>by rw[Go.WideShapes.add_plain];exact hc j u O)
def Tu(v t:vB):Prop:=v.data.toList <:+: t.data.toList
theorem Tu.trans{b c:vB}(h:Tu a b)(k:Tu b c):Tu a c:=List.IsInfix.trans h k
theorem Tu.rfl'(a:vB):Tu a a:=List.infix_refl _
theorem ZB(a b:vB):Tu b (a++b):=⟨a.data.toList,[],by rw[dN,fO,cC]⟩
theorem nD(v:vB):Tu v (Av v):=by
 unfold Av;split
 ·exact Tu.rfl' v
 ·exact ZB _ _
theorem qQ{x:vB}:∀ {l:vM},x∈l->Tu x (Aw l)
 |y::l,h=>by
  rcases bU.1 h with rfl|h
  ·refine⟨[],(l.map (·.data.toList)).flatten,?_⟩
   show _=x.data.toList++(l.map (·.data.toList)).flatten
   simp
  ·obtain⟨s,t,e⟩:=qQ h
   have e:s++x.data.toList++t=(l.map (·.data.toList)).flatten:=e
   refine⟨y.data.toList++s,t,?_⟩
   show _=y.data.toList++(l.map (·.data.toList)).flatten;rw[<-e];simp
theorem OG{l:vM}(h:x∈l):Tu x (Fo l):=(qQ h).trans (ZB _ _)
theorem Yz.inf{n:Ai}(h:Yz f T n){v t:vB}(ht:t∈Bz T)(hv:Tu v t):(∃ t∈En (Ia T),Tu v t)\/Tu v (Ax T.text):=by
 by_cases hs:T.text.size<32
 ·have e:=h.small hs;obtain⟨x,ks⟩:=T;have e:ks=[]:=e;subst e;unfold Bz En at ht;rw[bG]at ht;right;unfold Ax;rw[if_pos hs, <-(show t=(PT.mk x []).text from ht)];exact hv
 ·left;refine⟨t,?_,hv⟩;unfold Ia;rw[if_neg hs,Zw];exact⟨T,bG.2 rfl,ht⟩
def Ua(l:vL):Nat->Nat
 |0=>0
 |n+1=>Ua l n+(if (Ah n l).length=0 then 0 else 1)
theorem TU(l:vL)(n:Nat):∀ d,Ua l n<=Ua l (n+d)
 |0=>bO _
 |d+1=>by have:=TU l n d;rw[show n+(d+1)=(n+d)+1 from rfl,Ua];omega
theorem TX(h:(Ah i l).length≠0)(hi:i<n):1<=Ua l n:=by
 have:=TU l (i+1) (n-(i+1))
 rw[show i+1+(n-(i+1))=n by omega,Ua,if_neg h]at this;omega
theorem NW(h:(Ah i l).length≠0)(hj:(Ah j l).length≠0)(hij:i<j)(hn:j<n):2<=Ua l n:=by
 have e:=TX h hij
 have:=TU l (j+1) (n-(j+1))
 rw[show j+1+(n-(j+1))=n by omega,Ua,if_neg hj]at this;omega
theorem qT(B:vL->PT)(l:vL)(hB:∀ i,(Ah i l).length≠0->(Bz (B (Ba 1 (Ah i l)))).length+2<=3*(Ah i l).length):∀ n,(En (Vg B l n)).length+2*Ua l n<=3*Tp l n
 |0=>by simp[Vg,En,Tp,Ua]
 |n+1=>by
  rw[OM,MN,bK,Tp,Ua]
  have:=qT B l hB n
  by_cases h0:(Ah n l).length=0
  ·rw[if_pos h0,if_pos h0];simp[En];omega
  ·rw[if_neg h0,if_neg h0]
   have e:=hB n h0;have q:=LI (B (Ba 1 (Ah n l)));omega
theorem jX(h:∃ p∈l,p.l=[])(n:Nat):Tp l n+1<=l.length:=by
 obtain⟨p,A,e⟩:=h
 induction l with
 |nil=>cases A
 |cons q r ih =>rw[SU,bQ];rcases bU.1 A with rfl|A;{have:=KE r n;rw[e];have:hN [] n=0:=rfl;omega};have:=ih A;have:=YQ q.l n;omega
theorem XJ{x:vU}(hp:p∈l)(hpx:p.l=x::r):p∈Ah x.toNat l:=cE.2 ⟨hp,by unfold Ve;rw[show p.1.data.toList=x::r from hpx];simp⟩
theorem EM{x:vU}(hp:p∈l)(hpx:p.l=x::r):(Ah x.toNat l).length≠0:=λe=>by
 have:=XJ hp hpx
 rw[bF e]at this;cases this
theorem oD{k:Nat}(h:p∈l):∃ q∈Ba k l,q.2=p.2:=⟨_,gF h,rfl⟩
structure XW(T:PT)(l:vL):Prop where
 all:(Bz T).length+2<=3*l.length
 two:2<=l.length->Ak l=0->(Bz T).length+3<=3*l.length
 inf:∀ p∈l,∃ t∈Bz T,Tu p.2 t
theorem mY(f:Nat)(h:l.length=1):XW (An (f+1) l) l:=by
 obtain⟨p,rfl⟩:=dZ.1 h
 have e:Bz (An (f+1) [p])=[CD ⟨1,p.1,p.2,Dd 16⟩]:=by show Bz (.mk (Cu (Bj (An f) [p])) (Dc (An f) [p]))=_;have K:Bj (An f) [p]=⟨1,p.1,p.2,Dd 16⟩:=rfl;have A:Dc (An f) [p]=[]:=rfl;rw[K,A];rfl
 refine⟨by rw[e];simp,λA=>by simp at A,λq H=>?_⟩
 rw[bG]at H;subst H;rw[e]
 refine⟨_,bG.2 rfl,(nD q.2).trans ?_⟩
 unfold CD;exact OG (by simp)
theorem grow:∀ (f:Nat) (l:vL),Ep f l->l≠[]->XW (An (f+1) l) l:=by
 intro f;induction f with
 |zero =>(intro l h hn;have h0:l.length≠0:=λe=>hn (bF e);have hl:l.length<=1:=by rcases fH l.length 2 with h2|h2;{omega};obtain⟨a,ha⟩:∃ a,l[0]?=some a:=⟨_,bB vO⟩;obtain⟨b,hb⟩:∃ b,l[1]?=some b:=⟨_,bB vO⟩;have A:=Xr h.rise vO ha hb;have:=(h.size b (bD hb)).1;rw[show b.l=[]from bF (by show b.1.size=0;omega)]at A;exact absurd A (not_lt_nil _));exact mY 0 vO
 |succ f ih =>intro l h hn;have h0:l.length≠0:=λe=>hn (bF e);by_cases h1:l.length=1;{exact mY (f+1) h1};have h2:2<=l.length:=vO;(have H:=Rn h h2;have eT:Bz (An (f+1+1) l)=Cu (Bj (An (f+1)) l)::En (Dc (An (f+1)) l):=by show Bz (.mk (Cu (Bj (An (f+1)) l)) (Dc (An (f+1)) l))=_;rw[Bz]);by_cases hk:0<Ak l;{have a4:Ep f (Ba (Ak l) l):=(Ys (Ak l) h (λp K q hq=>(H p K).1.trans (H q hq).1.symm) λp K=>(H p K).2).mono vO;(have a1:Ba (Ak l) l≠[]:=λe=>by have:=Jy (Ak l) l;rw[e]at this;simp at this;omega);have hg:=ih _ a4 a1;obtain⟨_,i2,_⟩:=good f _ a4;(have X:=i2 a1;have eB:Dc (An (f+1)) l=Ia (An (f+1) (Ba (Ak l) l)):=by unfold Dc;rw[if_neg vO,if_pos hk]);(have eN:Bj (An (f+1)) l=⟨2,(l.getD 0 pd).1.extract 0 (Ak l),⟨#[]⟩,Ax (An (f+1) (Ba (Ak l) l)).text::Dd 15⟩:=by unfold Bj;rw[if_neg h0,if_neg h1,if_pos hk]);have Z:=hg.two (by rw[Jy];omega) (NR vO);rw[Jy]at Z;have hh:=LI (An (f+1) (Ba (Ak l) l));refine⟨by rw[eT,eB,bQ];omega,λ_ hz=>by omega,λp K=>?_⟩;obtain⟨q,hq,e2⟩:=oD (k:=Ak l) K;obtain⟨t,ht,hv⟩:=hg.inf q hq;rw[e2]at hv;rw[eT,eB];rcases X.inf ht hv with⟨t',ht',hv'⟩|hv';{exact⟨t',bM _ ht',hv'⟩};refine⟨_,bN,hv'.trans ?_⟩;(have:Cu (Bj (An (f+1)) l)=Py (Bj (An (f+1)) l):=by rw[eN];rfl);rw[this,eN];unfold Py;exact OG (by simp)};(have a0:∀ i,(Ah i l).length≠0->Ba 1 (Ah i l)≠[]:=λi O e=>by have:=Jy 1 (Ah i l);rw[e]at this;simp at this;omega);(have hg:∀ i,(Ah i l).length≠0->XW (An (f+1) (Ba 1 (Ah i l))) (Ba 1 (Ah i l)):=λi O=>ih _ (Yy i h) (a0 i O);have X:∀ i,(Ah i l).length≠0->Yz f (An (f+1) (Ba 1 (Ah i l))) (Bj (An f) (Ba 1 (Ah i l))):=λi O=>(good f _ (Yy i h)).2.1 (a0 i O);have eB:Dc (An (f+1)) l=Vg (An (f+1)) l 16:=by unfold Dc;rw[if_neg vO,if_neg hk];rfl);obtain⟨a,ha⟩:∃ a,l[0]?=some a:=⟨_,bB vO⟩;obtain⟨b,hb⟩:∃ b,l[l.length-1]?=some b:=⟨_,bB vO⟩;(have ga:l.getD 0 pd=a:=by rw[bL,ha];rfl);(have gb:l.getD (l.length-1) pd=b:=by rw[bL,hb];rfl);have a2:=bD ha;have a5:=bD hb;have A:=Xr h.rise vO ha hb;obtain⟨rs,a3⟩:=vE ((List.range 16).map λi=>if (Ah i l).length=0 then (⟨#[]⟩:vB)else Ax (An (f+1) (Ba 1 (Ah i l))).text);(have eN:Bj (An (f+1)) l=⟨3,⟨#[]⟩,if a.1.size=0 then a.2 else ⟨#[]⟩,rs⟩:=by unfold Bj;rw[if_neg h0,if_neg h1,if_neg hk,ga,a3]);(have Z:(En (Dc (An (f+1)) l)).length+4<=3*l.length:=by(rw[eB];have b5:=qT (An (f+1)) l (λi O=>by have:=(hg i O).all;rwa [Jy]at this) 16;have a7:Hz a.l b.l=0:=by have:Ak l=Hz a.l b.l:=(by unfold Ak Dg;rw[ga,gb]);omega);cases hbl:b.l with| nil=>rw[hbl]at A;exact absurd A (not_lt_nil _)| cons y t =>have hy:=Rr (h.size b a5).2.2.1 hbl;have cb:=EM a5 hbl;cases hal:a.l with| nil =>have:=jX ⟨a,a2,hal⟩ 16;have:=TX cb hy;omega| cons x r =>(have hx:=Rr (h.size a a2).2.2.1 hal;have ca:=EM a2 hal;have b0:x≠y:=by intro e;rw[hal,hbl,e]at a7;simp[Hz]at a7);have a1:x.toNat≠y.toNat:=λe=>b0 (dO.1 e);have:=KE l 16;(have:2<=Ua l 16:=by rcases fH x.toNat y.toNat with e|e;{exact NW ca cb e hy};exact NW cb ca vO hx);omega);refine⟨by rw[eT,bQ];omega,λ_ _=>by rw[eT,bQ];omega,λp K=>?_⟩;(have a8:Cu (Bj (An (f+1)) l)=AF (Bj (An (f+1)) l):=by rw[eN];rfl);(have a9:Nt (Bj (An (f+1)) l)=Pd rs (if a.1.size=0 then a.2 else ⟨#[]⟩):=by rw[ND _ (by rw[eN,a3];simp),eN]);cases hpl:p.l with| nil =>(have b1:p=a:=by obtain⟨i,O⟩:=dP K;by_cases h00:i=0;{subst h00;rw[ha]at O;exact (bV O).symm};have:=Xr h.rise vO ha O;rw[hpl]at this;exact absurd this (not_lt_nil _));(subst b1;have hz:p.1.size=0:=by show p.1.data.toList.length=0;rw[show p.1.data.toList=[]from hpl];rfl);rw[eT];refine⟨_,bN,(nD p.2).trans ?_⟩;rw[a8];unfold AF;rw[a9,if_pos hz];refine OG ?_;unfold Pd;simp| cons x r =>have hx:=Rr (h.size p K).2.2.1 hpl;have hc:=EM K hpl;obtain⟨q,hq,e2⟩:=oD (k:=1) (XJ K hpl);obtain⟨t,ht,hv⟩:=(hg _ hc).inf q hq;rw[e2]at hv;rw[eT,eB];rcases (X _ hc).inf ht hv with⟨t',ht',hv'⟩|hv';{refine⟨t',bM _ ?_,hv'⟩;obtain⟨T',b2,b3⟩:=Zw.1 ht';refine Zw.2 ⟨T',?_,b3⟩;unfold Vg;refine dE.2 ⟨x.toNat,dY.2 hx,?_⟩;rw[if_neg hc];exact b2};refine⟨_,bN,hv'.trans ?_⟩;(rw[a8];unfold AF;rw[a9];refine OG ?_;unfold Pd;refine bR.2 (.inl ?_);have b4:Ax (An (f+1) (Ba 1 (Ah x.toNat l))).text∈rs:=by rw[a3];refine bC.2 ⟨x.toNat,dY.2 hx,?_⟩;rw[if_neg hc]);refine bC.2 ⟨_,b4,?_⟩;rw[if_neg (X _ hc).may.1.pos]
theorem h8(h:Em l=0):(Hg (Bz (Cr l))).length<=1+3*l.length/\∀ p∈l,∃ t∈Hg (Bz (Cr l)),Tu p.2 t:=by
 by_cases h0:l=[]
 ·subst h0;refine⟨?_,by simp⟩;have:=TL (Bz (Cr []));have K:=pE (Ge h);simp at K ⊢;omega
 ·have O:=Nn (Ge h);(have q:Cq l≠[]:=λe=>h0 (by unfold Cq at e;simpa using e);have A:=grow 12 (Cq l) O q;have X:(Cq l).length=l.length:=by unfold Cq;rw[bT]);have H:=A.all;rw[X]at H;have h4:=TL (Bz (Cr l));have Z:Cr l=An (12+1) (Cq l):=rfl;rw[<-Z]at H;refine⟨by omega,λp hp=>?_⟩;obtain⟨t,ht,hv⟩:=A.inf _ (gF hp);exact⟨t,(Ql _ _).2 ht,hv⟩
theorem OT(h:Ep f l)(hn:l≠[]):(Ax (An (f+1) l).text).size≠0:=((good f l h).2.1 hn).may.1.pos
theorem TO(g:Nat->vB)(h:i<n):((List.range n).map g).getD i ()=g i:=by
 rw[bL,bY,fD h];rfl
theorem oG(hm:m≠[])(ho:Ep f m)(hk:Ia (An (f+1) m) ⊆ Dc (An (f+1)) l):∀ x∈Bz (An (f+1) m),32<=x.size->x∈Bz (An (f+1+1) l):=λx e A=>by
 have H:Bz (An (f+1+1) l)=Cu (Bj (An (f+1)) l)::En (Dc (An (f+1)) l):=by
  show Bz (.mk (Cu (Bj (An (f+1)) l)) (Dc (An (f+1)) l))=_;rw[Bz]
 rw[H];have q:=(good f m ho).2.1 hm
 by_cases hs:(An (f+1) m).text.size<32
 ·rw[i7 q hs,bG]at e
  subst e;omega
 ·refine bM _ (Zw.2 ⟨An (f+1) m,hk ?_,e⟩)
  unfold Ia;rw[if_neg hs];exact bG.2 rfl
section
attribute [local go_sem] Oper.semAt_some
def Ff(p s:vB):Bool:=p.data.toList.isPrefixOf s.data.toList
theorem pD:∀ (p s:vN),p.isPrefixOf s=(decide (p.length<=s.length)&&(s.take p.length == p))
 |[],s=>by simp
 |x::p,[]=>by simp
 |x::p,y::s=>by
  have q:=pD p s;simp only[List.isPrefixOf,bQ,fM,q,Nat.add_le_add_iff_right]
  by_cases h:x=y
  ·subst h;simp
  ·have:(y == x)=false:=by simpa using λe=>h e.symm
   simp[h,this]
theorem M2(s:vB)(n:Nat):(s.extract 0 n).toList=s.data.toList.take n:=by
 rw[cA,fA,fV,fB];simp
theorem VD(w:vW)(s p:vB)(hs:s.size<=1000000)(hp:p.size<=1000000):vQ 166 #[s,p] w λe w'=>e=.returned (Ff p s)/\w'=w:=by
 have q:=pD p.data.toList s.data.toList;have A:p.data.toList.length=p.size:=rfl;have H:s.data.toList.length=s.size:=rfl;rw[A,H, <-M2]at q;have q:Ff p s=_:=q
 by_cases hl:p.size<=s.size
 ·have K:(p.size:Int)<=(s.size:Int):=vO;have O:¬(s.size:Int)<(p.size:Int):=vO;have X:((p.size:Int)).toNat=p.size:=vO;(rw[decide_eq_true hl,Bool.true_and, <-cA]at q;rw[q];unfold vQ;go_in;go_wp2);go_ret;exact⟨rfl,rfl⟩
 ·have K:(s.size:Int)<(p.size:Int):=vO;(rw[decide_eq_false hl,Bool.false_and]at q;rw[q];unfold vQ;go_in;go_wp2);go_ret;exact⟨rfl,rfl⟩
theorem EA(w:vW)(s p:vB)(hs:s.size<=1000000)(hp:p.size<=1000000):vQ 136 #[s,p] w λe w'=>e=.returned (Ff p s)/\w'=w:=by
 unfold vQ;go_in;go_wp2_with fail
 refine (VD w s p hs hp).mono ?_;rintro e w1 ⟨rfl,rfl⟩;go_wp2
 go_ret
 exact⟨rfl,rfl⟩
theorem tC{B:Nat}{T:TypeId}{xs:List vV}(h:W.ownsRow B T sz v n xs)(hb:v.ownBlock=some b):b<(W:Nat):=by
 obtain⟨O,q|⟨g,A,H,q,X,K,Z⟩⟩:=h
 ·rw[q.1]at hb;cases hb
 ·rw[q]at hb;have e:some g=some b:=hb;obtain rfl:=bV e;exact (dD.1 K).1
end
def tH(xs ys:vM):Prop:=∀ x∈xs,∀ y∈ys,Aj x=Aj y->x=y
theorem o6{g:Nat}{n m:Ai}(hT:Yz f T n)(hU:Yz g U m)(hr:Ax T.text=Ax U.text)(H:tH (En (Ia T)) (En (Ia U))):T.text=U.text/\tH (Bz T) (Bz U):=by
 by_cases h1:T.text.size<32
 ·by_cases h2:U.text.size<32;{rw[i8 h1,i8 h2]at hr;refine⟨hr,λx e y q _=>?_⟩;rw[i7 hT h1,bG]at e;rw[i7 hU h2,bG]at q;rw[e,q,hr]};have:=YZ h2;rw[<-hr,i8 h1]at this;omega
 ·by_cases h2:U.text.size<32;{have:=YZ h1;rw[hr,i8 h2]at this;omega};rw[UP h1,UP h2]at hr;rw[nB h1,nB h2]at H;exact⟨H _ (Yx T) _ (Yx U) (jC4 (Rp _) (Rp _) hr),H⟩
theorem pR(l:vL):(Bj B l).kind=if l.length=0 then 0 else if l.length=1 then 1 else if 0<Ak l then 2 else 3:=by
 unfold Bj;split
 ·rfl
 ·split;{rfl};split<;>rfl
theorem a_(k:Nat):∀ {a b:vL},(∀ p∈a,∀ q∈b,p.l.take k=q.l.take k)->Ba k a=Ba k b->a=b
 |[],[],_,_=>rfl
 |[],q::b,_,h=>by simp[Ba]at h
 |p::a,[],_,h=>by simp[Ba]at h
 |p::a,q::b,h1,h=>by
  unfold Ba at h;rw[bP,bP]at h
  obtain⟨A,H⟩:=List.cons.inj h
  have K:p.2=q.2:=(Prod.mk.inj A).2;have O:p.1.extract k p.1.size=q.1.extract k q.1.size:=(Prod.mk.inj A).1;have e:=congrArg (λb:vB=>b.data.toList) O;simp only[EG _ _ _ (bO _)]at e;have X:=h1 p bN q bN;have Z:p.l=q.l:=by
   rw[<-cX k p.l, <-cX k q.l,X];exact congrArg _ e
  rw[mN Z K,a_ k (λx hx y hy=>h1 x (bM _ hx) y (bM _ hy)) H]
theorem h_(x:vU)(r:vN):∀ l:vL,look (Ah x.toNat l) (x::r)=look l (x::r)
 |[]=>rfl
 |p::l=>by
  have q:=h_ x r l;unfold Ah at *;rw[jB]
  by_cases hp:Ve x.toNat p=true
  ·rw[if_pos hp,GL,GL,q]
  ·rw[if_neg hp,q,GL,if_neg]
   intro e;exact hp (by unfold Ve;rw[show p.1.data.toList=x::r from e.symm];simp)
theorem G2(h:Ep f l)(hi:16<=i):Ah i l=[]:=by
 refine List.eq_nil_iff_forall_not_mem.2 λp e=>?_
 obtain⟨q,a,r,A,H⟩:=Uv e
 have:=Rr (h.size p q).2.2.1 A
 omega
theorem jCp{a:Ay}(h:(a::l).Pairwise λp q=>Lt p.l q.l):look (a::l) []=if a.1.size=0 then some a.2 else none:=by
 rw[GL]
 by_cases hz:a.1.size=0
 ·rw[if_pos hz,if_pos];exact (bF (show a.1.data.toList.length=0 from hz)).symm
 ·rw[if_neg hz,if_neg];{refine lK λA=>?_;obtain⟨q,H,e⟩:=bC.1 A;have:=(fU.1 h).1 q H;rw[show q.l=[]from e]at this;exact not_lt_nil _ this};intro e;exact hz (by show a.1.data.toList.length=0;rw[show a.1.data.toList=[]from e.symm];rfl)
theorem k4(l m:vL)(hn:Bj B l=Bj C m)(h:l.length<=1\/m.length<=1):l=m:=by
 have e:=congrArg Ai.kind hn;rw[pR,pR]at e
 by_cases l0:l.length=0
 ·rw[if_pos l0]at e;(have A:m.length=0:=by by_cases A:m.length=0;{exact A};rw[if_neg A]at e;split at e;{cases e};split at e<;>cases e);rw[bF l0,bF A]
 by_cases A:m.length=0
 ·rw[if_pos A,if_neg l0]at e;split at e;{cases e};split at e<;>cases e
 rw[if_neg l0,if_neg A]at e;have K:l.length=1:=by by_cases K:l.length=1;{exact K};have H:m.length=1:=vO;rw[if_neg K,if_pos H]at e;split at e<;>cases e
 rw[if_pos K]at e;have H:m.length=1:=by by_cases H:m.length=1;{exact H};rw[if_neg H]at e;split at e<;>cases e
 have Z:Bj B l=⟨1,(l.getD 0 pd).1,(l.getD 0 pd).2,Dd 16⟩:=by unfold Bj;rw[if_neg l0,if_pos K]
 have e2:Bj C m=⟨1,(m.getD 0 pd).1,(m.getD 0 pd).2,Dd 16⟩:=by unfold Bj;rw[if_neg A,if_pos H]
 rw[Z,e2]at hn
 obtain⟨_,O,X,_⟩:=Ai.mk.inj hn
 obtain⟨p,rfl⟩:=dZ.1 K
 obtain⟨q,rfl⟩:=dZ.1 H
 have O:p.1=q.1:=O;have X:p.2=q.2:=X;rw[Prod.ext O X]
theorem jDa(w:vW):∀ (f:Nat) (l m:vL),Ep f l->Ep f m->tH (Bz (An (f+1) l)) (Bz (An (f+1) m))->(An (f+1) l).text=(An (f+1) m).text->l=m:=by
 intro f;induction f with
 |zero =>intro l m K O _ ht;exact k4 _ _ l m (lN w (good 0 l K).1 (good 0 m O).1 ht) (.inl (Vt K))
 |succ f ih =>intro l m K O hA ht;have hn:Bj (An (f+1)) l=Bj (An (f+1)) m:=lN w (good (f+1) l K).1 (good (f+1) m O).1 ht;by_cases hs:l.length<=1\/m.length<=1;{exact k4 _ _ l m hn hs};have X:=congrArg Ai.kind hn;rw[pR,pR,if_neg (show ¬ l.length=0 by omega),if_neg (show ¬ l.length=1 by omega),if_neg (show ¬ m.length=0 by omega),if_neg (show ¬ m.length=1 by omega)]at X;have l2:2<=l.length:=vO;have m2:2<=m.length:=vO;(have b2:=Rn K l2;have b3:=Rn O m2;have eT:∀ l:vL,Bz (An (f+1+1) l)=Cu (Bj (An (f+1)) l)::En (Dc (An (f+1)) l):=λl=>by show Bz (.mk (Cu (Bj (An (f+1)) l)) (Dc (An (f+1)) l))=_;rw[Bz]);rw[eT,eT]at hA;have a2:tH (En (Dc (An (f+1)) l)) (En (Dc (An (f+1)) m)):=λx hx y hy=>hA x (bM _ hx) y (bM _ hy);by_cases kl:0<Ak l;{rw[if_pos kl]at X;(have Z:0<Ak m:=by by_cases Z:0<Ak m;{exact Z};rw[if_neg Z]at X;cases X);(have a3:∀ {l:vL},Ep (f+1) l->2<=l.length->0<Ak l->Ep f (Ba (Ak l) l):=λ{l} h h2 X=>by have a0:=Rn h h2;exact (Ys (Ak l) h (λp hp q hq=>(a0 p hp).1.trans (a0 q hq).1.symm) λp hp=>(a0 p hp).2).mono vO);(have a8:∀ {l:vL},2<=l.length->Ba (Ak l) l≠[]:=λ{l} h2 e=>by have:=Jy (Ak l) l;rw[e]at this;simp at this;omega);(have eN:∀ {l:vL},2<=l.length->0<Ak l->Bj (An (f+1)) l=⟨2,(l.getD 0 pd).1.extract 0 (Ak l),⟨#[]⟩,Ax (An (f+1) (Ba (Ak l) l)).text::Dd 15⟩:=λ{l} h2 X=>by unfold Bj;rw[if_neg vO,if_neg vO,if_pos X]);(have eB:∀ {l:vL},2<=l.length->0<Ak l->Dc (An (f+1)) l=Ia (An (f+1) (Ba (Ak l) l)):=λ{l} h2 X=>by unfold Dc;rw[if_neg vO,if_pos X]);rw[eN l2 kl,eN m2 Z]at hn;rw[eB l2 kl,eB m2 Z]at a2;obtain⟨_,hp,_,hr⟩:=Ai.mk.inj hn;obtain⟨hr,_⟩:=List.cons.inj hr;(have gm:∀ {l:vL},2<=l.length->l.getD 0 pd∈l:=λ{l} h=>by rw[bL,bB vO];exact dR _);(have a9:∀ {l:vL},Ep (f+1) l->2<=l.length->((l.getD 0 pd).1.extract 0 (Ak l)).size=Ak l:=λ{l} h h2=>by have:=(Rn h h2 _ (gm h2)).2;rw[dI];omega);(have b0:Ak l=Ak m:=by rw[<-a9 K l2, <-a9 O m2,hp]);(have b1:∀ {l:vL},(l.getD 0 pd).l.take (Ak l)=((l.getD 0 pd).1.extract 0 (Ak l)).data.toList:=λ{l}=>by rw[fA,fV,fB];simp);obtain⟨e1,e2⟩:=o6 ((good f _ (a3 K l2 kl)).2.1 (a8 l2)) ((good f _ (a3 O m2 Z)).2.1 (a8 m2)) hr a2;have e3:=ih _ _ (a3 K l2 kl) (a3 O m2 Z) e2 e1;rw[<-b0]at e3;refine a_ (Ak l) (λp b4 q hq=>?_) e3;rw[(b2 p b4).1,b1,hp, <-b1, <-(b3 q hq).1,b0]};rw[if_neg kl]at X;(have Z:¬ 0<Ak m:=by by_cases Z:0<Ak m;{rw[if_pos Z]at X;cases X};exact Z);(have eN:∀ {l:vL},2<=l.length->¬ 0<Ak l->Bj (An (f+1)) l=⟨3,⟨#[]⟩,if (l.getD 0 pd).1.size=0 then (l.getD 0 pd).2 else ⟨#[]⟩,(List.range 16).map λi=>if (Ah i l).length=0 then ⟨#[]⟩else Ax (An (f+1) (Ba 1 (Ah i l))).text⟩:=λ{l} h2 X=>by unfold Bj;rw[if_neg vO,if_neg vO,if_neg X]);(have eB:∀ {l:vL},2<=l.length->¬ 0<Ak l->Dc (An (f+1)) l=(List.range 16).flatMap λi=>if (Ah i l).length=0 then []else Ia (An (f+1) (Ba 1 (Ah i l))):=λ{l} h2 X=>by unfold Dc;rw[if_neg vO,if_neg X]);rw[eN l2 kl,eN m2 Z]at hn;rw[eB l2 kl,eB m2 Z]at a2;obtain⟨_,_,A,b5⟩:=Ai.mk.inj hn;(have a5:∀ {l:vL} {i:Nat},(Ah i l).length≠0->Ba 1 (Ah i l)≠[]:=λ{l i} hi e=>by have:=Jy 1 (Ah i l);rw[e]at this;simp at this;omega);(have a4:∀ {l:vL} {i:Nat},Ep (f+1) l->(Ah i l).length≠0->Yz f (An (f+1) (Ba 1 (Ah i l))) (Bj (An f) (Ba 1 (Ah i l))):=λ{l i} h hi=>(good f _ (Yy i h)).2.1 (a5 hi);have a7:∀ i,Ah i l=Ah i m:=by intro i;by_cases hi:i<16;{have H:=congrArg (λL:vM=>L[i]?) b5;simp only[bY,fD hi,fP,Option.some.injEq]at H;have hz:(⟨#[]⟩:vB).size=0:=rfl;by_cases cl:(Ah i l).length=0;{rw[if_pos cl]at H;by_cases cm:(Ah i m).length=0;{rw[bF cl,bF cm]};rw[if_neg cm]at H;have:=(a4 O cm).may.1.pos;rw[<-H]at this;exact absurd hz this};rw[if_neg cl]at H;by_cases cm:(Ah i m).length=0;{rw[if_pos cm]at H;have:=(a4 K cl).may.1.pos;rw[H]at this;exact absurd hz this};rw[if_neg cm]at H;(have a1:∀ {l:vL},(Ah i l).length≠0->∀ x∈En (Ia (An (f+1) (Ba 1 (Ah i l)))),x∈En ((List.range 16).flatMap λi=>if (Ah i l).length=0 then []else Ia (An (f+1) (Ba 1 (Ah i l)))):=λ{l} hc x hx=>by obtain⟨T',b6,b7⟩:=Zw.1 hx;refine Zw.2 ⟨T',dE.2 ⟨i,dY.2 hi,?_⟩,b7⟩;rw[if_neg hc];exact b6);obtain⟨e1,e2⟩:=o6 (a4 K cl) (a4 O cm) H (λx hx y hy=>a2 x (a1 cl x hx) y (a1 cm y hy));have e3:=ih _ _ (Yy i K) (Yy i O) e2 e1;refine a_ 1 (λp hp q hq=>?_) e3;obtain⟨_,a,r,h1,h2⟩:=Uv hp;obtain⟨_,b,t,h3,h4⟩:=Uv hq;rw[h1,h3,dO.1 (h2.trans h4.symm)];rfl};rw[G2 K vO,G2 O vO]);refine n3 K.rise O.rise λk=>?_;cases k with| cons x r=>rw[<-h_ x r l, <-h_ x r m,a7]| nil =>match l,m,l2,m2,A,K,O with| a::l',b::m',_,_,A,K,O =>(rw[jCp K.rise,jCp O.rise];have A:(if a.1.size=0 then a.2 else (⟨#[]⟩:vB))=if b.1.size=0 then b.2 else ⟨#[]⟩:=A);have sa:=(K.size a bN).2.2.2.1;have sb:=(O.size b bN).2.2.2.1;have hz:(⟨#[]⟩:vB).size=0:=rfl;by_cases za:a.1.size=0;{rw[if_pos za]at A ⊢;by_cases zb:b.1.size=0;{rw[if_pos zb]at A ⊢;rw[A]};rw[if_neg zb]at A;rw[A]at sa;omega};rw[if_neg za]at A ⊢;by_cases zb:b.1.size=0;{rw[if_pos zb]at A;rw[<-A]at sb;omega};rw[if_neg zb]
theorem mQ:∀ {a b:vN},Mp a=Mp b->a=b
 |[],[],_=>rfl
 |[],y::b,h=>by simp[Mp]at h
 |x::a,[],h=>by simp[Mp]at h
 |x::a,y::b,h=>by
  have h:(x >>> 4) ::(x &&& 15)::Mp a=(y >>> 4) ::(y &&& 15)::Mp b:=h;injection h with h1 h;injection h with h2 h;have e:=congrArg UInt8.toNat h1;have q:=congrArg UInt8.toNat h2;rw[LS,LS]at e;rw[LT,LT]at q;rw[mQ h,show x=y from dO.1 vO]
def Rv(n:Ai)(p:vB):vB × vB:=
 if n.kind=3 then match p.data.toList with
  |[]=>(⟨#[]⟩,p)
  |x::_=>if (n.refs.getD x.toNat ()).size=0 then (⟨#[]⟩,p)else (n.refs.getD x.toNat (),p.extract 1 p.size)
 else if n.kind=2 then if Ff n.path p then (n.refs.getD 0 (),p.extract n.path.size p.size)else (⟨#[]⟩,p)
 else (⟨#[]⟩,p)
def Np(n:Ai)(p:vB):Option vB:=
 if n.kind=1 then if n.path=p then some n.value else none
 else if n.kind=3 then if p.size=0/\n.value.size≠0 then some n.value else none
 else none
def Dt:vL->vB->Option vB
 |[],_=>none
 |q::l,p=>if q.1=p then some q.2 else Dt l p
def Pz(l:vL)(p:vB):Option (vL × vB):=
 if l.length<=1 then none
 else if 0<Ak l then if Ff ((l.getD 0 pd).1.extract 0 (Ak l)) p then some (Ba (Ak l) l,p.extract (Ak l) p.size)else none
 else match p.data.toList with
  |[]=>none
  |x::_=>if (Ah x.toNat l).length=0 then none else some (Ba 1 (Ah x.toNat l),p.extract 1 p.size)
def Gm(t:vB):vM:=if t.size<32 then []else [t]
def Ip:Nat->vL->vB->vM
 |0,_,_=>[]
 |f+1,l,p=>match Pz l p with
  |none=>[]
  |some (m,q)=>Gm (An (f+1) m).text++Ip f m q
def Im:vL->Nat
 |[]=>0
 |q::l=>q.1.size+Im l
theorem PF:∀ {l:vL} {p v:vB},Dt l p=some v->(p,v)∈l
 |q::l,p,v,h=>by
  unfold Dt at h;split at h
  ·rename_i e
   obtain rfl:=bV h;subst e;exact bN
  ·exact bM _ (PF h)
theorem PY:∀ {l:vL} {p v:vB},(l.Pairwise λp q=>Lt p.l q.l)->(p,v)∈l->Dt l p=some v
 |q::l,p,v,hl,h=>by
  rw[fU]at hl;unfold Dt;rcases bU.1 h with h|h
  ·subst h;rw[if_pos rfl]
  ·rw[if_neg λe=>by have:=hl.1 _ h;rw[show q.l=p.data.toList from congrArg (λx:vB=>x.data.toList) e]at this;exact lt_irrefl _ this,PY hl.2 h]
theorem KP{p:vB}(h:∀ q∈l,q.1≠p):Dt l p=none:=by
 cases hv:Dt l p with
 |none=>rfl
 |some v=>exact absurd rfl (h _ (PF hv))
theorem pG{p q:vB}(hl:l.Pairwise λp q=>Lt p.l q.l)(hm:m.Pairwise λp q=>Lt p.l q.l)(h:∀ v,(p,v)∈l↔(q,v)∈m):Dt l p=Dt m q:=by
 cases hv:Dt l p with
 |some v=>exact (PY hm ((h v).1 (PF hv))).symm
 |none =>cases hw:Dt m q with| none=>rfl| some v=>rw[PY hl ((h v).2 (PF hw))]at hv;cases hv
theorem PB(a p:vB):Ff a p=true↔∃ r,p.data.toList=a.data.toList++r:=by
 unfold Ff;rw[List.isPrefixOf_iff_prefix]
 exact⟨λ⟨r,h⟩=>⟨r,h.symm⟩,λ⟨r,h⟩=>⟨r,h.symm⟩⟩
theorem Ox(b:vB)(k:Nat):(b.extract k b.size).data.toList=b.data.toList.drop k:=EG b k b.size (bO _)
theorem Ja(b:vB):b.data.toList.length=b.size:=rfl
theorem oZ(k:Nat):∀ l:vL,Im (Ba k l)<=Im l
 |[]=>bO _
 |q::l=>by
  have:=oZ k l
  show (q.1.extract k q.1.size).size+Im (Ba k l)<=q.1.size+Im l;rw[Jw];omega
theorem eM{k:Nat}(hk:0<k):∀ {l:vL},l≠[]->(∀ q∈l,k<=q.1.size)->Im (Ba k l)<Im l
 |q::l,_,h=>by
  have:=oZ k l
  have:=h q bN
  show (q.1.extract k q.1.size).size+Im (Ba k l)<q.1.size+Im l;rw[Jw];omega
theorem hZ(g:Ay->Bool):∀ l:vL,Im (l.filter g)<=Im l
 |[]=>bO _
 |q::l=>by
  have:=hZ g l
  rw[jB];show _<=q.1.size+Im l;split
  ·show q.1.size+Im _<=_;omega
  ·omega
structure RQ(f:Nat)(l:vL)(p:vB)(m:vL)(q:vB):Prop where
 rows:Ep f m
 ne:m≠[]
 step:Rv (Bj (An (f+1)) l) p=(Ax (An (f+1) m).text,q)
 less:q.size<p.size
 valid:Dy q=true
 flat:∀ x∈Bz (An (f+1) m),32<=x.size->x∈Bz (An (f+1+1) l)
 find:Dt m q=Dt l p
 sum:Im m<Im l
 no:Np (Bj (An (f+1)) l) p=none
theorem CY(h:0<l.length):l.getD 0 pd∈l:=by rw[bL,bB h];exact dR _
theorem UD:((l.getD 0 pd).1.extract 0 (Ak l)).data.toList=(l.getD 0 pd).l.take (Ak l):=by
 rw[fA,fV,fB];simp
theorem EE(h:Ep f l)(h2:2<=l.length):((l.getD 0 pd).1.extract 0 (Ak l)).size=Ak l:=by
 have:=(Rn h h2 _ (CY vO)).2
 rw[dI];omega
theorem LH{p:vB}{q:vB}(h:Ep (f+1) l)(X:Dy p=true)(A:Pz l p=some (m,q)):RQ f l p m q:=by
 unfold Pz at A
 by_cases h1:l.length<=1
 ·rw[if_pos h1]at A;cases A
 rw[if_neg h1]at A;have Z:2<=l.length:=vO
 have H:=Rn h Z
 by_cases hk:0<Ak l
 ·rw[if_pos hk]at A;by_cases hpre:Ff ((l.getD 0 pd).1.extract 0 (Ak l)) p=true;(case neg=>rw[if_neg hpre]at A;cases A);rw[if_pos hpre]at A;obtain⟨rfl,rfl⟩:=Prod.mk.inj (bV A);(have K:Ep f (Ba (Ak l) l):=(Ys (Ak l) h (λp X q hq=>(H p X).1.trans (H q hq).1.symm) λp X=>(H p X).2).mono vO;have O:Ba (Ak l) l≠[]:=λe=>by have:=Jy (Ak l) l;rw[e]at this;simp at this;omega);(have eB:Dc (An (f+1)) l=Ia (An (f+1) (Ba (Ak l) l)):=by unfold Dc;rw[if_neg vO,if_pos hk]);(have eN:Bj (An (f+1)) l=⟨2,(l.getD 0 pd).1.extract 0 (Ak l),⟨#[]⟩,Ax (An (f+1) (Ba (Ak l) l)).text::Dd 15⟩:=by unfold Bj;rw[if_neg vO,if_neg vO,if_pos hk]);obtain⟨r,hr⟩:=(PB _ _).1 hpre;(have a3:Ak l<=p.size:=by rw[<-Ja p,hr,bK,Ja,EE h Z];omega);refine⟨K,O,?_,by rw[Jw];omega,Qo X _ _,oG O K (by rw[eB];exact λ_ hh=>hh),?_,eM hk (λe=>by rw[e]at Z;simp at Z) λq hq=>(H q hq).2,by rw[eN];rfl⟩;{rw[eN];unfold Rv;rw[if_neg (show ¬(2:Nat)=3 by decide),if_pos rfl,if_pos hpre];show (_,p.extract ((l.getD 0 pd).1.extract 0 (Ak l)).size p.size)=_;rw[EE h Z];rfl};refine pG K.rise h.rise λv=>⟨λhm=>?_,λhm=>?_⟩;{obtain⟨x,hx,e⟩:=bC.1 hm;obtain⟨e1,e2⟩:=Prod.mk.inj e;(have:x=(p,v):=by(refine Prod.ext (Rq ?_) e2;have e3:x.1.data.toList.drop (Ak l)=p.data.toList.drop (Ak l):=by rw[<-Ox,e1,Ox]);(have e4:x.1.data.toList.take (Ak l)=p.data.toList.take (Ak l):=by rw[show x.1.data.toList=x.l from rfl,(H x hx).1, <-UD,hr,List.take_append_of_le_length (by rw[Ja,EE h Z];exact bO _),cG (by rw[Ja,EE h Z];exact bO _)]);show x.1.data.toList=p.data.toList;rw[<-cX (Ak l) x.1.data.toList,e3,e4,cX]);rw[<-this];exact hx};exact bC.2 ⟨_,hm,rfl⟩
 ·rw[if_neg hk]at A;cases hpl:p.data.toList with| nil=>rw[hpl]at A;cases A| cons x r =>rw[hpl]at A;by_cases hc:(Ah x.toNat l).length=0;{have A:(if (Ah x.toNat l).length=0 then none else some (Ba 1 (Ah x.toNat l),p.extract 1 p.size))=some (m,q):=A;rw[if_pos hc]at A;cases A};have A:(if (Ah x.toNat l).length=0 then none else some (Ba 1 (Ah x.toNat l),p.extract 1 p.size))=some (m,q):=A;rw[if_neg hc]at A;obtain⟨rfl,rfl⟩:=Prod.mk.inj (bV A);(have K:Ep f (Ba 1 (Ah x.toNat l)):=Yy x.toNat h;have O:Ba 1 (Ah x.toNat l)≠[]:=λe=>by have:=Jy 1 (Ah x.toNat l);rw[e]at this;simp at this;exact hc this.symm);(have hx:x.toNat<16:=Rr (p:=(p,p)) X hpl;have eB:Dc (An (f+1)) l=(List.range 16).flatMap λi=>if (Ah i l).length=0 then []else Ia (An (f+1) (Ba 1 (Ah i l))):=by unfold Dc;rw[if_neg vO,if_neg hk]);obtain⟨rs,a2⟩:=vE ((List.range 16).map λi=>if (Ah i l).length=0 then (⟨#[]⟩:vB)else Ax (An (f+1) (Ba 1 (Ah i l))).text);obtain⟨va,a4⟩:=vE (if (l.getD 0 pd).1.size=0 then (l.getD 0 pd).2 else ⟨#[]⟩);(have eN:Bj (An (f+1)) l=⟨3,⟨#[]⟩,va,rs⟩:=by rw[a2,a4];unfold Bj;rw[if_neg vO,if_neg vO,if_neg hk]);(have TD:rs.getD x.toNat ()=Ax (An (f+1) (Ba 1 (Ah x.toNat l))).text:=by rw[a2,TO _ hx,if_neg hc]);(have a3:1<=p.size:=by rw[<-Ja p,hpl];simp);(have a0:∀ q∈Ah x.toNat l,1<=q.1.size:=λq hq=>by obtain⟨_,a,r,e,_⟩:=Uv hq;rw[<-Ja,show q.1.data.toList=a::r from e];simp);have a1:Im (Ba 1 (Ah x.toNat l))<Im l:=bE (eM (Nat.zero_lt_one) (λe=>hc (by rw[e];rfl)) a0) (hZ _ _);refine⟨K,O,?_,by rw[Jw];omega,Qo X _ _,oG O K λy hy=>?_,?_,a1,?_⟩;{rw[eN];unfold Rv;rw[if_pos rfl,hpl];show (if (rs.getD x.toNat ()).size=0 then _ else (rs.getD x.toNat (),_))=_;rw[TD,if_neg (OT K O)]};{rw[eB];exact dE.2 ⟨x.toNat,dY.2 hx,by rw[if_neg hc];exact hy⟩};{refine pG K.rise h.rise λv=>⟨λhm=>?_,λhm=>?_⟩;{obtain⟨y,hy,e⟩:=bC.1 hm;obtain⟨a5,a,r',e3,e4⟩:=Uv hy;obtain⟨e1,e2⟩:=Prod.mk.inj e;(have:y=(p,v):=by(refine Prod.ext (Rq ?_) e2;have e5:y.1.data.toList.drop 1=p.data.toList.drop 1:=by rw[<-Ox,e1,Ox]);have e3:y.1.data.toList=a::r':=e3;show y.1.data.toList=p.data.toList;rw[e3,hpl]at e5 ⊢;simp at e5;rw[e5,dO.1 e4]);rw[<-this];exact a5};refine bC.2 ⟨(p,v),?_,rfl⟩;refine cE.2 ⟨hm,?_⟩;unfold Ve;show (match p.data.toList with | []=>false|a::_=>a.toNat == x.toNat)=true;rw[hpl];simp};rw[eN];unfold Np;rw[if_neg (show ¬(3:Nat)=1 by decide),if_pos rfl,if_neg λe=>kL e.1]
theorem LG{p:vB}(h:Ep f l)(hp:Dy p=true)(A:Pz l p=none):Rv (Bj (An f) l) p=(⟨#[]⟩,p)/\Np (Bj (An f) l) p=Dt l p:=by
 by_cases h0:l.length=0
 ·(have e:Bj (An f) l=Cv:=by unfold Bj;rw[if_pos h0]);rw[e,bF h0];exact⟨rfl,rfl⟩
 by_cases h1:l.length=1
 ·(have e:Bj (An f) l=⟨1,(l.getD 0 pd).1,(l.getD 0 pd).2,Dd 16⟩:=by unfold Bj;rw[if_neg h0,if_pos h1]);rw[e];obtain⟨q,rfl⟩:=dZ.1 h1;exact⟨rfl,by unfold Np Dt Dt;rfl⟩
 have h2:2<=l.length:=vO
 have X:=Rn h h2;unfold Pz at A;rw[if_neg vO]at A
 by_cases hk:0<Ak l
 ·rw[if_pos hk]at A;(have e:Bj (An f) l=⟨2,(l.getD 0 pd).1.extract 0 (Ak l),⟨#[]⟩,Ax (An f (Ba (Ak l) l)).text::Dd 15⟩:=by unfold Bj;rw[if_neg h0,if_neg h1,if_pos hk]);(have H:¬ Ff ((l.getD 0 pd).1.extract 0 (Ak l)) p=true:=λhh=>by rw[if_pos hh]at A;cases A);rw[e];refine⟨?_,?_⟩;{unfold Rv;rw[if_neg (show ¬(2:Nat)=3 by decide),if_pos rfl,if_neg H]};refine (Eq.trans ?_ (KP λq Z e=>?_).symm);{rfl};refine H ((PB _ _).2 ⟨p.data.toList.drop (Ak l),?_⟩);rw[UD, <-(X q Z).1,show q.l=p.data.toList from congrArg (λx:vB=>x.data.toList) e,cX]
 ·rw[if_neg hk]at A;obtain⟨rs,a0⟩:=vE ((List.range 16).map λi=>if (Ah i l).length=0 then (⟨#[]⟩:vB)else Ax (An f (Ba 1 (Ah i l))).text);(have e:Bj (An f) l=⟨3,⟨#[]⟩,if (l.getD 0 pd).1.size=0 then (l.getD 0 pd).2 else ⟨#[]⟩,rs⟩:=by rw[a0];unfold Bj;rw[if_neg h0,if_neg h1,if_neg hk]);(have TD:∀ i,i<16->(Ah i l).length=0->rs.getD i ()=⟨#[]⟩:=λi hi K=>by rw[a0,TO _ hi,if_pos K]);rw[e];cases hpl:p.data.toList with| nil =>((have O:p.size=0:=by rw[<-Ja p,hpl];rfl);refine⟨?_,?_⟩;{unfold Rv;rw[if_pos rfl,hpl]};unfold Np;rw[if_neg (show ¬(3:Nat)=1 by decide),if_pos rfl];have a3:p=⟨#[]⟩:=Rq (by rw[hpl]);have hm:=CY (l:=l) vO;obtain⟨_,_,_,s4,_⟩:=h.size _ hm;by_cases hz:(l.getD 0 pd).1.size=0;{simp only[hz,if_true];rw[if_pos ⟨O,by omega⟩];refine (PY h.rise ?_).symm;have a2:(l.getD 0 pd).1.data.toList=[]:=bF hz;have:(p,(l.getD 0 pd).2)=l.getD 0 pd:=Prod.ext (by show p=(l.getD 0 pd).1;exact Rq (by rw[hpl,a2])) rfl;rw[this];exact hm};simp only[if_neg hz];rw[if_neg λe=>e.2 rfl];refine (KP λq Z e=>?_).symm;obtain⟨i,hi⟩:=dP Z;cases i with| zero =>(have:l.getD 0 pd=q:=by rw[bL,hi];rfl);rw[this,e]at hz;exact hz O| succ i =>obtain⟨a,ha⟩:∃ a,l[0]?=some a:=⟨_,bB vO⟩;have:=Xr h.rise vO ha hi;rw[show q.l=[]from(congrArg (λx:vB=>x.data.toList) e).trans hpl]at this;exact not_lt_nil _ this)| cons x r =>(rw[hpl]at A;have A:(if (Ah x.toNat l).length=0 then none else some (Ba 1 (Ah x.toNat l),p.extract 1 p.size))=none:=A;have K:(Ah x.toNat l).length=0:=by by_cases K:(Ah x.toNat l).length=0;{exact K};rw[if_neg K]at A;cases A);(have hx:x.toNat<16:=Rr (p:=(p,p)) hp hpl;have O:1<=p.size:=by rw[<-Ja p,hpl];simp);refine⟨?_,?_⟩;{unfold Rv;rw[if_pos rfl,hpl];show (if (rs.getD x.toNat ()).size=0 then _ else _)=_;rw[TD _ hx K,if_pos (show (⟨#[]⟩:vB).size=0 from rfl)]};unfold Np;rw[if_neg (show ¬(3:Nat)=1 by decide),if_pos rfl,if_neg λe=>kL e.1];refine (KP λq Z e=>?_).symm;have a1:q∈Ah x.toNat l:=cE.2 ⟨Z,by unfold Ve;rw[show q.1.data.toList=x::r from(congrArg (λx:vB=>x.data.toList) e).trans hpl];simp⟩;rw[bF K]at a1;cases a1
theorem d2:∀ (f g:Nat) (l:vL),Ep f l->f<=g->Bj (An f) l=Bj (An g) l/\An (f+1) l=An (g+1) l:=by
 have K:∀ (f g:Nat) (l:vL),Bj (An f) l=Bj (An g) l->Dc (An f) l=Dc (An g) l->Bj (An f) l=Bj (An g) l/\An (f+1) l=An (g+1) l:=λf g l H O=>⟨H,by show PT.mk (Cu (Bj (An f) l)) (Dc (An f) l)=PT.mk (Cu (Bj (An g) l)) (Dc (An g) l);rw[H,O]⟩
 intro f;induction f with
 |zero =>intro g l h hg;have H:=Vt h;refine K _ _ _ ?_ ?_;{unfold Bj;by_cases h0:l.length=0;{rw[if_pos h0,if_pos h0]};rw[if_neg h0,if_neg h0,if_pos vO,if_pos vO]};unfold Dc;rw[if_pos H,if_pos H]
 |succ f ih =>intro g l h hg;obtain⟨g,rfl⟩:∃ k,g=k+1:=⟨g-1,by omega⟩;by_cases H:l.length<=1;{refine K _ _ _ ?_ ?_;{unfold Bj;by_cases h0:l.length=0;{rw[if_pos h0,if_pos h0]};rw[if_neg h0,if_neg h0,if_pos vO,if_pos vO]};unfold Dc;rw[if_pos H,if_pos H]};have O:2<=l.length:=vO;have A:=Rn h O;have Z:0<Ak l->An (f+1) (Ba (Ak l) l)=An (g+1) (Ba (Ak l) l):=λe =>(ih g _ ((Ys (Ak l) h (λp X q hq=>(A p X).1.trans (A q hq).1.symm) λp X=>(A p X).2).mono vO) vO).2;have e2:∀ i,An (f+1) (Ba 1 (Ah i l))=An (g+1) (Ba 1 (Ah i l)):=λi=>(ih g _ (Yy i h) vO).2;refine K _ _ _ ?_ ?_;{have n0:¬ l.length=0:=vO;have n1:¬ l.length=1:=vO;unfold Bj;simp only[if_neg n0,if_neg n1];by_cases e:0<Ak l;{rw[if_pos e,if_pos e,Z e]};rw[if_neg e,if_neg e];simp only[e2]};unfold Dc;simp only[if_neg H];by_cases e:0<Ak l;{rw[if_pos e,if_pos e,Z e]};rw[if_neg e,if_neg e];simp only[e2]
theorem OJ(t:vB):(Gm t).length<=1:=by unfold Gm;split<;>simp
theorem C4(h:x∈Gm t):x=t/\32<=x.size:=by
 unfold Gm at h;split at h
 ·cases h
 ·rw[bG]at h;subst h;exact⟨rfl,by omega⟩
theorem VT{p:vB}(hg:Pz l p=none):Ip (f+1) l p=[]:=by rw[Ip,hg]
theorem VU{p q:vB}(hg:Pz l p=some (m,q)):Ip (f+1) l p=Gm (An (f+1) m).text++Ip f m q:=by rw[Ip,hg]
theorem pI{p:vB}(h:Ep 0 l):Pz l p=none:=by unfold Pz;rw[if_pos (Vt h)]
theorem PI:∀ (f:Nat) (l:vL) (p:vB),(Ip f l p).length<=f
 |0,_,_=>bO _
 |f+1,l,p=>by
  cases hg:Pz l p with
  |none=>rw[VT hg];simp
  |some mq =>
   obtain⟨m,q⟩:=mq
   rw[VU hg,bK]
   have:=OJ (An (f+1) m).text
   have:=PI f m q
   omega
structure yO(f:Nat)(l:vL)(t:vB)(g:Nat)(m:vL):Prop where
 lt:g<f
 rows:Ep g m
 ne:m≠[]
 text:t=(An (g+1) m).text
 big:32<=t.size
 sum:Im m<Im l
 flat:∀ x∈Bz (An (g+1) m),32<=x.size->x∈Bz (An (f+1) l)
theorem tL:∀ (f:Nat) (l:vL) (p:vB),Ep f l->Dy p=true->∀ t∈Ip f l p,∃ g m,yO f l t g m
 |0,_,_,_,_,t,ht=>by cases ht
 |f+1,l,p,h,hp,t,ht=>by
  cases hg:Pz l p with
  |none=>rw[VT hg]at ht;cases ht
  |some mq =>
   obtain⟨m,q⟩:=mq
   rw[VU hg]at ht;have A:=LH h hp hg;rcases bR.1 ht with ht|ht
   ·obtain⟨rfl,e⟩:=C4 ht
    exact⟨f,m,⟨Nat.lt_succ_self _,A.rows,A.ne,rfl,e,A.sum,A.flat⟩⟩
   ·obtain⟨g,n,H⟩:=tL f m q A.rows A.valid t ht
    exact⟨g,n,⟨Nat.lt_succ_of_lt H.lt,H.rows,H.ne,H.text,H.big,Nat.lt_trans H.sum A.sum,λx K e=>A.flat x (H.flat x K e) e⟩⟩
theorem M7{p:vB}(h:Ep f l)(hp:Dy p=true)(ht:t∈Ip f l p):t∈Bz (An (f+1) l)/\32<=t.size:=by
 obtain⟨g,m,e⟩:=tL f l p h hp t ht
 exact⟨e.flat t (by rw[e.text];exact Yx _) e.big,e.big⟩
def IJ(vs:List (Ai × vB)):Option vB:=match vs.getLast? with|some (n,p)=>Np n p|none=>none
theorem pF(k:vB):Dt (Cq l) (Bw k)=Dt l k:=by
 have A:∀ {a b:vB},Bw a=Bw b->a=b:=λ{a b} e=>Rq (mQ (by have:=congrArg (λx:vB=>x.data.toList) e;simpa [Bw]using this))
 induction l with
 |nil=>rfl
 |cons q l ih =>(show (if Bw q.1=Bw k then some q.2 else Dt (Cq l) (Bw k))=if q.1=k then some q.2 else Dt l k);by_cases e:q.1=k;{rw[if_pos (by rw[e]),if_pos e]};rw[if_neg λh=>e (A h),if_neg e,ih]
def R0(k:Nat)(pa:vB)(rs:vM)(p r q:vB):Prop:=
 (k=2/\Ff pa p=true/\rs[0]?=some r/\q=p.extract pa.size p.size/\pa.size<=p.size) \/
 (k=3/\∃ x t,p.data.toList=x::t/\rs[x.toNat]?=some r/\q=p.extract 1 p.size)
def Z5(k:Nat)(pa va:vB)(rs:vM)(p:vB):Prop:=
 k=0\/(k=1/\pa≠p)\/(k=2/\Ff pa p=false)\/(k=3/\p=⟨#[]⟩/\va=⟨#[]⟩)\/(k=3/\∃ x t,p.data.toList=x::t/\rs[x.toNat]?=some ⟨#[]⟩)
def Z4(k:Nat)(pa va:vB)(p u:vB):Prop:=(k=1/\pa=p/\va=u)\/(k=3/\p=⟨#[]⟩/\va=u/\va.size≠0)
theorem WT(h:i<rs.length):rs[i]?=some (rs.getD i ()):=by
 rw[bL,bB h];rfl
theorem UR{k:Nat}(hg:Gn (Bx d) ⟨k,pa,va,rs⟩){p r q:vB}(hp:Dy p=true)(e:Rv ⟨k,pa,va,rs⟩ p=(r,q))(hr:r.size≠0):R0 k pa rs p r q:=by
 have H:=hg.one (Bm d);have A:rs.length=16:=H.refs;unfold Rv at e
 by_cases h3:k=3
 ·subst h3;rw[if_pos rfl]at e;cases hpl:p.data.toList with| nil=>rw[hpl]at e;exact absurd (congrArg ByteArray.size (Prod.mk.inj e).1.symm) hr| cons x t =>rw[hpl]at e;have e:(if (rs.getD x.toNat ()).size=0 then (⟨#[]⟩,p)else (rs.getD x.toNat (),p.extract 1 p.size))=(r,q):=e;by_cases h0:(rs.getD x.toNat ()).size=0;{rw[if_pos h0]at e;exact absurd (congrArg ByteArray.size (Prod.mk.inj e).1.symm) hr};rw[if_neg h0]at e;obtain⟨rfl,rfl⟩:=Prod.mk.inj e;exact .inr ⟨rfl,x,t,hpl,WT (by rw[A];exact Rr (p:=(p,p)) hp hpl),rfl⟩
 ·rw[if_neg (show ¬(Ai.mk k pa va rs).kind=3 from h3)]at e;by_cases h2:k=2;{subst h2;rw[if_pos rfl]at e;by_cases hpre:Ff pa p=true;{rw[if_pos (show Ff (Ai.mk 2 pa va rs).path p=true from hpre)]at e;obtain⟨rfl,rfl⟩:=Prod.mk.inj e;refine .inl ⟨rfl,hpre,WT (by rw[A];omega),rfl,?_⟩;obtain⟨s,e⟩:=(PB _ _).1 hpre;rw[<-Ja p,e,bK,Ja];omega};rw[if_neg (show ¬ Ff (Ai.mk 2 pa va rs).path p=true from hpre)]at e;exact absurd (congrArg ByteArray.size (Prod.mk.inj e).1.symm) hr};rw[if_neg (show ¬(Ai.mk k pa va rs).kind=2 from h2)]at e;exact absurd (congrArg ByteArray.size (Prod.mk.inj e).1.symm) hr
theorem rG{k:Nat}(hg:Gn (Bx d) ⟨k,pa,va,rs⟩){p q:vB}(hp:Dy p=true)(A:Rv ⟨k,pa,va,rs⟩ p=(⟨#[]⟩,q))(H:Np ⟨k,pa,va,rs⟩ p=none):Z5 k pa va rs p:=by
 have O:=hg.one (Bm d);have Z:rs.length=16:=O.refs;have hk:k<=3:=O.kind;unfold Rv at A;unfold Np at H
 by_cases h3:k=3
 ·subst h3;rw[if_pos rfl]at A;rw[if_neg (show ¬(3:Nat)=1 by decide),if_pos rfl]at H;cases hpl:p.data.toList with| nil =>(have K:p.size=0:=by rw[<-Ja p,hpl];rfl);refine .inr (.inr (.inr (.inl ⟨rfl,Ov K,Ov ?_⟩)));by_cases hv:va.size=0;{exact hv};have H:(if p.size=0/\va.size≠0 then some va else none)=none:=H;rw[if_pos ⟨K,hv⟩]at H;cases H| cons x t =>(rw[hpl]at A;have A:(if (rs.getD x.toNat ()).size=0 then (⟨#[]⟩,p)else (rs.getD x.toNat (),p.extract 1 p.size))=(⟨#[]⟩,q):=A;have X:(rs.getD x.toNat ()).size=0:=by by_cases X:(rs.getD x.toNat ()).size=0;{exact X};rw[if_neg X]at A;exact congrArg ByteArray.size (Prod.mk.inj A).1);exact .inr (.inr (.inr (.inr ⟨rfl,x,t,hpl,by rw[WT (by rw[Z];exact Rr (p:=(p,p)) hp hpl),Ov X]⟩)))
 ·rw[if_neg (show ¬(Ai.mk k pa va rs).kind=3 from h3)]at A;by_cases h2:k=2;{subst h2;rw[if_pos rfl]at A;by_cases hpre:Ff pa p=true;{rw[if_pos (show Ff (Ai.mk 2 pa va rs).path p=true from hpre)]at A;have e:=(Prod.mk.inj A).1;cases hg with| ext p r a1 a2 a3=>exact absurd (congrArg ByteArray.size e) a2};exact .inr (.inr (.inl ⟨rfl,by simpa using hpre⟩))};by_cases O:k=1;{subst O;rw[if_pos rfl]at H;by_cases he:pa=p;{have H:(if pa=p then some va else none)=none:=H;rw[if_pos he]at H;cases H};exact .inr (.inl ⟨rfl,he⟩)};exact .inl vO
theorem rF{k:Nat}{p:vB}(e:Np ⟨k,pa,va,rs⟩ p=some u):Z4 k pa va p u:=by
 unfold Np at e
 by_cases h1:k=1
 ·subst h1;rw[if_pos rfl]at e;have e:(if pa=p then some va else none)=some u:=e;by_cases he:pa=p;{rw[if_pos he]at e;exact .inl ⟨rfl,he,bV e⟩};rw[if_neg he]at e;cases e
 ·rw[if_neg (show ¬(Ai.mk k pa va rs).kind=1 from h1)]at e;by_cases h3:k=3;{subst h3;rw[if_pos rfl]at e;have e:(if p.size=0/\va.size≠0 then some va else none)=some u:=e;by_cases he:p.size=0/\va.size≠0;{rw[if_pos he]at e;exact .inr ⟨rfl,Ov he.1,bV e,he.2⟩};rw[if_neg he]at e;cases e};rw[if_neg (show ¬(Ai.mk k pa va rs).kind=3 from h3)]at e;cases e
theorem O5{p:vB}(h:Ff a p=true):a.size<=p.size:=by
 obtain⟨s,e⟩:=(PB _ _).1 h
 rw[<-Ja p,e,bK,Ja];omega
theorem Xo{p:vB}{x:vU}{t:vN}(h:p.data.toList=x::t):∃ h0:0<p.size,p[0]=x:=by
 obtain⟨⟨l⟩⟩:=p
 have h:l=x::t:=h;subst h
 exact⟨Nat.succ_pos _,rfl⟩
inductive PA where
 |nil
 |no
 |leaf (path value:vB)
 |ext (path:vB) (next:PA)
 |br (value:vB) (kids:Nat->PA)
def PA.isNil:PA->Bool | .nil=>true|_=>false
def PA.isNo:PA->Bool | .no=>true|_=>false
def PA.isBr:PA->Bool | .br _ _=>true|_=>false
def Jq(a:vB)(P:PA):PA:=if a.size=0 then P else match P with
 |.leaf q v=>.leaf (a++q) v
 |.ext q n=>.ext (a++q) n
 |.br v ks=>.ext a (.br v ks)
 |_=>.no
def Cd(ks:Nat->PA)(i:Nat)(P:PA):Nat->PA:=λj=>if j=i then P else ks j
def Az(p:vB):Nat:=(p.data.toList.headD 0).toNat
def Fw(p:vB):vB:=p.extract 1 p.size
def Hy:PA->vB->vB->PA
 |.br v ks,p,u=>if p.size=0 then .br u ks else .br v (Cd ks (Az p) (.leaf (Fw p) u))
 |P,_,_=>P
theorem Vo(v:vB)(ks:Nat->PA)(p u:vB):Hy (.br v ks) p u=if p.size=0 then .br u ks else .br v (Cd ks (Az p) (.leaf (Fw p) u)):=rfl
theorem ff:¬(false=true):=by decide
def Ds:PA->vB->vB->PA
 |.nil,p,u=>.leaf p u
 |.no,p,u=>.leaf p u
 |.leaf q v,p,u=>if p=q then .leaf p u else
   Jq (p.extract 0 (Dg q p)) (Hy (Hy (.br () λ_=>.nil) (q.extract (Dg q p) q.size) v) (p.extract (Dg q p) p.size) u)
 |.ext q n,p,u=>if Dg q p=q.size then Jq q (Ds n (p.extract (Dg q p) p.size) u)else
   Jq (p.extract 0 (Dg q p)) (Hy (.br () (Cd (λ_=>.nil) (Az (q.extract (Dg q p) q.size)) (Jq (q.extract (Dg q p+1) q.size) n))) (p.extract (Dg q p) p.size) u)
 |.br v ks,p,u=>if p.size=0 then .br u ks else .br v (Cd ks (Az p) (Ds (ks (Az p)) (Fw p) u))
def Gx(ks:Nat->PA):List Nat:=(List.range 16).filter λi => !(ks i).isNil
def Tz(v:vB)(ks:Nat->PA):PA:=match Gx ks with
 |[]=>if v.size=0 then .no else .leaf () v
 |[i]=>if v.size=0 then Jq ⟨#[UInt8.ofNat i]⟩ (ks i)else .br v ks
 |_=>.br v ks
def Vj(P:PA):PA:=if P.isNo then .nil else P
def Ht:PA->vB->PA
 |.nil,_=>.no
 |.no,_=>.no
 |.leaf q v,p=>if p=q then .no else .leaf q v
 |.ext q n,p=>if Ff q p then Jq q (Ht n (p.extract q.size p.size))else .ext q n
 |.br v ks,p=>if p.size=0 then Tz () ks else if (ks (Az p)).isNil then .br v ks else Tz v (Cd ks (Az p) (Vj (Ht (ks (Az p)) (Fw p))))
def Bb:PA->vN->Option vB
 |.nil,_=>none
 |.no,_=>none
 |.leaf q v,p=>if q.data.toList=p then some v else none
 |.ext q n,p=>if q.data.toList.isPrefixOf p then Bb n (p.drop q.data.toList.length)else none
 |.br v _,[]=>if v.size=0 then none else some v
 |.br _ ks,x::t=>Bb (ks x.toNat) t
def AY(v:vB)(ks:Nat->PA):Prop:=(∃ i j,i≠j/\(ks i).isNil=false/\(ks j).isNil=false)\/(v.size≠0/\∃ i,(ks i).isNil=false)
def Dl:PA->Prop
 |.nil=>False
 |.no=>False
 |.leaf q v=>Dy q=true/\v.size≠0
 |.ext q n=>q.size≠0/\Dy q=true/\n.isBr=true/\Dl n
 |.br v ks=>(∀ i,(ks i).isNil=false->i<16)/\(∀ i,(ks i).isNil=false->Dl (ks i))/\AY v ks
theorem DM(a b:vB):(a++b).data.toList=a.data.toList++b.data.toList:=by
 simp[dN]
theorem Qk{P:PA}(h:P.isNil=true):P=.nil:=by cases P<;>first|rfl|cases h
theorem qR{P:PA}(h:P.isNo=true):P=.no:=by cases P<;>first|rfl|cases h
theorem VZ{P:PA}(h:Dl P):P.isNil=false:=by cases P<;>first|rfl|exact h.elim
theorem wW{P:PA}(h:Dl P):P.isNo=false:=by cases P<;>first|rfl|exact h.elim
theorem Tm{a p:vN}:a.isPrefixOf p=true↔∃ r,p=a++r:=by
 rw[List.isPrefixOf_iff_prefix]
 exact⟨λ⟨r,h⟩=>⟨r,h.symm⟩,λ⟨r,h⟩=>⟨r,h.symm⟩⟩
theorem LV{a p:vN}(h:a.isPrefixOf p=false):∀ r,p≠a++r:=λr e=>by
 rw[Tm.2 ⟨r,e⟩]at h;cases h
theorem GM(h:a.size=0):a.data.toList=[]:=bF (by rw[Ja];exact h)
theorem Tn(h:a.size≠0):∃ x t,a.data.toList=x::t:=by
 cases e:a.data.toList with
 |nil=>rw[<-Ja,e]at h;exact (h rfl).elim
 |cons x t=>exact⟨x,t,rfl⟩
theorem Se{p:vB}{x:vU}{t:vN}(h:p.data.toList=x::t):Az p=x.toNat/\(Fw p).data.toList=t:=by
 refine⟨by unfold Az;rw[h];rfl,?_⟩
 unfold Fw;rw[Ox,h];rfl
theorem AE{x y:vU}(h:x≠y):x.toNat≠y.toNat:=λe=>h (dO.1 e)
theorem GT(a:vB)(P:PA)(p:vN):Bb (Jq a P) p=if a.data.toList.isPrefixOf p then Bb P (p.drop a.data.toList.length)else none:=by
 unfold Jq
 by_cases h0:a.size=0
 ·rw[if_pos h0,GM h0];simp
 rw[if_neg h0];cases hp:a.data.toList.isPrefixOf p with
 |true =>(obtain⟨r,rfl⟩:=Tm.1 hp;rw[if_pos rfl,fL];cases P with| nil=>rfl| no=>rfl| leaf q v=>simp only[Bb,DM,gS]| ext q n =>(simp only[Bb,DM];have e:(a.data.toList++q.data.toList).isPrefixOf (a.data.toList++r)=q.data.toList.isPrefixOf r:=by rw[Bool.eq_iff_iff,Tm,Tm];exact⟨λ⟨s,e⟩=>⟨s,by rw[bZ]at e;exact jC e⟩,λ⟨s,e⟩=>⟨s,by rw[e,bZ]⟩⟩);rw[e,bK, <-List.drop_drop,fL]| br v ks =>show (if a.data.toList.isPrefixOf (a.data.toList++r)=true then Bb (.br v ks) ((a.data.toList++r).drop _)else none)=_;rw[hp,if_pos rfl,fL])
 |false =>have A:=LV hp;rw[if_neg ff];cases P with| nil=>rfl| no=>rfl| leaf q v =>simp only[Bb,DM];rw[if_neg λe=>A _ e.symm]| ext q n =>simp only[Bb,DM];rw[if_neg];intro e;obtain⟨s,e⟩:=Tm.1 e;rw[bZ]at e;exact A _ e| br v ks =>show (if a.data.toList.isPrefixOf p=true then _ else none)=_;rw[hp];rfl
theorem OF(v:vB)(ks:Nat->PA)(i:Nat)(P:PA)(x:vU)(t:vN):Bb (.br v (Cd ks i P)) (x::t)=if x.toNat=i then Bb P t else Bb (.br v ks) (x::t):=by
 show Bb (Cd ks i P x.toNat) t=if x.toNat=i then _ else Bb (ks x.toNat) t
 unfold Cd
 by_cases h:x.toNat=i
 ·rw[if_pos h,if_pos h]
 ·rw[if_neg h,if_neg h]
theorem WU(v:vB)(ks:Nat->PA)(p u:vB)(hu:u.size≠0)(hk:∀ x t,p.data.toList=x::t->(ks x.toNat).isNil=true)(q:vN):Bb (Hy (.br v ks) p u) q=if q=p.data.toList then some u else Bb (.br v ks) q:=by
 rw[Vo]
 by_cases h0:p.size=0
 ·rw[if_pos h0,GM h0];cases q with| nil=>simp[Bb,hu]| cons x t=>rfl
 ·rw[if_neg h0];obtain⟨x,t,A⟩:=Tn h0;obtain⟨K,O⟩:=Se A;have H:=Qk (hk x t A);rw[K,A];cases q with| nil=>simp[Bb]| cons y s =>rw[OF];by_cases hy:y=x;{subst hy;rw[if_pos rfl];simp only[Bb,O,H,List.cons.injEq,true_and];by_cases e:t=s;{rw[if_pos e,if_pos e.symm]};rw[if_neg e,if_neg λh=>e h.symm]};rw[if_neg (AE hy),if_neg λe=>hy (List.cons.inj e).1]
theorem FS(a b:vN):∃ a' b',a=a.take (Hz a b)++a'/\b=a.take (Hz a b)++b'/\a'=a.drop (Hz a b)/\b'=b.drop (Hz a b)/\(∀ x s y t,a'=x::s->b'=y::t->x≠y):=by
 obtain⟨q,K,O⟩:=BE a b
 refine⟨_,_,(cX _ _).symm,?_,rfl,rfl,?_⟩
 ·rw[q,cX]
 ·intro x s y t A H e;have h:=ZY a b;rw[A,H,e]at h;simp[Hz]at h
theorem b8{a b:vN}(h:Hz a b=a.length):b=a++b.drop a.length:=by
 obtain⟨e,q,A⟩:=BE a b
 rw[h,cF]at e
 have:=(cX a.length b).symm
 rw[<-e]at this;exact this
theorem XR(p:vB)(k:Nat):(p.extract 0 k).data.toList=p.data.toList.take k:=by
 simp[fA]
theorem WV:∀ (P:PA),(Dl P\/P=.no\/P=.nil)->∀ (p u:vB),u.size≠0->∀ q,Bb (Ds P p u) q=if q=p.data.toList then some u else Bb P q
 |.nil,_,p,u,_,q=>by
  show (if p.data.toList=q then some u else none)=if q=p.data.toList then some u else none
  by_cases e:q=p.data.toList
  ·rw[if_pos e,if_pos e.symm]
  ·rw[if_neg e,if_neg λh=>e h.symm]
 |.no,_,p,u,_,q=>by
  show (if p.data.toList=q then some u else none)=if q=p.data.toList then some u else none
  by_cases e:q=p.data.toList
  ·rw[if_pos e,if_pos e.symm]
  ·rw[if_neg e,if_neg λh=>e h.symm]
 |.leaf a v,h,p,u,hu,q=>by
  have hc:v.size≠0:=by
   rcases h with h|h|h
   ·exact h.2
   ·cases h
   ·cases h
  unfold Ds
  by_cases hpa:p=a
  ·rw[if_pos hpa]
   subst hpa;simp only[Bb]
   by_cases e:q=p.data.toList
   ·rw[if_pos e,if_pos e.symm]
   ·rw[if_neg e,if_neg λh=>e h.symm,if_neg λh=>e h.symm]
  rw[if_neg hpa,GT,XR]
  obtain⟨a',O,Z,hb,H,A,a4⟩:=FS a.data.toList p.data.toList
  obtain⟨a0,a2,a5⟩:=BE a.data.toList p.data.toList
  obtain⟨n,hn⟩:=vE (Dg a p)
  have b0:Hz a.data.toList p.data.toList=n:=hn.symm;rw[b0]at Z hb H A a0 a2 a5;rw[<-hn, <-a0]
  obtain⟨c,a7⟩:=vE (a.data.toList.take n)
  rw[<-a7]at Z hb ⊢;have a1:(a.extract n a.size).data.toList=a':=by rw[Ox,H]
  have K:(p.extract n p.size).data.toList=O:=by rw[Ox,A]
  obtain⟨x1,e1⟩:∃ x,x=a.extract n a.size:=⟨_,rfl⟩
  obtain⟨x2,e2⟩:∃ x,x=p.extract n p.size:=⟨_,rfl⟩
  rw[<-e1]at a1 ⊢;rw[<-e2]at K ⊢;have a8:∀ r,Bb (Hy (Hy (.br () λ_=>.nil) x1 v) x2 u) r=if r=O then some u else if r=a' then some v else none:=by
   intro r;have a9:∃ v1 a3,Hy (.br () λ_=>.nil) x1 v=.br v1 a3/\∀ x t,x2.data.toList=x::t->(a3 x.toNat).isNil=true:=by
    rw[Vo]
    by_cases h0:x1.size=0
    ·rw[if_pos h0];exact⟨_,_,rfl,λ_ _ _=>rfl⟩
    ·rw[if_neg h0]
     refine⟨_,_,rfl,λy t hy=>?_⟩
     obtain⟨x,s,hx⟩:=Tn h0
     unfold Cd;rw[(Se hx).1,if_neg (AE (Ne.symm (a4 x s y t (by rw[<-a1,hx]) (by rw[<-K,hy]))))];rfl
   obtain⟨v1,a3,h1,h2⟩:=a9
   rw[h1,WU v1 a3 x2 u hu h2, <-h1,WU _ _ x1 v hc λ_ _ _=>rfl,a1,K]
   congr 1
   congr 1
   cases r<;>rfl
  cases hp:c.isPrefixOf q with
  |false =>
   have X:=LV hp;rw[if_neg ff,if_neg λe=>X O (e.trans hb)];show none=if a.data.toList=q then some v else none
   rw[if_neg λe=>X a' (e.symm.trans Z)]
  |true =>
   obtain⟨r,rfl⟩:=Tm.1 hp
   rw[if_pos rfl,fL,a8];show _=if c++r=p.data.toList then some u else if a.data.toList=c++r then some v else none
   rw[hb,Z];simp only[gS]
   congr 1
   by_cases e:r=a'
   ·rw[if_pos e,if_pos e.symm]
   ·rw[if_neg e,if_neg λh=>e h.symm]
 |.ext a n,h,p,u,hu,q=>by
  have hc:Dl (.ext a n):=by
   rcases h with h|h|h
   ·exact h
   ·cases h
   ·cases h
  have ih:=WV n (.inl hc.2.2.2);unfold Ds
  by_cases hf:Dg a p=a.size
  ·rw[if_pos hf,GT]
   have hb:=b8 (a:=a.data.toList) (b:=p.data.toList) (by rw[Ja];exact hf)
   obtain⟨O,A⟩:∃ O,O=p.data.toList.drop a.data.toList.length:=⟨_,rfl⟩
   rw[<-A]at hb;have hx:(p.extract (Dg a p) p.size).data.toList=O:=by rw[Ox,hf,A,Ja]
   show _=if q=p.data.toList then some u else if a.data.toList.isPrefixOf q then Bb n (q.drop a.data.toList.length)else none
   cases hp:a.data.toList.isPrefixOf q with
   |false =>
    rw[if_neg ff,if_neg ff,if_neg λe=>LV hp O (e.trans hb)]
   |true =>
    obtain⟨r,rfl⟩:=Tm.1 hp
    rw[if_pos rfl,if_pos rfl,fL,ih _ u hu,hx,hb];simp only[gS]
  ·rw[if_neg hf,GT,XR]
   obtain⟨a',O,Z,hb,H,A,a4⟩:=FS a.data.toList p.data.toList
   obtain⟨a0,a2,a5⟩:=BE a.data.toList p.data.toList
   obtain⟨m,hm⟩:=vE (Dg a p)
   have b1:Hz a.data.toList p.data.toList=m:=hm.symm;rw[b1]at Z hb H A a0 a2 a5;rw[<-hm]at hf ⊢;rw[<-a0]
   obtain⟨c,a7⟩:=vE (a.data.toList.take m)
   rw[<-a7]at Z hb ⊢;have a1:(a.extract m a.size).data.toList=a':=by rw[Ox,H]
   have K:(p.extract m p.size).data.toList=O:=by rw[Ox,A]
   have b2:a'.length=a.size-m:=by rw[H,gW,Ja]
   rw[Ja]at a2;cases a' with
   |nil=>simp at b2;omega
   |cons x s =>
    have b3:(a.extract (m+1) a.size).data.toList=s:=by
     rw[Ox, <-List.drop_drop, <-H];rfl
    rw[(Se a1).1]
    obtain⟨x2,e2⟩:∃ x,x=p.extract m p.size:=⟨_,rfl⟩
    rw[<-e2]at K ⊢;have a8:∀ r,Bb (Hy (.br () (Cd (λ_=>.nil) x.toNat (Jq (a.extract (m+1) a.size) n))) x2 u) r=if r=O then some u else if (x::s).isPrefixOf r then Bb n (r.drop (s.length+1))else none:=by
     intro r;rw[WU _ _ _ u hu,K]
     ·congr 1
      cases r with
      |nil=>rfl
      |cons y t =>
       rw[OF,GT,b3]
       by_cases e:y=x
       ·subst e;simp
       ·rw[if_neg (AE e),if_neg]
        ·rfl
        ·intro X
         obtain⟨r,X⟩:=Tm.1 X
         exact e (List.cons.inj X).1
     ·intro y t hy
      unfold Cd;rw[if_neg (AE (Ne.symm (a4 x s y t rfl (by rw[<-K,hy]))))];rfl
    have b4:a.data.toList.length=c.length+(s.length+1):=by
     have X:=congrArg List.length Z;rw[bK]at X;exact X
    show _=if q=p.data.toList then some u else if a.data.toList.isPrefixOf q then Bb n (q.drop a.data.toList.length)else none
    cases hp:c.isPrefixOf q with
    |false =>
     have X:=LV hp;rw[if_neg ff,if_neg λe=>X O (e.trans hb),if_neg];intro e
     obtain⟨r,e⟩:=Tm.1 e
     rw[Z,bZ]at e;exact X _ e
    |true =>
     obtain⟨r,rfl⟩:=Tm.1 hp
     have e2:(c++r).drop (c.length+(s.length+1))=r.drop (s.length+1):=by rw[<-List.drop_drop,fL]
     rw[if_pos rfl,fL,a8,b4,e2];have e1:a.data.toList.isPrefixOf (c++r)=(x::s).isPrefixOf r:=by
      rw[Bool.eq_iff_iff,Tm,Tm];constructor
      ·rintro⟨z,e⟩
       rw[Z,bZ]at e
       exact⟨z,jC e⟩
      ·rintro⟨z,rfl⟩
       exact⟨z,by rw[Z,bZ]⟩
     rw[e1,hb];simp only[gS]
 |.br v ks,h,p,u,hu,q=>by
  have hc:Dl (.br v ks):=by
   rcases h with h|h|h
   ·exact h
   ·cases h
   ·cases h
  unfold Ds
  by_cases h0:p.size=0
  ·rw[if_pos h0,GM h0]
   cases q with
   |nil=>simp[Bb,hu]
   |cons x t=>rfl
  ·rw[if_neg h0]
   obtain⟨x,t,hx⟩:=Tn h0
   obtain⟨h1,h2⟩:=Se hx
   have ih:=WV (ks (Az p)) (by
    cases hn:(ks (Az p)).isNil with
    |true=>exact .inr (.inr (Qk hn))
    |false=>exact .inl (hc.2.1 _ hn)) (Fw p) u hu
   rw[h1]at ih ⊢;rw[hx];cases q with
   |nil=>simp[Bb]
   |cons y s =>
    rw[OF]
    by_cases hy:y=x
    ·subst hy
     rw[if_pos rfl,ih,h2];simp only[List.cons.injEq,true_and];rfl
    ·rw[if_neg (AE hy),if_neg λe=>hy (List.cons.inj e).1]
theorem Yu:Dy s=true↔∀ x∈s.data.toList,x.toNat<16:=by
 unfold Dy;rw[fJ];constructor
 ·intro h x e;have q:=h x e;simp only[decide_eq_true_eq,fS]at q;have:(15:vU).toNat=15:=rfl;omega
 ·intro h x e;have q:=h x e;simp only[decide_eq_true_eq,fS];have:(15:vU).toNat=15:=rfl;omega
theorem lF{b:vB}(h:Dy a=true)(k:Dy b=true):Dy (a++b)=true:=by
 rw[Yu]at *;intro x q;rw[DM]at q;rcases bR.1 q with e|e
 ·exact h x e
 ·exact k x e
theorem TE(h:Dy a=true)(k:Nat):Dy (a.extract 0 k)=true:=by
 rw[Yu]at *;intro x e;rw[XR]at e;exact h x (gE e)
theorem BK(h:Dy a=true):Dy (Fw a)=true:=Qo h 1 _
theorem Yv{p:vB}(h:Dy p=true)(h0:p.size≠0):Az p<16:=by
 obtain⟨x,t,e⟩:=Tn h0
 rw[(Se e).1];exact Yu.1 h x (by rw[e];exact bN)
theorem Zy(a b:vB):(a++b).size=a.size+b.size:=by
 rw[<-Ja,DM,bK,Ja,Ja]
theorem GO{P:PA}(ha:Dy a=true)(h:Dl P):Dl (Jq a P):=by
 unfold Jq
 by_cases h0:a.size=0
 ·rw[if_pos h0];exact h
 rw[if_neg h0];cases P with
 |nil=>exact h.elim
 |no=>exact h.elim
 |leaf q v=>exact⟨lF ha h.1,h.2⟩
 |ext q n=>exact⟨by rw[Zy];omega,lF ha h.2.1,h.2.2⟩
 |br v ks=>exact⟨h0,ha,rfl,h⟩
theorem Yt(ks:Nat->PA)(i:Nat)(P:PA):Cd ks i P i=P:=if_pos rfl
theorem BU(ks:Nat->PA)(P:PA)(h:j≠i):Cd ks i P j=ks j:=if_neg h
def Lm(ks:Nat->PA):Prop:=(∀ i,(ks i).isNil=false->i<16)/\(∀ i,(ks i).isNil=false->Dl (ks i))
theorem Lm.set{ks:Nat->PA}(h:Lm ks){P:PA}(hi:i<16)(hP:Dl P):Lm (Cd ks i P):=by
 refine⟨λj q=>?_,λj q=>?_⟩
 ·by_cases e:j=i;{rw[e];exact hi};rw[BU _ _ e]at q;exact h.1 j q
 ·by_cases e:j=i;{rw[e,Yt];exact hP};rw[BU _ _ e]at q ⊢;exact h.2 j q
theorem Lm.cut{ks:Nat->PA}(h:Lm ks)(i:Nat):Lm (Cd ks i .nil):=by
 refine⟨λj q=>?_,λj q=>?_⟩
 ·by_cases e:j=i;{rw[e,Yt]at q;cases q};rw[BU _ _ e]at q;exact h.1 j q
 ·by_cases e:j=i;{rw[e,Yt]at q;cases q};rw[BU _ _ e]at q ⊢;exact h.2 j q
theorem UY:Lm (λ_=>.nil):=⟨λ_ h=>Bool.noConfusion h,λ_ h=>Bool.noConfusion h⟩
theorem AY.set{v:vB}{ks:Nat->PA}(h:AY v ks)(i:Nat){P:PA}(hP:P.isNil=false):AY v (Cd ks i P):=by
 have q:∀ j,(ks j).isNil=false->(Cd ks i P j).isNil=false:=by intro j A;by_cases e:j=i;{rw[e,Yt];exact hP};rw[BU _ _ e];exact A
 rcases h with⟨a,b,h1,h2,h3⟩|⟨h1,a,h2⟩
 ·exact .inl ⟨a,b,h1,q a h2,q b h3⟩
 ·exact .inr ⟨h1,a,q a h2⟩
theorem WD{ks:Nat->PA}(v p u:vB)(h:Lm ks)(hp:Dy p=true)(hu:u.size≠0)(h2:(v.size≠0/\p.size≠0)\/∃ i,(ks i).isNil=false/\(p.size=0\/Az p≠i)):Dl (Hy (.br v ks) p u):=by
 rw[Vo]
 by_cases h0:p.size=0
 ·rw[if_pos h0];rcases h2 with⟨_,e⟩|⟨i,hi,_⟩;{exact (e h0).elim};exact⟨h.1,h.2,.inr ⟨hu,i,hi⟩⟩
 ·rw[if_neg h0];have q:=h.set (Yv hp h0) (P:=.leaf (Fw p) u) ⟨BK hp,hu⟩;refine⟨q.1,q.2,?_⟩;rcases h2 with⟨e,_⟩|⟨i,hi,e|e⟩;{exact .inr ⟨e,Az p,by rw[Yt];rfl⟩};{exact (h0 e).elim};exact .inl ⟨Az p,i,e,by rw[Yt];rfl,by rw[BU _ _ (Ne.symm e)];exact hi⟩
theorem WA:∀ (P:PA),(Dl P\/P=.no\/P=.nil)->∀ (p u:vB),Dy p=true->u.size≠0->Dl (Ds P p u)
 |.nil,_,p,u,hp,hu=>⟨hp,hu⟩
 |.no,_,p,u,hp,hu=>⟨hp,hu⟩
 |.leaf a v,h,p,u,hp,hu=>by
  have q:Dy a=true/\v.size≠0:=by
   rcases h with h|h|h
   ·exact h
   ·cases h
   ·cases h
  unfold Ds
  by_cases hpa:p=a
  ·rw[if_pos hpa];exact⟨hp,hu⟩
  rw[if_neg hpa];refine GO (TE hp _) ?_
  obtain⟨a',b',ha,hb,a0,a1,a2⟩:=FS a.data.toList p.data.toList
  have O:(a.extract (Dg a p) a.size).data.toList=a':=by rw[Ox,a0];rfl
  have A:(p.extract (Dg a p) p.size).data.toList=b':=by rw[Ox,a1];rfl
  have X:=Qo q.1 (Dg a p) a.size;have H:=Qo hp (Dg a p) p.size;have a3:¬(a'=[]/\b'=[]):=by
   rintro⟨rfl,rfl⟩
   exact hpa (Rq (hb.trans ha.symm))
  obtain⟨x1,e1⟩:∃ x,x=a.extract (Dg a p) a.size:=⟨_,rfl⟩
  obtain⟨x2,e2⟩:∃ x,x=p.extract (Dg a p) p.size:=⟨_,rfl⟩
  rw[<-e1]at O X ⊢;rw[<-e2]at A H ⊢;rw[Vo]
  by_cases K:x1.size=0
  ·rw[if_pos K]
   refine WD v x2 u UY H hu (.inl ⟨q.2,λe=>a3 ⟨?_,?_⟩⟩)
   ·rw[<-O];exact GM K
   ·rw[<-A];exact GM e
  ·rw[if_neg K]
   refine WD _ x2 u (UY.set (Yv X K) ⟨BK X,q.2⟩) H hu (.inr ⟨Az x1,by rw[Yt];rfl,?_⟩)
   by_cases h9:x2.size=0
   ·exact .inl h9
   ·obtain⟨x,s,hx⟩:=Tn K
    obtain⟨y,t,hy⟩:=Tn h9
    rw[(Se hx).1,(Se hy).1];exact .inr (AE (Ne.symm (a2 x s y t (by rw[<-O,hx]) (by rw[<-A,hy]))))
 |.ext a n,h,p,u,hp,hu=>by
  have q:Dl (.ext a n):=by
   rcases h with h|h|h
   ·exact h
   ·cases h
   ·cases h
  unfold Ds
  by_cases hf:Dg a p=a.size
  ·rw[if_pos hf]
   exact GO q.2.1 (WA n (.inl q.2.2.2) _ u (Qo hp _ _) hu)
  ·rw[if_neg hf]
   refine GO (TE hp _) ?_
   obtain⟨a',b',ha,hb,a0,a1,a2⟩:=FS a.data.toList p.data.toList
   have O:(a.extract (Dg a p) a.size).data.toList=a':=by rw[Ox,a0];rfl
   have A:(p.extract (Dg a p) p.size).data.toList=b':=by rw[Ox,a1];rfl
   have X:=Qo q.2.1 (Dg a p) a.size;have H:=Qo hp (Dg a p) p.size;have K:(a.extract (Dg a p) a.size).size≠0:=by
    have h3:=(BE a.data.toList p.data.toList).2.1;have h4:Dg a p<=a.size:=by rw[<-Ja];exact h3
    rw[Jw];omega
   obtain⟨x2,e2⟩:∃ x,x=p.extract (Dg a p) p.size:=⟨_,rfl⟩
   rw[<-e2]at A H ⊢;have hj:=GO (Qo q.2.1 (Dg a p+1) a.size) q.2.2.2;have hO:=UY.set (Yv X K) hj
   obtain⟨a5,hJ⟩:=vE (Jq (a.extract (Dg a p+1) a.size) n)
   rw[<-hJ]at hO hj ⊢;have hz:=Yt (λ_=>PA.nil) (Az (a.extract (Dg a p) a.size)) a5;have Z:=VZ hj;rw[<-hz]at Z
   obtain⟨KS,a4⟩:=vE (Cd (λ_=>PA.nil) (Az (a.extract (Dg a p) a.size)) a5)
   rw[<-a4]at hO Z ⊢;refine WD () x2 u hO H hu (.inr ⟨Az (a.extract (Dg a p) a.size),Z,?_⟩)
   by_cases h9:x2.size=0
   ·exact .inl h9
   ·obtain⟨x,s,hx⟩:=Tn K
    obtain⟨y,t,hy⟩:=Tn h9
    rw[(Se hx).1,(Se hy).1];exact .inr (AE (Ne.symm (a2 x s y t (by rw[<-O,hx]) (by rw[<-A,hy]))))
 |.br v ks,h,p,u,hp,hu=>by
  have q:Dl (.br v ks):=by
   rcases h with h|h|h
   ·exact h
   ·cases h
   ·cases h
  unfold Ds
  by_cases K:p.size=0
  ·rw[if_pos K]
   refine⟨q.1,q.2.1,?_⟩
   rcases q.2.2 with h1|⟨_,h2⟩
   ·exact .inl h1
   ·exact .inr ⟨hu,h2⟩
  ·rw[if_neg K]
   have hk:=WA (ks (Az p)) (by
    cases hn:(ks (Az p)).isNil with
    |true=>exact .inr (.inr (Qk hn))
    |false=>exact .inl (q.2.1 _ hn)) (Fw p) u (BK hp) hu
   have hs:=Lm.set ⟨q.1,q.2.1⟩ (Yv hp K) hk
   exact⟨hs.1,hs.2,q.2.2.set _ (VZ hk)⟩
theorem qP{ks:Nat->PA}(h:Lm ks):i∈Gx ks↔(ks i).isNil=false:=by
 unfold Gx;rw[cE,dY,gP]
 exact⟨λe=>e.2,λe=>⟨h.1 i e,e⟩⟩
theorem r0(ks:Nat->PA):(Gx ks).Nodup:=List.Nodup.sublist jN List.nodup_range
theorem lJ{v:vB}{ks:Nat->PA}(h:Lm ks):Tz v ks=.no\/Dl (Tz v ks):=by
 have A:=λi=>qP (i:=i) h;have K:=r0 ks;unfold Tz;cases e:Gx ks with
 |nil =>show (if v.size=0 then PA.no else .leaf () v)=.no\/Dl (if v.size=0 then PA.no else .leaf () v);by_cases h0:v.size=0;{rw[if_pos h0];exact .inl rfl};rw[if_neg h0];exact .inr ⟨rfl,h0⟩
 |cons i r =>rw[e]at A K;have q:=(A i).1 bN;cases r with| nil =>show (if v.size=0 then Jq ⟨#[UInt8.ofNat i]⟩ (ks i)else .br v ks)=.no\/Dl (if v.size=0 then Jq ⟨#[UInt8.ofNat i]⟩ (ks i)else .br v ks);right;by_cases h0:v.size=0;{rw[if_pos h0];(have O:=h.1 i q;refine GO ?_ (h.2 i q);rw[Yu];intro x H;have H:x=UInt8.ofNat i:=by simpa using H);rw[H,iT];omega};rw[if_neg h0];exact⟨h.1,h.2,.inr ⟨h0,i,q⟩⟩| cons j r =>right;refine⟨h.1,h.2,.inl ⟨i,j,?_,q,(A j).1 (by simp)⟩⟩;rintro rfl;simp at K
theorem jlZ{v:vB}{ks:Nat->PA}(h:Lm ks)(q:vN):Bb (Tz v ks) q=Bb (.br v ks) q:=by
 have A:=λi=>qP (i:=i) h;unfold Tz;cases e:Gx ks with
 |nil =>(rw[e]at A;have hn:∀ i,ks i=.nil:=λi=>Qk (by cases hb:(ks i).isNil with| true=>rfl| false=>exact ((List.mem_nil_iff i).1 ((A i).2 hb)).elim);show Bb (if v.size=0 then PA.no else .leaf () v) q=_;cases q with| nil =>(show _=if v.size=0 then none else some v);by_cases h0:v.size=0;{rw[if_pos h0,if_pos h0];rfl};rw[if_neg h0,if_neg h0];rfl| cons x t =>show _=Bb (ks x.toNat) t;rw[hn];by_cases h0:v.size=0;{rw[if_pos h0];rfl};rw[if_neg h0];rfl)
 |cons i r =>cases r with| nil =>show Bb (if v.size=0 then Jq ⟨#[UInt8.ofNat i]⟩ (ks i)else .br v ks) q=_;by_cases h0:v.size=0;{rw[if_pos h0,GT];(rw[e]at A;have Z:=h.1 i ((A i).1 bN);have H:(UInt8.ofNat i).toNat=i:=by rw[iT];omega);cases q with| nil=>show (if false=true then _ else none)=if v.size=0 then none else some v;rw[if_pos h0,if_neg ff]| cons x t =>show (if ([UInt8.ofNat i].isPrefixOf (x::t))=true then Bb (ks i) ((x::t).drop 1)else none)=Bb (ks x.toNat) t;by_cases hx:x=UInt8.ofNat i;{subst hx;simp[H]};have K:x.toNat≠i:=λe=>hx (dO.1 (by rw[H];exact e));have O:ks x.toNat=.nil:=Qk (by cases hb:(ks x.toNat).isNil with| true=>rfl| false=>exact (K (by simpa using (A _).2 hb)).elim);rw[O,if_neg];{rfl};intro X;obtain⟨r,X⟩:=Tm.1 X;exact hx (List.cons.inj X).1};rw[if_neg h0]| cons j r=>rfl
theorem G5(P:PA)(q:vN):Bb (Vj P) q=Bb P q:=by
 unfold Vj;cases h:P.isNo with
 |true=>rw[if_pos rfl,qR h];rfl
 |false=>rw[if_neg ff]
theorem WP:∀ (P:PA),Dl P->∀ (p:vB),Dy p=true->(Ht P p=.no\/Dl (Ht P p))/\∀ q,Bb (Ht P p) q=if q=p.data.toList then none else Bb P q
 |.nil,h,_,_=>h.elim
 |.no,h,_,_=>h.elim
 |.leaf a v,h,p,hp=>by
  unfold Ht
  by_cases e:p=a
  ·rw[if_pos e]
   refine⟨.inl rfl,λq=>?_⟩
   subst e;show none=if q=p.data.toList then none else if p.data.toList=q then some v else none
   by_cases h9:q=p.data.toList
   ·rw[if_pos h9]
   ·rw[if_neg h9,if_neg λe=>h9 e.symm]
  ·rw[if_neg e]
   refine⟨.inr h,λq=>?_⟩
   by_cases h9:q=p.data.toList
   ·rw[if_pos h9]
    show (if a.data.toList=q then some v else none)=none;rw[if_neg λh8=>e (Rq (h9.symm.trans h8.symm))]
   ·rw[if_neg h9]
 |.ext a n,h,p,hp=>by
  unfold Ht
  obtain⟨A,Z⟩:=WP n h.2.2.2 (p.extract a.size p.size) (Qo hp _ _)
  cases hb:Ff a p with
  |false =>
   rw[if_neg ff]
   refine⟨.inr h,λq=>?_⟩
   by_cases h9:q=p.data.toList
   ·rw[if_pos h9,h9]
    show (if a.data.toList.isPrefixOf p.data.toList=true then _ else none)=none;unfold Ff at hb;rw[hb];rfl
   ·rw[if_neg h9]
  |true =>
   rw[if_pos rfl]
   obtain⟨b',H⟩:=Tm.1 hb
   have K:(p.extract a.size p.size).data.toList=b':=by rw[Ox,H, <-Ja,fL]
   refine⟨?_,λq=>?_⟩
   ·rcases A with A|A
    ·rw[A]
     left;unfold Jq
     by_cases h0:a.size=0
     ·rw[if_pos h0]
     ·rw[if_neg h0]
    ·exact .inr (GO h.2.1 A)
   ·rw[GT]
    show _=if q=p.data.toList then none else if a.data.toList.isPrefixOf q then Bb n (q.drop a.data.toList.length)else none
    cases hq:a.data.toList.isPrefixOf q with
    |false =>
     rw[if_neg ff,if_neg ff,if_neg λe=>LV hq b' (e.trans H)]
    |true =>
     obtain⟨r,rfl⟩:=Tm.1 hq
     rw[if_pos rfl,if_pos rfl,fL,Z,K,H];simp only[gS]
 |.br v ks,h,p,hp=>by
  unfold Ht;have O:Lm ks:=⟨h.1,h.2.1⟩
  by_cases h0:p.size=0
  ·rw[if_pos h0]
   refine⟨lJ O,λq=>?_⟩
   rw[jlZ O,GM h0];cases q with
   |nil=>rfl
   |cons x t=>rfl
  ·rw[if_neg h0]
   obtain⟨x,t,K⟩:=Tn h0
   obtain⟨X,h2⟩:=Se K
   cases hn:(ks (Az p)).isNil with
   |true =>
    rw[if_pos rfl]
    refine⟨.inr h,λq=>?_⟩
    by_cases h9:q=p.data.toList
    ·rw[if_pos h9,h9,K]
     show Bb (ks x.toNat) t=none;rw[<-X,Qk hn];rfl
    ·rw[if_neg h9]
   |false =>
    rw[if_neg ff]
    obtain⟨A,Z⟩:=WP (ks (Az p)) (h.2.1 _ hn) (Fw p) (BK hp)
    have hS:Lm (Cd ks (Az p) (Vj (Ht (ks (Az p)) (Fw p)))):=by
     unfold Vj;rcases A with A|A
     ·rw[A];exact O.cut _
     ·rw[wW A,if_neg ff]
      exact O.set (Yv hp h0) A
    refine⟨lJ hS,λq=>?_⟩
    rw[jlZ hS,K];cases q with
    |nil=>rfl
    |cons y s =>
     rw[OF,X]
     by_cases hy:y=x
     ·subst hy
      rw[if_pos rfl,G5, <-X,Z,h2];simp only[List.cons.injEq,true_and];show _=if s=t then none else Bb (ks y.toNat) s
      rw[X]
     ·rw[if_neg (AE hy),if_neg λe=>hy (List.cons.inj e).1]
theorem KW(h:i<16):(UInt8.ofNat i).toNat=i:=by rw[iT];omega
theorem EK:∀ (P:PA),Dl P->∃ p v,Bb P p=some v
 |.nil,h=>h.elim
 |.no,h=>h.elim
 |.leaf a v,_=>⟨a.data.toList,v,if_pos rfl⟩
 |.ext a n,h=>by
  obtain⟨p,v,e⟩:=EK n h.2.2.2
  refine⟨a.data.toList++p,v,?_⟩
  show (if a.data.toList.isPrefixOf (a.data.toList++p)=true then Bb n ((a.data.toList++p).drop a.data.toList.length)else none)=some v;rw[if_pos (Tm.2 ⟨p,rfl⟩),fL,e]
 |.br v ks,h=>by
  have q:∃ i,(ks i).isNil=false:=by
   rcases h.2.2 with⟨i,_,_,e,_⟩|⟨_,i,e⟩
   ·exact⟨i,e⟩
   ·exact⟨i,e⟩
  obtain⟨i,q⟩:=q
  obtain⟨p,u,e⟩:=EK (ks i) (h.2.1 i q)
  refine⟨UInt8.ofNat i::p,u,?_⟩
  show Bb (ks (UInt8.ofNat i).toNat) p=some u;rw[KW (h.1 i q),e]
theorem LK{v:vB}{ks:Nat->PA}(h:Dl (.br v ks)):∃ p q a b,p.head?≠q.head?/\Bb (.br v ks) p=some a/\Bb (.br v ks) q=some b:=by
 have A:∀ i,(ks i).isNil=false->∃ t u,Bb (.br v ks) (UInt8.ofNat i::t)=some u:=by intro i H;obtain⟨p,u,e⟩:=EK (ks i) (h.2.1 i H);refine⟨p,u,?_⟩;show Bb (ks (UInt8.ofNat i).toNat) p=some u;rw[KW (h.1 i H),e]
 rcases h.2.2 with⟨i,j,hij,H,hj⟩|⟨hv,i,H⟩
 ·obtain⟨t,a,K⟩:=A i H;obtain⟨s,b,O⟩:=A j hj;refine⟨_,_,a,b,?_,K,O⟩;(intro e;have e:UInt8.ofNat i=UInt8.ofNat j:=by simpa using e);have:=congrArg UInt8.toNat e;rw[KW (h.1 i H),KW (h.1 j hj)]at this;exact hij this
 ·obtain⟨t,a,K⟩:=A i H;refine⟨[],_,v,a,?_,?_,K⟩;{simp};show (if v.size=0 then none else some v)=some v;rw[if_neg hv]
theorem LB:∀ (a r p q:vN),p.head?≠q.head?->r <+: a++p->r <+: a++q->r <+: a
 |[],r,p,q,h,A,H=>by
  cases r with
  |nil=>exact List.nil_prefix
  |cons x s =>
   obtain⟨X,K⟩:=A
   obtain⟨Z,O⟩:=H
   rw[cL]at K O;exfalso;apply h;rw[<-K, <-O];rfl
 |y::a,r,p,q,h,A,H=>by
  cases r with
  |nil=>exact List.nil_prefix
  |cons x s =>
   rw[cS]at A H
   obtain⟨e,A⟩:=List.cons_prefix_cons.1 A
   obtain⟨_,H⟩:=List.cons_prefix_cons.1 H
   rw[e];exact List.cons_prefix_cons.2 ⟨rfl,LB a s p q h A H⟩
theorem LE(a:vB)(n:PA)(t:vN):Bb (.ext a n) (a.data.toList++t)=Bb n t:=by
 show (if a.data.toList.isPrefixOf (a.data.toList++t)=true then Bb n ((a.data.toList++t).drop a.data.toList.length)else none)=Bb n t;rw[if_pos (Tm.2 ⟨t,rfl⟩),fL]
theorem BX{n:PA}{p:vN}{v:vB}(h:Bb (.ext a n) p=some v):a.data.toList <+: p:=by
 have h:(if a.data.toList.isPrefixOf p=true then Bb n (p.drop a.data.toList.length)else none)=some v:=h
 by_cases e:a.data.toList.isPrefixOf p=true
 ·exact List.isPrefixOf_iff_prefix.1 e
 ·rw[if_neg e]at h;cases h
theorem VY{n:PA}(h:Dl (.ext a n)):∃ p q x y,p.head?≠q.head?/\Bb (.ext a n) (a.data.toList++p)=some x/\Bb (.ext a n) (a.data.toList++q)=some y:=by
 cases n with
 |br v ks =>obtain⟨p,q,x,y,e,A,H⟩:=LK h.2.2.2;exact⟨p,q,x,y,e,by rw[LE,A],by rw[LE,H]⟩
 |nil=>cases h.2.2.1
 |no=>cases h.2.2.1
 |leaf _ _=>cases h.2.2.1
 |ext _ _=>cases h.2.2.1
theorem AB{v:vB}{p:vN}(h:Bb (.leaf a v) p=some u):a.data.toList=p/\v=u:=by
 have h:(if a.data.toList=p then some v else none)=some u:=h
 by_cases e:a.data.toList=p
 ·rw[if_pos e]at h;exact⟨e,bV h⟩
 ·rw[if_neg e]at h;cases h
theorem OV{p q:vN}(h:p.head?≠q.head?):p≠q:=λe=>h (by rw[e])
theorem uniq:∀ (P Q:PA),Dl P->Dl Q->(∀ p,Bb P p=Bb Q p)->P=Q
 |.nil,_,h,_,_=>h.elim
 |.no,_,h,_,_=>h.elim
 |.leaf a v,Q,h,k,e=>by
  cases Q with
  |nil=>exact k.elim
  |no=>exact k.elim
  |leaf b u =>
   have H:Bb (.leaf b u) a.data.toList=some v:=by rw[<-e];exact if_pos rfl
   obtain⟨A,K⟩:=AB H
   rw[Rq A,K]
  |ext b n =>
   obtain⟨p,q,x,y,H,A,K⟩:=VY k
   rw[<-e]at A K;exact absurd (jC ((AB A).1.symm.trans (AB K).1)) (OV H)
  |br u ks =>
   obtain⟨p,q,x,y,H,A,K⟩:=LK k
   rw[<-e]at A K;exact absurd ((AB A).1.symm.trans (AB K).1) (OV H)
 |.ext a n,Q,h,k,e=>by
  obtain⟨p,q,x,y,H,A,K⟩:=VY h
  cases Q with
  |nil=>exact k.elim
  |no=>exact k.elim
  |leaf b u =>
   rw[e]at A K;exact absurd (jC ((AB A).1.symm.trans (AB K).1)) (OV H)
  |ext b m =>
   have g2:=A;have g3:=K;rw[e]at g2 g3;have a2:=LB _ _ p q H (BX g2) (BX g3)
   obtain⟨p',q',x',y',k1,Z,k3⟩:=VY k
   have f2:=Z;have f3:=k3;rw[<-e]at f2 f3;have a1:=LB _ _ p' q' k1 (BX f2) (BX f3);have a0:a.data.toList=b.data.toList:=a1.eq_of_length (Nat.le_antisymm a1.length_le a2.length_le);have a0:=Rq a0;subst a0;rw[uniq n m h.2.2.2 k.2.2.2 λt=>by rw[<-LE a n t, <-LE a m t,e]]
  |br u ks =>
   exfalso
   obtain⟨p',q',x',y',k1,Z,k3⟩:=LK k
   rw[<-e]at Z k3;have h9:=LB [] _ p' q' k1 (by simpa using BX Z) (by simpa using BX k3);have h9:=List.prefix_nil.1 h9;apply h.1;rw[<-Ja,h9];rfl
 |.br v ks,Q,h,k,e=>by
  cases Q with
  |nil=>exact k.elim
  |no=>exact k.elim
  |leaf b u =>
   obtain⟨p,q,x,y,H,A,K⟩:=LK h
   rw[e]at A K;exact absurd ((AB A).1.symm.trans (AB K).1) (OV H)
  |ext b m =>
   exfalso
   obtain⟨p',q',x',y',k1,Z,k3⟩:=LK h
   rw[e]at Z k3;have h9:=LB [] _ p' q' k1 (by simpa using BX Z) (by simpa using BX k3);have h9:=List.prefix_nil.1 h9;apply k.1;rw[<-Ja,h9];rfl
  |br u js =>
   have ev:v=u:=by
    have X:=e [];have X:(if v.size=0 then none else some v)=if u.size=0 then none else some u:=X
    by_cases hv:v.size=0
    ·by_cases hu:u.size=0
     ·rw[Ov hv,Ov hu]
     ·rw[if_pos hv,if_neg hu]at X;cases X
    ·by_cases hu:u.size=0
     ·rw[if_neg hv,if_pos hu]at X;cases X
     ·rw[if_neg hv,if_neg hu]at X;exact bV X
   have ek:ks=js:=by
    funext i
    have O:i<16->∀ t,Bb (ks i) t=Bb (js i) t:=by
     intro hi t
     have:=e (UInt8.ofNat i::t)
     have:Bb (ks (UInt8.ofNat i).toNat) t=Bb (js (UInt8.ofNat i).toNat) t:=this
     rw[KW hi]at this;exact this
    cases H:(ks i).isNil with
    |true =>
     cases A:(js i).isNil with
     |true=>rw[Qk H,Qk A]
     |false =>
      obtain⟨t,z,hz⟩:=EK (js i) (k.2.1 i A)
      rw[<-O (k.1 i A),Qk H]at hz;cases hz
    |false =>
     cases A:(js i).isNil with
     |true =>
      obtain⟨t,z,hz⟩:=EK (ks i) (h.2.1 i H)
      rw[O (h.1 i H),Qk A]at hz;cases hz
     |false=>exact uniq (ks i) (js i) (h.2.1 i H) (k.2.1 i A) (O (h.1 i H))
   rw[ev,ek]
section
attribute [local go_sem] Oper.semAt_some
structure YJ where
 path:vB
 value:vB
 ref:vB
def Mo(p:vB):Bool:=p.size % 2 == 0&&Dy p
def Eh(i:Nat):vB:=⟨#[UInt8.ofNat i]⟩
def Lg(p:vB):vV:=.tuple #[(if Mo p=true then Jh p else ⟨#[]⟩:),Mo p]
theorem FI(w:vW)(p:vB)(hs:p.size<=1000000):vR 178 #[p] w (Lg p):=by
 by_cases h2:p.size % 2=0
 ·have H:(p.size:Int) % 2=0:=vO;cases hv:Dy p with| true =>(have q:Mo p=true:=by unfold Mo;rw[hv,h2];rfl);(have A:Lg p=.tuple #[Jh p,true]:=by unfold Lg;rw[q];rfl);(rw[A];unfold vR vQ;go_in;go_wp2_with fail);(refine (PG w p vO).mono ?_;rintro e w1 ⟨rfl,rfl⟩;rw[hv];go_wp2_with fail);(refine vC (WH w1 p hs) λO K=>?_;go_wp2);go_ret2;exact⟨rfl,K⟩| false =>(have q:Mo p=false:=by unfold Mo;rw[hv,h2];rfl);(have A:Lg p=.tuple #[(),false]:=by unfold Lg;rw[q];rfl);(rw[A];unfold vR vQ;go_in;go_wp2_with fail);(refine (PG w p vO).mono ?_;rintro e w1 ⟨rfl,rfl⟩;rw[hv];go_wp2);go_ret2;exact⟨rfl,Aa w1⟩
 ·have H:¬(p.size:Int) % 2=0:=vO;(have q:Mo p=false:=by unfold Mo;rw[show (p.size % 2 == 0)=false by simpa using h2];rfl);(have A:Lg p=.tuple #[(),false]:=by unfold Lg;rw[q];rfl);(have X:((p.size:Int) % 2 != 0)=true:=by simpa using H);(rw[A];unfold vR vQ;go_in;go_wp2);go_ret2;exact⟨rfl,Aa w⟩
def tW(p:YJ):List vV:=[p.path,p.value,p.ref]
theorem Hx:prog.underlying 290=some (.slice 365):=vY
theorem Ss:(prog.info? 365).map (λi=>(i.zero,i.size,i.bytes))=some (some (.agg #[(),(),()]),3,48):=vY
theorem Wt:Mn prog 290 365 3 48:=Mn.mk' Hx Ss rfl vI
def bare(W:vW):vW:={ W with heap:=#[] }
theorem B8(W:vW):Af (bare W) W:=⟨rfl,rfl,rfl,cD _,λb hb=>absurd hb (Nat.not_lt_zero b)⟩
theorem Ar.any{T:TypeId}{xs:List vV}(h:W.ownsRow 0 T sz v n xs):Ar T sz (bare W) W v n xs:=⟨Ir h,h,B8 W,λ_ _=>cD _⟩
theorem V8(p:YJ):∀ u∈tW p,u.oneCell'=true:=by
 intro u e;simp only[tW,bU,gU,or_false]at e;rcases e with rfl|rfl|rfl<;>rfl
end
def Ch(g:Nat->Nat):Nat->Nat
 |0=>0
 |n+1=>Ch g n+g n
def Er:Nat->vL->Nat
 |0,_=>1
 |f+1,l=>1+(if l.length<=1 then 0 else if 0<Ak l then Er f (Ba (Ak l) l)else Ch (λi=>if (Ah i l).length=0 then 0 else Er f (Ba 1 (Ah i l))) 16)
theorem pA(g:Nat->Nat)(l:vL)(h0:∀ i,(Ah i l).length=0->g i=0)(hg:∀ i,(Ah i l).length≠0->g i+2<=3*(Ah i l).length):∀ n,Ch g n+2*Ua l n<=3*Tp l n
 |0=>by simp[Ch,Tp,Ua]
 |n+1=>by
  have e:=pA g l h0 hg n;rw[Ch,Tp,Ua]
  by_cases hz:(Ah n l).length=0
  ·rw[if_pos hz,h0 n hz];omega
  ·have:=hg n hz
   rw[if_neg hz];omega
structure RN(c:Nat)(l:vL):Prop where
 all:c+2<=3*l.length
 two:2<=l.length->Ak l=0->c+3<=3*l.length
theorem xA:∀ (f:Nat) (l:vL),Ep f l->l≠[]->RN (Er f l) l:=by
 intro f;induction f with
 |zero =>intro l h hn;have h0:l.length≠0:=λe=>hn (bF e);have hl:=Vt h;exact⟨by show 1+2<=_;omega,λh2=>by omega⟩
 |succ f ih =>intro l h hn;have h0:l.length≠0:=λe=>hn (bF e);by_cases h1:l.length=1;{(have e:Er (f+1) l=1:=by unfold Er;rw[if_pos vO]);exact⟨by omega,λh2=>by omega⟩};have h2:2<=l.length:=vO;have A:=Rn h h2;by_cases hk:0<Ak l;{have a3:Ep f (Ba (Ak l) l):=(Ys (Ak l) h (λp hp q hq=>(A p hp).1.trans (A q hq).1.symm) λp hp=>(A p hp).2).mono vO;(have X:Ba (Ak l) l≠[]:=λe=>by have:=Jy (Ak l) l;rw[e]at this;simp at this;omega);(have H:=(ih _ a3 X).two (by rw[Jy];omega) (NR vO);rw[Jy]at H;have e:Er (f+1) l=1+Er f (Ba (Ak l) l):=by rw[Er,if_neg vO,if_pos hk]);exact⟨by omega,λ_ hz=>by omega⟩};(have Z:∀ i,(Ah i l).length≠0->Ba 1 (Ah i l)≠[]:=λi hi e=>by have:=Jy 1 (Ah i l);rw[e]at this;simp at this;omega);obtain⟨a,ha⟩:∃ a,l[0]?=some a:=⟨_,bB vO⟩;obtain⟨b,hb⟩:∃ b,l[l.length-1]?=some b:=⟨_,bB vO⟩;(have ga:l.getD 0 pd=a:=by rw[bL,ha];rfl);(have gb:l.getD (l.length-1) pd=b:=by rw[bL,hb];rfl);have K:=bD ha;have a0:=bD hb;have a1:=Xr h.rise vO ha hb;obtain⟨g,O⟩:=vE (λi=>if (Ah i l).length=0 then 0 else Er f (Ba 1 (Ah i l)));(have e:Er (f+1) l=1+Ch g 16:=by rw[Er,if_neg vO,if_neg hk,O]);(have H:Ch g 16+4<=3*l.length:=by have a5:=pA g l (λi hi=>by rw[O];simp only[hi,if_true]) (λi hi=>by have:=(ih _ (Yy i h) (Z i hi)).all;rw[Jy]at this;rw[O];simp only[if_neg hi];exact this) 16;(have a2:Hz a.l b.l=0:=by(have:Ak l=Hz a.l b.l:=by unfold Ak Dg;rw[ga,gb]);omega);cases hbl:b.l with| nil=>rw[hbl]at a1;exact absurd a1 (not_lt_nil _)| cons y t =>have hy:=Rr (h.size b a0).2.2.1 hbl;have cb:=EM a0 hbl;cases hal:a.l with| nil =>have:=jX ⟨a,K,hal⟩ 16;have:=TX cb hy;omega| cons x r =>(have hx:=Rr (h.size a K).2.2.1 hal;have ca:=EM K hal;have a4:x≠y:=by intro e;rw[hal,hbl,e]at a2;simp[Hz]at a2);have X:x.toNat≠y.toNat:=λe=>a4 (dO.1 e);have:=KE l 16;(have:2<=Ua l 16:=by rcases fH x.toNat y.toNat with e|e;{exact NW ca cb e hy};exact NW cb ca vO hx);omega);exact⟨by omega,λ_ _=>by omega⟩
theorem rM{α:Type}{R:α->α->Prop}(hi:∀ x,¬ R x x)(ht:∀ x y,R x y->¬ R y x):∀ {a b:List α},a.Pairwise R->b.Pairwise R->(∀ x,x∈a↔x∈b)->a=b
 |[],[],_,_,_=>rfl
 |[],y::b,_,_,h=>absurd ((h y).2 bN) (by simp)
 |x::a,[],_,_,h=>absurd ((h x).1 bN) (by simp)
 |x::a,y::b,ha,hb,h=>by
  rw[fU]at ha hb;have e:x=y:=by
   rcases bU.1 ((h x).1 bN)with e|h1
   ·exact e
   rcases bU.1 ((h y).2 bN)with e|h2
   ·exact e.symm
   exact absurd (ha.1 y h2) (ht _ _ (hb.1 x h1))
  subst e;rw[rM hi ht ha.2 hb.2 λz=>?_];constructor
  ·intro q
   rcases bU.1 ((h z).1 (bM _ q))with e|h1
   ·subst e;exact absurd (ha.1 z q) (hi z)
   ·exact h1
  ·intro q
   rcases bU.1 ((h z).2 (bM _ q))with e|h1
   ·subst e;exact absurd (hb.1 z q) (hi z)
   ·exact h1
def XK(l:vL):vL:=l.filter λq=>q.1.size=0
theorem XL(p:Ay):p.1.size=0↔p.l=[]:=by
 show p.1.data.toList.length=0↔_;exact List.length_eq_zero_iff
theorem r7(x y:vN)(h:Lt x y):¬ Lt y x:=λk=>lt_irrefl _ (KM _ _ _ h k)
theorem h1(h:Ep f l):l=XK l++(List.range 16).flatMap λi=>Ah i l:=by
 refine rM (R:=λp q:Ay=>Lt p.l q.l) (λx=>lt_irrefl _) (λx y=>r7 _ _) h.rise ?_ λp=>?_
 ·rw[jJ];refine⟨h.rise.filter _,?_,λp e q A=>?_⟩;{(have:∀ n,((List.range n).flatMap λi=>Ah i l).Pairwise λp q:Ay=>Lt p.l q.l:=λn=>by induction n with| zero=>simp| succ n ih =>rw[gM,dS,jJ];refine⟨ih,?_,λp e q A=>?_⟩;{simpa using (pN n h).rise};obtain⟨i,K,e⟩:=dE.1 e;simp only[dJ,List.flatMap_nil,cC]at A;obtain⟨_,a,r,O,e2⟩:=Uv e;obtain⟨_,b,t,H,e4⟩:=Uv A;rw[O,H];have:=dY.1 K;exact Nm.2 (.inl (dU.2 vO)));exact this 16};obtain⟨_,X⟩:=cE.1 e;obtain⟨i,_,A⟩:=dE.1 A;obtain⟨_,b,t,H,_⟩:=Uv A;rw[(XL p).1 (by simpa using X),H];exact PO
 ·rw[bR];constructor;{intro e;cases hl:p.l with| nil=>exact .inl (cE.2 ⟨e,by simpa using (XL p).2 hl⟩)| cons x r =>have Z:=Rr (h.size p e).2.2.1 hl;exact .inr (dE.2 ⟨x.toNat,dY.2 Z,XJ e hl⟩)};rintro (e|e);{exact (cE.1 e).1};obtain⟨i,_,e⟩:=dE.1 e;exact (Uv e).1
theorem d1(h:Ep f l)(hn:l≠[]):XK l=if (l.getD 0 pd).1.size=0 then [l.getD 0 pd]else []:=by
 cases l with
 |nil=>exact absurd rfl hn
 |cons p r =>(have H:∀ q∈r,¬ q.1.size=0:=λq A e=>by have:=(fU.1 h.rise).1 q A;rw[(XL q).1 e]at this;exact not_lt_nil _ this);(have K:r.filter (λq:Ay=>q.1.size=0)=[]:=by rw[List.filter_eq_nil_iff];intro q A;simpa using H q A);(show (p::r).filter _=if p.1.size=0 then [p]else []);rw[jB,K];by_cases e:p.1.size=0;{rw[if_pos e,if_pos (by simpa using e)]};rw[if_neg e,if_neg (by simpa using e)]
theorem FU(a b:vB):(a++b).data.toList=a.data.toList++b.data.toList:=by rw[dN,fO]
theorem uM{x:vU}(h:x.toNat=i):UInt8.ofNat i=x:=by subst h;exact iV
theorem R4{p:vB}{k:Nat}{x:vU}(h:q.l=x::r)(hx:x.toNat=i):p++q.1=(p++Eh i)++q.1.extract 1 q.1.size:=by
 refine Rq ?_;rw[FU,FU,FU,EG _ _ _ (bO _)];have h:q.1.data.toList=x::r:=h;rw[h];unfold Eh;rw[uM hx];simp
theorem R5{p:vB}{k:Nat}(h:q.l.take k=a.data.toList):p++q.1=(p++a)++q.1.extract k q.1.size:=by
 refine Rq ?_;rw[FU,FU,FU,EG _ _ _ (bO _), <-h,bZ];show _++q.l=_++(q.l.take k++q.l.drop k);rw[cX]
def Dj:Nat->vL->PA
 |0,_=>.no
 |f+1,l =>
  if l.length=0 then .no
  else if l.length=1 then .leaf (l.getD 0 pd).1 (l.getD 0 pd).2
  else if 0<Ak l then .ext ((l.getD 0 pd).1.extract 0 (Ak l)) (Dj f (Ba (Ak l) l))
  else .br (if (l.getD 0 pd).1.size=0 then (l.getD 0 pd).2 else ⟨#[]⟩) λi=>if (Ah i l).length=0 then .nil else Dj f (Ba 1 (Ah i l))
theorem JT(f:Nat)(l:vL):Dj (f+1) l =
  if l.length=0 then .no
  else if l.length=1 then .leaf (l.getD 0 pd).1 (l.getD 0 pd).2
  else if 0<Ak l then .ext ((l.getD 0 pd).1.extract 0 (Ak l)) (Dj f (Ba (Ak l) l))
  else .br (if (l.getD 0 pd).1.size=0 then (l.getD 0 pd).2 else ⟨#[]⟩) λi=>if (Ah i l).length=0 then .nil else Dj f (Ba 1 (Ah i l)):=rfl
theorem Tw(f:Nat)(h:l.length=0):Dj (f+1) l=.no:=by rw[JT];rw[if_pos h]
theorem Uw(f:Nat)(h:l.length=1):Dj (f+1) l=.leaf (l.getD 0 pd).1 (l.getD 0 pd).2:=by rw[JT];rw[if_neg vO,if_pos h]
theorem BQ(f:Nat)(h:2<=l.length)(hk:0<Ak l):Dj (f+1) l=.ext ((l.getD 0 pd).1.extract 0 (Ak l)) (Dj f (Ba (Ak l) l)):=by
 rw[JT];rw[if_neg vO,if_neg vO,if_pos hk]
theorem BZ(f:Nat)(h:2<=l.length)(hk:¬ 0<Ak l):Dj (f+1) l=.br (if (l.getD 0 pd).1.size=0 then (l.getD 0 pd).2 else ⟨#[]⟩) λi=>if (Ah i l).length=0 then .nil else Dj f (Ba 1 (Ah i l)):=by
 rw[JT];rw[if_neg vO,if_neg vO,if_neg hk]
theorem YV(h:Ep f l)(hi:(Ah i l).length≠0):i<16:=by
 cases e:Ah i l with
 |nil=>rw[e]at hi;exact (hi rfl).elim
 |cons p r =>obtain⟨q,a,t,A,H⟩:=Uv (show p∈Ah i l by rw[e];exact bN);rw[<-H];exact Rr (h.size p q).2.2.1 A
theorem VB:∀ (f:Nat) (l:vL),Ep f l->∀ p:vB,Dy p=true->Bb (Dj (f+1) l) p.data.toList=Dt l p:=by
 intro f;induction f with
 |zero =>intro l h p X;have hl:=Vt h;by_cases h0:l.length=0;{rw[Tw _ h0,bF h0];rfl};have H:l.length=1:=vO;rw[Uw _ H];obtain⟨q,rfl⟩:=dZ.1 H;(show (if q.1.data.toList=p.data.toList then some q.2 else none)=if q.1=p then some q.2 else Dt [] p);by_cases e:q.1=p;{rw[if_pos e,if_pos (by rw[e])]};rw[if_neg e,if_neg λh=>e (Rq h)];rfl
 |succ f ih =>intro l h p X;by_cases h0:l.length=0;{rw[Tw _ h0,bF h0];rfl};by_cases H:l.length=1;{rw[Uw _ H];obtain⟨q,rfl⟩:=dZ.1 H;(show (if q.1.data.toList=p.data.toList then some q.2 else none)=if q.1=p then some q.2 else Dt [] p);by_cases e:q.1=p;{rw[if_pos e,if_pos (by rw[e])]};rw[if_neg e,if_neg λh=>e (Rq h)];rfl};have h2:2<=l.length:=vO;have a0:=EE h h2;by_cases hk:0<Ak l;{rw[BQ _ h2 hk];show (if ((l.getD 0 pd).1.extract 0 (Ak l)).data.toList.isPrefixOf p.data.toList=true then Bb (Dj (f+1) (Ba (Ak l) l)) (p.data.toList.drop _)else none)=_;rw[Ja,a0];by_cases hb:Ff ((l.getD 0 pd).1.extract 0 (Ak l)) p=true;{(have K:Pz l p=some (Ba (Ak l) l,p.extract (Ak l) p.size):=by unfold Pz;rw[if_neg vO,if_pos hk,if_pos hb]);have A:=LH h X K;have O:((l.getD 0 pd).1.extract 0 (Ak l)).data.toList.isPrefixOf p.data.toList=true:=hb;rw[if_pos O, <-Ox,ih _ A.rows _ A.valid,A.find]};(have K:Pz l p=none:=by unfold Pz;rw[if_neg vO,if_pos hk,if_neg hb]);(have A:=(LG h X K).2;have O:¬((l.getD 0 pd).1.extract 0 (Ak l)).data.toList.isPrefixOf p.data.toList=true:=hb;rw[if_neg O, <-A];have e:Bj (An (f+1)) l=⟨2,(l.getD 0 pd).1.extract 0 (Ak l),⟨#[]⟩,Ax (An (f+1) (Ba (Ak l) l)).text::Dd 15⟩:=by unfold Bj;rw[if_neg h0,if_neg H,if_pos hk]);rw[e];rfl};rw[BZ _ h2 hk];cases hpl:p.data.toList with| nil =>(have K:Pz l p=none:=by unfold Pz;rw[if_neg vO,if_neg hk,hpl]);have A:=(LG h X K).2;rw[<-A];obtain⟨rs,a1⟩:=vE ((List.range 16).map λi=>if (Ah i l).length=0 then (⟨#[]⟩:vB)else Ax (An (f+1) (Ba 1 (Ah i l))).text);(have e:Bj (An (f+1)) l=⟨3,⟨#[]⟩,if (l.getD 0 pd).1.size=0 then (l.getD 0 pd).2 else ⟨#[]⟩,rs⟩:=by rw[a1];unfold Bj;rw[if_neg h0,if_neg H,if_neg hk]);(rw[e];have a2:p.size=0:=by rw[<-Ja p,hpl];rfl);obtain⟨Z,a3⟩:=vE (if (l.getD 0 pd).1.size=0 then (l.getD 0 pd).2 else ⟨#[]⟩);(rw[<-a3];show (if Z.size=0 then none else some Z)=if (3:Nat)=1 then _ else if (3:Nat)=3 then (if p.size=0/\Z.size≠0 then some Z else none)else none);rw[if_neg (by decide:¬(3:Nat)=1),if_pos rfl];by_cases hz:Z.size=0;{rw[if_pos hz,if_neg λh=>h.2 hz]};rw[if_neg hz,if_pos ⟨a2,hz⟩]| cons x t =>show Bb (if (Ah x.toNat l).length=0 then .nil else Dj (f+1) (Ba 1 (Ah x.toNat l))) t=_;by_cases hc:(Ah x.toNat l).length=0;{rw[if_pos hc];refine (KP λq hq e=>?_).symm;exact EM hq (p:=q) (by show q.1.data.toList=x::t;rw[e,hpl]) hc};rw[if_neg hc];(have K:Pz l p=some (Ba 1 (Ah x.toNat l),p.extract 1 p.size):=by unfold Pz;rw[if_neg vO,if_neg hk,hpl];show (if (Ah x.toNat l).length=0 then _ else _)=_;rw[if_neg hc]);(have A:=LH h X K;have e:t=(p.extract 1 p.size).data.toList:=by rw[Ox,hpl];rfl);rw[e,ih _ A.rows _ A.valid,A.find]
theorem CB(h:Ep (f+1) l)(hc:(Ah i l).length≠0):Ep f (Ba 1 (Ah i l))/\Ba 1 (Ah i l)≠[]:=
 ⟨Yy i h,λe=>by have:=Jy 1 (Ah i l);rw[e]at this;simp at this;exact hc this.symm⟩
theorem ET(h:Ep (f+1) l)(h2:2<=l.length)(hk:0<Ak l):Ep f (Ba (Ak l) l)/\Ba (Ak l) l≠[]/\2<=(Ba (Ak l) l).length/\Ak (Ba (Ak l) l)=0:=by
 have A:=Rn h h2
 exact⟨(Ys (Ak l) h (λp H q K=>(A p H).1.trans (A q K).1.symm) λp H=>(A p H).2).mono vO,λe=>by have:=Jy (Ak l) l;rw[e]at this;simp at this;omega,by rw[Jy];exact h2,NR vO⟩
theorem mO:∀ (f:Nat) (l:vL),Ep f l->l≠[]->Dl (Dj (f+1) l)/\(2<=l.length->Ak l=0->(Dj (f+1) l).isBr=true):=by
 intro f;induction f with
 |zero =>intro l h hn;have hl:=Vt h;have h1:l.length=1:=kL (gG.2 hn);have O:=h.size _ (CY (l:=l) vO);rw[Uw _ h1];exact⟨⟨O.2.2.1,by omega⟩,λK=>by omega⟩
 |succ f ih =>intro l h hn;have a2:=gG.2 hn;by_cases h1:l.length=1;{have O:=h.size _ (CY (l:=l) vO);rw[Uw _ h1];exact⟨⟨O.2.2.1,by omega⟩,λK=>by omega⟩};have K:2<=l.length:=vO;have O:=h.size _ (CY (l:=l) vO);by_cases hk:0<Ak l;{obtain⟨X,Z,k3,k4⟩:=ET h K hk;obtain⟨i1,i2⟩:=ih _ X Z;rw[BQ _ K hk];exact⟨⟨by rw[EE h K];omega,TE O.2.2.1 _,i2 k3 k4,i1⟩,λ_ e=>by omega⟩};rw[BZ _ K hk];refine⟨⟨λi q=>?_,λi q=>?_,?_⟩,λ_ _=>rfl⟩;{by_cases A:(Ah i l).length=0;{have q:(if (Ah i l).length=0 then PA.nil else Dj (f+1) (Ba 1 (Ah i l))).isNil=false:=q;rw[if_pos A]at q;cases q};exact YV h A};{have q:(if (Ah i l).length=0 then PA.nil else Dj (f+1) (Ba 1 (Ah i l))).isNil=false:=q;show Dl (if (Ah i l).length=0 then PA.nil else Dj (f+1) (Ba 1 (Ah i l)));by_cases A:(Ah i l).length=0;{rw[if_pos A]at q;cases q};rw[if_neg A];obtain⟨X,Z⟩:=CB h A;exact (ih _ X Z).1};obtain⟨a,ha⟩:∃ a,l[0]?=some a:=⟨_,bB vO⟩;obtain⟨b,hb⟩:∃ b,l[l.length-1]?=some b:=⟨_,bB vO⟩;(have ga:l.getD 0 pd=a:=by rw[bL,ha];rfl);(have gb:l.getD (l.length-1) pd=b:=by rw[bL,hb];rfl);(have a0:=Xr h.rise vO ha hb;have H:Hz a.l b.l=0:=by have:Ak l=0:=vO;unfold Ak at this;rw[ga,gb]at this;exact this);(have a1:∀ p∈l,∀ x t,p.l=x::t->(if (Ah x.toNat l).length=0 then PA.nil else Dj (f+1) (Ba 1 (Ah x.toNat l))).isNil=false:=by intro p hp x t hx;have A:=EM hp hx;rw[if_neg A];obtain⟨X,Z⟩:=CB h A;exact VZ (ih _ X Z).1);cases hbl:b.l with| nil=>rw[hbl]at a0;exact absurd a0 (not_lt_nil _)| cons y s =>have kb:=a1 b (bD hb) y s hbl;cases hal:a.l with| nil =>(right;rw[ga];have h0:a.1.size=0:=by rw[<-Ja];show a.l.length=0;rw[hal];rfl);rw[if_pos h0];have:=(h.size a (bD ha)).2.2.2.1;exact⟨by omega,y.toNat,kb⟩| cons x t =>left;refine⟨x.toNat,y.toNat,λe=>?_,a1 a (bD ha) x t hal,kb⟩;have e:=dO.1 e;rw[hal,hbl,e]at H;simp[Hz]at H
theorem KH:∀ (P:PA),Dl P->∀ (p:vN) (v:vB),Bb P p=some v->∀ x∈p,x.toNat<16
 |.nil,h,_,_,_=>h.elim
 |.no,h,_,_,_=>h.elim
 |.leaf a v,h,p,u,e=>by
  obtain⟨rfl,_⟩:=AB e
  exact Yu.1 h.1
 |.ext a n,h,p,u,e=>by
  obtain⟨r,rfl⟩:=BX e
  rw[LE]at e;intro x q;rcases bR.1 q with q|q
  ·exact Yu.1 h.2.1 x q
  ·exact KH n h.2.2.2 r u e x q
 |.br v ks,h,[],u,e=>λx q=>by cases q
 |.br v ks,h,y::t,u,e=>by
  have e:Bb (ks y.toNat) t=some u:=e;have A:(ks y.toNat).isNil=false:=by
   cases hb:(ks y.toNat).isNil with
   |false=>rfl
   |true=>rw[Qk hb]at e;cases e
  intro x q;rcases bU.1 q with rfl|q
  ·exact h.1 _ A
  ·exact KH (ks y.toNat) (h.2.1 _ A) t u e x q
theorem v6(h:Ep f l){P:PA}(hP:P=.no\/Dl P)(hg:∀ p:vB,Dy p=true->Bb P p.data.toList=Dt l p):P=Dj (f+1) l:=by
 by_cases h0:l.length=0
 ·rw[Tw _ h0];rcases hP with e|A;{exact e};exfalso;obtain⟨p,v,e⟩:=EK P A;have q:=KH P A p v e;have:=hg ⟨p.toArray⟩ (Yu.2 (by simpa using q));(rw[bF h0]at this;have O:Bb P (⟨p.toArray⟩:vB).data.toList=some v:=by simpa using e);rw[O]at this;cases this
 ·have X:l≠[]:=λe=>h0 (by rw[e];rfl);obtain⟨A,_⟩:=mO f l h X;rcases hP with rfl|hP;{exfalso;obtain⟨p,v,e⟩:=EK _ A;(have q:=KH _ A p v e;have H:=VB f l h ⟨p.toArray⟩ (Yu.2 (by simpa using q));have O:Bb (Dj (f+1) l) (⟨p.toArray⟩:vB).data.toList=some v:=by simpa using e);have K:=hg ⟨p.toArray⟩ (Yu.2 (by simpa using q));rw[O]at H;rw[<-H]at K;cases K};refine uniq P _ hP A λp=>?_;by_cases q:∀ x∈p,x.toNat<16;{have H:=VB f l h ⟨p.toArray⟩ (Yu.2 (by simpa using q));(have K:=hg ⟨p.toArray⟩ (Yu.2 (by simpa using q));have e:(⟨p.toArray⟩:vB).data.toList=p:=by simp);rw[e]at H K;rw[H,K]};(have g:∀ Q:PA,Dl Q->Bb Q p=none:=by intro Q Z;cases e:Bb Q p with| none=>rfl| some v=>exact absurd (KH Q Z p v e) q);rw[g P hP,g _ A]
noncomputable def Pa(n:Ai):vB:=@ite _ (∃ d,Gn (Bx d) n) (Classical.propDecidable _) (Cu n) ()
theorem TY{n:Ai}(h:Gn (Bx d) n):Pa n=Cu n:=if_pos ⟨d,h⟩
theorem W2{n:Ai}(h:¬ ∃ d,Gn (Bx d) n):Pa n=⟨#[]⟩:=if_neg h
noncomputable def Bc:PA->vB
 |.nil=>⟨#[]⟩
 |.no=>Pa Cv
 |.leaf q v=>Pa ⟨1,q,v,Dd 16⟩
 |.ext q n=>Pa ⟨2,q,⟨#[]⟩,Ax (Bc n)::Dd 15⟩
 |.br v ks=>Pa ⟨3,⟨#[]⟩,v,(List.range 16).map λi=>if (ks i).isNil then ⟨#[]⟩else Ax (Bc (ks i))⟩
noncomputable def Gg:PA->Ai
 |.nil=>Cv
 |.no=>Cv
 |.leaf q v=>⟨1,q,v,Dd 16⟩
 |.ext q n=>⟨2,q,⟨#[]⟩,Ax (Bc n)::Dd 15⟩
 |.br v ks=>⟨3,⟨#[]⟩,v,(List.range 16).map λi=>if (ks i).isNil then ⟨#[]⟩else Ax (Bc (ks i))⟩
noncomputable def Ca:PA->vM
 |.nil=>[]
 |.no=>[]
 |.leaf _ _=>[]
 |.ext _ n=>Gm (Bc n)++Ca n
 |.br _ ks=>(List.range 16).flatMap λi=>if (ks i).isNil then []else Gm (Bc (ks i))++Ca (ks i)
theorem lE{P:PA}(h:P.isNil=false):Bc P=Pa (Gg P):=by cases P<;>first|rfl|cases h
theorem FZ:(Dj (f+1) l).isNil=false:=by
 rw[JT];split
 ·rfl
 ·split;{rfl};split<;>rfl
theorem TN{α:Type}(g:α->List PT):∀ L:List α,En (L.flatMap g)=L.flatMap λi=>En (g i)
 |[]=>rfl
 |x::L=>by rw[dJ,MN,TN g L];rfl
theorem NN:∀ (f:Nat) (l:vL),Ep f l->Gg (Dj (f+1) l)=Bj (An f) l/\Bc (Dj (f+1) l)=(An (f+1) l).text/\Ca (Dj (f+1) l)=En (Dc (An f) l):=by
 intro f;have q:∀ (f:Nat) (l:vL),Ep f l->Gg (Dj (f+1) l)=Bj (An f) l->Bc (Dj (f+1) l)=(An (f+1) l).text:=by intro f l hr h;rw[lE FZ,h,TY (good f l hr).1];rfl
 induction f with
 |zero =>intro l h;have hl:=Vt h;by_cases h0:l.length=0;{(have e:Gg (Dj (0+1) l)=Bj (An 0) l:=by rw[Tw _ h0];unfold Bj;rw[if_pos h0];rfl);exact⟨e,q 0 l h e,by rw[Tw _ h0];unfold Dc;rw[if_pos vO];rfl⟩};have A:l.length=1:=vO;(have e:Gg (Dj (0+1) l)=Bj (An 0) l:=by rw[Uw _ A];unfold Bj;rw[if_neg h0,if_pos A];rfl);exact⟨e,q 0 l h e,by rw[Uw _ A];unfold Dc;rw[if_pos vO];rfl⟩
 |succ f ih =>(intro l h;have K:∀ m,Ep f m->m≠[]->Gm (Bc (Dj (f+1) m))++Ca (Dj (f+1) m)=En (Ia (An (f+1) m)):=by intro m hm Z;obtain⟨_,i2,i3⟩:=ih m hm;have a0:=(good f m hm).2.1 Z;rw[i2,i3];unfold Gm Ia;by_cases hz:(An (f+1) m).text.size<32;{rw[if_pos hz,if_pos hz];have e:(An (f+1) m).kids=[]:=a0.small hz;have e:Dc (An f) m=[]:=e;rw[e];rfl};rw[if_neg hz,if_neg hz];show _=Bz (An (f+1) m)++[];rw[cC];rfl);by_cases h0:l.length=0;{(have e:Gg (Dj (f+1+1) l)=Bj (An (f+1)) l:=by rw[Tw _ h0];unfold Bj;rw[if_pos h0];rfl);exact⟨e,q _ l h e,by rw[Tw _ h0];unfold Dc;rw[if_pos vO];rfl⟩};by_cases A:l.length=1;{(have e:Gg (Dj (f+1+1) l)=Bj (An (f+1)) l:=by rw[Uw _ A];unfold Bj;rw[if_neg h0,if_pos A];rfl);exact⟨e,q _ l h e,by rw[Uw _ A];unfold Dc;rw[if_pos vO];rfl⟩};have O:2<=l.length:=vO;by_cases hk:0<Ak l;{obtain⟨H,X,_,_⟩:=ET h O hk;(have e:Gg (Dj (f+1+1) l)=Bj (An (f+1)) l:=by rw[BQ _ O hk];unfold Bj;rw[if_neg h0,if_neg A,if_pos hk];show (⟨2,_,⟨#[]⟩,Ax (Bc (Dj (f+1) (Ba (Ak l) l)))::Dd 15⟩:Ai)=_;rw[(ih _ H).2.1]);refine⟨e,q _ l h e,?_⟩;rw[BQ _ O hk];unfold Dc;rw[if_neg vO,if_pos hk];exact K _ H X};(have e:Gg (Dj (f+1+1) l)=Bj (An (f+1)) l:=by rw[BZ _ O hk];unfold Bj;rw[if_neg h0,if_neg A,if_neg hk];show (⟨3,⟨#[]⟩,_,(List.range 16).map _⟩:Ai)=⟨3,⟨#[]⟩,_,(List.range 16).map _⟩;congr 1;refine dA λi _=>?_;show (if (if (Ah i l).length=0 then PA.nil else Dj (f+1) (Ba 1 (Ah i l))).isNil=true then _ else Ax (Bc (if (Ah i l).length=0 then PA.nil else Dj (f+1) (Ba 1 (Ah i l)))))=_;by_cases hc:(Ah i l).length=0;{rw[if_pos hc,if_pos hc];rfl};obtain⟨H,X⟩:=CB h hc;rw[if_neg hc,if_neg hc,FZ,if_neg ff,(ih _ H).2.1]);refine⟨e,q _ l h e,?_⟩;(have eB:Dc (An (f+1)) l=(List.range 16).flatMap λi=>if (Ah i l).length=0 then []else Ia (An (f+1) (Ba 1 (Ah i l))):=by unfold Dc;rw[if_neg vO,if_neg hk]);rw[BZ _ O hk,eB,TN];show (List.range 16).flatMap _=_;congr 1;funext i;show (if (if (Ah i l).length=0 then PA.nil else Dj (f+1) (Ba 1 (Ah i l))).isNil=true then _ else Gm (Bc (if (Ah i l).length=0 then PA.nil else Dj (f+1) (Ba 1 (Ah i l))))++Ca (if (Ah i l).length=0 then PA.nil else Dj (f+1) (Ba 1 (Ah i l))))=_;by_cases hc:(Ah i l).length=0;{rw[if_pos hc,if_pos hc];rfl};obtain⟨H,X⟩:=CB h hc;rw[if_neg hc,if_neg hc,FZ,if_neg ff];exact K _ H X
def Jd(p v:vB):vL:=if Mo p=true then [(Jh p,v)]else []
def Ij:PA->vB->vL
 |.nil,_=>[]
 |.no,_=>[]
 |.leaf q v,p=>Jd (p++q) v
 |.ext q n,p=>Ij n (p++q)
 |.br v ks,p=>(if v.size=0 then []else Jd p v)++(List.range 16).flatMap λi=>if (ks i).isNil then []else Ij (ks i) (p++Eh i)
theorem kF(p a:vB)(k:Nat)(l:vL)(h:∀ q∈l,p++q.1=(p++a)++q.1.extract k q.1.size):(Ba k l).map (λq=>(Jh ((p++a)++q.1),q.2))=l.map λq=>(Jh (p++q.1),q.2):=by
 unfold Ba;rw[dB];refine dA λq e=>?_;show (Jh ((p++a)++q.1.extract k q.1.size),q.2)=_;rw[<-h q e]
theorem z6:∀ (f:Nat) (l:vL),Ep f l->∀ p:vB,(∀ q∈l,Mo (p++q.1)=true)->Ij (Dj (f+1) l) p=l.map λq=>(Jh (p++q.1),q.2):=by
 intro f;induction f with
 |zero =>intro l h p K;have hl:=Vt h;by_cases h0:l.length=0;{rw[Tw _ h0,bF h0];rfl};have O:l.length=1:=vO;rw[Uw _ O];obtain⟨q,rfl⟩:=dZ.1 O;show Jd (p++q.1) q.2=[(Jh (p++q.1),q.2)];unfold Jd;rw[if_pos (K q bN)]
 |succ f ih =>intro l h p K;by_cases h0:l.length=0;{rw[Tw _ h0,bF h0];rfl};by_cases O:l.length=1;{rw[Uw _ O];obtain⟨q,rfl⟩:=dZ.1 O;show Jd (p++q.1) q.2=[(Jh (p++q.1),q.2)];unfold Jd;rw[if_pos (K q bN)]};have h2:2<=l.length:=vO;by_cases hk:0<Ak l;{obtain⟨k1,k2,_,_⟩:=ET h h2 hk;have X:=Rn h h2;rw[BQ _ h2 hk];show Ij (Dj (f+1) (Ba (Ak l) l)) (p++(l.getD 0 pd).1.extract 0 (Ak l))=_;have A:∀ q∈l,p++q.1=(p++(l.getD 0 pd).1.extract 0 (Ak l))++q.1.extract (Ak l) q.1.size:=λq H=>R5 (by rw[(X q H).1,UD]);rw[ih _ k1 _ λq H=>?_,kF p _ _ l A];obtain⟨r,Z,rfl⟩:=bC.1 H;show Mo ((p++(l.getD 0 pd).1.extract 0 (Ak l))++r.1.extract (Ak l) r.1.size)=true;rw[<-A r Z];exact K r Z};rw[BZ _ h2 hk];(have a1:l≠[]:=λe=>h0 (by rw[e];rfl);have a2:=h1 h;have a3:=d1 h a1;have e1:(if (if (l.getD 0 pd).1.size=0 then (l.getD 0 pd).2 else ⟨#[]⟩:vB).size=0 then []else Jd p (if (l.getD 0 pd).1.size=0 then (l.getD 0 pd).2 else ⟨#[]⟩))=(XK l).map λq=>(Jh (p++q.1),q.2):=by rw[a3];by_cases hz:(l.getD 0 pd).1.size=0;{have hm:=CY (l:=l) vO;(have hs:=h.size _ hm;rw[if_pos hz,if_pos hz,if_neg vO];have e0:p++(l.getD 0 pd).1=p:=by rw[Ov hz];exact Rq (by rw[DM];simp));show Jd p _=[(Jh (p++(l.getD 0 pd).1),(l.getD 0 pd).2)];have a0:=K _ hm;rw[e0]at a0 ⊢;unfold Jd;rw[if_pos a0]};rw[if_neg hz,if_neg hz];rfl);show (if (if (l.getD 0 pd).1.size=0 then (l.getD 0 pd).2 else ⟨#[]⟩:vB).size=0 then []else Jd p (if (l.getD 0 pd).1.size=0 then (l.getD 0 pd).2 else ⟨#[]⟩))++(List.range 16).flatMap _=l.map _;rw[e1];(conv=>rhs;rw[a2]);rw[bW,List.map_flatMap];congr 1;congr 1;funext i;show (if (if (Ah i l).length=0 then PA.nil else Dj (f+1) (Ba 1 (Ah i l))).isNil=true then []else Ij (if (Ah i l).length=0 then PA.nil else Dj (f+1) (Ba 1 (Ah i l))) (p++Eh i))=_;by_cases hc:(Ah i l).length=0;{rw[if_pos hc,bF hc];rfl};obtain⟨k1,k2⟩:=CB h hc;(rw[if_neg hc,FZ,if_neg ff];have A:∀ q∈Ah i l,p++q.1=(p++Eh i)++q.1.extract 1 q.1.size:=λq H=>by obtain⟨_,a,r,e,ha⟩:=Uv H;exact R4 (k:=0) e ha);rw[ih _ k1 _ λq H=>?_,kF p _ _ _ A];obtain⟨r,Z,rfl⟩:=bC.1 H;show Mo ((p++Eh i)++r.1.extract 1 r.1.size)=true;rw[<-A r Z];exact K r (Uv Z).1
section
attribute [local go_sem] Oper.semAt_some
theorem E_{m:Nat}{a:Act}{o:Oper}(ho:execOp a.eval o=(do pure (.value (<-convert 83 9 (.slice (some w2) 1 1)))))
  (h:Ad F (w2.alloc (.cells #[.int .u8 (m:Int)] 5)) w3) (hF:¬ F w2) (hm:m<16):(execOp a.eval o).run prog w3=.ok (.value (Eh m)) w3:=by
 have q:=(Ae.new w2 (.cells #[.int .u8 (m:Int)] 5)).Z h hF;have e:(m:Int)=((UInt8.ofNat m).toNat:Int):=by rw[IX m vO]
 have A:w3.ownsRow 0 5 1 (.slice (some w2) 1 1) 1 (El [UInt8.ofNat m]):=⟨rfl,.inr ⟨_,1,_,rfl,cD _,q,bO _,by unfold maxLen;omega,rfl,by rw[e];rfl⟩⟩
 have H:=CO w3 Bh Ck Ag A;rw[ho,bS,H];rfl
end
abbrev Eo:=vN
abbrev Gt:=Ce Eo
def Xz(x:Gt):Eo × vV:=(x.1,x.2.1)
def Ym(m:List (Eo × vV))(k:Eo):Option vV:=(m.find? λx=>decide (k=x.1)).map (·.2)
def Vh:List (Eo × vV)->Eo->vV->List (Eo × vV)
 |[],k,v=>[(k,v)]
 |x::r,k,v=>if k=x.1 then (k,v)::r else x::Vh r k v
def Th:List (Eo × vV)->Eo->List (Eo × vV)
 |[],_=>[]
 |x::r,k=>if k=x.1 then r else x::Th r k
structure Ib(es:List Gt)(ck:Nat)(m:List (Eo × Value)):Prop where
 same:es.map Xz=m
 born:(es.map (·.2.2)).Nodup
 lt:∀ x∈es,x.2.2<ck
 keys:(m.map (·.1)).Nodup
theorem Ib.nil(ck:Nat):Ib [] ck []:=⟨rfl,by simp,by simp,by simp⟩
theorem Ib.len{es:List Gt}{m:List (Eo × vV)}(h:Ib es ck m):es.length=m.length:=by rw[<-h.same];simp
theorem sW(k:Eo):∀ es:List Gt,Cp es k=Ym (es.map Xz) k
 |[]=>rfl
 |x::r=>by
  have e:=sW k r;unfold Ym Cp at *;rw[bP,fQ,fQ]
  by_cases h:k=x.1
  ·simp[h,Xz]
  ·simp[h,Xz]at e ⊢;exact e
theorem Ib.get{es:List Gt}{m:List (Eo × vV)}(h:Ib es ck m)(k:Eo):Cp es k=Ym m k:=by rw[sW,h.same]
theorem XM(k:Eo)(v:vV)(n:Nat):∀ es:List Gt,(Iv es k v n).map Xz=Vh (es.map Xz) k v
 |[]=>rfl
 |x::r=>by
  unfold Iv;rw[bP,Vh]
  by_cases h:k=x.1
  ·rw[if_pos h,if_pos (show k=(Xz x).1 from h),bP];rfl
  ·rw[if_neg h,if_neg (show ¬ k=(Xz x).1 from h),bP,XM k v n r]
theorem sP(k:Eo):∀ es:List Gt,(Kb es k).map Xz=Th (es.map Xz) k
 |[]=>rfl
 |x::r=>by
  unfold Kb;rw[bP,Th]
  by_cases h:k=x.1
  ·rw[if_pos h,if_pos (show k=(Xz x).1 from h)]
  ·rw[if_neg h,if_neg (show ¬ k=(Xz x).1 from h),bP,sP k r]
theorem jlY(x:Gt)(r:List Gt)(k:Eo):Cp (x::r) k=if k=x.1 then some x.2.1 else Cp r k:=by
 by_cases h:k=x.1<;>simp[Cp,h]
theorem lT(k:Eo)(v:vV)(n:Nat):∀ es:List Gt,(Iv es k v n).map (·.2.2)=if (Cp es k).isSome then es.map (·.2.2)else es.map (·.2.2)++[n]
 |[]=>rfl
 |x::r=>by
  unfold Iv;rw[jlY]
  by_cases h:k=x.1
  ·rw[if_pos h,if_pos h];simp
  ·rw[if_neg h,if_neg h,bP,lT k v n r]
   cases (Cp r k).isSome<;>simp
theorem lU(k:Eo)(v:vV):∀ m:List (Eo × vV),(Vh m k v).map (·.1)=if k∈m.map (·.1)then m.map (·.1)else m.map (·.1)++[k]
 |[]=>rfl
 |x::r=>by
  rw[Vh]
  by_cases h:k=x.1
  ·rw[if_pos h,if_pos (by simp[h])];simp[h]
  ·rw[if_neg h,bP,lU k v r]
   by_cases h2:k∈r.map (·.1)
   ·rw[if_pos h2,if_pos (by rw[bP];exact bM _ h2)];rfl
   ·rw[if_neg h2,if_neg (by rw[bP,bU];exact λe=>e.elim h h2)];rfl
theorem Ib.put{es:List Gt}{m:List (Eo × vV)}(h:Ib es ck m)(k:Eo)(v:vV):Ib (Iv es k v ck) (if (Cp es k).isSome then ck else ck+1) (Vh m k v):=by
 have hb:=lT k v ck es
 refine⟨by rw[XM,h.same],?_,?_,?_⟩
 ·rw[hb];split;{exact h.born};rw[dW];refine⟨h.born,by simp,λa A b hb e=>?_⟩;obtain⟨x,H,O⟩:=bC.1 A;have:=h.lt x H;simp at hb;omega
 ·intro x H;have q:x.2.2∈(Iv es k v ck).map (·.2.2):=bC.2 ⟨x,H,rfl⟩;rw[hb]at q;split at q;{rename_i hs;rw[if_pos hs];obtain⟨y,K,e⟩:=bC.1 q;rw[<-e];exact h.lt y K};rename_i hs;rw[if_neg hs];rcases bR.1 q with q|q;{obtain⟨y,K,e⟩:=bC.1 q;have:=h.lt y K;omega};simp at q;omega
 ·rw[lU];split;{exact h.keys};rename_i hn;rw[dW];exact⟨h.keys,by simp,λa A b hb e=>by simp at hb;subst hb;subst e;exact hn A⟩
theorem nW(k:Eo):∀ es:List Gt,(Kb es k).Sublist es
 |[]=>List.Sublist.refl _
 |x::r=>by
  unfold Kb;split
  ·exact iH _ _
  ·exact (nW k r).cons_cons _
theorem nY(k:Eo):∀ m:List (Eo × vV),(Th m k).Sublist m
 |[]=>List.Sublist.refl _
 |x::r=>by
  unfold Th;split
  ·exact iH _ _
  ·exact (nY k r).cons_cons _
theorem Ib.del{es:List Gt}{m:List (Eo × vV)}(h:Ib es ck m)(k:Eo):Ib (Kb es k) ck (Th m k):=by
 have e:=nW k es
 exact⟨by rw[sP,h.same],h.born.sublist (e.map _),λx q=>h.lt x (e.subset q),h.keys.sublist ((nY k m).map _)⟩
structure It where
 text:vB
 refs:vM
 used:Int
 held:Int
abbrev Gk:=Eo × Nat × It
abbrev vT:=List Gk
theorem Ex:prog.underlying 123=some (.map 9 133):=vY
theorem Te(w:vW):(zeroValue 133).run prog w=.ok (.pointer none) w:=vY
structure Xv(W:World)(b:Nat)(it:It):Prop where
 cells:∃ rv,Ae W b (.cells #[it.text,rv,.int .i64 it.used,.int .i64 it.held] 135)/\W.ownsRow 0 9 1 rv it.refs.length (it.refs.map Value.string)
def Mm(W:vW)(F:Bd):Prop:=∀ b cur fz,F b->¬ Ae W b (.cells cur 9 fz)
theorem Mm.none(W:vW):Mm W (λ_=>False):=λ_ _ _ h=>h.elim
theorem BR{xs:List vV}(h:W.ownsRow 0 9 1 v n xs)(k:Ad F W W')(hF:Mm W F):W'.ownsRow 0 9 1 v n xs:=by
 refine Lb h k λb hb H=>?_
 obtain⟨_,⟨q,_⟩|⟨g,K,A,q,_,O,_⟩⟩:=h
 ·rw[q]at hb;cases hb
 ·rw[q]at hb;have e:some g=some b:=hb;obtain rfl:=bV e;exact hF g A (0,0) H O
theorem Xv.Z{it:It}(h:Xv W b it)(k:Ad F W W')(hb:¬ F b)(hF:Mm W F):Xv W' b it:=by
 obtain⟨e,q,A⟩:=h.cells
 exact⟨e,q.Z k hb,BR A k hF⟩
theorem Xv.lt{it:It}(h:Xv W b it):b<(W:Nat):=by obtain⟨q,e,_⟩:=h.cells;exact e.lt
def Wc(x:Gk):Eo × vV:=(x.1,.pointer (some x.2.1))
structure Lw(W:World)(bm:Nat)(L:vT):Prop where
 mp:∃ es ck,Ae W bm (.map (Al.arr es) ck)/\Ib es ck (L.map Wc)
 blks:(L.map (·.2.1)).Nodup
 items:∀ x∈L,Xv W x.2.1 x.2.2
theorem Lw.Z{L:vT}(h:Lw W bm L)(k:Ad F W W')(hm:¬ F bm)(hL:∀ x∈L,¬ F x.2.1)(hF:Mm W F):Lw W' bm L:=by
 obtain⟨q,ck,A,H⟩:=h.mp
 exact⟨⟨q,ck,A.Z k hm,H⟩,h.blks,λx e=>(h.items x e).Z k (hL x e) hF⟩
theorem Lw.ext{L:vT}(h:Lw W bm L)(k:Af W W'):Lw W' bm L:=h.Z k kI (λ_ _ h=>h) (Mm.none W)
def Be(L:vT)(k:Eo):Option Gk:=L.find? λx=>decide (k=x.1)
theorem XH(k:Eo):∀ L:vT,Ym (L.map Wc) k=(Be L k).map λx=>.pointer (some x.2.1)
 |[]=>rfl
 |x::r=>by
  have e:=XH k r;unfold Ym Be at *;rw[bP,fQ,fQ]
  by_cases h:k=x.1
  ·simp[h,Wc]
  ·simp[h,Wc]at e ⊢;exact e
theorem Fd{L:vT}{k:Eo}{x:Gk}(h:Be L k=some x):x∈L/\x.1=k:=by
 unfold Be at h;have e:=List.find?_some h
 exact⟨List.mem_of_find?_eq_some h,(of_decide_eq_true e).symm⟩
def Hp(o:Option Gk):vV:=match o with|some x=>.pointer (some x.2.1)|none=>.pointer none
theorem Lw.look{L:vT}(h:Lw W bm L)(k:vB)(ok:Bool):(Instr.lookup 123 (.map (some bm)) k ok).run prog W=.ok (if ok then .tuple #[Hp (Be L k.data.toList),.bool (Be L k.data.toList).isSome]else Hp (Be L k.data.toList)) W:=by
 obtain⟨A,ck,e,q⟩:=h.mp
 have:=Wx Al Ex e (Te W) k.data.toList ok
 rw[q.get,XH]at this;cases ha:Be L k.data.toList with
 |none=>rw[ha]at this;exact this
 |some x=>rw[ha]at this;exact this
structure Ev(W:World)(s bm:Nat)(room:Int)(L:vT):Prop where
 st:Ae W s (.cells #[.int .i64 room,.map (some bm)] 125)
 mp:Lw W bm L
theorem Ev.ext{s:Nat}{room:Int}{L:vT}(h:Ev W s bm room L)(k:Af W W'):Ev W' s bm room L:=⟨h.st.Z k kI,h.mp.ext k⟩
theorem AL(w:vW)(s bm:Nat)(room:Int)(L:vT)(k:vB)(h:Ev w s bm room L):vR 85 #[s,k] w (Cw ((Be L k.data.toList).map (·.2.2.text))):=by
 have H:=h.st.cell (i:=1) (v:=.map (some bm)) vF;have e:=h.mp.look k true;have q:=J h.mp.items;simp only[if_true]at e;cases ha:Be L k.data.toList with
 |none =>(rw[ha]at e;unfold Hp at e;simp only[Option.isSome]at e;unfold vR vQ;go_in;go_wp2);go_ret2;exact⟨rfl,Aa w⟩
 |some x =>rw[ha]at e;obtain⟨K,A,_⟩:=(q.o x (Fd ha).1).cells;(have O:=A.cell (i:=0) (v:=.string x.2.2.text) vF;unfold Hp at e;simp only[Option.isSome]at e;unfold vR vQ;go_in;go_wp2);go_ret2;exact⟨rfl,Aa w⟩
def Xy(o:Option Gk):Int:=match o with|some x=>x.2.2.held|none=>0
def PR(o:Option Gk):Int:=match o with|some x=>x.2.2.used+x.2.2.held|none=>0
section
attribute [local go_sem] Oper.semAt_some
theorem Jk:(prog.info? 9).map (λi=>(i.zero,i.size,i.bytes))=some (some (.string ⟨#[]⟩),1,16):=vY
theorem Ib.lenL{es:List Gt}{L:vT}(h:Ib es ck (L.map Wc)):es.length=L.length:=by rw[h.len];simp
theorem jzl(w:vW)(s bm:Nat)(room:Int)(L:vT)(h:Ev w s bm room L)(h0:0<=room)(e:room<=9223372036854775807)(hl:L.length<=1000000):vR 62 #[s] w (.int .i64 (room-L.length)):=by
 have Q1:=J (h.st.cell (i:=1) (v:=.map (some bm)) vF);have Q0:=J (h.st.cell (i:=0) (v:=.int .i64 room) vF)
 obtain⟨O,ck,X,q⟩:=h.mp.mp
 have HM:=J X
 obtain⟨n,H⟩:=vE L.length
 have A:O.length=n:=by rw[q.lenL,H]
 have K:=J A;rw[<-H]at hl ⊢;clear h X q A H;unfold vR vQ;go_in;go_wp2_with fail
 refine Hs [0,1,2,3,4,5,6,7,8,9,10] Af Aa Ap vY vY vY ?_
 refine vK ?_
 refine Jf _ s rfl zh (vS ?_)
 refine vK ?_
 refine Db s _ rfl (λw1 e=>Bv underlying3 rfl (Am Q0.o ((Ao _).trans e))) (vS ?_)
 refine vK ?_
 refine Jf _ s rfl zh (vS ?_)
 refine vK ?_
 refine Db ⟨s,1,none⟩ _ rfl (λw1 e=>Bv underlying123 rfl (Am Q1.o ((Ao _).trans e))) (vS ?_);refine Jf _ (.int .i64 O.length) rfl (λw1 e=>by have hx:=SP Al Ex (HM.o.Z ((Ao _).trans e) kI) 3;simp[execOp,Act.eval,resolve,invoke,builtin,hx,bS,Result.andThen,cT]) ?_
 refine vS ?_;rw[K.o];iterate 2 refine vK ?_
 refine Hi (λw3 Z=>?_);have HE:=J ((Ao _).trans Z);clear Z;go_wp2
 go_ret
 exact⟨rfl,HE.o⟩
theorem Jl(W:vW):(Instr.makeMap 123 none).run prog W=.ok (.map (some ↑W)) (W.alloc (.map #[] 0)):=vY
theorem zK(w:vW)(room:Int):vQ 25 #[.int .i64 room] w λe w'=>∃ s bm,e=.returned (.pointer (some ⟨s,0,none⟩))/\Af w w'/\Ev w' s bm (max room 0) []/\(w:Nat)<=bm/\(w:Nat)<=s/\s≠bm:=by
 have q:=Jl;unfold vQ;go_in;go_wp2
 go_ret
 refine⟨_,_,rfl,((Aa w).alloc _).alloc _,⟨?_,⟨[],0,?_,Ib.nil 0⟩,by simp,λx A=>by cases A⟩,bO _,iD _,by omega⟩
 ·exact (by simpa using Ae.new (w.alloc (.map #[] 0)) (.cells #[.int .i64 (max room 0),.map (some ↑w)] 125))
 ·exact (Ae.new w (.map #[] 0)).alloc _
def JC(v:vV):Nat:=match v with | .slice _ n _=>n|_=>0
def CH(s:List Gt):Array Nat:=(s.map (·.2.2)).toArray
def Zk(s:List Gt):List vV:=(s.map (·.1)).map encStr
structure JJ(w:World)(r bm ck:Nat)(es s:List Gt)(v:Value)(W:World):Prop where
 row:Ar 9 1 w W v s.length (Zk s)
 it:Ae W r (.mapIter (some bm) ck (CH s) ck)
 sub:∀ x∈s,x∈es
 nd:(s.map (·.2.2)).Nodup
 ne:∀ b,v.ownBlock=some b->b≠r
theorem KY{α β:Type}(f:α->β):∀ {l:List α},(l.map f).Nodup->l.Nodup
 |[],_=>List.nodup_nil
 |x::r,h=>by
  rw[bP,dL]at h;exact dL.2 ⟨λe=>h.1 (bC.2 ⟨x,e,rfl⟩),KY f h.2⟩
theorem JJ.len{r:Nat}{es s:List Gt}(h:JJ w r bm ck es s v W):s.length<=es.length:=
 iO (KY _ h.nd) (λx e=>h.sub x e)
theorem JJ.done{r:Nat}{es s:List Gt}(h:JJ w r bm ck es s v W)(h0:Fq es (CH s)=[])(hb:(es.map (·.2.2)).Nodup):s.Perm es:=by
 refine (List.perm_ext_iff_of_nodup (KY _ h.nd) (KY _ hb)).2 λx=>⟨λq=>h.sub x q,λq=>?_⟩
 by_cases hc:x.2.2∈s.map (·.2.2)
 ·obtain⟨y,A,e⟩:=bC.1 hc;have:y=x:=Qj hb (h.sub y A) q e;exact this ▸ A
 ·have:x∈Fq es (CH s):=cE.2 ⟨q,by unfold CH;simpa using hc⟩;rw[h0]at this;cases this
theorem Ib.keysL{es:List Gt}{L:vT}(h:Ib es ck (L.map Wc)):es.map (·.1)=L.map (·.1):=by
 have:=congrArg (List.map Prod.fst) h.same
 rw[dB,dB]at this;exact this
def yC(w:vW)(r bm ck:Nat)(es:List Gt)(v:vV)(W:vW):Prop:=∃ s,JJ w r bm ck es s v W
end
noncomputable def Fu(t:vB):It:=⟨t,Gc (Bq t),0,0⟩
noncomputable def ky(t:vB):Eo:=(Aj t).data.toList
noncomputable def Uq(m:List (Eo × It))(t:vB):List (Eo × It):=if m.any (λx=>decide (ky t=x.1))then m else m++[(ky t,Fu t)]
noncomputable def Cm(L:vM):List (Eo × It):=L.foldl Uq []
def Nb(x:Gk):Eo × It:=(x.1,x.2.2)
theorem EJ{L:vT}{k:Eo}:Be L k=none↔∀ x∈L,k≠x.1:=by
 unfold Be;rw[List.find?_eq_none];simp
theorem R6{L:vT}{k:Eo}:(L.map Nb).any (λx=>decide (k=x.1))=(Be L k).isSome:=by
 rw[List.any_map];unfold Be;rw[List.isSome_find?];rfl
theorem ZQ(k:Eo)(v:vV)(n:Nat):∀ es:List Gt,Cp es k=none->Iv es k v n=es++[(k,v,n)]
 |[],_=>rfl
 |x::r,h=>by
  rw[jlY]at h;unfold Iv
  by_cases hk:k=x.1
  ·rw[if_pos hk]at h;cases h
  ·rw[if_neg hk]at h ⊢
   rw[ZQ k v n r h];rfl
theorem Lw.put{L:vT}(h:Lw W bm L)(k:vB)(hk:Be L k.data.toList=none){it:It}(hb:Xv W b it)(hn:∀ x∈L,x.2.1≠b):∃ o,(Instr.mapUpdate 123 (.map (some bm)) k b).run prog W=.ok () (W.putObj bm o)/\Lw (W.putObj bm o) bm (L++[(k.data.toList,b,it)]):=by
 obtain⟨es,ck,K,X⟩:=h.mp
 have hg:Cp es k.data.toList=none:=by rw[X.get,XH,hk];rfl
 have A:=Yq Al Ex K k.data.toList b;have Z:=X.put k.data.toList b;rw[hg]at A Z;simp only[Option.isSome_none,cH,if_false]at A Z;have hK:Ad (λz=>z=bm) W (W.putObj bm (.map (Al.arr (Iv es k.data.toList b ck)) (ck+1))):=Ad.z7 W bm _;have hN:Mm W (λz=>z=bm):=λz a0 fz e hz=>by have e:z=bm:=e;subst e;have:=K.uniq hz;cases this
 have H:∀ {c:Nat} {i:It},Xv W c i->¬ c=bm:=λhi e=>by obtain⟨_,O,_⟩:=hi.cells;subst e;have:=K.uniq O;cases this
 refine⟨_,A,⟨_,_,K.put_same _,?_⟩,?_,?_⟩
 ·(have e:Vh (L.map Wc) k.data.toList b=(L++[(k.data.toList,b,it)]).map Wc:=by rw[bW, <-X.same, <-XM,ZQ _ _ ck _ hg,bW];rfl);rw[<-e];exact Z
 ·rw[bW,dW];exact⟨h.blks,by simp,λa ha c O e=>by simp at O;subst O;subst e;obtain⟨x,q,e⟩:=bC.1 ha;exact hn x q e⟩
 ·intro x q;rcases bR.1 q with q|q;{exact (h.items x q).Z hK (H (h.items x q)) hN};simp only[bG]at q;subst q;exact hb.Z hK (H hb) hN
structure FN(w:World)(bg:Nat)(G:vT)(T:vM)(W:World):Prop where
 ext:Af w W
 at':Lw W bg G
 is:G.map Nb=Cm T
 new:(w:Nat)<=bg
 news:∀ x∈G,(w:Nat)<=x.2.1
theorem FN.Z{G:vT}{T:vM}(h:FN w bg G T W)(e:Af W W'):FN w bg G T W':=⟨h.ext.trans e,h.at'.ext e,h.is,h.new,h.news⟩
theorem g8(h:L[i]?=some t):Cm (L.take (i+1))=Uq (Cm (L.take i)) t:=by
 unfold Cm;rw[cB,h,fE];rfl
section
attribute [local go_sem] Oper.semAt_some
def Da(S:vT)(M:vM):vM:=(Hg M).filter λy=>(Be S y.data.toList).isNone
structure Qw(w0:World)(s:Nat)(S:vT)(bg b:Nat)(M:vM)(W:World):Prop where
 ext:Af w0 W
 lo:(w0:Nat)<=b
 c3:Ae W b (.cells #[s] 75)
 c5:Ae W (b+1) (.cells #[.map (some bg)] 123)
 c9:Ae W (b+4) (.cells #[.map (some (b+3))] 126)
 tab:∃ es ck,Ae W (b+3) (.map (Al.arr es) ck)/\∀ y:vB,Cp es y.data.toList=Kf (Fc M y)
 var:∃ v n,Ae W (b+2) (.cells #[v] 51)/\W.ownsRow 0 9 1 v n ((Da S M).map Value.string)/\n<=M.length/\∀ z,v.ownBlock=some z->b+5<=z
theorem Qw.Z{s:Nat}{S:vT}(h:Qw w0 s S bg b M W)(e:Af W W'):Qw w0 s S bg b M W':=by
 obtain⟨q,ck,A,H⟩:=h.tab
 obtain⟨v,n,K,O,X,Z⟩:=h.var
 exact⟨h.ext.trans e,h.lo,h.c3.Z e kI,h.c5.Z e kI,h.c9.Z e kI,⟨q,ck,A.Z e kI,H⟩,v,n,K.Z e kI,Kh O e,X,Z⟩
theorem oM(S:vT)(M:vM)(x:vB):Da S (M++[x])=if Jr (Hg M) x=true then Da S M else if (Be S x.data.toList).isNone then Da S M++[x]else Da S M:=by
 unfold Da;rw[SW];unfold Ii;split
 ·rfl
 ·rw[List.filter_append];split;{rename_i h;rw[iE (by simpa using h)];rfl};rename_i h;rw[iF (by simpa using h)];simp
theorem m5(M:vM)(x y:vB):Fc (M++[x]) y=Fc M y+(if x.data.toList=y.data.toList then 1 else 0):=by
 unfold Fc;rw[bW,List.count_append,bP,fY,List.count_singleton]
 simp
def Ik(G:vT)(x:vB):vM:=match Be G x.data.toList with|some y=>y.2.2.refs|none=>[]
theorem NC{G:vT}{y:Gk}(h:Be G x.data.toList=some y):Ik G x=y.2.2.refs:=by unfold Ik;rw[h]
theorem jlW(S:vT)(M:vM):(Da S M).Nodup:=(ZK M).sublist jN
theorem EO{S:vT}:x∈Da S M↔x∈M/\Be S x.data.toList=none:=by
 unfold Da;rw[cE,Ql];simp
theorem VW(h:x.data.toList=y.data.toList):x=y:=ByteArray.ext (Array.ext' h)
theorem oL(S:vT)(M:vM):∀ T:vM,∃ X,Da S (M++T)=Da S M++X
 |[]=>⟨[],by simp⟩
 |x::T=>by
  obtain⟨X,q⟩:=oL S (M++[x]) T
  have e:M++x::T=M++[x]++T:=by simp
  rw[e,q,oM];split
  ·exact⟨X,rfl⟩
  ·split
   ·exact⟨x::X,by simp⟩
   ·exact⟨X,rfl⟩
theorem p5(w0:vW)(s:Nat)(S:vT)(bg:Nat):Qw w0 s S bg w0 [] (((((w0.alloc (.cells #[s] 75)).alloc (.cells #[.map (some bg)] 123)).alloc (.cells #[qe] 51)).alloc (.map #[] 0)).alloc (.cells #[.map (some ((w0:Nat)+3))] 126)):=by
 obtain⟨e,O⟩:=vE (w0.alloc (.cells #[s] 75))
 obtain⟨q,X⟩:=vE (e.alloc (.cells #[.map (some bg)] 123))
 obtain⟨A,Z⟩:=vE (q.alloc (.cells #[qe] 51))
 obtain⟨H,h4⟩:=vE (A.alloc (.map #[] 0))
 obtain⟨W5,h5⟩:=vE (H.alloc (.cells #[.map (some ((w0:Nat)+3))] 126))
 rw[<-O, <-X, <-Z, <-h4, <-h5];have z1:(e:Nat)=↑w0+1:=by rw[O,bJ]
 have z2:(q:Nat)=↑w0+2:=by rw[X,bJ,z1]
 have z3:(A:Nat)=↑w0+3:=by rw[Z,bJ,z2]
 have z4:(H:Nat)=↑w0+4:=by rw[h4,bJ,z3]
 have e1:Af w0 e:=by rw[O];exact (Aa w0).alloc _
 have e2:Af e q:=by rw[X];exact (Aa e).alloc _
 have e3:Af q A:=by rw[Z];exact (Aa q).alloc _
 have e4:Af A H:=by rw[h4];exact (Aa A).alloc _
 have K:Af H W5:=by rw[h5];exact (Aa H).alloc _
 have b1:=by have:=Ae.new w0 (.cells #[s] 75);rw[<-O]at this;exact this
 have b2:=by have:=Ae.new e (.cells #[.map (some bg)] 123);rw[<-X,z1]at this;exact this
 have b3:=by have:=Ae.new q (.cells #[qe] 51);rw[<-Z,z2]at this;exact this
 have b4:=by have:=Ae.new A (.map #[] 0);rw[<-h4,z3]at this;exact this
 have b5:=by have:=Ae.new H (.cells #[.map (some ((w0:Nat)+3))] 126);rw[<-h5,z4]at this;exact this
 exact⟨(((e1.trans e2).trans e3).trans e4).trans K,bO _,b1.Z (((e2.trans e3).trans e4).trans K) kI,b2.Z ((e3.trans e4).trans K) kI,b5,⟨[],0,b4.Z K kI,λy=>rfl⟩,qe,0,b3.Z (e4.trans K) kI,fK _ _ _ _,bO _,λz hz=>by cases hz⟩
theorem EW{xs:vM}(h:w.ownsRow 0 9 1 v n (xs.map Value.string)):Ie w v xs:=by
 have A:xs.length=n:=by have:=h.1;simpa using this
 obtain⟨_,⟨rfl,X⟩|⟨g,e,H,rfl,Z,K,O,h6,h7⟩⟩:=id h
 ·exact .inl ⟨none,0,rfl,bF vO⟩
 ·subst A;refine .inr ⟨g,0,e,rfl,(dD.1 K).1,O,λj x q=>?_⟩;have hj:=(bI.1 q).1;have:=h.cellAt j vO;rw[bX,this,bY,q];rfl
theorem jqB(L:vM)(t:vB):Cm (L++[t])=Uq (Cm L) t:=by unfold Cm;rw[fE];rfl
theorem GC(L:vM):(∀ p∈Cm L,∃ t∈L,p=(ky t,Fu t))/\(∀ t∈L,∃ p∈Cm L,p.1=ky t)/\(Cm L).length<=L.length:=by
 suffices h:∀ (R q:vM),((∀ p∈Cm q,∃ t∈q,p=(ky t,Fu t))/\(∀ t∈q,∃ p∈Cm q,p.1=ky t)/\(Cm q).length<=q.length)->(∀ p∈Cm (q++R),∃ t∈q++R,p=(ky t,Fu t))/\(∀ t∈q++R,∃ p∈Cm (q++R),p.1=ky t)/\(Cm (q++R)).length<=(q++R).length from by have:=h L [] ⟨λp H=>(by cases H),λt K=>(by cases K),bO _⟩;simpa using this
 intro R;induction R with
 |nil=>intro q h;simpa using h
 |cons t R ih =>intro q ⟨h1,h2,h3⟩;have:=ih (q++[t]) (by rw[jqB];unfold Uq;split;{rename_i hb;obtain⟨p,H,e⟩:=iN.1 hb;refine⟨λp H=>by obtain⟨x,A,e⟩:=h1 p H;exact⟨x,bR.2 (.inl A),e⟩,λx A=>?_,by rw[bK];exact bH h3 (Nat.le_add_right _ _)⟩;rcases bR.1 A with A|A;{exact h2 x A};simp only[bG]at A;subst A;exact⟨p,H,(of_decide_eq_true e).symm⟩};refine⟨λp H=>?_,λx A=>?_,by rw[bK,bK];exact Nat.add_le_add_right h3 1⟩;{rcases bR.1 H with H|H;{obtain⟨x,A,e⟩:=h1 p H;exact⟨x,bR.2 (.inl A),e⟩};simp only[bG]at H;subst H;exact⟨t,by simp,rfl⟩};rcases bR.1 A with A|A;{obtain⟨p,H,e⟩:=h2 x A;exact⟨p,bR.2 (.inl H),e⟩};simp only[bG]at A;subst A;exact⟨(ky x,Fu x),by simp,rfl⟩);simpa using this
theorem jl0{G:vT}(h:G.map Nb=Cm L)(ht:t∈L):(Be G (Aj t).data.toList).isSome=true:=by
 obtain⟨p,q,e⟩:=(GC L).2.1 t ht
 rw[<-h]at q
 obtain⟨x,A,rfl⟩:=bC.1 q
 cases ha:Be G (Aj t).data.toList with
 |some y=>rfl
 |none=>exact absurd e.symm (EJ.1 ha x A)
theorem Xp{G:vT}(h:G.map Nb=Cm L){x:Gk}(hx:x∈G):∃ t∈L,x.1=ky t/\x.2.2=Fu t:=by
 obtain⟨t,q,e⟩:=(GC L).1 (Nb x) (by rw[<-h];exact bC.2 ⟨x,hx,rfl⟩)
 exact⟨t,q,congrArg Prod.fst e,congrArg Prod.snd e⟩
def Jt(f:Nat)(v:Int)(it:It):It:=if f=2 then { it with used:=v }else { it with held:=v }
def Cn(f c:Nat)(v:Int)(x:Gk):Gk:=if x.2.1=c then (x.1,x.2.1,Jt f v x.2.2)else x
theorem L2(f c:Nat)(v:Int)(L:vT):(L.map (Cn f c v)).map Wc=L.map Wc:=by
 rw[dB];refine dA (λx _=>?_);simp only[Function.comp,Cn];split<;>rfl
theorem oX(f c:Nat)(v:Int)(L:vT):(L.map (Cn f c v)).map (·.2.1)=L.map (·.2.1):=by
 rw[dB];refine dA (λx _=>?_);simp only[Function.comp,Cn];split<;>rfl
theorem Lw.setF{L:vT}(h:Lw W bm L){c:Nat}{it:It}(hc:Xv W c it)(hf:f=2\/f=3)(v:Int):Lw (W.setCell ⟨c,f,none⟩ (.int .i64 v)) bm (L.map (Cn f c v)):=by
 obtain⟨rv,q,a0⟩:=hc.cells
 have A:Ad (λz=>z=c) W (W.setCell ⟨c,f,none⟩ (.int .i64 v)):=Ad.z4 W ⟨c,f,none⟩ _;have hN:Mm W (λz=>z=c):=λz a1 fz e hz=>by have e:z=c:=e;subst e;have:=q.uniq hz;injection this with _ H;exact absurd H vI
 obtain⟨es,ck,X,H⟩:=h.mp
 have K:bm≠c:=λe=>by subst e;have:=X.uniq q;cases this
 refine⟨⟨es,ck,X.Z A K,by rw[L2];exact H⟩,by rw[oX];exact h.blks,λx hx=>?_⟩
 obtain⟨y,hy,rfl⟩:=bC.1 hx
 have Z:=h.items y hy;unfold Cn;split
 ·rename_i e;obtain⟨O,hb,hr⟩:=Z.cells;rw[e]at hb;refine⟨O,?_,?_⟩;{show Ae _ y.2.1 _;rw[e];rcases hf with rfl|rfl;{exact hb.z2 (i:=2) _};exact hb.z2 (i:=3) _};have:=BR hr A hN;rcases hf with rfl|rfl<;>exact this
 ·rename_i e;exact Z.Z A e hN
end
def Md(S:vT)(t:vB):Prop:=∃ x,Be S (ky t)=some x/\x.2.2.text=t
structure Iy(S:vT)(l:vL):Prop where
 ok:Em l=0
 has:∀ x∈Bz (Cr l),Md S x
def RG(S:vT):Prop:=∀ x∈S,∃ n,Hv x.2.2.text n
section
attribute [local go_sem] Oper.semAt_some
theorem MR(hB:Ae w b (.cells #[x,y] 49)):(loadVar 49 b).run prog w=.ok (.agg #[x,y]) w:=by
 have:=UF (b:=b) (o:=0) (hB.cell (i:=0) vF) (hB.cell (i:=1) vF)
 simpa [Instr.loadAt,Instr.sureAddr,bS,Result.andThen]using this
theorem Wr:Xq (prog.underlying 365)=true:=vY
theorem Qi:(prog.info? 365).map (·.size)=some 3:=vY
theorem Qx:∀ w,(Instr.alloc 365 true (.tuple #[])).run prog w=.ok w (w.alloc (.cells [Value.string ⟨#[]⟩,.string ⟨#[]⟩,.string ⟨#[]⟩].toArray 365)):=λw=>by kernel_rfl
theorem T9{o:Nat}(h1:w.cell? ⟨b,o,none⟩=some (.string x))(h2:w.cell? ⟨b,o+1,none⟩=some (.string y))(h3:w.cell? ⟨b,o+2,none⟩=some (.string z)):(Instr.loadAt 365 (.pointer (some ⟨b,o,none⟩))).run prog w=.ok (.agg #[x,y,z]) w:=by
 obtain⟨A,q⟩:=Yo Wr
 refine Yr (xs:=[x,y,z]) q Qi (λj v e=>?_);rw[Addr.add_lit]
 match j,e with
 |0,e=>simp at e;subst e;exact h1
 |1,e=>simp at e;subst e;exact h2
 |2,e=>simp at e;subst e;exact h3
 |j+3,e=>simp at e
theorem Hk:∀ w,(Instr.alloc 49 true (.tuple #[])).run prog w=.ok w (w.alloc (.cells [Value.string ⟨#[]⟩,.string ⟨#[]⟩].toArray 49)):=λw=>by kernel_rfl
theorem LO(x y:vB):∀ u∈[Value.string x,y],u.oneCell'=true:=by
 intro u e;simp at e;rcases e with rfl|rfl<;>rfl
theorem U7(x:vB):(⟨#[]⟩:vB)++x=x:=ByteArray.empty_append
theorem VC(k:vB):Mo (Bw k)=true:=by
 unfold Mo;rw[BO,GB];simp
theorem ZO:∀ l:vN,Rs (Mp l)=l
 |[]=>rfl
 |b::l=>by
  have h:(b >>> 4) <<< 4 |||(b &&& 15)=b:=by
   have h:∀ b:Fin 256,((UInt8.ofNat b.1) >>> 4) <<< 4 |||((UInt8.ofNat b.1) &&& 15)=UInt8.ofNat b.1:=by decide +kernel
   have:=h ⟨b.toNat,b.toNat_lt⟩
   simpa only[iV]using this
  show ((b >>> 4) <<< 4 |||(b &&& 15))::Rs (Mp l)=_;rw[h,ZO l]
theorem TT(k:vB):Jh (Bw k)=k:=by
 unfold Jh Bw;show (⟨(Rs (Mp k.data.toList)).toArray⟩:vB)=k;rw[ZO]
end
