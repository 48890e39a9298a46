/- Lemmas; each is under no condition but those that it states. -/
import Derived.Test.YtgppadbgofalpaaGreatDoorPa0
import Derived.Test.YtgppadbgofalpaaGreatDoorPa17
namespace Go.Proofs.YtgppadbgofalpaaGreatDoor
set_option linter.unusedSimpArgs false
set_option linter.unusedVariables false
set_option maxRecDepth 100000
set_option maxHeartbeats 16000000
open Go Go.RowKit
variable (c:Bk){F:Bf}{cs xs:List Bk}{b f n ck bm i j win next sz by' d B bg:Nat}{D E:Nat->Prop}{p q:Ar}{a t y pa va u s:vB}{l m l' m':vL}{M L rs T:vM}{r:vN}{x:vU}{v pv:vV}{W w w0 w' w2 w3 W':vW}
def Jb(w:vW)(v:vV)(xs:List Bk):Prop:=
 (∃ a c,v=.slice a 0 c/\xs=[])\/∃ b o c,v=.slice (some ⟨b,o,none⟩) xs.length c/\b < w.heap.size/\xs.length<=c/\∀ (j:Nat) x,xs[j]?=some x->w.cell? ⟨b,o+j * 3,none⟩=some (.string x.key)/\w.cell? ⟨b,o+j * 3+1,none⟩=some (.string x.value)/\w.cell? ⟨b,o+j * 3+2,none⟩=some (.bool x.gone)
theorem Jb.ext(h:Jb w v xs)(k:Af w w'):Jb w' v xs:=by
 rcases h with h |⟨b,o,c,h1,h2,h3,h4⟩
 ·exact .inl h
 ·exact .inr ⟨b,o,c,h1,bE h2 k.size,h3,fun j x e=>⟨Am (h4 j x e).1 k,Am (h4 j x e).2.1 k,Am (h4 j x e).2.2 k⟩⟩
theorem Jb.sl(h:Jb w v xs):∃ a c,v=.slice a xs.length c:=by
 rcases h with⟨a,c,h1,h2⟩ |⟨b,o,c,h1,_⟩
 ·exact⟨a,c,by rw[h1,h2];rfl⟩
 ·exact⟨_,c,h1⟩
theorem Nv(W:vW):(Instr.makeMap 101 none).run Tryz.prog W=.ok (.map (some W.heap.size)) (W.alloc (.map #[] 0)):=vY
theorem Ub(w:vW):(zeroValue 49).run Tryz.prog w=.ok (.agg #[.string ⟨#[]⟩,.string ⟨#[]⟩]) w:=vY
def Vd(w:vW)(l:vL)(cs:List Bk)(e:Ending)(w':vW):Prop:=
 if Fi l cs=0 then ∃ r,e=.returned (.tuple #[r,.int .i64 0])/\Ey w w' r (Hi (Lq l cs)).length (Hi (Lq l cs))else e=.returned (.tuple #[.slice none 0 0,.int .i64 (Fi l cs)])/\Af w w'
theorem Vd.bad{x:Int}(h:Fi l cs=x)(h0:x≠0)(he:Af w w'):Vd w l cs (.returned (.tuple #[.slice none 0 0,.int .i64 x])) w':=by
 unfold Vd;rw[h,if_neg h0];exact⟨rfl,he⟩
def jze(w:vW)(cs:List Bk)(i:vV)(wr:vW):Prop:=∃ k:Nat,k<=cs.length/\i=.int .i64 k/\Af w wr/\(cs.take k).any Bk.bad=false
def jzf(w:vW)(bm:Nat)(l:vL)(i:vV)(wr:vW):Prop:=∃ k:Nat,k<=l.length/\i=.int .i64 k/\Af w wr/\∃ es ck,Ae wr bm (.map (Al.arr es) ck)/\Gq es ck ((l.take k).foldl Fw [])
def jzg(w:vW)(bm:Nat)(l:vL)(cs:List Bk)(i:vV)(wr:vW):Prop:=∃ k:Nat,k<=cs.length/\i=.int .i64 k/\Af w wr/\∃ es ck,Ae wr bm (.map (Al.arr es) ck)/\Gq es ck ((cs.take k).foldl Ui (l.foldl Fw []))
def jzh(w5:vW)(M:vL)(v i:vV)(wr:vW):Prop:=∃ k:Nat,k<=M.length/\i=.int .i64 k/\Ey w5 wr v k ((Hi M).take k)
theorem juu{k:Nat}{c:Bk}(h:cs[k]?=some c):(cs.take (k+1)).any Bk.bad=((cs.take k).any Bk.bad || c.bad):=by
 rw[cA,h,List.any_append];simp
theorem rY{k:Nat}{c:Bk}(h:cs[k]?=some c)(hb:c.bad=true):cs.any Bk.bad=true:=gR.2 ⟨c,bD h,hb⟩
theorem OI(w:vW)(v u:vV)(l:vL)(cs:List Bk)(hv:Io w v l)(hu:Jb w u cs)(hn:l.length<=9223372036854775807)(hnc:cs.length<=9223372036854775807)(hs:∀ p∈l,p.1.size<=9223372036854775807/\p.2.size<=9223372036854775807)(hsc:∀ c∈cs,c.key.size<=9223372036854775807/\c.value.size<=9223372036854775807):vQ 11 #[v,u] w (Vd w l cs):=by
 have a9:=Hd (GC w v l hv hn hs);have HV:=Hd hv;have HU:=Hd hu;have d8:=Hd hsc
 obtain⟨a,c,rfl⟩:=hv.sl
 obtain⟨a',c',d6⟩:=hu.sl
 subst d6;clear hv hu hs hsc
 by_cases hck:Dv l=0
 case neg =>obtain⟨x,hx⟩:=vE (Dv l);(have HB:=Hd (show Fi l cs=x by unfold Fi;rw[if_pos hck,hx]);rw[<-hx]at hck a9;have f9:(x == 0)=false:=by simpa using hck);(have HX:=Hd hck;clear hck hx HV HU d8;unfold vQ;go_in;go_wp2_with fail);(refine a9.o.mono ?_;rintro e w1 ⟨rfl,Z⟩;have J:=Hd Z;clear Z a9;go_wp2_with fail);go_ret2;exact Vd.bad HB.o HX.o J.o
 rw[hck]at a9;have a3:=Hd hck;clear hck;unfold vQ;go_in;go_wp2_with fail
 refine a9.o.mono ?_;rintro e w1 ⟨rfl,Z⟩;have d9:=Hd Z;clear Z a9;go_wp2_with fail
 go_loopw [24] (fun i wr=>jze w cs i wr) (fun i _=>cs.length - (intOf i).toNat)
 case atStart=>exact⟨0,by omega,rfl,d9.o,rfl⟩
 case round =>obtain⟨k,hk,rfl,Z,b6⟩:=hrel;have J:=Hd Z;have a0:=Hd b6;clear Z b6;by_cases hlt:k < cs.length;{rcases HU.o with⟨_,_,_,h0⟩ |⟨b,o,c1,hh,hb,hc,A⟩;{rw[h0]at hlt;cases hlt};cases hh;obtain⟨p,hp⟩:∃ p,cs[k]?=some p:=⟨_,bB hlt⟩;obtain⟨q1,q2,q3⟩:=A k p hp;have q1:=Am q1 J.o;have q2:=Am q2 J.o;have q3:=Am q3 J.o;have c4:=d8.o p (bD hp);have b1:(k:Int) < (cs.length:Int):=vO;have HP:=Hd hp;obtain⟨ky,vl,gn⟩:=p;simp only at q1 q2 q3 c4;clear A hp hb hc;have a4:=Hd (fun(h:Bk.bad ⟨ky,vl,gn⟩=true)=>(show Fi l cs=1 by unfold Fi;rw[if_neg (by rw[a3.o];simp),if_pos (rY HP.o h)]));(have e0:=Hd (fun(h:Bk.bad ⟨ky,vl,gn⟩=false)=>(show (cs.take (k+1)).any Bk.bad=false by rw[juu HP.o,a0.o,h];rfl));have b3:=Hd (J.o.alloc (.cells #[ky,vl,gn] 47));clear HP a0;go_wp2_with fail);refine (GF _ ky c4.1).mono ?_;rintro e w3 ⟨rfl,rfl⟩;clear q1 q2 q3;cases hky:Up ky with| false =>(have HB:=Hd (a4.o (by unfold Bk.bad;simp[hky]));clear hky;go_wp2_with fail);go_ret2;exact Vd.bad HB.o vI b3.o| true =>cases gn with| true =>by_cases hz:vl.size=0;{have:=Og hz;(subst this;have HG:=Hd (e0.o (by unfold Bk.bad;simp[hky];rfl));clear hky hz;go_wp2_with fail);go_roundw;(case rel=>exact⟨k+1,by omega,by go_num,b3.o,HG.o⟩);case measure=>exact vJ};have f9:=Rq (s:=vl) vO;(have HB:=Hd (a4.o (by unfold Bk.bad;simp[hky,hz]));clear hky hz;go_wp2_with fail);go_ret2;exact Vd.bad HB.o vI b3.o| false =>(go_wp2_with fail);refine (JU _ vl c4.2).mono ?_;rintro e w3 ⟨rfl,rfl⟩;cases hvl:Wm vl with| true =>(have HG:=Hd (e0.o (by unfold Bk.bad;simp[hky,hvl]));clear hky hvl;go_wp2_with fail);go_roundw;(case rel=>exact⟨k+1,by omega,by go_num,b3.o,HG.o⟩);case measure=>exact vJ| false =>(have HB:=Hd (a4.o (by unfold Bk.bad;simp[hky,hvl]));clear hky hvl;go_wp2_with fail);go_ret2;exact Vd.bad HB.o vI b3.o};have e4:k=cs.length:=vO;(have HB:=Hd (show cs.any Bk.bad=false by have h:=a0.o;rwa [e4,cD]at h);clear e4 a0;have g0:=Nv wr;go_wp2_with fail);obtain⟨bm,b8⟩:=vE wr.heap.size;(have e5:=Hd (show Ae (wr.alloc (.map #[] 0)) bm (.map #[] 0) by rw[b8];exact Ae.new wr _);have c5:w.heap.size<=bm:=by rw[b8];exact J.o.size);(have e6:=Hd (J.o.alloc (.map #[] 0));rw[<-b8];clear g0 b8;go_loopw [56] (fun i w2=>jzf w bm l i w2) (fun i _=>l.length - (intOf i).toNat));(case atStart=>exact⟨0,by omega,rfl,e6.o,[],0,e5.o,Gq.nil 0⟩);case round =>clear J e6 e5 d9;obtain⟨j,hj,rfl,Z,es,ck,hM,hR⟩:=hrel;have J:=Hd Z;have HR:=Hd hR;by_cases hlt2:j < l.length;{rcases HV.o with⟨_,_,_,h0⟩ |⟨b,o,c1,hh,hb,hc,A⟩;{rw[h0]at hlt2;cases hlt2};cases hh;obtain⟨p,hp⟩:∃ p,l[j]?=some p:=⟨_,bB hlt2⟩;obtain⟨q1,q2⟩:=A j p hp;have q1:=Am q1 J.o;have q2:=Am q2 J.o;have b1:(j:Int) < (l.length:Int):=vO;have HP:=Hd hp;obtain⟨x,y⟩:=p;simp only at q1 q2;have X:=hM.alloc (.cells #[x,y] 49);obtain⟨Gb,H⟩:=vE (Iy es x.data.toList (Ar.V (x,y)) ck);obtain⟨K,O⟩:=vE (if (Dr es x.data.toList).isSome then ck else ck+1);(have g2:(Instr.mapUpdate 101 (.map (some bm)) x (.agg #[x,y])).run Tryz.prog (wr.alloc (.cells #[x,y] 49))=.ok () ((wr.alloc (.cells #[x,y] 49)).putObj bm (.map (Al.arr Gb) K)):=by have:=Ze Al Et X x.data.toList (Ar.V (x,y));rw[<-H, <-O]at this;exact this);have a1:=Hd (show Gq Gb K ((l.take (j+1)).foldl Fw []) by rw[cA,HP.o,dX,H,O];exact HR.o.put (x,y));(have b4:=Hd (X.put_same (.map (Al.arr Gb) K));have b5:=Hd ((J.o.alloc (.cells #[x,y] 49)).putObj (.inr c5) (.map (Al.arr Gb) K));clear A hp hb hc hM hR X H O Z HR J;go_wp2_with fail);go_roundw;(case rel=>exact⟨j+1,by omega,by go_num,b5.o,Gb,K,b4.o,a1.o⟩);case measure=>exact vJ};have e7:j=l.length:=vO;(have a1:=Hd (show Gq es ck (l.foldl Fw []) by have h:=HR.o;rwa [e7,cD]at h);have e8:=Hd hM;have e9:=Hd Z;clear e7 hM hR Z HR J;go_wp2_with fail);(go_loopw [67] (fun i w2=>jzg w bm l cs i w2) (fun i _=>cs.length - (intOf i).toNat));(case atStart=>exact⟨0,by omega,rfl,e9.o,es,ck,e8.o,a1.o⟩);case round =>clear e9 e8 a1;obtain⟨q,hq,rfl,Z,es,ck,hM,hR⟩:=hrel;have J:=Hd Z;have HR:=Hd hR;by_cases hlt3:q < cs.length;{rcases HU.o with⟨_,_,_,h0⟩ |⟨b,o,c1,hh,hb,hc,A⟩;{rw[h0]at hlt3;cases hlt3};cases hh;obtain⟨p,hp⟩:∃ p,cs[q]?=some p:=⟨_,bB hlt3⟩;obtain⟨q1,q2,q3⟩:=A q p hp;have q1:=Am q1 J.o;have q2:=Am q2 J.o;have q3:=Am q3 J.o;have b1:(q:Int) < (cs.length:Int):=vO;have HP:=Hd hp;obtain⟨x,y,gn⟩:=p;(simp only at q1 q2 q3;have X:=hM.alloc (.cells #[x,y,gn] 47);have b0:(cs.take (q+1)).foldl Ui (l.foldl Fw [])=Ui ((cs.take q).foldl Ui (l.foldl Fw [])) ⟨x,y,gn⟩:=by rw[cA,HP.o,dX];rfl);have b2:=Hd b0;cases gn with| true =>obtain⟨Gb,H⟩:=vE (Jr es x.data.toList);(have h3:(Builtin.delete_ #[101,9] 0 #[.map (some bm),x]).run Tryz.prog (wr.alloc (.cells #[x,y,true] 47))=.ok (.tuple #[]) ((wr.alloc (.cells #[x,y,true] 47)).putObj bm (.map (Al.arr Gb) ck)):=by have:=SK Al Et X x.data.toList 9 0;rw[<-H]at this;exact this);have a1:=Hd (show Gq Gb ck ((cs.take (q+1)).foldl Ui (l.foldl Fw [])) by rw[b2.o,H];exact HR.o.del x);(have b4:=Hd (X.put_same (.map (Al.arr Gb) ck));have b5:=Hd ((J.o.alloc (.cells #[x,y,true] 47)).putObj (.inr c5) (.map (Al.arr Gb) ck));clear A hp hb hc hM hR X H Z HR J b0 b2;go_wp2_with fail);go_roundw;(case rel=>exact⟨q+1,by omega,by go_num,b5.o,Gb,ck,b4.o,a1.o⟩);case measure=>exact vJ| false =>obtain⟨Gb,H⟩:=vE (Iy es x.data.toList (Ar.V (x,y)) ck);obtain⟨K,O⟩:=vE (if (Dr es x.data.toList).isSome then ck else ck+1);(have g2:(Instr.mapUpdate 101 (.map (some bm)) x (.agg #[x,y])).run Tryz.prog (wr.alloc (.cells #[x,y,false] 47))=.ok () ((wr.alloc (.cells #[x,y,false] 47)).putObj bm (.map (Al.arr Gb) K)):=by have:=Ze Al Et X x.data.toList (Ar.V (x,y));rw[<-H, <-O]at this;exact this);have a1:=Hd (show Gq Gb K ((cs.take (q+1)).foldl Ui (l.foldl Fw [])) by rw[b2.o,H,O];exact HR.o.put (x,y));(have b4:=Hd (X.put_same (.map (Al.arr Gb) K));have b5:=Hd ((J.o.alloc (.cells #[x,y,false] 47)).putObj (.inr c5) (.map (Al.arr Gb) K));clear A hp hb hc hM hR X H O Z HR J b0 b2;go_wp2_with fail);go_roundw;(case rel=>exact⟨q+1,by omega,by go_num,b5.o,Gb,K,b4.o,a1.o⟩);case measure=>exact vJ};have f0:q=cs.length:=vO;obtain⟨M,c9⟩:=vE (Lq l cs);have a2:=Hd (show Gq es ck M by have h:=HR.o;rw[f0,cD]at h;rw[c9];exact h);have d0:=Hd c9;have f1:=SF Al Et hM;rw[a2.o.len]at f1;have f2:=Hd hM;have d1:=Hd Z;clear f0 hM hR Z HR J c9;by_cases h40:40 < M.length;{have g3:(40:Int) < (M.length:Int):=vO;(have d2:=Hd (show Fi l cs=12 by unfold Fi;rw[if_neg (by rw[a3.o];simp),HB.o, <-d0.o];simp[h40]);clear h40;go_wp2_with fail);go_ret2;exact Vd.bad d2.o vI d1.o};have g3:¬(40:Int) < (M.length:Int):=vO;have d2:=Hd (show Fi l cs=0 by unfold Fi;rw[if_neg (by rw[a3.o];simp),HB.o, <-d0.o];simp[h40]);have g9:M.length<=40:=vO;(clear h40;go_wp2_with fail);(refine (jsW wr bm).mono ?_;rintro e w4 ⟨rfl,f3,d3⟩;have f4:=Hd f3;have a5:=Hd (f2.o.keeps d3 kI);have f5:=Hd (d1.o.trans d3);clear f3 d3 f1;go_wp2_with fail);refine (jwz w4 wr bm ck es ⟨f4.o,a5.o⟩ a2.o.born a2.o.keys a2.o.lt (kL a2.o.len)).mono ?_;rintro e w5 ⟨u,rfl,hS⟩;rw[a2.o.keysEq,a2.o.len]at hS;obtain⟨KS,b9⟩:=vE (Rl (M.map Ar.k));(rw[<-b9]at hS;have f6:KS.length=M.length:=by rw[b9,ND,bU]);have HK:=Hd b9;have g4:=Hd f6;obtain⟨a6,c6,rfl⟩:=hS.sl;(have g5:=Hd hS.rd;have f7:=Hd (f5.o.trans hS.ext);have d7:=Hd (a5.o.keeps hS.ext kI);have d4:=Hd (show (Hi M).length=M.length by unfold Hi;rw[bU,ND,bU]);clear hS b9 f6 a5 f5 f4 d1 f2;go_wp2_with fail);(go_loopw [14,92] (fun v i wr=>jzh w5 M v i wr) (fun _ i _=>M.length - (intOf i).toNat));(case atStart=>exact⟨0,by omega,rfl,Av.nil _ _ (Aa w5)⟩);case round =>obtain⟨t,ht,rfl,hR⟩:=hrel;obtain⟨a7,c7,rfl⟩:=hR.sl;have HR:=Hd hR;clear hR;by_cases hlt4:t < M.length;{obtain⟨kk,c0⟩:∃ kk,KS[t]?=some kk:=⟨_,bB (by rw[g4.o];exact hlt4)⟩;obtain⟨x,hx⟩:∃ x:vB,x=⟨kk.toArray⟩:=⟨_,rfl⟩;obtain⟨y,hy⟩:=vE (Za M kk);obtain⟨_,_,hh,A⟩:=g5.o.slice;obtain⟨b,o,g6,f8⟩:=A t x (by unfold EV;rw[bY,c0,hx];rfl);obtain⟨e1,e2,e3⟩:=dH hh;(subst e1;subst e3;subst g6;clear hh e2;have q1:=Am f8 HR.o.ext;have b7:kk∈M.map Ar.k:=by have h1:=bD c0;rw[HK.o]at h1;exact (iM _ _).mem_iff.1 h1);(have h4:(Instr.lookup 101 (.map (some bm)) x false).run Tryz.prog wr=.ok (.agg #[x,y]) wr:=by have:=Xd Al Et (d7.o.keeps HR.o.ext kI) (Ub wr) kk false;rw[a2.o.get b7, <-hx, <-hy]at this;rw[hx];rw[hx]at this;exact this);(have b0:(Hi M).take (t+1)=(Hi M).take t++[(x,y)]:=by rw[cA];(have:(Hi M)[t]?=some (x,y):=by unfold Hi;rw[<-HK.o,bY,c0,hx,hy];rfl);rw[this];rfl);have b2:=Hd b0;have b1:(t:Int) < (M.length:Int):=vO;(clear A f8 b7 b0 c0 hx hy;go_wp2_with (at_builtin;refine Rc Ff (HR.o.mono ((Aa wr).alloc _)) (.tmp 96) (.tmp 100) rfl rfl rfl (Jx (Ae.new wr _)) (news:=[x,y]) (by intro u hu;simp at hu;rcases hu with rfl | rfl <;> rfl) rfl rfl ?c1 ?c2 (fun v' w' r1 r2 r3=>?_)));(case c1=>unfold maxLen;omega);(case c2=>omega);(have d5:Ey w5 w' v' (t+1) ((Hi M).take (t+1)):=by unfold Ey;rw[b2.o,EZ];exact r1);obtain⟨a8,c8,rfl⟩:=d5.sl;(have g7:=Hd d5;clear r1 r2 r3 d5 HR;go_wp2_with fail);go_roundw;(case rel=>exact⟨t+1,by omega,by go_num,g7.o⟩);case measure=>exact vJ};have c3:t=M.length:=vO;have g8:=Hd (show Ey w wr (.slice a7 t c7) (Hi M).length (Hi M) by(have h:=HR.o;rw[show (Hi M).take t=Hi M from by rw[c3, <-d4.o,cD]]at h;have h2:Ey w5 wr (.slice a7 t c7) (Hi M).length (Hi M):=by rw[d4.o, <-c3];exact h);exact⟨by rw[d4.o, <-c3];exact⟨_,_,rfl⟩,h2.own,f7.o.trans h2.ext,fun b hb=>bF f7.o.size (h2.new b hb)⟩);(clear c3 HR;go_wp2_with fail);go_ret2;unfold Vd;rw[if_pos d2.o, <-d0.o];exact⟨_,rfl,g8.o⟩
def CS(l:vL):Prop:=l.Pairwise fun p q=>Lt p.k q.k
theorem DN{k:vN}:∀ {m:vL},k ∉ m.map Ar.k->look m k=none
 | [],_=>rfl
 | q :: r,h=>by
  simp only[bN,bT,not_or]at h;rw[Nj,if_neg h.1,DN h.2]
theorem KV:∀ (a b:vN),Lt a b\/a=b\/Lt b a
 | [],[]=>.inr (.inl rfl)
 | [],_ :: _=>.inl OT
 | _ :: _,[]=>.inr (.inr OT)
 | a :: x,b :: y=>by
  rcases Nat.lt_trichotomy a.toNat b.toNat with h | h | h
  ·exact .inl (Nd.2 (.inl (dQ.2 h)))
  ·have e:=dP.1 h
   subst e;rcases KV x y with h | h | h
   ·exact .inl (Nd.2 (.inr ⟨rfl,h⟩))
   ·exact .inr (.inl (by rw[h]))
   ·exact .inr (.inr (Nd.2 (.inr ⟨rfl,h⟩)))
  ·exact .inr (.inr (Nd.2 (.inl (dQ.2 h))))
theorem UN(h1:p.k=q.k)(h2:p.2=q.2):p=q:=by
 obtain⟨⟨⟨a⟩⟩,b⟩:=p
 obtain⟨⟨⟨c⟩⟩,d⟩:=q
 simp only[Ar.k]at h1 h2;subst h1;subst h2;rfl
theorem jW:∀ {a b:vL},CS a->CS b->(∀ k,look a k=look b k)->a=b
 | [],[],_,_,_=>rfl
 | [],q :: b,_,_,h=>by have:=h q.k;rw[Nj,if_pos rfl]at this;cases this
 | p :: a,[],_,_,h=>by have:=h p.k;rw[Nj,if_pos rfl]at this;cases this
 | p :: a,q :: b,h1,h2,h=>by
  have J:=gD.1 h1;have K:=gD.1 h2;have H:∀ (x:vN) (y:Ar) (m:vL),(∀ z∈m,Lt y.k z.k)->Lt x y.k->look (y :: m) x=none:=fun x y m O Z=>by
   refine DN fun A=>?_;rw[bN,bT]at A;rcases A with e | A
   ·exact lt_irrefl _ (e ▸ Z)
   ·obtain⟨z,X,e⟩:=bC.1 A
    exact lt_irrefl _ (FL _ _ _ Z (e ▸ O z X))
  have hk:p.k=q.k:=by
   rcases KV p.k q.k with e | e | e
   ·have:=h p.k
    rw[H p.k q b K.1 e,Nj,if_pos rfl]at this;cases this
   ·exact e
   ·have:=h q.k
    rw[H q.k p a J.1 e,Nj,if_pos rfl]at this;cases this
  have hv:p.2=q.2:=by
   have:=h p.k
   rw[Nj,if_pos rfl,Nj,if_pos hk]at this;exact bV this
  have e:=UN hk hv;subst e
  have:a=b:=jW J.2 K.2 fun k=>by
   have hh:=h k;rw[Nj,Nj]at hh
   by_cases e:k=p.k
   ·have n1:∀ m:vL,(∀ z∈m,Lt p.k z.k)->look m k=none:=fun m O=>DN fun A=>by
     obtain⟨z,X,e2⟩:=bC.1 A
     have:=O z X
     rw[e2,e]at this;exact lt_irrefl _ this
    rw[n1 a J.1,n1 b K.1]
   ·rwa [if_neg e,if_neg e]at hh
  rw[this]
theorem kG(m:vL)(k:vN):Za m k=(look m k).getD ⟨#[]⟩:=rfl
theorem UG(p:Ar)(k:vN):∀ m:vL,look (Fw m p) k=if k=p.k then some p.2 else look m k
 | []=>by rw[Fw,Nj,NU]
 | q :: r=>by
  rw[Fw]
  by_cases h:p.k=q.k
  ·rw[if_pos h,Nj,Nj]
   by_cases h2:k=p.k
   ·rw[if_pos h2,if_pos h2]
   ·rw[if_neg h2,if_neg h2,if_neg (by rw[<-h];exact h2)]
  ·rw[if_neg h,Nj,Nj,UG p k r]
   by_cases h2:k=q.k
   ·rw[if_pos h2,if_pos h2,if_neg (by rw[h2];exact fun e=>h e.symm)]
   ·rw[if_neg h2,if_neg h2]
theorem TO{k:vN}:∀ {m:vL},k∈m.map Ar.k->∃ v,look m k=some v
 | [],h=>by cases h
 | q :: r,h=>by
  rw[Nj]
  by_cases e:k=q.k
  ·exact⟨_,if_pos e⟩
  ·rw[if_neg e]
   rcases bT.1 h with h | h
   ·exact absurd h e
   ·exact TO h
theorem mR{k:vN}{v:vB}:∀ {m:vL},look m k=some v->∃ p∈m,p.k=k/\p.2=v
 | [],h=>by cases h
 | q :: r,h=>by
  rw[Nj]at h
  by_cases e:k=q.k
  ·rw[if_pos e]at h
   exact⟨q,bO,e.symm,bV h⟩
  ·rw[if_neg e]at h
   obtain⟨p,A,H⟩:=mR h
   exact⟨p,bM _ A,H⟩
theorem nD(k:vB):∀ m:vL,(Mc m k).map Ar.k=(m.map Ar.k).erase k.data.toList
 | []=>rfl
 | q :: r=>by
  rw[Mc,bN,List.erase_cons]
  by_cases h:k.data.toList=q.k
  ·rw[if_pos h,if_pos (by simp[h])]
  ·rw[if_neg h,if_neg (by intro e;exact h (by simpa using (eq_of_beq e).symm)),bN,nD k r]
theorem mP(key:vB)(k:vN):∀ m:vL,(m.map Ar.k).Nodup->look (Mc m key) k=if k=key.data.toList then none else look m k
 | [],_=>by rw[Mc,NU];simp
 | q :: r,hn=>by
  rw[bN,dF]at hn;rw[Mc]
  by_cases h:key.data.toList=q.k
  ·rw[if_pos h,Nj]
   by_cases h2:k=key.data.toList
   ·rw[if_pos h2];exact DN (by rw[h2,h];exact hn.1)
   ·rw[if_neg h2,if_neg (by rw[<-h];exact h2)]
  ·rw[if_neg h,Nj,Nj,mP key k r hn.2]
   by_cases h2:k=q.k
   ·rw[if_pos h2,if_pos h2,if_neg (by rw[h2];exact fun e=>h e.symm)]
   ·rw[if_neg h2,if_neg h2]
theorem lB(p:Ar):∀ m:vL,(Fw m p).map Ar.k=if p.k∈m.map Ar.k then m.map Ar.k else m.map Ar.k++[p.k]
 | []=>rfl
 | q :: r=>by
  rw[Fw]
  by_cases h:p.k=q.k
  ·rw[if_pos h,if_pos (by simp[h])];simp[h]
  ·rw[if_neg h,bN,lB p r]
   by_cases h2:p.k∈r.map Ar.k
   ·rw[if_pos h2,if_pos (by rw[bN];exact bM _ h2)];rfl
   ·rw[if_neg h2,if_neg (by rw[bN,bT];exact fun e=>e.elim h h2)];rfl
theorem lC(p:Ar)(h:(m.map Ar.k).Nodup):((Fw m p).map Ar.k).Nodup:=by
 rw[lB];split
 ·exact h
 ·rename_i hn;rw[dS];exact⟨h,by simp,fun a q b hb e=>by simp at hb;subst hb;subst e;exact hn q⟩
theorem jr5(k:vB)(h:(m.map Ar.k).Nodup):((Mc m k).map Ar.k).Nodup:=by
 rw[nD];exact h.erase _
theorem nG(h:(m.map Ar.k).Nodup):((Ui m c).map Ar.k).Nodup:=by
 unfold Ui;split
 ·exact jr5 _ h
 ·exact lC _ h
theorem eU:∀ (cs:List Bk) {m:vL},(m.map Ar.k).Nodup->((cs.foldl Ui m).map Ar.k).Nodup
 | [],_,h=>h
 | c :: r,_,h=>eU r (nG c h)
theorem SH:∀ (l:vL) {m:vL},(m.map Ar.k).Nodup->((l.foldl Fw m).map Ar.k).Nodup
 | [],_,h=>h
 | c :: r,_,h=>SH r (lC c h)
theorem YR(l:vL)(cs:List Bk):((Lq l cs).map Ar.k).Nodup:=eU cs (SH l (by simp))
def Wr(k:vN)(o:Option vB)(c:Bk):Option vB:=if k=c.key.data.toList then (if c.gone then none else some c.value)else o
theorem jyj(k:vN)(h:(m.map Ar.k).Nodup):look (Ui m c) k=Wr k (look m k) c:=by
 unfold Ui Wr;cases hg:c.gone with
 | true=>rw[if_pos rfl,mP _ _ _ h];simp
 | false=>rw[if_neg (by simp),UG];simp[Ar.k]
theorem mQ(k:vN):∀ (cs:List Bk) {m:vL},(m.map Ar.k).Nodup->look (cs.foldl Ui m) k=cs.foldl (Wr k) (look m k)
 | [],_,_=>rfl
 | c :: r,m,h=>by rw[dM,dM,mQ k r (nG c h),jyj c k h]
theorem kO(k:vN):∀ (l:vL) (m:vL),(l.map Ar.k).Nodup->look (l.foldl Fw m) k=(look l k).or (look m k)
 | [],_,_=>by rw[NU];simp
 | q :: r,m,h=>by
  rw[bN,dF]at h;rw[dM,kO k r _ h.2,UG,Nj]
  by_cases e:k=q.k
  ·rw[if_pos e,if_pos e,DN (by rw[e];exact h.1)];rfl
  ·rw[if_neg e,if_neg e]
theorem jqm(k:vN)(l:vL)(cs:List Bk)(h:(l.map Ar.k).Nodup):look (Lq l cs) k=cs.foldl (Wr k) (look l k):=by
 unfold Lq;rw[mQ k cs (SH l (by simp)),kO k l [] h,NU];simp
theorem qC:∀ (a b:vN),Lt a b↔a < b
 | a,[]=>⟨fun h=>absurd h (not_lt_nil _),fun h=>absurd h (List.not_lt_nil _)⟩
 | [],b :: y=>⟨fun _=>List.nil_lt_cons _ _,fun _=>OT⟩
 | a :: x,b :: y=>by rw[Nd,List.cons_lt_cons_iff,qC x y]
theorem CS.nodup(h:CS l):(l.map Ar.k).Nodup:=by
 unfold List.Nodup;rw[gI];refine h.imp fun {p q} h=>?_;intro e;rw[e]at h;exact lt_irrefl _ h
theorem SL(ks:List (vN))(k:vN):k∈Rl ks↔k∈ks:=(iM _ _).mem_iff
theorem D_{ks:List (vN)}(h:ks.Nodup):(Rl ks).Pairwise Lt:=by
 have H:∀ a b c:vN,decide (a<=b)=true->decide (b<=c)=true->decide (a<=c)=true:=fun a b c q A=>by simp only[decide_eq_true_eq]at *;exact List.le_trans q A
 have to:∀ a b:vN,(decide (a<=b) || decide (b<=a))=true:=fun a b=>by simp only[Bool.or_eq_true,decide_eq_true_eq];exact List.le_total a b
 have q:(Rl ks).Pairwise (fun x y=>decide (x<=y)=true):=List.pairwise_mergeSort H to ks;have A:(Rl ks).Nodup:=(iM _ _).nodup_iff.2 h;refine (q.and A).imp fun {a b} h=>?_;have J:a<=b:=by simpa using h.1
 rcases KV a b with e | e | e
 ·exact e
 ·exact absurd e h.2
 ·exact absurd ((qC _ _).1 e) (List.not_lt.2 J)
theorem jqI(m:vL):(Hi m).map Ar.k=Rl (m.map Ar.k):=by
 unfold Hi;rw[dA]
 conv=>rhs;rw[<-jE (Rl (m.map Ar.k))]
 exact cZ fun k _=>rfl
theorem jY(m:vL):(Hi m).length=m.length:=by
 unfold Hi;rw[bU,ND,bU]
theorem aE(h:(m.map Ar.k).Nodup):CS (Hi m):=by
 have e:=D_ h;rw[<-jqI,gI]at e;exact e
theorem kN(f:vN->vB)(k:vN):∀ ks:List (vN),look (ks.map fun x=>((⟨x.toArray⟩,f x):Ar)) k=if k∈ks then some (f k)else none
 | []=>rfl
 | x :: r=>by
  rw[bN,Nj,kN f k r];have e:Ar.k ((⟨x.toArray⟩,f x):Ar)=x:=rfl;rw[e]
  by_cases h:k=x
  ·rw[if_pos h,if_pos (by simp[h])];simp[h]
  ·rw[if_neg h]
   by_cases h2:k∈r
   ·rw[if_pos h2,if_pos (bM _ h2)]
   ·rw[if_neg h2,if_neg (by rw[bT];exact fun e=>e.elim h h2)]
theorem jsO(m:vL)(k:vN):look (Hi m) k=look m k:=by
 unfold Hi;rw[kN]
 by_cases h:k∈m.map Ar.k
 ·rw[if_pos ((SL _ _).2 h)];obtain⟨v,q⟩:=TO h;rw[kG,q];rfl
 ·rw[if_neg (fun e=>h ((SL _ _).1 e)),DN h]
def Vk(p:Ar):Prop:=Up p.1=true/\Wm p.2=true
theorem VK{p x:Ar}:∀ {m:vL},x∈Fw m p->x=p\/x∈m
 | [],h=>.inl (by simpa [Fw]using h)
 | q :: r,h=>by
  rw[Fw]at h;split at h
  ·rcases bT.1 h with h | h
   ·exact .inl h
   ·exact .inr (bM _ h)
  ·rcases bT.1 h with h | h
   ·exact .inr (h ▸ bO)
   ·exact (VK h).imp id (bM _)
theorem nB(k:vB):∀ m:vL,(Mc m k).Sublist m
 | []=>List.Sublist.refl _
 | x :: r=>by
  unfold Mc;split
  ·exact iA _ _
  ·exact (nB k r).cons_cons _
theorem rJ:∀ (l:vL) {m:vL},(∀ p∈l,Vk p)->(∀ p∈m,Vk p)->∀ p∈l.foldl Fw m,Vk p
 | [],_,_,h=>h
 | q :: r,m,h1,h2=>rJ r (fun p A=>h1 p (bM _ A)) fun p A=>(VK A).elim (fun e=>e ▸ h1 q bO) (h2 p)
theorem sJ:∀ (cs:List Bk) {m:vL},cs.any Bk.bad=false->(∀ p∈m,Vk p)->∀ p∈cs.foldl Ui m,Vk p
 | [],_,_,h=>h
 | c :: r,m,h1,h2=>by
  rw[List.any_cons,gN]at h1;refine sJ r h1.2 fun p e=>?_;unfold Ui at e;have hb:=h1.1;unfold Bk.bad at hb;cases hg:c.gone with
  | true=>rw[if_pos hg]at e;exact h2 p ((nB _ _).subset e)
  | false =>
   rw[if_neg (by rw[hg];simp)]at e;rcases VK e with rfl | e
   ·simp[hg]at hb;exact hb
   ·exact h2 p e
theorem qF(h:Dv l=0):∀ p∈l,Vk p:=fun p e=>by
 obtain⟨q,A,H,J⟩:=(Fr h).size p e
 exact⟨decide_eq_true ⟨q,A⟩,decide_eq_true ⟨H,J⟩⟩
theorem jrh(h:Dv l=0)(hc:cs.any Bk.bad=false):∀ p∈Lq l cs,Vk p:=
 sJ cs hc (rJ l (qF h) (by simp))
theorem jv4(h1:∀ p∈l,Vk p)(h2:CS l)(h3:l.length<=40):Dv l=0:=by
 unfold Dv;rw[if_neg,if_neg vO];intro h
 obtain⟨i,e,hb⟩:=gR.1 h
 have e:=dZ.1 e;have g:∀ j (A:j < l.length),l.getD j (⟨#[]⟩,⟨#[]⟩)=l[j]:=fun j A=>by rw[bJ,bB A];rfl
 unfold Kn at hb;rw[g i e,(h1 _ (fB e)).1,(h1 _ (fB e)).2]at hb;simp only[Bool.not_true,Bool.or_self,Bool.false_or,cI,decide_eq_true_eq,gJ]at hb;rw[g (i - 1) vO]at hb
 have:=fV.1 h2 (i - 1) i vO e vO
 have q:=hb.2;unfold Pr at q;rw[cC,cC]at q;have H:Op.bytesLess (l[i - 1]).1.data.toList (l[i]).1.data.toList=true:=this;rw[H]at q;cases q
theorem i_(h:Fi l cs=0):Dv l=0/\cs.any Bk.bad=false/\(Lq l cs).length<=40:=by
 unfold Fi at h;split at h
 ·rename_i h1;exact absurd h h1
 rename_i h1
 split at h
 ·cases h
 rename_i h2
 split at h
 ·cases h
 rename_i h3
 exact⟨by simpa using h1,by simpa using h2,by omega⟩
theorem jq7(h:∀ p∈m,Vk p):∀ p∈Hi m,Vk p:=fun p H=>by
 obtain⟨k,J,rfl⟩:=bC.1 H
 obtain⟨v,A⟩:=TO ((SL _ _).1 J)
 obtain⟨q,K,O,X⟩:=mR A
 have:=h q K
 rw[kG,A];have e:((⟨k.toArray⟩,(some v).getD ⟨#[]⟩):Ar)=q:=UN O.symm X.symm;rw[e];exact this
theorem Ye(h:Fi l cs=0):Dv (Hi (Lq l cs))=0:=by
 obtain⟨e,q,A⟩:=i_ h
 exact jv4 (jq7 (jrh e q)) (aE (YR l cs)) (by rw[jY];exact A)
theorem jql(h:Dv l=0)(cs:List Bk)(k:vN):look (Hi (Lq l cs)) k=cs.foldl (Wr k) (look l k):=by
 rw[jsO,jqm k l cs (CS.nodup (Fr h).rise)]
def Ov(xs:List Bk):List vV:=xs.flatMap fun c=>[c.key,c.value,c.gone]
theorem IQ(xs:List Bk)(c:Bk):Ov (xs++[c])=Ov xs++[.string c.key,.string c.value,.bool c.gone]:=by simp[Ov]
theorem SQ(xs:List Bk):(Ov xs).length=xs.length * 3:=by
 induction xs with
 | nil=>rfl
 | cons x r ih=>unfold Ov at *;rw[dN,bK,ih];simp;omega
theorem Qh:(Tryz.prog.info? 47).map (fun i=>(i.zero,i.size,i.bytes))=some (some (.agg #[.string ⟨#[]⟩,.string ⟨#[]⟩,false]),3,40):=vY
theorem Nz:Tryz.prog.underlying 31=some (.slice 47):=vY
theorem Fe:Me Tryz.prog 31 47 3 40:=Me.mk' Nz Qh rfl vI
abbrev Ja(w0 w:vW)(v:vV)(n:Nat)(xs:List Bk):Prop:=Av 47 3 w0 w v n (Ov xs)
def Fs:vL->vL->List Bk
 | [],[]=>[]
 | p :: l,[]=>⟨p.1,⟨#[]⟩,true⟩ :: Fs l []
 | [],q :: m=>⟨q.1,q.2,false⟩ :: Fs [] m
 | p :: l,q :: m =>
  if Pr p.1 q.1=true then ⟨p.1,⟨#[]⟩,true⟩ :: Fs l (q :: m)
  else if Pr q.1 p.1=true then ⟨q.1,q.2,false⟩ :: Fs (p :: l) m
  else if (p.2.toList == q.2.toList)=true then Fs l m else ⟨q.1,q.2,false⟩ :: Fs l m
termination_by l m=>l.length+m.length
def Ku(l m:vL):List Bk:=if Dv l=0/\Dv m=0 then Fs l m else []
theorem Zl{α:Type}{l:List α}{x:α}(h:l[i]?=some x):l.drop i=x :: l.drop (i+1):=by
 obtain⟨q,e⟩:=bI.1 h
 rw[<-e];exact gT q
structure tK(w:World)(l m:vL)(c:Value)(i j:Nat)(wr:World)(n:Nat)(acc:List Bk):Prop where
 hi:i<=l.length
 hj:j<=m.length
 hn:n<=i+j
 row:Ja w wr c n acc
 eq:acc++Fs (l.drop i) (m.drop j)=Fs l m
def yB(w:vW)(l m:vL)(c vi vj:vV)(wr:vW):Prop:=∃ i j n acc,vi=.int .i64 (i:Nat)/\vj=.int .i64 (j:Nat)/\tK w l m c i j wr n acc
theorem jz8(hi:i=l.length)(hj:j=m.length):Fs (l.drop i) (m.drop j)=[]:=by
 subst hi;subst hj;rw[gB,gB];simp[Fs]
theorem ju4(hp:l[i]?=some p)(hj:j=m.length):Fs (l.drop i) (m.drop j)=⟨p.1,⟨#[]⟩,true⟩ :: Fs (l.drop (i+1)) (m.drop j):=by
 subst hj;rw[gB,Zl hp];simp[Fs]
theorem jxR(hq:m[j]?=some q)(hi:i=l.length):Fs (l.drop i) (m.drop j)=⟨q.1,q.2,false⟩ :: Fs (l.drop i) (m.drop (j+1)):=by
 subst hi;rw[gB,Zl hq];simp[Fs]
theorem ju5(hp:l[i]?=some p)(hq:m[j]?=some q)(h:Pr p.1 q.1=true):Fs (l.drop i) (m.drop j)=⟨p.1,⟨#[]⟩,true⟩ :: Fs (l.drop (i+1)) (m.drop j):=by
 rw[Zl hp,Zl hq,Fs,if_pos h]
theorem jxS(hp:l[i]?=some p)(hq:m[j]?=some q)(h:Pr p.1 q.1=false)(h2:Pr q.1 p.1=true):Fs (l.drop i) (m.drop j)=⟨q.1,q.2,false⟩ :: Fs (l.drop i) (m.drop (j+1)):=by
 rw[Zl hp,Zl hq,Fs,if_neg (by rw[h];simp),if_pos h2]
theorem jxT(hp:l[i]?=some p)(hq:m[j]?=some q)(h:Pr p.1 q.1=false)(h2:Pr q.1 p.1=false)(h3:(p.2.toList == q.2.toList)=true):Fs (l.drop i) (m.drop j)=Fs (l.drop (i+1)) (m.drop (j+1)):=by
 rw[Zl hp,Zl hq,Fs,if_neg (by rw[h];simp),if_neg (by rw[h2];simp),if_pos h3]
theorem ju6(hp:l[i]?=some p)(hq:m[j]?=some q)(h:Pr p.1 q.1=false)(h2:Pr q.1 p.1=false)(h3:(p.2.toList == q.2.toList)=false):Fs (l.drop i) (m.drop j)=⟨q.1,q.2,false⟩ :: Fs (l.drop (i+1)) (m.drop (j+1)):=by
 rw[Zl hp,Zl hq,Fs,if_neg (by rw[h];simp),if_neg (by rw[h2];simp),if_neg (by rw[h3];simp)]
theorem sI(w:vW)(v u:vV)(l m:vL)(hv:Io w v l)(hu:Io w u m)(hn1:l.length<=9223372036854775807)(hn2:m.length<=9223372036854775807)(hs1:∀ p∈l,p.1.size<=9223372036854775807/\p.2.size<=9223372036854775807)(hs2:∀ p∈m,p.1.size<=9223372036854775807/\p.2.size<=9223372036854775807):vQ 79 #[v,u] w fun e w'=>∃ u,e=.returned u/\Ja w w' u (Ku l m).length (Ku l m):=by
 have a7:=Hd (GC w v l hv hn1 hs1);have b6:=Hd (fun w1 (h1:Af w w1)=>GC w1 u m (hu.ext h1) hn2 hs2);have HV:=Hd hv;have HU:=Hd hu
 obtain⟨a,c,rfl⟩:=hv.sl
 obtain⟨a',c',e2⟩:=hu.sl
 subst e2;clear hv hu hs1 hs2
 by_cases hck:Dv l=0
 case neg =>have HD:=Hd (show Ku l m=[] by unfold Ku;rw[if_neg (fun h=>hck h.1)]);rw[HD.o];obtain⟨x,hx⟩:=vE (Dv l);(rw[<-hx]at hck a7;have e3:(x != 0)=true:=by simpa using hck);(clear hck hx HV HU b6 HD;unfold vQ;go_in;go_wp2_with fail);(refine a7.o.mono ?_;rintro e w1 ⟨rfl,hE⟩;have HE:=Hd hE;clear hE a7;go_wp2_with fail);go_ret;exact⟨_,rfl,Av.nil _ _ HE.o⟩
 by_cases hck2:Dv m=0
 case neg =>have HD:=Hd (show Ku l m=[] by unfold Ku;rw[if_neg (fun h=>hck2 h.2)]);rw[HD.o];rw[hck]at a7;obtain⟨x,hx⟩:=vE (Dv m);(rw[<-hx]at hck2 b6;have e3:(x != 0)=true:=by simpa using hck2);(clear hck hck2 hx HV HU HD;unfold vQ;go_in;go_wp2_with fail);(refine a7.o.mono ?_;rintro e w1 ⟨rfl,hE⟩;have HE:=Hd hE;clear hE a7;go_wp2_with fail);(refine vH (b6.o w1 HE.o) fun w2 hE=>?_;have d1:=Hd (HE.o.trans hE);clear b6 HE;go_wp2_with fail);go_ret;exact⟨_,rfl,Av.nil _ _ d1.o⟩
 have f3:=(Fr hck).len;have f4:=(Fr hck2).len;have HD:=Hd (show Ku l m=Fs l m by unfold Ku;rw[if_pos ⟨hck,hck2⟩]);rw[HD.o];rw[hck]at a7;rw[hck2]at b6;clear hck hck2 HD hn1 hn2
 obtain⟨R,hR⟩:=vE (Fs l m)
 rw[<-hR];have e4:=Hd hR;clear hR;unfold vQ;go_in;go_wp2_with fail
 refine a7.o.mono ?_;rintro e w1 ⟨rfl,hE⟩;have HE:=Hd hE;clear hE a7;go_wp2_with fail
 refine vH (b6.o w1 HE.o) fun w2 hE=>?_;have d1:=Hd (HE.o.trans hE);clear b6 HE;go_wp2_with fail
 go_loopw [5,6,7] (fun v i j wr=>yB w l m v i j wr) (fun _ i j _=>(l.length - (intOf i).toNat)+(m.length - (intOf j).toNat))
 case atStart=>exact⟨0,0,0,[],rfl,rfl,by omega,by omega,by omega,Av.nil _ _ d1.o,by simp⟩
 case round =>obtain⟨i,j,n,X,rfl,rfl,f0⟩:=hrel;obtain⟨hi,hj,hn,b9,e5⟩:=f0;obtain⟨a2,c2,rfl⟩:=b9.sl;have HR:=Hd b9;have O:=Hd e5;clear b9 e5 d1;by_cases hjm:j < m.length;{by_cases hil:i < l.length;{obtain⟨q,hq⟩:∃ q,m[j]?=some q:=⟨_,bB hjm⟩;rcases HU.o with⟨_,_,_,h0⟩ |⟨bm,om,cm,hh,hb,hc,hcell⟩;{rw[h0]at hjm;cases hjm};cases hh;obtain⟨d5,d6⟩:=hcell j q hq;have a5:=Hd (Am d5 HR.o.ext);have b3:=Hd (Am d6 HR.o.ext);have NB:Hid (¬(Value.slice a2 n c2).ownBlock=some bm):=(fun e=>kL (HR.o.new bm e));have HQ:=Hd hq;have b2:(j:Int) < (m.length:Int):=vO;obtain⟨y1,y2⟩:=q;simp only at a5 b3;clear hcell hb hc hq;obtain⟨p,hp⟩:∃ p,l[i]?=some p:=⟨_,bB hil⟩;rcases HV.o with⟨_,_,_,h0⟩ |⟨bl,ol,cl,hh,hb,hc,hcell⟩;{rw[h0]at hil;cases hil};cases hh;obtain⟨d7,d8⟩:=hcell i p hp;have Z:=Hd (Am d7 HR.o.ext);have b7:=Hd (Am d8 HR.o.ext);have HP:=Hd hp;have b1:(i:Int) < (l.length:Int):=vO;obtain⟨x1,x2⟩:=p;(simp only at Z b7;clear hcell hb hc hp;have eA:((j:Int) ==(m.length:Int))=false:=by simp;omega);(have eN:((i:Int) ==(l.length:Int))=false:=by simp;omega);cases hls:Pr x1 y1 with| true =>(have HN:=Hd (show X++[_]++Fs _ _=Fs l m from by rw[bZ,iD, <-ju5 HP.o HQ.o hls];exact O.o);unfold Pr at hls;clear O;go_wp2_with fail);(refine Ij [0,1,2,3,4,5,6,7,8,9,10,11,12,13,14,15,16,17,18,19,20,21,22,23] Af Aa Aq vY vY vY ?_;iterate 14 refine vK ?_);(refine Dc ⟨bl,ol+i * 2,none⟩ x1 rfl (fun w3 H=>Bq Ag rfl (Am (by exact Z.o) ((Ap _).trans H))) (vS ?_);iterate 4 refine vK ?_);(refine Dc ⟨bm,om+j * 2,none⟩ y1 rfl (fun w3 H=>Bq Ag rfl (Am (by exact a5.o) ((Ap _).trans H))) (vS ?_);iterate 4 refine vK ?_);(refine Hv (fun w5 A=>?_);have a1:=Hd (HR.o.mono ((Ap _).trans A));have f1:=Am Z.o ((Ap _).trans A);clear A HR Z b7 a5 b3;go_wp2_with (at_builtin;refine Rc Fe (a1.o.mono ((Aa _).alloc _)) (.tmp 79) (.tmp 86) rfl rfl rfl (Jx (Ae.new _ _)) (news:=[x1,.string ⟨#[]⟩,true]) (by intro u hu;simp at hu;rcases hu with rfl | rfl | rfl <;> rfl) rfl rfl ?c1 ?c2 (fun v' w' r1 r2 r3=>?_)));(case c1=>unfold maxLen;omega);(case c2=>omega);(have J:Ja w w' v' (n+1) (X++[⟨x1,⟨#[]⟩,true⟩]):=by unfold Ja;rw[IQ];exact r1);obtain⟨a8,c8,rfl⟩:=J.sl;(have d9:=Hd J;clear r1 r2 r3 J;go_wp2_with fail);go_roundw;(case rel=>exact⟨i+1,j,n+1,_,by go_num,rfl,by omega,hj,by omega,d9.o,HN.o⟩);case measure=>exact vJ| false =>(have e0:=Hd hls;unfold Pr at hls;go_wp2_with fail);(refine Ij [0,1,2,3,4,5,6,7,8,9,10,11,12,13,14,15,16,17,18,19,20,21,22,23] Af Aa Aq vY vY vY ?_;iterate 14 refine vK ?_);(refine Dc ⟨bl,ol+i * 2,none⟩ x1 rfl (fun w3 H=>Bq Ag rfl (Am (by exact Z.o) ((Ap _).trans H))) (vS ?_);iterate 4 refine vK ?_);(refine Dc ⟨bm,om+j * 2,none⟩ y1 rfl (fun w3 H=>Bq Ag rfl (Am (by exact a5.o) ((Ap _).trans H))) (vS ?_);iterate 4 refine vK ?_);refine Hv (fun w5 A=>?_);have b8:=Hd (HR.o.mono ((Ap _).trans A));have a9:=Hd (Am Z.o ((Ap _).trans A));have c0:=Hd (Am b7.o ((Ap _).trans A));have a0:=Hd (Am a5.o ((Ap _).trans A));have b0:=Hd (Am b3.o ((Ap _).trans A));clear A HR Z b7 a5 b3 hls;cases hlt2:Pr y1 x1 with| true =>(have HN:=Hd (show X++[_]++Fs _ _=Fs l m from by rw[bZ,iD, <-jxS HP.o HQ.o e0.o hlt2];exact O.o);unfold Pr at hlt2;clear O;go_wp2_with fail);(refine Ij [0,1,2,3,4,5,6,7,8,9,10,11,12,13,14,15,16,17] Af Aa Aq vY vY vY ?_;iterate 9 refine vK ?_);(refine Dc ⟨bm,om+j * 2,none⟩ y1 rfl (fun w3 H=>Bq Ag rfl (Am (by exact a0.o) ((Ap _).trans H))) (vS ?_);iterate 4 refine vK ?_);(refine Dc ⟨bl,ol+i * 2,none⟩ x1 rfl (fun w3 H=>Bq Ag rfl (Am (by exact a9.o) ((Ap _).trans H))) (vS ?_);iterate 3 refine vK ?_);(refine Hv (fun w5 A=>?_);have a1:=Hd (b8.o.mono ((Ap _).trans A));have c3:=Hd (Am a0.o ((Ap _).trans A));have c5:=Hd (Am b0.o ((Ap _).trans A));clear A b8 a9 c0 a0 b0 hlt2;go_wp2_with fail);(refine Nc [0,1,2,3,4,5,6,7,8,9,10,11,12,13,14] [12,13] Af (Ad (fun b=>(Value.slice a2 n c2).ownBlock=some b)) Aa Aq (fun x y z h k=>Ad.trans h k) (fun x y h=>h.mono kZ) vY vY vY ?_;iterate 5 refine vD ?_);(refine Fc ⟨bm,om+j * 2,none⟩ y1 rfl (fun w3 H=>Bq Ag rfl (Dw (by exact c3.o) H NB.o)) (vS ?_);iterate 4 refine vD ?_);refine Fc ⟨bm,om+j * 2+1,none⟩ y2 rfl (fun w3 H=>Bq Ag rfl (Dw (by exact c5.o) H NB.o)) (vS ?_);refine vD ?_;(refine Hl _ rfl (fun w6 A K hK=>?_);have b4:=Hd (a1.o.mono ((Ap _).trans A));clear A;go_simp;refine hK _ _ ((Ad.refl _ w6).alloc _) ?_;clear hK K;refine Hl _ rfl (fun w7 A K hK=>?_);have b5:=Hd (b4.o.mono (((Aa w6).alloc _).trans A));have hB:∀ k u,([y1,y2,false]:List vV)[k]?=some u->w7.cell? ((w6:Addr).add k)=some u:=fun k u hk=>Am (Jx (Ae.new w6 (.cells [Value.string y1,.string y2,.bool false].toArray 47)) k u hk) A;refine CN Fe b5.o (.tmp 108) (.tmp 120) rfl rfl hB (by intro u hu;simp at hu;rcases hu with rfl | rfl | rfl <;> rfl) rfl rfl (by unfold maxLen;omega) vO (fun v' w8 r1 r2 r3=>hK _ _ r2 ?_);have J:Ja w w8 v' (n+1) (X++[⟨y1,y2,false⟩]):=by unfold Ja;rw[IQ];exact r1);have a3:=Hd J;clear hK K A r1 r2 r3 J hB b4 b5;obtain⟨a4,c4,rfl⟩:=a3.o.sl;refine vS ?_;refine vD ?_;(refine Mr (fun w9 A=>?_);have c7:=Hd (a3.o.mono A);clear A a3;go_wp2_with fail);go_roundw;(case rel=>exact⟨i,j+1,n+1,_,rfl,by go_num,by omega,by omega,by omega,c7.o,HN.o⟩);case measure=>exact vJ| false =>(have e6:=Hd hlt2;unfold Pr at hlt2;go_wp2_with fail);(refine Ij [0,1,2,3,4,5,6,7,8,9,10,11,12,13,14,15,16,17] Af Aa Aq vY vY vY ?_;iterate 9 refine vK ?_);(refine Dc ⟨bm,om+j * 2,none⟩ y1 rfl (fun w3 H=>Bq Ag rfl (Am (by exact a0.o) ((Ap _).trans H))) (vS ?_);iterate 4 refine vK ?_);(refine Dc ⟨bl,ol+i * 2,none⟩ x1 rfl (fun w3 H=>Bq Ag rfl (Am (by exact a9.o) ((Ap _).trans H))) (vS ?_);iterate 3 refine vK ?_);refine Hv (fun w5 A=>?_);have d2:=Hd (b8.o.mono ((Ap _).trans A));have d3:=Hd (Am c0.o ((Ap _).trans A));have e1:=Hd (Am a0.o ((Ap _).trans A));have c9:=Hd (Am b0.o ((Ap _).trans A));clear A b8 a9 c0 a0 b0 hlt2;cases hvv:(x2.toList == y2.toList)with| true =>(have HN:=Hd (show X++Fs _ _=Fs l m from by rw[<-jxT HP.o HQ.o e0.o e6.o hvv];exact O.o);clear O;go_wp2_with fail);(refine Ij [0,1,2,3,4,5,6,7,8,9,10] Af Aa Aq vY vY vY ?_;iterate 4 refine vK ?_);(refine Dc ⟨bl,ol+i * 2+1,none⟩ x2 rfl (fun w3 H=>Bq Ag rfl (Am (by exact d3.o) ((Ap _).trans H))) (vS ?_);iterate 4 refine vK ?_);refine Dc ⟨bm,om+j * 2+1,none⟩ y2 rfl (fun w3 H=>Bq Ag rfl (Am (by exact c9.o) ((Ap _).trans H))) (vS ?_);refine vK ?_;(refine Hv (fun w5 A=>?_);have a1:=Hd (d2.o.mono ((Ap _).trans A));clear A d2 d3 e1 c9;go_wp2_with fail);go_roundw;(case rel=>exact⟨i+1,j+1,n,X,by go_num,by go_num,by omega,by omega,by omega,a1.o,HN.o⟩);case measure=>exact vJ| false =>(have HN:=Hd (show X++[_]++Fs _ _=Fs l m from by rw[bZ,iD, <-ju6 HP.o HQ.o e0.o e6.o hvv];exact O.o);clear O;go_wp2_with fail);(refine Ij [0,1,2,3,4,5,6,7,8,9,10] Af Aa Aq vY vY vY ?_;iterate 4 refine vK ?_);(refine Dc ⟨bl,ol+i * 2+1,none⟩ x2 rfl (fun w3 H=>Bq Ag rfl (Am (by exact d3.o) ((Ap _).trans H))) (vS ?_);iterate 4 refine vK ?_);refine Dc ⟨bm,om+j * 2+1,none⟩ y2 rfl (fun w3 H=>Bq Ag rfl (Am (by exact c9.o) ((Ap _).trans H))) (vS ?_);refine vK ?_;(refine Hv (fun w5 A=>?_);have a1:=Hd (d2.o.mono ((Ap _).trans A));have c3:=Hd (Am e1.o ((Ap _).trans A));have c5:=Hd (Am c9.o ((Ap _).trans A));clear A d2 d3 e1 c9;go_wp2_with fail);(refine Nc [0,1,2,3,4,5,6,7,8,9,10,11,12,13,14] [12,13] Af (Ad (fun b=>(Value.slice a2 n c2).ownBlock=some b)) Aa Aq (fun x y z h k=>Ad.trans h k) (fun x y h=>h.mono kZ) vY vY vY ?_;iterate 5 refine vD ?_);(refine Fc ⟨bm,om+j * 2,none⟩ y1 rfl (fun w3 H=>Bq Ag rfl (Dw (by exact c3.o) H NB.o)) (vS ?_);iterate 4 refine vD ?_);refine Fc ⟨bm,om+j * 2+1,none⟩ y2 rfl (fun w3 H=>Bq Ag rfl (Dw (by exact c5.o) H NB.o)) (vS ?_);refine vD ?_;(refine Hl _ rfl (fun w6 A K hK=>?_);have b4:=Hd (a1.o.mono ((Ap _).trans A));clear A;go_simp;refine hK _ _ ((Ad.refl _ w6).alloc _) ?_;clear hK K;refine Hl _ rfl (fun w7 A K hK=>?_);have b5:=Hd (b4.o.mono (((Aa w6).alloc _).trans A));have hB:∀ k u,([y1,y2,false]:List vV)[k]?=some u->w7.cell? ((w6:Addr).add k)=some u:=fun k u hk=>Am (Jx (Ae.new w6 (.cells [Value.string y1,.string y2,.bool false].toArray 47)) k u hk) A;refine CN Fe b5.o (.tmp 37) (.tmp 49) rfl rfl hB (by intro u hu;simp at hu;rcases hu with rfl | rfl | rfl <;> rfl) rfl rfl (by unfold maxLen;omega) vO (fun v' w8 r1 r2 r3=>hK _ _ r2 ?_);have J:Ja w w8 v' (n+1) (X++[⟨y1,y2,false⟩]):=by unfold Ja;rw[IQ];exact r1);have a3:=Hd J;clear hK K A r1 r2 r3 J hB b4 b5;obtain⟨a4,c4,rfl⟩:=a3.o.sl;refine vS ?_;refine vD ?_;(refine Mr (fun w9 A=>?_);have c7:=Hd (a3.o.mono A);clear A a3;go_wp2_with fail);go_roundw;(case rel=>exact⟨i+1,j+1,n+1,_,by go_num,by go_num,by omega,by omega,by omega,c7.o,HN.o⟩);case measure=>exact vJ};obtain⟨q,hq⟩:∃ q,m[j]?=some q:=⟨_,bB hjm⟩;rcases HU.o with⟨_,_,_,h0⟩ |⟨bm,om,cm,hh,hb,hc,hcell⟩;{rw[h0]at hjm;cases hjm};cases hh;obtain⟨d5,d6⟩:=hcell j q hq;have a5:=Hd (Am d5 HR.o.ext);have b3:=Hd (Am d6 HR.o.ext);have NB:Hid (¬(Value.slice a2 n c2).ownBlock=some bm):=(fun e=>kL (HR.o.new bm e));have HQ:=Hd hq;have b2:(j:Int) < (m.length:Int):=vO;obtain⟨y1,y2⟩:=q;simp only at a5 b3;clear hcell hb hc hq;have d0:i=l.length:=vO;have b1:¬(i:Int) < (l.length:Int):=vO;(have eA:((j:Int) ==(m.length:Int))=false:=by simp;omega);(have eN:((i:Int) ==(l.length:Int))=true:=by simp;omega);(have HN:=Hd (show X++[_]++Fs _ _=Fs l m from by rw[bZ,iD, <-jxR HQ.o d0];exact O.o);clear d0 O;go_wp2_with fail);(refine Ij [0,1,2,3,4,5,6,7,8,9,10,11,12,13,14,15,16,17,18,19,20,21,22,23] Af Aa Aq vY vY vY ?_;iterate 10 refine vK ?_);(iterate 11 (refine Wv _ rfl (vS ?_)));(iterate 3 refine vK ?_);(refine Hv (fun w5 A=>?_);have b8:=Hd (HR.o.mono ((Ap _).trans A));have e7:=Hd (Am a5.o ((Ap _).trans A));have e8:=Hd (Am b3.o ((Ap _).trans A));clear A HR a5 b3;go_wp2_with fail);(refine Ij [0,1,2,3,4,5,6,7,8,9,10,11,12,13,14,15,16,17] Af Aa Aq vY vY vY ?_;iterate 5 refine vK ?_);(iterate 11 (refine Wv _ rfl (vS ?_)));(iterate 2 refine vK ?_);(refine Hv (fun w5 A=>?_);have a1:=Hd (b8.o.mono ((Ap _).trans A));have c3:=Hd (Am e7.o ((Ap _).trans A));have c5:=Hd (Am e8.o ((Ap _).trans A));clear A b8 e7 e8;go_wp2_with fail);(refine Nc [0,1,2,3,4,5,6,7,8,9,10,11,12,13,14] [12,13] Af (Ad (fun b=>(Value.slice a2 n c2).ownBlock=some b)) Aa Aq (fun x y z h k=>Ad.trans h k) (fun x y h=>h.mono kZ) vY vY vY ?_;iterate 5 refine vD ?_);(refine Fc ⟨bm,om+j * 2,none⟩ y1 rfl (fun w3 H=>Bq Ag rfl (Dw (by exact c3.o) H NB.o)) (vS ?_);iterate 4 refine vD ?_);refine Fc ⟨bm,om+j * 2+1,none⟩ y2 rfl (fun w3 H=>Bq Ag rfl (Dw (by exact c5.o) H NB.o)) (vS ?_);refine vD ?_;(refine Hl _ rfl (fun w6 A K hK=>?_);have b4:=Hd (a1.o.mono ((Ap _).trans A));clear A;go_simp;refine hK _ _ ((Ad.refl _ w6).alloc _) ?_;clear hK K;refine Hl _ rfl (fun w7 A K hK=>?_);have b5:=Hd (b4.o.mono (((Aa w6).alloc _).trans A));have hB:∀ k u,([y1,y2,false]:List vV)[k]?=some u->w7.cell? ((w6:Addr).add k)=some u:=fun k u hk=>Am (Jx (Ae.new w6 (.cells [Value.string y1,.string y2,.bool false].toArray 47)) k u hk) A;refine CN Fe b5.o (.tmp 108) (.tmp 120) rfl rfl hB (by intro u hu;simp at hu;rcases hu with rfl | rfl | rfl <;> rfl) rfl rfl (by unfold maxLen;omega) vO (fun v' w8 r1 r2 r3=>hK _ _ r2 ?_);have J:Ja w w8 v' (n+1) (X++[⟨y1,y2,false⟩]):=by unfold Ja;rw[IQ];exact r1);have a3:=Hd J;clear hK K A r1 r2 r3 J hB b4 b5;obtain⟨a4,c4,rfl⟩:=a3.o.sl;refine vS ?_;refine vD ?_;(refine Mr (fun w9 A=>?_);have c7:=Hd (a3.o.mono A);clear A a3;go_wp2_with fail);go_roundw;(case rel=>exact⟨i,j+1,n+1,_,rfl,by go_num,by omega,by omega,by omega,c7.o,HN.o⟩);case measure=>exact vJ};have d4:j=m.length:=vO;by_cases hil:i < l.length;{obtain⟨p,hp⟩:∃ p,l[i]?=some p:=⟨_,bB hil⟩;rcases HV.o with⟨_,_,_,h0⟩ |⟨bl,ol,cl,hh,hb,hc,hcell⟩;{rw[h0]at hil;cases hil};cases hh;obtain⟨d7,d8⟩:=hcell i p hp;have Z:=Hd (Am d7 HR.o.ext);have b7:=Hd (Am d8 HR.o.ext);have HP:=Hd hp;have b1:(i:Int) < (l.length:Int):=vO;obtain⟨x1,x2⟩:=p;simp only at Z b7;clear hcell hb hc hp;have b2:¬(j:Int) < (m.length:Int):=vO;(have eA:((j:Int) ==(m.length:Int))=true:=by simp;omega);(have HN:=Hd (show X++[_]++Fs _ _=Fs l m from by rw[bZ,iD, <-ju4 HP.o d4];exact O.o);clear d4 O;go_wp2_with fail);(refine Ij [0,1,2,3,4,5,6,7,8,9,10,11,12,13,14,15,16,17,18,19,20,21,22,23] Af Aa Aq vY vY vY ?_;iterate 5 refine vK ?_);(iterate 17 (refine Wv _ rfl (vS ?_)));(iterate 2 refine vK ?_);(refine Hv (fun w5 A=>?_);have a1:=Hd (HR.o.mono ((Ap _).trans A));have f1:=Am Z.o ((Ap _).trans A);clear A HR Z b7;go_wp2_with (at_builtin;refine Rc Fe (a1.o.mono ((Aa _).alloc _)) (.tmp 79) (.tmp 86) rfl rfl rfl (Jx (Ae.new _ _)) (news:=[x1,.string ⟨#[]⟩,true]) (by intro u hu;simp at hu;rcases hu with rfl | rfl | rfl <;> rfl) rfl rfl ?c1 ?c2 (fun v' w' r1 r2 r3=>?_)));(case c1=>unfold maxLen;omega);(case c2=>omega);(have J:Ja w w' v' (n+1) (X++[⟨x1,⟨#[]⟩,true⟩]):=by unfold Ja;rw[IQ];exact r1);obtain⟨a8,c8,rfl⟩:=J.sl;(have d9:=Hd J;clear r1 r2 r3 J;go_wp2_with fail);go_roundw;(case rel=>exact⟨i+1,j,n+1,_,by go_num,rfl,by omega,hj,by omega,d9.o,HN.o⟩);case measure=>exact vJ};have d0:i=l.length:=vO;have HF:=Hd (show X=R by have h:=O.o;rw[jz8 d0 d4,cB, <-e4.o]at h;exact h);have b1:¬(i:Int) < (l.length:Int):=vO;have b2:¬(j:Int) < (m.length:Int):=vO;(have e9:n=R.length:=by have:=HR.o.len;rw[HF.o]at this;rw[SQ]at this;omega);(have f2:=Hd e9;clear d0 d4 e9 O e4;go_wp2_with fail);go_ret;exact⟨_,rfl,by rw[<-f2.o, <-HF.o];exact HR.o⟩
abbrev Bk.k(c:Bk):vN:=c.key.data.toList
def Bk.o(c:Bk):Option vB:=if c.gone then none else some c.value
theorem TA{k:vN}:∀ {cs:List Bk},(∀ c∈cs,c.k≠k)->∀ o,cs.foldl (Wr k) o=o
 | [],_,_=>rfl
 | c :: r,h,o=>by
  have e:Wr k o c=o:=by unfold Wr;rw[if_neg (fun e=>h c bO e.symm)]
  rw[dM,e,TA fun x q=>h x (bM _ q)]
theorem eE{c:Bk}:∀ {cs:List Bk},c∈cs->(cs.map Bk.k).Nodup->∀ o,cs.foldl (Wr c.k) o=c.o
 | [],h,_,_=>by cases h
 | d :: r,h,hn,o=>by
  rw[bN,dF]at hn;rw[dM];rcases bT.1 h with rfl | h
  ·rw[TA fun x q e=>hn.1 (by rw[<-e];exact iN q)]
   unfold Wr Bk.o;rw[if_pos rfl]
  ·exact eE h hn.2 _
structure Zw(l m:vL)(cs:List Bk):Prop where
 keys:(cs.map Bk.k).Nodup
 done:∀ c∈cs,look m c.k=c.o
 rest:∀ k,(∀ c∈cs,c.k≠k)->look l k=look m k
 fine:cs.any Bk.bad=false
theorem Zw.looks(h:Zw l m cs)(k:vN):cs.foldl (Wr k) (look l k)=look m k:=by
 by_cases hk:∃ c∈cs,c.k=k
 ·obtain⟨c,q,rfl⟩:=hk;rw[eE q h.keys,h.done c q]
 ·have A:∀ c∈cs,c.k≠k:=fun c q e=>hk ⟨c,q,e⟩;rw[TA A,h.rest k A]
theorem Zw.after(h:Zw l m cs)(h1:Dv l=0)(h2:Dv m=0):Fi l cs=0/\Hi (Lq l cs)=m:=by
 have e:Hi (Lq l cs)=m:=by refine jW (aE (YR _ _)) (Fr h2).rise fun k=>?_;rw[jql h1,h.looks]
 refine⟨?_,e⟩
 have q:=congrArg List.length e;rw[jY]at q
 have:=(Fr h2).len
 unfold Fi;rw[if_neg (by rw[h1];simp),if_neg (by rw[h.fine];simp),if_neg vO]
def Zy(l:vL):Prop:=(∀ p∈l,Vk p)/\CS l
theorem Zy.tail(h:Zy (p :: l)):Zy l:=⟨fun q e=>h.1 q (bM _ e),(gD.1 h.2).2⟩
theorem Zy.head(h:Zy (p :: l)):Vk p:=h.1 p bO
theorem Zy.lt(h:Zy (p :: l)):∀ q∈l,Lt p.k q.k:=(gD.1 h.2).1
theorem T_(l m:vL):∀ c∈Fs l m,c.k∈l.map Ar.k\/c.k∈m.map Ar.k:=by
 fun_induction Fs l m with
 | case1=>intro c e;cases e
 | case2 p l ih =>(intro c e;rcases bT.1 e with rfl | e;{exact .inl (by simp[Bk.k,Ar.k])};rcases ih c e with h | h;{exact .inl (bM _ h)};exact .inr h)
 | case3 q m ih =>(intro c e;rcases bT.1 e with rfl | e;{exact .inr (by simp[Bk.k,Ar.k])};rcases ih c e with h | h;{exact .inl h};exact .inr (bM _ h))
 | case4 p l q m h ih =>(intro c e;rcases bT.1 e with rfl | e;{exact .inl (by simp[Bk.k,Ar.k])};rcases ih c e with h | h;{exact .inl (bM _ h)};exact .inr h)
 | case5 p l q m h h2 ih =>(intro c e;rcases bT.1 e with rfl | e;{exact .inr (by simp[Bk.k,Ar.k])};rcases ih c e with h | h;{exact .inl h};exact .inr (bM _ h))
 | case6 p l q m h h2 h3 ih =>(intro c e;rcases ih c e with h | h;{exact .inl (bM _ h)};exact .inr (bM _ h))
 | case7 p l q m h h2 h3 ih =>intro c e;rcases bT.1 e with rfl | e;{exact .inr (by simp[Bk.k,Ar.k])};rcases ih c e with h | h;{exact .inl (bM _ h)};exact .inr (bM _ h)
theorem jqn{k:vN}(h:∀ q∈m,Lt k q.k):look m k=none:=DN fun A=>by
 obtain⟨q,H,e⟩:=bC.1 A
 exact lt_irrefl _ (e ▸ h q H)
theorem GG{k:vN}(h1:∀ q∈l,Lt k q.k)(h2:∀ q∈m,Lt k q.k):∀ c∈Fs l m,Lt k c.k:=fun c H=>by
 rcases T_ l m c H with h | h
 ·obtain⟨q,A,e⟩:=bC.1 h;rw[<-e];exact h1 q A
 ·obtain⟨q,A,e⟩:=bC.1 h;rw[<-e];exact h2 q A
theorem Zw.cons{c:Bk}(h:Zw l m cs)(hk:∀ d∈cs,Lt c.k d.k)(hc:look m' c.k=c.o)(hb:c.bad=false)
  (hl:∀ k,k≠c.k->look l' k=look l k) (hm:∀ k,k≠c.k->look m' k=look m k):Zw l' m' (c :: cs):=by
 refine⟨?_,?_,?_,?_⟩
 ·rw[bN,dF];refine⟨fun A=>?_,h.keys⟩;obtain⟨d,q,e⟩:=bC.1 A;exact lt_irrefl _ (e ▸ hk d q)
 ·intro d q;rcases bT.1 q with rfl | q;{exact hc};rw[hm _ (fun e=>lt_irrefl _ (e ▸ hk d q)),h.done d q]
 ·intro k A;have H:k≠c.k:=fun e=>A c bO e.symm;rw[hl k H,hm k H,h.rest k fun d q=>A d (bM _ q)]
 ·rw[List.any_cons,hb,h.fine];rfl
theorem qP(h:Vk p):Bk.bad ⟨p.1,⟨#[]⟩,true⟩=false:=by
 unfold Bk.bad;rw[h.1];rfl
theorem WS(h:Vk p):Bk.bad ⟨p.1,p.2,false⟩=false:=by
 unfold Bk.bad;rw[h.1,h.2];rfl
theorem JR(q:Ar)(m:vL):look (q :: m) q.k=some q.2:=by rw[Nj,if_pos rfl]
theorem AM{k:vN}(h:k≠q.k):look (q :: m) k=look m k:=by rw[Nj,if_neg h]
theorem xG:∀ (l m:vL),Zy l->Zy m->Zw l m (Fs l m):=by
 intro l m
 fun_induction Fs l m with
 | case1=>exact fun _ _=>⟨by simp,by simp,fun _ _=>rfl,rfl⟩
 | case2 p l ih =>intro H A;refine (ih H.tail A).cons (GG H.lt (by simp)) rfl (qP H.head) (fun k J=>AM J) (fun _ _=>rfl)
 | case3 q m ih =>intro H A;exact (ih H A.tail).cons (GG (by simp) A.lt) (JR q m) (WS A.head) (fun _ _=>rfl) (fun k J=>AM J)
 | case4 p l q m h ih =>(intro H A;have X:=(FK _ _).1 h;have hq:∀ x∈q :: m,Lt p.k x.k:=fun x K=>by rcases bT.1 K with rfl | K;{exact X};exact FL _ _ _ X (A.lt x K));refine (ih H.tail A).cons (GG H.lt hq) (jqn hq) (qP H.head) (fun k J=>AM J) (fun _ _=>rfl)
 | case5 p l q m h h' ih =>(intro H A;have X:=(FK _ _).1 h';have hp:∀ x∈p :: l,Lt q.k x.k:=fun x K=>by rcases bT.1 K with rfl | K;{exact X};exact FL _ _ _ X (H.lt x K));exact (ih H A.tail).cons (GG hp A.lt) (JR q m) (WS A.head) (fun _ _=>rfl) (fun k J=>AM J)
 | case6 p l q m h h' h3 ih =>(intro H A;have J:p.k=q.k:=by rcases KV p.k q.k with e | e | e;{exact absurd ((FK _ _).2 e) h};{exact e};exact absurd ((FK _ _).2 e) h');(have hv:p.2=q.2:=by rw[cC,cC]at h3;obtain⟨⟨⟨a⟩⟩,⟨⟨b⟩⟩⟩:=p;obtain⟨⟨⟨c⟩⟩,⟨⟨d⟩⟩⟩:=q;simp at h3;simp[h3]);have:=UN J hv;subst this;have Z:=ih H.tail A.tail;have O:=GG H.lt A.lt;refine⟨Z.keys,fun c hc=>?_,fun k hh=>?_,Z.fine⟩;{rw[AM (fun e=>lt_irrefl _ (e ▸ O c hc)),Z.done c hc]};by_cases e:k=p.k;{rw[e,JR,JR]};rw[AM e,AM e,Z.rest k hh]
 | case7 p l q m h h' h3 ih =>(intro H A;have J:p.k=q.k:=by rcases KV p.k q.k with e | e | e;{exact absurd ((FK _ _).2 e) h};{exact e};exact absurd ((FK _ _).2 e) h');have O:=GG (fun x K=>J ▸ H.lt x K) A.lt;exact (ih H.tail A.tail).cons O (JR q m) (WS A.head) (fun k e=>AM (by rw[J];exact e)) (fun k e=>AM e)
theorem eI(h:Dv l=0):Zy l:=⟨qF h,(Fr h).rise⟩
theorem ML(h1:Dv l=0)(h2:Dv m=0):Zw l m (Ku l m):=by
 unfold Ku;rw[if_pos ⟨h1,h2⟩];exact xG l m (eI h1) (eI h2)
structure Au where
 block:Nat
 ents:vL
 chgs:List Bk
 pins:Nat
structure Cn where
 win:Nat
 next:Nat
 all:List Au
def Qb(win next:Nat)(v:Au):Bool:=decide (next<=v.block+win) || decide (0 < v.pins)
def Hy(win next:Nat):List Au->List Au
 | []=>[]
 | [v]=>[v]
 | v :: u :: t=>if Qb win next v=true then v :: Hy win next (u :: t)else Hy win next (u :: t)
theorem DH{v:Au}{t:List Au}(h:t≠[]):Hy win next (v :: t)=if Qb win next v=true then v :: Hy win next t else Hy win next t:=by
 cases t with
 | nil=>exact absurd rfl h
 | cons u t=>rfl
theorem NI{win next:Nat}:∀ {l:List Au},l≠[]->Hy win next l≠[]
 | [],h=>h
 | [v],_=>by show [v]≠[];simp
 | v :: u :: t,_=>by
  rw[DH (by simp)];split
  ·simp
  ·exact NI (by simp)
theorem AL{win next:Nat}:∀ {l:List Au},(Hy win next l).Sublist l
 | []=>.refl _
 | [v]=>.refl _
 | v :: u :: t=>by
  rw[DH (by simp)];split
  ·exact (AL (l:=u :: t)).cons_cons v
  ·exact (AL (l:=u :: t)).cons v
theorem JX{α:Type}{a b:List α}(h:b≠[]):(a++b).getLast?=b.getLast?:=by
 rw[List.getLast?_append];cases e:b.getLast? with
 | none=>exact absurd (List.getLast?_eq_none_iff.1 e) h
 | some x=>rfl
theorem MK{win next:Nat}:∀ {l:List Au},(Hy win next l).getLast?=l.getLast?
 | []=>rfl
 | [v]=>rfl
 | v :: u :: t=>by
  have e:=MK (win:=win) (next:=next) (l:=u :: t);rw[DH (by simp)];have q:=NI (win:=win) (next:=next) (l:=u :: t) (by simp);split
  ·rw[show v :: Hy win next (u :: t)=[v]++Hy win next (u :: t)from rfl,show v :: u :: t=[v]++(u :: t)from rfl,JX q,JX (by simp)]
   exact e
  ·rw[show v :: u :: t=[v]++(u :: t)from rfl,JX (by simp)]
   exact e
def Qd(win next:Nat):List Au->Prop
 | []=>True
 | [_]=>True
 | v :: u :: t=>Qb win next v=true/\Qd win next (u :: t)
theorem eD{v:Au}{t:List Au}(h:t≠[]):Qd win next (v :: t)↔Qb win next v=true/\Qd win next t:=by
 cases t with
 | nil=>exact absurd rfl h
 | cons u t=>exact Iff.rfl
theorem MJ{win next:Nat}:∀ {l:List Au},Qd win next (Hy win next l)
 | []=>trivial
 | [v]=>trivial
 | v :: u :: t=>by
  rw[DH (by simp)];have e:=NI (win:=win) (next:=next) (l:=u :: t) (by simp);split
  ·rename_i h
   exact (eD e).2 ⟨h,MJ⟩
  ·exact MJ
theorem pW{win next:Nat}:∀ {l:List Au},Qd win next l->∀ {i:Nat} {v:Au},l[i]?=some v->i+1=l.length\/Qb win next v=true
 | [],_,i,v,h=>by simp at h
 | [u],_,0,v,h=>.inl rfl
 | [u],_,i+1,v,h=>by simp at h
 | x :: u :: t,hk,0,v,h=>by
  have e:x=v:=by simpa using h
  exact .inr (e ▸ hk.1)
 | x :: u :: t,hk,i+1,v,h=>by
  rcases pW hk.2 (i:=i) (v:=v) (by simpa using h)with e | e
  ·exact .inl (by simp only[bS]at e ⊢;omega)
  ·exact .inr e
structure sX(v:Au):Prop where
 map:Dv v.ents=0
 pins:v.pins<=1048576
 chgs:v.chgs.length<=80
 fine:v.chgs.any Bk.bad=false
structure Ew(M:Cn):Prop where
 win:1<=M.win/\M.win<=8
 next:1<=M.next/\M.next<=1048576
 last:∃ v,M.all.getLast?=some v/\v.block+1=M.next
 rise:M.all.Pairwise fun a b=>a.block < b.block
 ver:∀ v∈M.all,sX v
 kept:Qd M.win M.next M.all
theorem Ew.ne{M:Cn}(h:Ew M):M.all≠[]:=fun e=>by
 obtain⟨v,q,_⟩:=h.last
 rw[e]at q;cases q
theorem Ew.less{M:Cn}(h:Ew M):∀ v∈M.all,v.block < M.next:=fun v q=>by
 obtain⟨u,J,e⟩:=h.last
 obtain⟨A,H⟩:=List.getLast?_eq_some_iff.1 J
 rw[H]at q;rcases bR.1 q with q | q
 ·have:=(jD.1 (H ▸ h.rise)).2.2 v q u (by simp)
  omega
 ·rw[bL.1 q];omega
def Hw(M:Cn):Au:=M.all.getLast?.getD ⟨0,[],[],0⟩
def Jj(window:Int):Cn:=⟨(min (max window 1) 8).toNat,1,[⟨0,[],[],0⟩]⟩
theorem uJ(window:Int):Ew (Jj window):=by
 refine⟨⟨?_,?_⟩,⟨bP _,by show 1<=1048576;decide⟩,⟨⟨0,[],[],0⟩,rfl,rfl⟩,by show List.Pairwise _ [_];simp,fun v e=>?_,trivial⟩
 ·show 1<=(min (max window 1) 8).toNat;omega
 ·show (min (max window 1) 8).toNat<=8;omega
 ·have e:v∈[(⟨0,[],[],0⟩:Au)]:=e;rw[bL.1 e];exact⟨by decide,by decide,by decide,rfl⟩
def Gu(M:Cn)(cs:List Bk):Cn × Nat × Int:=
 if Fi (Hw M).ents cs≠0 then (M,0,Fi (Hw M).ents cs)
 else if M.next=1048576 then (M,0,12)
 else (⟨M.win,M.next+1,Hy M.win (M.next+1) (M.all++[⟨M.next,Hi (Lq (Hw M).ents cs),Ku (Hw M).ents (Hi (Lq (Hw M).ents cs)),0⟩])⟩,M.next,0)
theorem ZU(h1:l.length<=40)(h2:m.length<=40):(Ku l m).length<=80:=by
 have e:∀ l m:vL,(Fs l m).length<=l.length+m.length:=fun l m=>by fun_induction Fs l m <;> simp only[bS,cY]at * <;> omega
 unfold Ku;split
 ·have:=e l m;omega
 ·simp
theorem Ew.newest{M:Cn}(h:Ew M):Hw M∈M.all/\(Hw M).block+1=M.next:=by
 obtain⟨v,q,e⟩:=h.last
 unfold Hw;rw[q]
 exact⟨List.mem_of_getLast? q,e⟩
theorem jrT{M:Cn}(h:Ew M)(cs:List Bk):Ew (Gu M cs).1:=by
 unfold Gu;split
 ·exact h
 split
 ·exact h
 rename_i A h1
 have A:Fi (Hw M).ents cs=0:=Classical.not_not.1 A;have O:=h.next;have e:=Ye A;have H:=ML (h.ver _ h.newest.1).map e;have J:=h.less
 refine⟨h.win,⟨by show 1<=M.next+1;omega,by show M.next+1<=_;omega⟩,⟨_,by show (Hy _ _ _).getLast?=_;rw[MK,JX (by simp)];rfl,rfl⟩,?_,fun v q=>?_,MJ⟩
 ·refine List.Pairwise.sublist AL ?_;rw[jD];exact⟨h.rise,by simp,fun a K b hb=>by rw[bL.1 hb];exact J a K⟩
 ·rcases bR.1 (AL.subset q)with q | q;{exact h.ver v q};rw[bL.1 q];exact⟨e,cE _,ZU (Fr (h.ver _ h.newest.1).map).len (Fr e).len,H.fine⟩
def Ks(l:List Au)(block:Int):Option Nat:=l.findIdx? fun v=>decide ((v.block:Int)=block)
theorem JB{l:List Au}{b:Int}(h:Ks l b=some i):∃ v,l[i]?=some v/\(v.block:Int)=b:=by
 unfold Ks at h;rw[fU]at h
 obtain⟨e,q,_⟩:=h
 exact⟨l[i],bB e,of_decide_eq_true q⟩
theorem ZE{l:List Au}{b:Int}(h:Ks l b=none):∀ v∈l,(v.block:Int)≠b:=fun v q e=>by
 unfold Ks at h;rw[List.findIdx?_eq_none_iff]at h
 have:=h v q
 simp[e]at this
def DT(v:Au)(p:Nat):Au:=⟨v.block,v.ents,v.chgs,p⟩
def Ke(M:Cn)(i:Nat)(v:Au)(p:Nat):List Au:=M.all.set i (DT v p)
def IB(M:Cn)(at':Int):Option Nat:=if at' = -1 then some (M.all.length - 1)else Ks M.all at'
def Ek(M:Cn)(at':Int):Cn × Nat × Int:=match IB M at' with
 | none=>(M,0,4)
 | some i=>match M.all[i]? with
  | none=>(M,0,4)
  | some v=>if v.pins=1048576 then (M,0,12)else (⟨M.win,M.next,Ke M i v (v.pins+1)⟩,v.block,0)
def Kt(M:Cn)(b:Int):Cn × Int:=match Ks M.all b with
 | none=>(M,4)
 | some i=>match M.all[i]? with
  | none=>(M,4)
  | some v=>if v.pins=0 then (M,4)else (⟨M.win,M.next,Hy M.win M.next (Ke M i v (v.pins - 1))⟩,0)
theorem aR{M:Cn}{v:Au}{p:Nat}(h:M.all[i]?=some v):(Ke M i v p).map Au.block=M.all.map Au.block:=by
 unfold Ke;rw[gO];refine iV fun j=>?_;rw[iS];split
 ·rename_i e;subst e;rw[bY,h];have q:=(bI.1 h).1;rw[if_pos (by rw[bU];exact q)];rfl
 ·rfl
theorem sN{M:Cn}(hM:Ew M){v:Au}{p:Nat}(h:M.all[i]?=some v)(hp:p<=1048576):(∃ u,(Ke M i v p).getLast?=some u/\u.block+1=M.next)/\(Ke M i v p).Pairwise (fun a b=>a.block < b.block)/\∀ u∈Ke M i v p,sX u:=by
 have hb:=aR (p:=p) h
 refine⟨?_,?_,fun u A=>?_⟩
 ·obtain⟨u,A,e⟩:=hM.last;(have q:((Ke M i v p).map Au.block).getLast?=some u.block:=by rw[hb,List.getLast?_map,A];rfl);rw[List.getLast?_map,dG]at q;obtain⟨H,q,J⟩:=q;exact⟨H,q,by rw[J];exact e⟩
 ·have q:=gI.2 hM.rise;rw[<-hb]at q;exact gI.1 q
 ·unfold Ke at A;rcases gS A with A | rfl;{exact hM.ver u A};have:=hM.ver v (bD h);exact⟨this.map,hp,this.chgs,this.fine⟩
theorem mL{win next:Nat}{x:Au}(hx:Qb win next x=true):∀ {l:List Au} {i:Nat},Qd win next l->Qd win next (l.set i x)
 | [],_,_=>trivial
 | [v],0,_=>trivial
 | [v],i+1,_=>trivial
 | v :: u :: t,0,h=>⟨hx,h.2⟩
 | v :: u :: t,i+1,h=>by
  have:=mL hx (l:=u :: t) (i:=i) h.2
  show Qd win next (v ::(u :: t).set i x);exact (eD (by simp)).2 ⟨h.1,this⟩
theorem uW{M:Cn}(h:Ew M)(at':Int):Ew (Ek M at').1:=by
 unfold Ek;split
 ·exact h
 split
 ·exact h
 split
 ·exact h
 rename_i v hv hp
 have:=(h.ver v (bD hv)).pins
 obtain⟨e,q,A⟩:=sN h hv (p:=v.pins+1) vO
 refine⟨h.win,h.next,e,q,A,mL ?_ h.kept⟩
 unfold Qb DT
 simp
theorem jwI{M:Cn}(h:Ew M)(b:Int):Ew (Kt M b).1:=by
 unfold Kt;split
 ·exact h
 split
 ·exact h
 split
 ·exact h
 rename_i v hv hp
 have:=(h.ver v (bD hv)).pins
 obtain⟨e,q,A⟩:=sN h hv (p:=v.pins - 1) vO
 exact⟨h.win,h.next,by show ∃ u,(Hy _ _ _).getLast?=some u/\_;rw[MK];exact e,q.sublist AL,fun u H=>A u (AL.subset H),MJ⟩
def Fo(w w':vW):Nat->Prop:=fun b=>w.heap.size<=b/\b < w'.heap.size
def Ga(D:Nat->Prop)(w:vW)(v:vV)(xs:vL):Prop:=Io w v xs/\∀ b,v.ownBlock=some b->D b
def Fz(D:Nat->Prop)(w:vW)(v:vV)(xs:List Bk):Prop:=Jb w v xs/\∀ b,v.ownBlock=some b->D b
theorem Io.keeps{xs:vL}(h:Io w v xs)(k:Ad F w w')(hF:∀ b,v.ownBlock=some b->¬ F b):Io w' v xs:=by
 rcases h with h |⟨b,o,c,rfl,h2,h3,h4⟩
 ·exact .inl h
 ·have hb:=hF b rfl;exact .inr ⟨b,o,c,rfl,bE h2 k.size,h3,fun j x e=>⟨Dw (h4 j x e).1 k hb,Dw (h4 j x e).2 k hb⟩⟩
theorem Jb.keeps(h:Jb w v xs)(k:Ad F w w')(hF:∀ b,v.ownBlock=some b->¬ F b):Jb w' v xs:=by
 rcases h with h |⟨b,o,c,rfl,h2,h3,h4⟩
 ·exact .inl h
 ·have hb:=hF b rfl;exact .inr ⟨b,o,c,rfl,bE h2 k.size,h3,fun j x e=>⟨Dw (h4 j x e).1 k hb,Dw (h4 j x e).2.1 k hb,Dw (h4 j x e).2.2 k hb⟩⟩
theorem Ga.keeps{xs:vL}(h:Ga D w v xs)(k:Ad F w w')(hF:∀ b,D b->¬ F b):Ga D w' v xs:=⟨h.1.keeps k fun b e=>hF b (h.2 b e),h.2⟩
theorem Fz.keeps(h:Fz D w v xs)(k:Ad F w w')(hF:∀ b,D b->¬ F b):Fz D w' v xs:=⟨h.1.keeps k fun b e=>hF b (h.2 b e),h.2⟩
theorem Ga.mono{xs:vL}(h:Ga D w v xs)(k:∀ b,D b->E b):Ga E w v xs:=⟨h.1,fun b e=>k b (h.2 b e)⟩
theorem Fz.mono(h:Fz D w v xs)(k:∀ b,D b->E b):Fz E w v xs:=⟨h.1,fun b e=>k b (h.2 b e)⟩
structure CU(D:Nat->Prop)(w:World)(b o:Nat)(x:Au):Prop where
 block:w.cell? ⟨b,o,none⟩=some (.int .i64 (x.block:Int))
 ents:∃ v,w.cell? ⟨b,o+1,none⟩=some v/\Ga D w v x.ents
 chgs:∃ v,w.cell? ⟨b,o+2,none⟩=some v/\Fz D w v x.chgs
 pins:w.cell? ⟨b,o+3,none⟩=some (.int .i64 (x.pins:Int))
def Cz(D:Nat->Prop)(w:vW)(v:vV)(l:List Au):Prop:=
 (∃ a c,v=.slice a 0 c/\l=[])\/∃ b o c,v=.slice (some ⟨b,o,none⟩) l.length c/\D b/\b < w.heap.size/\l.length<=c/\∀ (j:Nat) x,l[j]?=some x->CU D w b (o+j * 4) x
theorem CU.keeps{b o:Nat}{x:Au}(h:CU D w b o x)(k:Ad F w w')(hb:¬ F b)(hF:∀ b,D b->¬ F b):CU D w' b o x:=by
 obtain⟨e,q,A⟩:=h.ents
 obtain⟨H,J,K⟩:=h.chgs
 exact⟨Dw h.block k hb,⟨e,Dw q k hb,A.keeps k hF⟩,⟨H,Dw J k hb,K.keeps k hF⟩,Dw h.pins k hb⟩
theorem CU.mono{b o:Nat}{x:Au}(h:CU D w b o x)(k:∀ b,D b->E b):CU E w b o x:=by
 obtain⟨e,q,A⟩:=h.ents
 obtain⟨H,J,K⟩:=h.chgs
 exact⟨h.block,⟨e,q,A.mono k⟩,⟨H,J,K.mono k⟩,h.pins⟩
theorem Cz.keeps{l:List Au}(h:Cz D w v l)(k:Ad F w w')(hF:∀ b,D b->¬ F b):Cz D w' v l:=by
 rcases h with h |⟨b,o,c,h1,h2,h3,h4,h5⟩
 ·exact .inl h
 ·exact .inr ⟨b,o,c,h1,h2,bE h3 k.size,h4,fun j x e=>(h5 j x e).keeps k (hF b h2) hF⟩
theorem Cz.ext{l:List Au}(h:Cz D w v l)(k:Af w w'):Cz D w' v l:=h.keeps k fun _ _ e=>e
theorem Cz.mono{l:List Au}(h:Cz D w v l)(k:∀ b,D b->E b):Cz E w v l:=by
 rcases h with h |⟨b,o,c,h1,h2,h3,h4,h5⟩
 ·exact .inl h
 ·exact .inr ⟨b,o,c,h1,k b h2,h3,h4,fun j x e=>(h5 j x e).mono k⟩
theorem Cz.sl{l:List Au}(h:Cz D w v l):∃ a c,v=.slice a l.length c:=by
 rcases h with⟨a,c,h1,h2⟩ |⟨b,o,c,h1,_⟩
 ·exact⟨a,c,by rw[h1,h2];rfl⟩
 ·exact⟨_,c,h1⟩
structure VX where
 v:Au
 ev:vV
 cv:vV
def VX.cells(x:VX):List vV:=[(x.v.block:Int),x.ev,x.cv,(x.v.pins:Int)]
def Hq(l:List VX):List vV:=l.flatMap VX.cells
theorem Zi:∀ l:List VX,(Hq l).length=l.length * 4
 | []=>rfl
 | x :: t=>by
  show (x.cells++Hq t).length=_;rw[bK,Zi t,bS];show 4+_=_;omega
theorem JH:∀ (l:List VX) (j:Nat) (x:VX),l[j]?=some x->∀ i,i < 4->(Hq l)[j * 4+i]?=x.cells[i]?
 | [],j,x,h=>by simp at h
 | y :: t,0,x,h=>fun i q=>by
  have e:y=x:=by simpa using h
  subst e;show (y.cells++Hq t)[0 * 4+i]?=_;rw[iX,bX,cN (show i < y.cells.length from q)]
 | y :: t,j+1,x,h=>fun i q=>by
  show (y.cells++Hq t)[(j+1) * 4+i]?=_;rw[cO (show y.cells.length<=_ from by show 4<=_;omega),show (j+1) * 4+i - y.cells.length=j * 4+i by show _ - 4=_;omega];exact JH t j x (by simpa using h) i q
def CK(D:Nat->Prop)(w:vW)(l:List VX):Prop:=∀ x∈l,Ga D w x.ev x.v.ents/\Fz D w x.cv x.v.chgs
theorem Li:(Tryz.prog.info? 91).map (fun i=>(i.zero,i.size,i.bytes))=some (some (.agg #[.int .i64 0,.slice none 0 0,.slice none 0 0,.int .i64 0]),4,64):=vY
theorem Km:Tryz.prog.underlying 68=some (.slice 91):=vY
theorem Nx:Me Tryz.prog 68 91 4 64:=Me.mk' Km Li rfl vI
def HJ:VX:=⟨⟨0,[],[],0⟩,.slice none 0 0,.slice none 0 0⟩
theorem Cp(w:vW):(Instr.alloc 91 true (.tuple #[])).run Tryz.prog w=.ok w (w.alloc (.cells HJ.cells.toArray 91)):=vY
theorem Bt:(Tryz.prog.info? 91).map (·.size)=some 4:=vY
theorem Tv:Xg (Tryz.prog.underlying 91)=true:=vY
theorem m_(W:vW)(b o:Nat)(vs:List vV)(hl:vs.length=4)(h:∀ i v,vs[i]?=some v->W.cell? ⟨b,o+i,none⟩=some v):(Instr.loadAt 91 (.pointer (some ⟨b,o,none⟩))).run Tryz.prog W=.ok (.agg vs.toArray) W:=by
 obtain⟨A,e⟩:=Yd Tv
 exact Yg e (by rw[hl];exact Bt) (fun j v q=>by rw[Go.WideShapes.add_plain];exact h j v q)
theorem Ts:Xg (Tryz.prog.underlying 70)=true:=vY
theorem Ao:(Tryz.prog.info? 70).map (·.size)=some 3:=vY
theorem IU(W:vW)(b o:Nat)(vs:List vV)(hl:vs.length=3)(h:∀ i v,vs[i]?=some v->W.cell? ⟨b,o+i,none⟩=some v):(Instr.loadAt 70 (.pointer (some ⟨b,o,none⟩))).run Tryz.prog W=.ok (.agg vs.toArray) W:=by
 obtain⟨A,e⟩:=Yd Ts
 exact Yg e (by rw[hl];exact Ao) (fun j v q=>by rw[Go.WideShapes.add_plain];exact h j v q)
theorem RB(W:vW)(b o:Nat)(vs:List vV)(hl:vs.length=4)(h:∀ i v,vs[i]?=some v->W.cell? ⟨b,o+i,none⟩=some v):(loadVar 91 ⟨b,o,none⟩).run Tryz.prog W=.ok (.agg vs.toArray) W:=by
 have:=m_ W b o vs hl h
 simpa [Instr.loadAt,Instr.sureAddr,bQ,Result.andThen]using this
theorem Uy(W:vW)(b o:Nat)(vs:List vV)(hl:vs.length=3)(h:∀ i v,vs[i]?=some v->W.cell? ⟨b,o+i,none⟩=some v):(loadVar 70 ⟨b,o,none⟩).run Tryz.prog W=.ok (.agg vs.toArray) W:=by
 have:=IU W b o vs hl h
 simpa [Instr.loadAt,Instr.sureAddr,bQ,Result.andThen]using this
def Il(M:Cn)(av:vV):vV:=.agg #[(M.win:Int),(M.next:Int),av]
structure DB(sz:Nat)(w:World)(v:Value)(m:Nat)(cs:List Value):Prop where
 len:cs.length=m * sz
 one:∀ u∈cs,u.oneCell'=true
 at':(∃ a c,v=.slice a 0 c/\m=0)\/∃ b o c,v=.slice (some ⟨b,o,none⟩) m c/\∀ j u,cs[j]?=some u->w.cell? ⟨b,o+j,none⟩=some u
theorem DB.ext{m:Nat}{cs:List vV}(h:DB sz w v m cs)(k:Af w w'):DB sz w' v m cs:=by
 refine⟨h.len,h.one,?_⟩
 rcases h.at' with h |⟨b,o,c,h1,h2⟩
 ·exact .inl h
 ·exact .inr ⟨b,o,c,h1,fun j u e=>Am (h2 j u e) k⟩
theorem SR:∀ (xs:vL) (j:Nat) (u:vV),(Pz xs)[j]?=some u->∃ i p,xs[i]?=some p/\((j=i * 2/\u=.string p.1)\/(j=i * 2+1/\u=.string p.2))
 | [],j,u,h=>by simp[Pz]at h
 | x :: t,0,u,h=>⟨0,x,rfl,.inl ⟨rfl,by simpa [Pz]using h.symm⟩⟩
 | x :: t,1,u,h=>⟨0,x,rfl,.inr ⟨rfl,by simpa [Pz]using h.symm⟩⟩
 | x :: t,j+2,u,h=>by
  have h:(Pz t)[j]?=some u:=by simpa [Pz]using h
  obtain⟨i,p,e,q⟩:=SR t j u h
  exact⟨i+1,p,by simpa using e,q.imp (fun ⟨a,b⟩=>⟨by omega,b⟩) (fun ⟨a,b⟩=>⟨by omega,b⟩)⟩
theorem SP:∀ (xs:List Bk) (j:Nat) (u:vV),(Ov xs)[j]?=some u->∃ i p,xs[i]?=some p/\((j=i * 3/\u=.string p.key)\/(j=i * 3+1/\u=.string p.value)\/(j=i * 3+2/\u=.bool p.gone))
 | [],j,u,h=>by simp[Ov]at h
 | x :: t,0,u,h=>⟨0,x,rfl,.inl ⟨rfl,by simpa [Ov]using h.symm⟩⟩
 | x :: t,1,u,h=>⟨0,x,rfl,.inr (.inl ⟨rfl,by simpa [Ov]using h.symm⟩)⟩
 | x :: t,2,u,h=>⟨0,x,rfl,.inr (.inr ⟨rfl,by simpa [Ov]using h.symm⟩)⟩
 | x :: t,j+3,u,h=>by
  have h:(Ov t)[j]?=some u:=by simpa [Ov]using h
  obtain⟨i,p,e,q⟩:=SP t j u h
  exact⟨i+1,p,by simpa using e,q.imp (fun ⟨a,b⟩=>⟨by omega,b⟩) (fun h=>h.imp (fun ⟨a,b⟩=>⟨by omega,b⟩) (fun ⟨a,b⟩=>⟨by omega,b⟩))⟩
theorem Io.g{xs:vL}(h:Io w v xs):DB 2 w v xs.length (Pz xs):=by
 refine⟨MH xs,fun u e=>?_,?_⟩
 ·obtain⟨j,A⟩:=fC e;obtain⟨i,p,_,⟨_,rfl⟩ |⟨_,rfl⟩⟩:=SR xs j u A <;> rfl
 ·rcases h with⟨a,c,h1,h2⟩ |⟨b,o,c,h1,h2,h3,h4⟩;{exact .inl ⟨a,c,h1,by rw[h2];rfl⟩};refine .inr ⟨b,o,c,h1,fun j u e=>?_⟩;obtain⟨i,p,q,⟨rfl,rfl⟩ |⟨rfl,rfl⟩⟩:=SR xs j u e;{exact (h4 i p q).1};exact (h4 i p q).2
theorem Jb.g(h:Jb w v xs):DB 3 w v xs.length (Ov xs):=by
 refine⟨SQ xs,fun u e=>?_,?_⟩
 ·obtain⟨j,A⟩:=fC e;obtain⟨i,p,_,⟨_,rfl⟩ |⟨_,rfl⟩ |⟨_,rfl⟩⟩:=SP xs j u A <;> rfl
 ·rcases h with⟨a,c,h1,h2⟩ |⟨b,o,c,h1,h2,h3,h4⟩;{exact .inl ⟨a,c,h1,by rw[h2];rfl⟩};refine .inr ⟨b,o,c,h1,fun j u e=>?_⟩;obtain⟨i,p,q,⟨rfl,rfl⟩ |⟨rfl,rfl⟩ |⟨rfl,rfl⟩⟩:=SP xs j u e;{exact (h4 i p q).1};{exact (h4 i p q).2.1};exact (h4 i p q).2.2
theorem jX(h:∃ a n c,v=Value.slice a n c):v.oneCell'=true:=by obtain⟨_,_,_,rfl⟩:=h;rfl
theorem ZN:∀ (xs:List VX) (j:Nat) (u:vV),(Hq xs)[j]?=some u->∃ i x k,xs[i]?=some x/\k < 4/\j=i * 4+k/\x.cells[k]?=some u
 | [],j,u,h=>by simp[Hq]at h
 | x :: t,j,u,h=>by
  have e:Hq (x :: t)=x.cells++Hq t:=rfl;rw[e]at h
  by_cases hj:j < 4
  ·rw[cN (show j < x.cells.length from hj)]at h
   exact⟨0,x,j,rfl,hj,by omega,h⟩
  ·rw[cO (show x.cells.length<=j from by show 4<=j;omega)]at h
   obtain⟨i,y,k,q,A,J,H⟩:=ZN t (j - 4) u h
   exact⟨i+1,y,k,by simpa using q,A,by omega,H⟩
theorem VX.one{x:VX}(h:Ga D w x.ev x.v.ents/\Fz D w x.cv x.v.chgs):∀ u∈x.cells,u.oneCell'=true:=fun u e=>by
 obtain⟨a,c,q⟩:=h.1.1.sl
 obtain⟨A,H,J⟩:=h.2.1.sl
 simp only[VX.cells,bT,iH,or_false]at e;rcases e with rfl | rfl | rfl | rfl
 ·rfl
 ·exact jX ⟨a,_,c,q⟩
 ·exact jX ⟨A,_,H,J⟩
 ·rfl
theorem Cz.g{l:List Au}(h:Cz D w v l):∃ X:List VX,X.map VX.v=l/\CK D w X/\DB 4 w v l.length (Hq X):=by
 rcases h with⟨a,c,h1,K⟩ |⟨b,o,c,h1,hd,hb,Z,h4⟩
 ·exact⟨[],by rw[K];rfl,fun x q=>(by cases q),by rw[K];rfl,fun u H=>(by cases H),.inl ⟨a,c,h1,by rw[K];rfl⟩⟩
 ·(obtain⟨X,J,O⟩:∃ X:List VX,X.map VX.v=l/\∀ j x,X[j]?=some x->w.cell? ⟨b,o+j * 4+1,none⟩=some x.ev/\Ga D w x.ev x.v.ents/\w.cell? ⟨b,o+j * 4+2,none⟩=some x.cv/\Fz D w x.cv x.v.chgs:=by(have a0:∀ (l:List Au) (o:Nat),(∀ (j:Nat) x,l[j]?=some x->CU D w b (o+j * 4) x)->∃ X:List VX,X.map VX.v=l/\∀ j x,X[j]?=some x->w.cell? ⟨b,o+j * 4+1,none⟩=some x.ev/\Ga D w x.ev x.v.ents/\w.cell? ⟨b,o+j * 4+2,none⟩=some x.cv/\Fz D w x.cv x.v.chgs:=by intro l;induction l with| nil=>exact fun o _=>⟨[],rfl,fun j x q=>by simp at q⟩| cons y t ih =>intro o h;have h0:=h 0 y rfl;obtain⟨ev,e1,e2⟩:=h0.ents;obtain⟨cv,c1,c2⟩:=h0.chgs;(obtain⟨X,x1,x2⟩:=ih (o+4) fun j x q=>by have:=h (j+1) x (by simpa using q);rwa [show o+(j+1) * 4=o+4+j * 4 by omega]at this);refine⟨⟨y,ev,cv⟩ :: X,by rw[bN,x1],fun j x q=>?_⟩;cases j with| zero =>(have e:(⟨y,ev,cv⟩:VX)=x:=by simpa using q);subst e;rw[iX,gC]at e1 c1 ⊢;exact⟨e1,e2,c1,c2⟩| succ j =>have:=x2 j x (by simpa using q);rwa [show o+4+j * 4=o+(j+1) * 4 by omega]at this);exact a0 l o h4);(have hH:CK D w X:=fun x q=>by obtain⟨j,hj⟩:=fC q;obtain⟨_,K,_,h3⟩:=O j x hj;exact⟨K,h3⟩);(have hl:X.length=l.length:=by rw[<-J,bU]);refine⟨X,J,hH,by rw[Zi,hl],fun u H=>?_,.inr ⟨b,o,c,h1,fun j u H=>?_⟩⟩;{obtain⟨x,q,H⟩:=dL.1 H;exact VX.one (hH x q) u H};obtain⟨i,x,k,h5,h6,rfl,A⟩:=ZN X j u H;obtain⟨q1,_,q2,_⟩:=O i x h5;(have hv:l[i]?=some x.v:=by rw[<-J,bY,h5];rfl);have Z:=h4 i x.v hv;rw[show o+(i * 4+k)=o+i * 4+k by omega];match k,h6,A with| 0,_,A=>rw[<-bV A];exact Z.block| 1,_,A=>rw[<-bV A];exact q1| 2,_,A=>rw[<-bV A];exact q2| 3,_,A=>rw[<-bV A];exact Z.pins
theorem aH{P:Program}{t T:TypeId}(I:Me P t T sz by'){ops:Array Oper}{rest:List Oper}{d:Option Tmp}{ty:TypeId}{pos:String}{af:Array Edge}{a:Act}{Q:Exit->Act->vW->Prop}{s x:Operand}{m:Nat}{xs cs:List vV}
  (hR:Av T sz w0 w v n xs) (hP:DB sz w pv m cs) (hs:a.eval s=v) (hx:a.eval x=pv) (h63:n+m<=1000000) (hb:by'<=1000)
  (h:∀ A w',Av T sz w0 w' A (n+m) (xs++cs)->Ad (fun b=>v.ownBlock=some b) w w'->(A.ownBlock=v.ownBlock\/∀ b,A.ownBlock=some b->w.heap.size<=b)->wpList P ops Q rest (a.put d A) w') :
  wpList P ops Q (⟨d,.call { callee:=.builtin .append,args:=#[s,x],argTypes:=#[t,t] },ty,pos,af,none⟩ :: rest) a w:=by
 obtain⟨i,z,H,e2,e3,e4,e5⟩:=I.hi
 have O:n+m<=maxLen:=by unfold maxLen;omega
 have X:(n+m) * by'<=140737488355328:=bF (Nat.mul_le_mul h63 hb) vI
 have q:∀ (ad:Addr) (c:Nat),pv=.slice (some ad) m c->(∀ j u,cs[j]?=some u->w.cell? (ad.add j)=some u)->wpList P ops Q (⟨d,.call { callee:=.builtin .append,args:=#[s,x],argTypes:=#[t,t] },ty,pos,af,none⟩ :: rest) a w:=fun ad c e Z =>EX w rfl s x t rfl T i z sz by' I.ht H e2 e3 e4 e5 I.hsz v n xs hs hR.own ad m c cs (hx.trans e) hP.len Z hP.one O X (fun A w' r1 r2 r3=>h A w' (hR.step r1 r2 r3) r2 r3)
 rcases hP.at' with⟨ad,c,e,rfl⟩ |⟨b,o,c,e,Z⟩
 ·have J:cs=[]:=bH (by rw[hP.len];omega);cases ad with| some ad=>exact q ad c e (fun j u K=>by rw[J]at K;simp at K)| none =>obtain⟨ad,a0,hv⟩:=hR.sl;(have a1:n<=a0:=by obtain⟨_,⟨H,e2⟩ |⟨g,cp,a2,H,h3,h4,h5,_⟩⟩:=hR.own;{omega};rw[hv]at H;obtain⟨_,_,e3⟩:=dH H;omega);refine G_ I (hs.trans hv) (hx.trans e) a1 ?_;rw[<-hv];exact h v w (by rw[J,cB];exact hR) (Ad.refl _ w) (.inl rfl)
 ·exact q ⟨b,o,none⟩ c e (fun j u K=>by rw[Go.WideShapes.add_plain];exact Z j u K)
def Tg(v t:vB):Prop:=v.data.toList <:+: t.data.toList
theorem Tg.trans{b c:vB}(h:Tg a b)(k:Tg b c):Tg a c:=List.IsInfix.trans h k
theorem Tg.rfl'(a:vB):Tg a a:=List.infix_refl _
theorem XY(a b:vB):Tg b (a++b):=⟨a.data.toList,[],by rw[dK,fK,cB]⟩
theorem mI(v:vB):Tg v (Ay v):=by
 unfold Ay;split
 ·exact Tg.rfl' v
 ·exact XY _ _
theorem pU{x:vB}:∀ {l:vM},x∈l->Tg x (Aw l)
 | y :: l,h=>by
  rcases bT.1 h with rfl | h
  ·refine⟨[],(l.map (·.data.toList)).flatten,?_⟩
   show _=x.data.toList++(l.map (·.data.toList)).flatten
   simp
  ·obtain⟨s,t,e⟩:=pU h
   have e:s++x.data.toList++t=(l.map (·.data.toList)).flatten:=e
   refine⟨y.data.toList++s,t,?_⟩
   show _=y.data.toList++(l.map (·.data.toList)).flatten;rw[<-e];simp
theorem NO{x:vB}{l:vM}(h:x∈l):Tg x (Fj l):=(pU h).trans (XY _ _)
theorem Ym.inf{T:PT}{n:Ai}(h:Ym f T n){v t:vB}(ht:t∈Bz T)(hv:Tg v t):(∃ t∈Ej (Hx T),Tg v t)\/Tg v (Ba T.text):=by
 by_cases hs:T.text.size < 32
 ·have e:=h.small hs;obtain⟨x,ks⟩:=T;have e:ks=[]:=e;subst e;unfold Bz Ej at ht;rw[bL]at ht;right;unfold Ba;rw[if_pos hs, <-(show t=(PT.mk x []).text from ht)];exact hv
 ·left;refine⟨t,?_,hv⟩;unfold Hx;rw[if_neg hs,Zj];exact⟨T,bL.2 rfl,ht⟩
def Tl(l:vL):Nat->Nat
 | 0=>0
 | n+1=>Tl l n+(if (Ah n l).length=0 then 0 else 1)
theorem TD(l:vL)(n:Nat):∀ d,Tl l n<=Tl l (n+d)
 | 0=>bP _
 | d+1=>by have:=TD l n d;rw[show n+(d+1)=(n+d)+1 from rfl,Tl];omega
theorem TE(h:(Ah i l).length≠0)(hi:i < n):1<=Tl l n:=by
 have:=TD l (i+1) (n - (i+1))
 rw[show i+1+(n - (i+1))=n by omega,Tl,if_neg h]at this;omega
theorem MY(h:(Ah i l).length≠0)(hj:(Ah j l).length≠0)(hij:i < j)(hn:j < n):2<=Tl l n:=by
 have e:=TE h hij
 have:=TD l (j+1) (n - (j+1))
 rw[show j+1+(n - (j+1))=n by omega,Tl,if_neg hj]at this;omega
theorem pX(B:vL->PT)(l:vL)(hB:∀ i,(Ah i l).length≠0->(Bz (B (Az 1 (Ah i l)))).length+2<=3 * (Ah i l).length):∀ n,(Ej (Ut B l n)).length+2 * Tl l n<=3 * Sy l n
 | 0=>by simp[Ut,Ej,Sy,Tl]
 | n+1=>by
  rw[NS,LU,bK,Sy,Tl]
  have:=pX B l hB n
  by_cases h0:(Ah n l).length=0
  ·rw[if_pos h0,if_pos h0];simp[Ej];omega
  ·rw[if_neg h0,if_neg h0]
   have e:=hB n h0;have q:=KI (B (Az 1 (Ah n l)));omega
theorem eP(h:∃ p∈l,p.l=[])(n:Nat):Sy l n+1<=l.length:=by
 obtain⟨p,A,e⟩:=h
 induction l with
 | nil=>cases A
 | cons q r ih =>rw[RY,bS];rcases bT.1 A with rfl | A;{have:=JJ r n;rw[e];have:hN [] n=0:=rfl;omega};have:=ih A;have:=XU q.l n;omega
theorem WG(hp:p∈l)(hpx:p.l=x :: r):p∈Ah x.toNat l:=cG.2 ⟨hp,by unfold Ur;rw[show p.1.data.toList=x :: r from hpx];simp⟩
theorem DU(hp:p∈l)(hpx:p.l=x :: r):(Ah x.toNat l).length≠0:=fun e=>by
 have:=WG hp hpx
 rw[bH e]at this;cases this
theorem nI{k:Nat}(h:p∈l):∃ q∈Az k l,q.2=p.2:=⟨_,iN h,rfl⟩
structure WY(T:PT)(l:vL):Prop where
 all:(Bz T).length+2<=3 * l.length
 two:2<=l.length->Aj l=0->(Bz T).length+3<=3 * l.length
 inf:∀ p∈l,∃ t∈Bz T,Tg p.2 t
theorem mD(f:Nat)(h:l.length=1):WY (An (f+1) l) l:=by
 obtain⟨p,rfl⟩:=fR.1 h
 have e:Bz (An (f+1) [p])=[CQ ⟨1,p.1,p.2,Cv 16⟩]:=by show Bz (.mk (Cr (Bm (An f) [p])) (Cu (An f) [p]))=_;have J:Bm (An f) [p]=⟨1,p.1,p.2,Cv 16⟩:=rfl;have A:Cu (An f) [p]=[]:=rfl;rw[J,A];rfl
 refine⟨by rw[e];simp,fun A=>by simp at A,fun q H=>?_⟩
 rw[bL]at H;subst H;rw[e]
 refine⟨_,bL.2 rfl,(mI q.2).trans ?_⟩
 unfold CQ;exact NO (by simp)
theorem grow:∀ (f:Nat) (l:vL),Eu f l->l≠[]->WY (An (f+1) l) l:=by
 intro f;induction f with
 | zero =>(intro l h hn;have h0:l.length≠0:=fun e=>hn (bH e);have hl:l.length<=1:=by rcases fA l.length 2 with h2 | h2;{omega};obtain⟨a,ha⟩:∃ a,l[0]?=some a:=⟨_,bB vO⟩;obtain⟨b,hb⟩:∃ b,l[1]?=some b:=⟨_,bB vO⟩;have A:=Xh h.rise vO ha hb;have:=(h.size b (bD hb)).1;rw[show b.l=[]from bH (by show b.1.size=0;omega)]at A;exact absurd A (not_lt_nil _));exact mD 0 vO
 | succ f ih =>intro l h hn;have h0:l.length≠0:=fun e=>hn (bH e);by_cases h1:l.length=1;{exact mD (f+1) h1};have h2:2<=l.length:=vO;(have H:=Rh h h2;have eT:Bz (An (f+1+1) l)=Cr (Bm (An (f+1)) l) :: Ej (Cu (An (f+1)) l):=by show Bz (.mk (Cr (Bm (An (f+1)) l)) (Cu (An (f+1)) l))=_;rw[Bz]);by_cases hk:0 < Aj l;{have a3:Eu f (Az (Aj l) l):=(Yh (Aj l) h (fun p J q hq=>(H p J).1.trans (H q hq).1.symm) (fun p J=>(H p J).2)).mono vO;(have a0:Az (Aj l) l≠[]:=fun e=>by have:=Jn (Aj l) l;rw[e]at this;simp at this;omega);have hg:=ih _ a3 a0;obtain⟨_,i2,_⟩:=good f _ a3;(have O:=i2 a0;have eB:Cu (An (f+1)) l=Hx (An (f+1) (Az (Aj l) l)):=by unfold Cu;rw[if_neg vO,if_pos hk]);(have eN:Bm (An (f+1)) l=⟨2,(l.getD 0 pd).1.extract 0 (Aj l),⟨#[]⟩,Ba (An (f+1) (Az (Aj l) l)).text :: Cv 15⟩:=by unfold Bm;rw[if_neg h0,if_neg h1,if_pos hk]);have X:=hg.two (by rw[Jn];omega) (MU vO);rw[Jn]at X;have hh:=KI (An (f+1) (Az (Aj l) l));refine⟨by rw[eT,eB,bS];omega,fun _ hz=>by omega,fun p J=>?_⟩;obtain⟨q,hq,e2⟩:=nI (k:=Aj l) J;obtain⟨t,ht,hv⟩:=hg.inf q hq;rw[e2]at hv;rw[eT,eB];rcases O.inf ht hv with⟨t',ht',hv'⟩ | hv';{exact⟨t',bM _ ht',hv'⟩};refine⟨_,bO,hv'.trans ?_⟩;(have:Cr (Bm (An (f+1)) l)=Qy (Bm (An (f+1)) l):=by rw[eN];rfl);rw[this,eN];unfold Qy;exact NO (by simp)};(have Z:∀ i,(Ah i l).length≠0->Az 1 (Ah i l)≠[]:=fun i K e=>by have:=Jn 1 (Ah i l);rw[e]at this;simp at this;omega);(have hg:∀ i,(Ah i l).length≠0->WY (An (f+1) (Az 1 (Ah i l))) (Az 1 (Ah i l)):=fun i K=>ih _ (Yn i h) (Z i K);have O:∀ i,(Ah i l).length≠0->Ym f (An (f+1) (Az 1 (Ah i l))) (Bm (An f) (Az 1 (Ah i l))):=fun i K=>(good f _ (Yn i h)).2.1 (Z i K);have eB:Cu (An (f+1)) l=Ut (An (f+1)) l 16:=by unfold Cu;rw[if_neg vO,if_neg hk];rfl);obtain⟨a,ha⟩:∃ a,l[0]?=some a:=⟨_,bB vO⟩;obtain⟨b,hb⟩:∃ b,l[l.length - 1]?=some b:=⟨_,bB vO⟩;(have ga:l.getD 0 pd=a:=by rw[bJ,ha];rfl);(have gb:l.getD (l.length - 1) pd=b:=by rw[bJ,hb];rfl);have a1:=bD ha;have a4:=bD hb;have A:=Xh h.rise vO ha hb;obtain⟨rs,a2⟩:=vE ((List.range 16).map fun i=>if (Ah i l).length=0 then (⟨#[]⟩:vB)else Ba (An (f+1) (Az 1 (Ah i l))).text);(have eN:Bm (An (f+1)) l=⟨3,⟨#[]⟩,if a.1.size=0 then a.2 else ⟨#[]⟩,rs⟩:=by unfold Bm;rw[if_neg h0,if_neg h1,if_neg hk,ga,a2]);(have X:(Ej (Cu (An (f+1)) l)).length+4<=3 * l.length:=by(rw[eB];have b4:=pX (An (f+1)) l (fun i K=>by have:=(hg i K).all;rwa [Jn]at this) 16;have a5:Hu a.l b.l=0:=by have:Aj l=Hu a.l b.l:=(by unfold Aj Cy;rw[ga,gb]);omega);cases hbl:b.l with| nil=>rw[hbl]at A;exact absurd A (not_lt_nil _)| cons y t =>have hy:=Tn (h.size b a4).2.2.1 hbl;have cb:=DU a4 hbl;cases hal:a.l with| nil =>have:=eP ⟨a,a1,hal⟩ 16;have:=TE cb hy;omega| cons x r =>(have hx:=Tn (h.size a a1).2.2.1 hal;have ca:=DU a1 hal;have a9:x≠y:=by intro e;rw[hal,hbl,e]at a5;simp[Hu]at a5);have a0:x.toNat≠y.toNat:=fun e=>a9 (dP.1 e);have:=JJ l 16;(have:2<=Tl l 16:=by rcases fA x.toNat y.toNat with e | e;{exact MY ca cb e hy};exact MY cb ca vO hx);omega);refine⟨by rw[eT,bS];omega,fun _ _=>by rw[eT,bS];omega,fun p J=>?_⟩;(have a7:Cr (Bm (An (f+1)) l)=CH (Bm (An (f+1)) l):=by rw[eN];rfl);(have a8:Po (Bm (An (f+1)) l)=Oq rs (if a.1.size=0 then a.2 else ⟨#[]⟩):=by rw[MF _ (by rw[eN,a2];simp),eN]);cases hpl:p.l with| nil =>(have b0:p=a:=by obtain⟨i,K⟩:=fC J;by_cases h00:i=0;{subst h00;rw[ha]at K;exact (bV K).symm};have:=Xh h.rise vO ha K;rw[hpl]at this;exact absurd this (not_lt_nil _));(subst b0;have hz:p.1.size=0:=by show p.1.data.toList.length=0;rw[show p.1.data.toList=[]from hpl];rfl);rw[eT];refine⟨_,bO,(mI p.2).trans ?_⟩;rw[a7];unfold CH;rw[a8,if_pos hz];refine NO ?_;unfold Oq;simp| cons x r =>have hx:=Tn (h.size p J).2.2.1 hpl;have hc:=DU J hpl;obtain⟨q,hq,e2⟩:=nI (k:=1) (WG J hpl);obtain⟨t,ht,hv⟩:=(hg _ hc).inf q hq;rw[e2]at hv;rw[eT,eB];rcases (O _ hc).inf ht hv with⟨t',ht',hv'⟩ | hv';{refine⟨t',bM _ ?_,hv'⟩;obtain⟨T',b1,b2⟩:=Zj.1 ht';refine Zj.2 ⟨T',?_,b2⟩;unfold Ut;refine dL.2 ⟨x.toNat,dZ.2 hx,?_⟩;rw[if_neg hc];exact b1};refine⟨_,bO,hv'.trans ?_⟩;(rw[a7];unfold CH;rw[a8];refine NO ?_;unfold Oq;refine bR.2 (.inl ?_);have b3:Ba (An (f+1) (Az 1 (Ah x.toNat l))).text∈rs:=by rw[a2];refine bC.2 ⟨x.toNat,dZ.2 hx,?_⟩;rw[if_neg hc]);refine bC.2 ⟨_,b3,?_⟩;rw[if_neg (O _ hc).may.1.pos]
theorem jqM(h:Dv l=0):(Hb (Bz (Ds l))).length<=1+3 * l.length/\∀ p∈l,∃ t∈Hb (Bz (Ds l)),Tg p.2 t:=by
 by_cases h0:l=[]
 ·subst h0;refine⟨?_,by simp⟩;have:=SS (Bz (Ds []));have J:=oP (Fr h);simp at J ⊢;omega
 ·have K:=Ou (Fr h);(have q:Em l≠[]:=fun e=>h0 (by unfold Em at e;simpa using e);have A:=grow 12 (Em l) K q;have O:(Em l).length=l.length:=by unfold Em;rw[bU]);have H:=A.all;rw[O]at H;have h4:=SS (Bz (Ds l));have X:Ds l=An (12+1) (Em l):=rfl;rw[<-X]at H;refine⟨by omega,fun p Z=>?_⟩;obtain⟨t,ht,hv⟩:=A.inf _ (iN Z);exact⟨t,(Rb _ _).2 ht,hv⟩
theorem qU(h:Eu f l)(hn:l≠[]):(Ba (An (f+1) l).text).size≠0:=((good f l h).2.1 hn).may.1.pos
theorem SV(g:Nat->vB)(h:i < n):((List.range n).map g).getD i ⟨#[]⟩=g i:=by
 rw[bJ,bY,fI h];rfl
theorem nM(hm:m≠[])(ho:Eu f m)(hk:Hx (An (f+1) m) ⊆ Cu (An (f+1)) l):∀ x∈Bz (An (f+1) m),32<=x.size->x∈Bz (An (f+1+1) l):=fun x e A=>by
 have H:Bz (An (f+1+1) l)=Cr (Bm (An (f+1)) l) :: Ej (Cu (An (f+1)) l):=by
  show Bz (.mk (Cr (Bm (An (f+1)) l)) (Cu (An (f+1)) l))=_;rw[Bz]
 rw[H];have q:=(good f m ho).2.1 hm
 by_cases hs:(An (f+1) m).text.size < 32
 ·rw[jqa q hs,bL]at e
  subst e;omega
 ·refine bM _ (Zj.2 ⟨An (f+1) m,hk ?_,e⟩)
  unfold Hx;rw[if_neg hs];exact bL.2 rfl
section
attribute [local go_sem] Oper.semAt_some
def Fb(p s:vB):Bool:=p.data.toList.isPrefixOf s.data.toList
theorem oO:∀ (p s:vN),p.isPrefixOf s=(decide (p.length<=s.length) && (s.take p.length == p))
 | [],s=>by simp
 | x :: p,[]=>by simp
 | x :: p,y :: s=>by
  have q:=oO p s;simp only[List.isPrefixOf,bS,fH,q,Nat.add_le_add_iff_right]
  by_cases h:x=y
  ·subst h;simp
  ·have:(y == x)=false:=by simpa using fun e=>h e.symm
   simp[h,this]
theorem jwF(s:vB)(n:Nat):(s.extract 0 n).toList=s.data.toList.take n:=by
 rw[cC,fG,fY,fM];simp
theorem TY(w:vW)(s p:vB)(hs:s.size<=1000000)(hp:p.size<=1000000):vQ 180 #[s,p] w fun e w'=>e=.returned (Fb p s)/\w'=w:=by
 have q:=oO p.data.toList s.data.toList;have A:p.data.toList.length=p.size:=rfl;have H:s.data.toList.length=s.size:=rfl;rw[A,H, <-jwF]at q;have q:Fb p s=_:=q
 by_cases hl:p.size<=s.size
 ·have J:(p.size:Int)<=(s.size:Int):=vO;have K:¬(s.size:Int) < (p.size:Int):=vO;have O:((p.size:Int)).toNat=p.size:=vO;(rw[decide_eq_true hl,Bool.true_and, <-cC]at q;rw[q];clear q A H;unfold vQ;go_in;go_wp2_with fail);go_ret;exact⟨rfl,rfl⟩
 ·have J:(s.size:Int) < (p.size:Int):=vO;(rw[decide_eq_false hl,Bool.false_and]at q;rw[q];clear q A H;unfold vQ;go_in;go_wp2_with fail);go_ret;exact⟨rfl,rfl⟩
theorem MC(w:vW)(s p:vB)(hs:s.size<=1000000)(hp:p.size<=1000000):vQ 142 #[s,p] w fun e w'=>e=.returned (Fb p s)/\w'=w:=by
 unfold vQ;go_in;go_wp2_with fail
 refine (TY w s p hs hp).mono ?_;rintro e w1 ⟨rfl,rfl⟩;go_wp2_with fail
 go_ret
 exact⟨rfl,rfl⟩
theorem rR{T:TypeId}{xs:List vV}(h:W.ownsRow B T sz v n xs)(hb:v.ownBlock=some b):b < W.heap.size:=by
 obtain⟨K,q |⟨g,A,H,q,O,J,X⟩⟩:=h
 ·rw[q.1]at hb;cases hb
 ·rw[q]at hb;have e:some g=some b:=hb;obtain rfl:=bV e;exact (dD.1 J).1
end
theorem lV:∀ {a b:vN},Mg a=Mg b->a=b
 | [],[],_=>rfl
 | [],y :: b,h=>by simp[Mg]at h
 | x :: a,[],h=>by simp[Mg]at h
 | x :: a,y :: b,h=>by
  have h:(x >>> 4) ::(x &&& 15) :: Mg a=(y >>> 4) ::(y &&& 15) :: Mg b:=h;injection h with h1 h;injection h with h2 h;have e:=congrArg UInt8.toNat h1;have q:=congrArg UInt8.toNat h2;rw[KW,KW]at e;rw[KX,KX]at q;rw[lV h,show x=y from dP.1 vO]
def Rm(n:Ai)(p:vB):vB × vB:=
 if n.kind=3 then match p.data.toList with
  | []=>(⟨#[]⟩,p)
  | x :: _=>if (n.refs.getD x.toNat ⟨#[]⟩).size=0 then (⟨#[]⟩,p)else (n.refs.getD x.toNat ⟨#[]⟩,p.extract 1 p.size)
 else if n.kind=2 then if Fb n.path p then (n.refs.getD 0 ⟨#[]⟩,p.extract n.path.size p.size)else (⟨#[]⟩,p)
 else (⟨#[]⟩,p)
def Pp(n:Ai)(p:vB):Option vB:=
 if n.kind=1 then if n.path=p then some n.value else none
 else if n.kind=3 then if p.size=0/\n.value.size≠0 then some n.value else none
 else none
def Fk:vL->vB->Option vB
 | [],_=>none
 | q :: l,p=>if q.1=p then some q.2 else Fk l p
def Xc(l:vL)(p:vB):Option (vL × vB):=
 if l.length<=1 then none
 else if 0 < Aj l then if Fb ((l.getD 0 pd).1.extract 0 (Aj l)) p then some (Az (Aj l) l,p.extract (Aj l) p.size)else none
 else match p.data.toList with
  | []=>none
  | x :: _=>if (Ah x.toNat l).length=0 then none else some (Az 1 (Ah x.toNat l),p.extract 1 p.size)
def Iq(t:vB):vM:=if t.size < 32 then []else [t]
def Jl:vL->Nat
 | []=>0
 | q :: l=>q.1.size+Jl l
theorem OL:∀ {l:vL} {p v:vB},Fk l p=some v->(p,v)∈l
 | q :: l,p,v,h=>by
  unfold Fk at h;split at h
  ·rename_i e
   obtain rfl:=bV h;subst e;exact bO
  ·exact bM _ (OL h)
theorem PC:∀ {l:vL} {p v:vB},(l.Pairwise fun p q=>Lt p.l q.l)->(p,v)∈l->Fk l p=some v
 | q :: l,p,v,hl,h=>by
  rw[gD]at hl;unfold Fk;rcases bT.1 h with h | h
  ·subst h;rw[if_pos rfl]
  ·rw[if_neg (fun e=>by have:=hl.1 _ h;rw[show q.l=p.data.toList from congrArg (fun x:vB=>x.data.toList) e]at this;exact lt_irrefl _ this),PC hl.2 h]
theorem KB{p:vB}(h:∀ q∈l,q.1≠p):Fk l p=none:=by
 cases hv:Fk l p with
 | none=>rfl
 | some v=>exact absurd rfl (h _ (OL hv))
theorem oR{p q:vB}(hl:l.Pairwise fun p q=>Lt p.l q.l)(hm:m.Pairwise fun p q=>Lt p.l q.l)(h:∀ v,(p,v)∈l↔(q,v)∈m):Fk l p=Fk m q:=by
 cases hv:Fk l p with
 | some v=>exact (PC hm ((h v).1 (OL hv))).symm
 | none =>cases hw:Fk m q with| none=>rfl| some v=>rw[PC hl ((h v).2 (OL hw))]at hv;cases hv
theorem OB(a p:vB):Fb a p=true↔∃ r,p.data.toList=a.data.toList++r:=by
 unfold Fb;rw[List.isPrefixOf_iff_prefix]
 exact⟨fun ⟨r,h⟩=>⟨r,h.symm⟩,fun ⟨r,h⟩=>⟨r,h.symm⟩⟩
theorem Oj(b:vB)(k:Nat):(b.extract k b.size).data.toList=b.data.toList.drop k:=DP b k b.size (bP _)
theorem Ix(b:vB):b.data.toList.length=b.size:=rfl
theorem oK(k:Nat):∀ l:vL,Jl (Az k l)<=Jl l
 | []=>bP _
 | q :: l=>by
  have:=oK k l
  show (q.1.extract k q.1.size).size+Jl (Az k l)<=q.1.size+Jl l;rw[Jp];omega
theorem aF{k:Nat}(hk:0 < k):∀ {l:vL},l≠[]->(∀ q∈l,k<=q.1.size)->Jl (Az k l) < Jl l
 | q :: l,_,h=>by
  have:=oK k l
  have:=h q bO
  show (q.1.extract k q.1.size).size+Jl (Az k l) < q.1.size+Jl l;rw[Jp];omega
theorem aU(g:Ar->Bool):∀ l:vL,Jl (l.filter g)<=Jl l
 | []=>bP _
 | q :: l=>by
  have:=aU g l
  rw[List.filter_cons];show _<=q.1.size+Jl l;split
  ·show q.1.size+Jl _<=_;omega
  ·omega
structure QJ(f:Nat)(l:vL)(p:vB)(m:vL)(q:vB):Prop where
 rows:Eu f m
 ne:m≠[]
 step:Rm (Bm (An (f+1)) l) p=(Ba (An (f+1) m).text,q)
 less:q.size < p.size
 valid:Dz q=true
 flat:∀ x∈Bz (An (f+1) m),32<=x.size->x∈Bz (An (f+1+1) l)
 find:Fk m q=Fk l p
 sum:Jl m < Jl l
 no:Pp (Bm (An (f+1)) l) p=none
theorem CJ(h:0 < l.length):l.getD 0 pd∈l:=by rw[bJ,bB h];exact fB _
theorem TL:((l.getD 0 pd).1.extract 0 (Aj l)).data.toList=(l.getD 0 pd).l.take (Aj l):=by
 rw[fG,fY,fM];simp
theorem DM(h:Eu f l)(h2:2<=l.length):((l.getD 0 pd).1.extract 0 (Aj l)).size=Aj l:=by
 have:=(Rh h h2 _ (CJ vO)).2
 rw[dI];omega
theorem qO{p:vB}{q:vB}(h:Eu (f+1) l)(O:Dz p=true)(A:Xc l p=some (m,q)):QJ f l p m q:=by
 unfold Xc at A
 by_cases h1:l.length<=1
 ·rw[if_pos h1]at A;cases A
 rw[if_neg h1]at A;have X:2<=l.length:=vO
 have H:=Rh h X
 by_cases hk:0 < Aj l
 ·rw[if_pos hk]at A;by_cases hpre:Fb ((l.getD 0 pd).1.extract 0 (Aj l)) p=true;(case neg=>rw[if_neg hpre]at A;cases A);rw[if_pos hpre]at A;obtain⟨rfl,rfl⟩:=Prod.mk.inj (bV A);(have J:Eu f (Az (Aj l) l):=(Yh (Aj l) h (fun p O q hq=>(H p O).1.trans (H q hq).1.symm) (fun p O=>(H p O).2)).mono vO;have K:Az (Aj l) l≠[]:=fun e=>by have:=Jn (Aj l) l;rw[e]at this;simp at this;omega);(have eB:Cu (An (f+1)) l=Hx (An (f+1) (Az (Aj l) l)):=by unfold Cu;rw[if_neg vO,if_pos hk]);(have eN:Bm (An (f+1)) l=⟨2,(l.getD 0 pd).1.extract 0 (Aj l),⟨#[]⟩,Ba (An (f+1) (Az (Aj l) l)).text :: Cv 15⟩:=by unfold Bm;rw[if_neg vO,if_neg vO,if_pos hk]);obtain⟨r,hr⟩:=(OB _ _).1 hpre;(have a5:Aj l<=p.size:=by rw[<-Ix p,hr,bK,Ix,DM h X];omega);refine⟨J,K,?_,by rw[Jp];omega,Px O _ _,nM K J (by rw[eB];exact fun _ hh=>hh),?_,aF hk (fun e=>by rw[e]at X;simp at X) (fun q hq=>(H q hq).2),by rw[eN];rfl⟩;{rw[eN];unfold Rm;rw[if_neg (show ¬(2:Nat)=3 by decide),if_pos rfl,if_pos hpre];show (_,p.extract ((l.getD 0 pd).1.extract 0 (Aj l)).size p.size)=_;rw[DM h X];rfl};refine oR J.rise h.rise fun v=>⟨fun Z=>?_,fun Z=>?_⟩;{obtain⟨x,hx,e⟩:=bC.1 Z;obtain⟨e1,e2⟩:=Prod.mk.inj e;(have:x=(p,v):=by(refine Prod.ext (Rg ?_) e2;have e3:x.1.data.toList.drop (Aj l)=p.data.toList.drop (Aj l):=by rw[<-Oj,e1,Oj]);(have e4:x.1.data.toList.take (Aj l)=p.data.toList.take (Aj l):=by rw[show x.1.data.toList=x.l from rfl,(H x hx).1, <-TL,hr,List.take_append_of_le_length (by rw[Ix,DM h X];exact bP _),cF (by rw[Ix,DM h X];exact bP _)]);show x.1.data.toList=p.data.toList;rw[<-dB (Aj l) x.1.data.toList,e3,e4,dB]);rw[<-this];exact hx};exact bC.2 ⟨_,Z,rfl⟩
 ·rw[if_neg hk]at A;cases hpl:p.data.toList with| nil=>rw[hpl]at A;cases A| cons x r =>rw[hpl]at A;by_cases hc:(Ah x.toNat l).length=0;{have A:(if (Ah x.toNat l).length=0 then none else some (Az 1 (Ah x.toNat l),p.extract 1 p.size))=some (m,q):=A;rw[if_pos hc]at A;cases A};have A:(if (Ah x.toNat l).length=0 then none else some (Az 1 (Ah x.toNat l),p.extract 1 p.size))=some (m,q):=A;rw[if_neg hc]at A;obtain⟨rfl,rfl⟩:=Prod.mk.inj (bV A);(have J:Eu f (Az 1 (Ah x.toNat l)):=Yn x.toNat h;have K:Az 1 (Ah x.toNat l)≠[]:=fun e=>by have:=Jn 1 (Ah x.toNat l);rw[e]at this;simp at this;exact hc this.symm);(have hx:x.toNat < 16:=Tn (p:=(p,p)) O hpl;have eB:Cu (An (f+1)) l=(List.range 16).flatMap fun i=>if (Ah i l).length=0 then []else Hx (An (f+1) (Az 1 (Ah i l))):=by unfold Cu;rw[if_neg vO,if_neg hk]);obtain⟨rs,a0⟩:=vE ((List.range 16).map fun i=>if (Ah i l).length=0 then (⟨#[]⟩:vB)else Ba (An (f+1) (Az 1 (Ah i l))).text);obtain⟨va,a4⟩:=vE (if (l.getD 0 pd).1.size=0 then (l.getD 0 pd).2 else ⟨#[]⟩);(have eN:Bm (An (f+1)) l=⟨3,⟨#[]⟩,va,rs⟩:=by rw[a0,a4];unfold Bm;rw[if_neg vO,if_neg vO,if_neg hk]);(have a1:rs.getD x.toNat ⟨#[]⟩=Ba (An (f+1) (Az 1 (Ah x.toNat l))).text:=by rw[a0,SV _ hx,if_neg hc]);(clear a0 a4;have a5:1<=p.size:=by rw[<-Ix p,hpl];simp);(have a2:∀ q∈Ah x.toNat l,1<=q.1.size:=fun q hq=>by obtain⟨_,a,r,e,_⟩:=Ul hq;rw[<-Ix,show q.1.data.toList=a :: r from e];simp);have a3:Jl (Az 1 (Ah x.toNat l)) < Jl l:=bE (aF (Nat.zero_lt_one) (fun e=>hc (by rw[e];rfl)) a2) (aU _ _);refine⟨J,K,?_,by rw[Jp];omega,Px O _ _,nM K J (fun y hy=>?_),?_,a3,?_⟩;{rw[eN];unfold Rm;rw[if_pos rfl,hpl];show (if (rs.getD x.toNat ⟨#[]⟩).size=0 then _ else (rs.getD x.toNat ⟨#[]⟩,_))=_;rw[a1,if_neg (qU J K)]};{rw[eB];exact dL.2 ⟨x.toNat,dZ.2 hx,by rw[if_neg hc];exact hy⟩};{refine oR J.rise h.rise fun v=>⟨fun Z=>?_,fun Z=>?_⟩;{obtain⟨y,hy,e⟩:=bC.1 Z;obtain⟨a7,a,r',e3,e4⟩:=Ul hy;obtain⟨e1,e2⟩:=Prod.mk.inj e;(have:y=(p,v):=by(refine Prod.ext (Rg ?_) e2;have e5:y.1.data.toList.drop 1=p.data.toList.drop 1:=by rw[<-Oj,e1,Oj]);have e3:y.1.data.toList=a :: r':=e3;show y.1.data.toList=p.data.toList;rw[e3,hpl]at e5 ⊢;simp at e5;rw[e5,dP.1 e4]);rw[<-this];exact a7};refine bC.2 ⟨(p,v),?_,rfl⟩;refine cG.2 ⟨Z,?_⟩;unfold Ur;show (match p.data.toList with | []=>false | a :: _=>a.toNat == x.toNat)=true;rw[hpl];simp};rw[eN];unfold Pp;rw[if_neg (show ¬(3:Nat)=1 by decide),if_pos rfl,if_neg (fun e=>kL e.1)]
theorem qN{p:vB}(h:Eu f l)(hp:Dz p=true)(A:Xc l p=none):Rm (Bm (An f) l) p=(⟨#[]⟩,p)/\Pp (Bm (An f) l) p=Fk l p:=by
 by_cases h0:l.length=0
 ·(have e:Bm (An f) l=Db:=by unfold Bm;rw[if_pos h0]);rw[e,bH h0];exact⟨rfl,rfl⟩
 by_cases h1:l.length=1
 ·(have e:Bm (An f) l=⟨1,(l.getD 0 pd).1,(l.getD 0 pd).2,Cv 16⟩:=by unfold Bm;rw[if_neg h0,if_pos h1]);rw[e];obtain⟨q,rfl⟩:=fR.1 h1;exact⟨rfl,by unfold Pp Fk Fk;rfl⟩
 have h2:2<=l.length:=vO
 have X:=Rh h h2;unfold Xc at A;rw[if_neg vO]at A
 by_cases hk:0 < Aj l
 ·rw[if_pos hk]at A;(have e:Bm (An f) l=⟨2,(l.getD 0 pd).1.extract 0 (Aj l),⟨#[]⟩,Ba (An f (Az (Aj l) l)).text :: Cv 15⟩:=by unfold Bm;rw[if_neg h0,if_neg h1,if_pos hk]);(have H:¬ Fb ((l.getD 0 pd).1.extract 0 (Aj l)) p=true:=fun hh=>by rw[if_pos hh]at A;cases A);rw[e];refine⟨?_,?_⟩;{unfold Rm;rw[if_neg (show ¬(2:Nat)=3 by decide),if_pos rfl,if_neg H]};refine (Eq.trans ?_ (KB fun q Z e=>?_).symm);{rfl};refine H ((OB _ _).2 ⟨p.data.toList.drop (Aj l),?_⟩);rw[TL, <-(X q Z).1,show q.l=p.data.toList from congrArg (fun x:vB=>x.data.toList) e,dB]
 ·rw[if_neg hk]at A;obtain⟨rs,J⟩:=vE ((List.range 16).map fun i=>if (Ah i l).length=0 then (⟨#[]⟩:vB)else Ba (An f (Az 1 (Ah i l))).text);(have e:Bm (An f) l=⟨3,⟨#[]⟩,if (l.getD 0 pd).1.size=0 then (l.getD 0 pd).2 else ⟨#[]⟩,rs⟩:=by rw[J];unfold Bm;rw[if_neg h0,if_neg h1,if_neg hk]);(have a0:∀ i,i < 16->(Ah i l).length=0->rs.getD i ⟨#[]⟩=⟨#[]⟩:=fun i hi K=>by rw[J,SV _ hi,if_pos K]);clear J;rw[e];cases hpl:p.data.toList with| nil =>((have O:p.size=0:=by rw[<-Ix p,hpl];rfl);refine⟨?_,?_⟩;{unfold Rm;rw[if_pos rfl,hpl]};unfold Pp;rw[if_neg (show ¬(3:Nat)=1 by decide),if_pos rfl];have a3:p=⟨#[]⟩:=Rg (by rw[hpl]);have hm:=CJ (l:=l) vO;obtain⟨_,_,_,s4,_⟩:=h.size _ hm;by_cases hz:(l.getD 0 pd).1.size=0;{simp only[hz,if_true];rw[if_pos ⟨O,by omega⟩];refine (PC h.rise ?_).symm;have a2:(l.getD 0 pd).1.data.toList=[]:=bH hz;have:(p,(l.getD 0 pd).2)=l.getD 0 pd:=Prod.ext (by show p=(l.getD 0 pd).1;exact Rg (by rw[hpl,a2])) rfl;rw[this];exact hm};simp only[if_neg hz];rw[if_neg (fun e=>e.2 rfl)];refine (KB fun q Z e=>?_).symm;obtain⟨i,hi⟩:=fC Z;cases i with| zero =>(have:l.getD 0 pd=q:=by rw[bJ,hi];rfl);rw[this,e]at hz;exact hz O| succ i =>obtain⟨a,ha⟩:∃ a,l[0]?=some a:=⟨_,bB vO⟩;have:=Xh h.rise vO ha hi;rw[show q.l=[]from(congrArg (fun x:vB=>x.data.toList) e).trans hpl]at this;exact not_lt_nil _ this)| cons x r =>(rw[hpl]at A;have A:(if (Ah x.toNat l).length=0 then none else some (Az 1 (Ah x.toNat l),p.extract 1 p.size))=none:=A;have K:(Ah x.toNat l).length=0:=by by_cases K:(Ah x.toNat l).length=0;{exact K};rw[if_neg K]at A;cases A);(have hx:x.toNat < 16:=Tn (p:=(p,p)) hp hpl;have O:1<=p.size:=by rw[<-Ix p,hpl];simp);refine⟨?_,?_⟩;{unfold Rm;rw[if_pos rfl,hpl];show (if (rs.getD x.toNat ⟨#[]⟩).size=0 then _ else _)=_;rw[a0 _ hx K,if_pos (show (⟨#[]⟩:vB).size=0 from rfl)]};unfold Pp;rw[if_neg (show ¬(3:Nat)=1 by decide),if_pos rfl,if_neg (fun e=>kL e.1)];refine (KB fun q Z e=>?_).symm;have a1:q∈Ah x.toNat l:=cG.2 ⟨Z,by unfold Ur;rw[show q.1.data.toList=x :: r from(congrArg (fun x:vB=>x.data.toList) e).trans hpl];simp⟩;rw[bH K]at a1;cases a1
theorem UR(t:vB):(Iq t).length<=1:=by unfold Iq;split <;> simp
def GN(vs:List (Ai × vB)):Option vB:=match vs.getLast? with | some (n,p)=>Pp n p | none=>none
theorem oQ(k:vB):Fk (Em l) (Ci k)=Fk l k:=by
 have A:∀ {a b:vB},Ci a=Ci b->a=b:=fun {a b} e=>Rg (lV (by have:=congrArg (fun x:vB=>x.data.toList) e;simpa [Ci]using this))
 induction l with
 | nil=>rfl
 | cons q l ih =>(show (if Ci q.1=Ci k then some q.2 else Fk (Em l) (Ci k))=if q.1=k then some q.2 else Fk l k);by_cases e:q.1=k;{rw[if_pos (by rw[e]),if_pos e]};rw[if_neg (fun h=>e (A h)),if_neg e,ih]
def jxq(k:Nat)(pa:vB)(rs:vM)(p r q:vB):Prop:=
 (k=2/\Fb pa p=true/\rs[0]?=some r/\q=p.extract pa.size p.size/\pa.size<=p.size) \/
 (k=3/\∃ x t,p.data.toList=x :: t/\rs[x.toNat]?=some r/\q=p.extract 1 p.size)
def jzO(k:Nat)(pa va:vB)(rs:vM)(p:vB):Prop:=
 k=0\/(k=1/\pa≠p)\/(k=2/\Fb pa p=false)\/(k=3/\p=⟨#[]⟩/\va=⟨#[]⟩)\/(k=3/\∃ x t,p.data.toList=x :: t/\rs[x.toNat]?=some ⟨#[]⟩)
def jzN(k:Nat)(pa va:vB)(p u:vB):Prop:=(k=1/\pa=p/\va=u)\/(k=3/\p=⟨#[]⟩/\va=u/\va.size≠0)
theorem VU(h:i < rs.length):rs[i]?=some (rs.getD i ⟨#[]⟩):=by
 rw[bJ,bB h];rfl
theorem oI{k:Nat}(hg:Gi (Bs d) ⟨k,pa,va,rs⟩){p r q:vB}(hp:Dz p=true)(e:Rm ⟨k,pa,va,rs⟩ p=(r,q))(hr:r.size≠0):jxq k pa rs p r q:=by
 have H:=hg.one (Br d);have A:rs.length=16:=H.refs;unfold Rm at e
 by_cases h3:k=3
 ·subst h3;rw[if_pos rfl]at e;cases hpl:p.data.toList with| nil=>rw[hpl]at e;exact absurd (congrArg ByteArray.size (Prod.mk.inj e).1.symm) hr| cons x t =>rw[hpl]at e;have e:(if (rs.getD x.toNat ⟨#[]⟩).size=0 then (⟨#[]⟩,p)else (rs.getD x.toNat ⟨#[]⟩,p.extract 1 p.size))=(r,q):=e;by_cases h0:(rs.getD x.toNat ⟨#[]⟩).size=0;{rw[if_pos h0]at e;exact absurd (congrArg ByteArray.size (Prod.mk.inj e).1.symm) hr};rw[if_neg h0]at e;obtain⟨rfl,rfl⟩:=Prod.mk.inj e;exact .inr ⟨rfl,x,t,hpl,VU (by rw[A];exact Tn (p:=(p,p)) hp hpl),rfl⟩
 ·rw[if_neg (show ¬(Ai.mk k pa va rs).kind=3 from h3)]at e;by_cases h2:k=2;{subst h2;rw[if_pos rfl]at e;by_cases hpre:Fb pa p=true;{rw[if_pos (show Fb (Ai.mk 2 pa va rs).path p=true from hpre)]at e;obtain⟨rfl,rfl⟩:=Prod.mk.inj e;refine .inl ⟨rfl,hpre,VU (by rw[A];omega),rfl,?_⟩;obtain⟨s,e⟩:=(OB _ _).1 hpre;rw[<-Ix p,e,bK,Ix];omega};rw[if_neg (show ¬ Fb (Ai.mk 2 pa va rs).path p=true from hpre)]at e;exact absurd (congrArg ByteArray.size (Prod.mk.inj e).1.symm) hr};rw[if_neg (show ¬(Ai.mk k pa va rs).kind=2 from h2)]at e;exact absurd (congrArg ByteArray.size (Prod.mk.inj e).1.symm) hr
theorem jy1{k:Nat}(hg:Gi (Bs d) ⟨k,pa,va,rs⟩){p q:vB}(hp:Dz p=true)(A:Rm ⟨k,pa,va,rs⟩ p=(⟨#[]⟩,q))(H:Pp ⟨k,pa,va,rs⟩ p=none):jzO k pa va rs p:=by
 have K:=hg.one (Br d);have X:rs.length=16:=K.refs;have Z:k<=3:=K.kind;unfold Rm at A;unfold Pp at H
 by_cases h3:k=3
 ·subst h3;rw[if_pos rfl]at A;rw[if_neg (show ¬(3:Nat)=1 by decide),if_pos rfl]at H;cases hpl:p.data.toList with| nil =>(have J:p.size=0:=by rw[<-Ix p,hpl];rfl);refine .inr (.inr (.inr (.inl ⟨rfl,Og J,Og ?_⟩)));by_cases hv:va.size=0;{exact hv};have H:(if p.size=0/\va.size≠0 then some va else none)=none:=H;rw[if_pos ⟨J,hv⟩]at H;cases H| cons x t =>(rw[hpl]at A;have A:(if (rs.getD x.toNat ⟨#[]⟩).size=0 then (⟨#[]⟩,p)else (rs.getD x.toNat ⟨#[]⟩,p.extract 1 p.size))=(⟨#[]⟩,q):=A;have O:(rs.getD x.toNat ⟨#[]⟩).size=0:=by by_cases O:(rs.getD x.toNat ⟨#[]⟩).size=0;{exact O};rw[if_neg O]at A;exact congrArg ByteArray.size (Prod.mk.inj A).1);exact .inr (.inr (.inr (.inr ⟨rfl,x,t,hpl,by rw[VU (by rw[X];exact Tn (p:=(p,p)) hp hpl),Og O]⟩)))
 ·rw[if_neg (show ¬(Ai.mk k pa va rs).kind=3 from h3)]at A;by_cases h2:k=2;{subst h2;rw[if_pos rfl]at A;by_cases hpre:Fb pa p=true;{rw[if_pos (show Fb (Ai.mk 2 pa va rs).path p=true from hpre)]at A;have e:=(Prod.mk.inj A).1;cases hg with| ext p r a1 a2 a3=>exact absurd (congrArg ByteArray.size e) a2};exact .inr (.inr (.inl ⟨rfl,by simpa using hpre⟩))};by_cases K:k=1;{subst K;rw[if_pos rfl]at H;by_cases he:pa=p;{have H:(if pa=p then some va else none)=none:=H;rw[if_pos he]at H;cases H};exact .inr (.inl ⟨rfl,he⟩)};exact .inl vO
theorem jy0{k:Nat}{p:vB}(e:Pp ⟨k,pa,va,rs⟩ p=some u):jzN k pa va p u:=by
 unfold Pp at e
 by_cases h1:k=1
 ·subst h1;rw[if_pos rfl]at e;have e:(if pa=p then some va else none)=some u:=e;by_cases he:pa=p;{rw[if_pos he]at e;exact .inl ⟨rfl,he,bV e⟩};rw[if_neg he]at e;cases e
 ·rw[if_neg (show ¬(Ai.mk k pa va rs).kind=1 from h1)]at e;by_cases h3:k=3;{subst h3;rw[if_pos rfl]at e;have e:(if p.size=0/\va.size≠0 then some va else none)=some u:=e;by_cases he:p.size=0/\va.size≠0;{rw[if_pos he]at e;exact .inr ⟨rfl,Og he.1,bV e,he.2⟩};rw[if_neg he]at e;cases e};rw[if_neg (show ¬(Ai.mk k pa va rs).kind=3 from h3)]at e;cases e
theorem jwd{p:vB}(h:Fb a p=true):a.size<=p.size:=by
 obtain⟨s,e⟩:=(OB _ _).1 h
 rw[<-Ix p,e,bK,Ix];omega
theorem AR{p:vB}{t:vN}(h:p.data.toList=x :: t):∃ h0:0 < p.size,p[0]=x:=by
 obtain⟨⟨l⟩⟩:=p
 have h:l=x :: t:=h;subst h
 exact⟨Nat.succ_pos _,rfl⟩
inductive PA where
 | nil
 | no
 | leaf (path value:vB)
 | ext (path:vB) (next:PA)
 | br (value:vB) (kids:Nat->PA)
def PA.isNil:PA->Bool | .nil=>true | _=>false
def PA.isNo:PA->Bool | .no=>true | _=>false
def PA.isBr:PA->Bool | .br _ _=>true | _=>false
def Jh(a:vB)(P:PA):PA:=if a.size=0 then P else match P with
 | .leaf q v=>.leaf (a++q) v
 | .ext q n=>.ext (a++q) n
 | .br v ks=>.ext a (.br v ks)
 | _=>.no
def Ca(ks:Nat->PA)(i:Nat)(P:PA):Nat->PA:=fun j=>if j=i then P else ks j
def Ax(p:vB):Nat:=(p.data.toList.headD 0).toNat
def Ft(p:vB):vB:=p.extract 1 p.size
def Hs:PA->vB->vB->PA
 | .br v ks,p,u=>if p.size=0 then .br u ks else .br v (Ca ks (Ax p) (.leaf (Ft p) u))
 | P,_,_=>P
theorem Vb(v:vB)(ks:Nat->PA)(p u:vB):Hs (.br v ks) p u=if p.size=0 then .br u ks else .br v (Ca ks (Ax p) (.leaf (Ft p) u)):=rfl
theorem ff:¬(false=true):=by decide
def Dh:PA->vB->vB->PA
 | .nil,p,u=>.leaf p u
 | .no,p,u=>.leaf p u
 | .leaf q v,p,u=>if p=q then .leaf p u else
   Jh (p.extract 0 (Cy q p)) (Hs (Hs (.br ⟨#[]⟩ fun _=>.nil) (q.extract (Cy q p) q.size) v) (p.extract (Cy q p) p.size) u)
 | .ext q n,p,u=>if Cy q p=q.size then Jh q (Dh n (p.extract (Cy q p) p.size) u)else
   Jh (p.extract 0 (Cy q p)) (Hs (.br ⟨#[]⟩ (Ca (fun _=>.nil) (Ax (q.extract (Cy q p) q.size)) (Jh (q.extract (Cy q p+1) q.size) n))) (p.extract (Cy q p) p.size) u)
 | .br v ks,p,u=>if p.size=0 then .br u ks else .br v (Ca ks (Ax p) (Dh (ks (Ax p)) (Ft p) u))
def Gs(ks:Nat->PA):List Nat:=(List.range 16).filter fun i => !(ks i).isNil
def Tm(v:vB)(ks:Nat->PA):PA:=match Gs ks with
 | []=>if v.size=0 then .no else .leaf ⟨#[]⟩ v
 | [i]=>if v.size=0 then Jh ⟨#[UInt8.ofNat i]⟩ (ks i)else .br v ks
 | _=>.br v ks
def Uv(P:PA):PA:=if P.isNo then .nil else P
def Ho:PA->vB->PA
 | .nil,_=>.no
 | .no,_=>.no
 | .leaf q v,p=>if p=q then .no else .leaf q v
 | .ext q n,p=>if Fb q p then Jh q (Ho n (p.extract q.size p.size))else .ext q n
 | .br v ks,p=>if p.size=0 then Tm ⟨#[]⟩ ks else if (ks (Ax p)).isNil then .br v ks else Tm v (Ca ks (Ax p) (Uv (Ho (ks (Ax p)) (Ft p))))
def Bb:PA->vN->Option vB
 | .nil,_=>none
 | .no,_=>none
 | .leaf q v,p=>if q.data.toList=p then some v else none
 | .ext q n,p=>if q.data.toList.isPrefixOf p then Bb n (p.drop q.data.toList.length)else none
 | .br v _,[]=>if v.size=0 then none else some v
 | .br _ ks,x :: t=>Bb (ks x.toNat) t
def AG(v:vB)(ks:Nat->PA):Prop:=(∃ i j,i≠j/\(ks i).isNil=false/\(ks j).isNil=false)\/(v.size≠0/\∃ i,(ks i).isNil=false)
def Dd:PA->Prop
 | .nil=>False
 | .no=>False
 | .leaf q v=>Dz q=true/\v.size≠0
 | .ext q n=>q.size≠0/\Dz q=true/\n.isBr=true/\Dd n
 | .br v ks=>(∀ i,(ks i).isNil=false->i < 16)/\(∀ i,(ks i).isNil=false->Dd (ks i))/\AG v ks
theorem CV(a b:vB):(a++b).data.toList=a.data.toList++b.data.toList:=by
 simp[dK]
theorem Py{P:PA}(h:P.isNil=true):P=.nil:=by cases P <;> first | rfl | cases h
theorem pV{P:PA}(h:P.isNo=true):P=.no:=by cases P <;> first | rfl | cases h
theorem VE{P:PA}(h:Dd P):P.isNil=false:=by cases P <;> first | rfl | exact h.elim
theorem jz0{P:PA}(h:Dd P):P.isNo=false:=by cases P <;> first | rfl | exact h.elim
theorem Sw{a p:vN}:a.isPrefixOf p=true↔∃ r,p=a++r:=by
 rw[List.isPrefixOf_iff_prefix]
 exact⟨fun ⟨r,h⟩=>⟨r,h.symm⟩,fun ⟨r,h⟩=>⟨r,h.symm⟩⟩
theorem KZ{a p:vN}(h:a.isPrefixOf p=false):∀ r,p≠a++r:=fun r e=>by
 rw[Sw.2 ⟨r,e⟩]at h;cases h
theorem FW(h:a.size=0):a.data.toList=[]:=bH (by rw[Ix];exact h)
theorem Sx(h:a.size≠0):∃ x t,a.data.toList=x :: t:=by
 cases e:a.data.toList with
 | nil=>rw[<-Ix,e]at h;exact (h rfl).elim
 | cons x t=>exact⟨x,t,rfl⟩
theorem Rp{p:vB}{t:vN}(h:p.data.toList=x :: t):Ax p=x.toNat/\(Ft p).data.toList=t:=by
 refine⟨by unfold Ax;rw[h];rfl,?_⟩
 unfold Ft;rw[Oj,h];rfl
theorem Zp{y:vU}(h:x≠y):x.toNat≠y.toNat:=fun e=>h (dP.1 e)
theorem FU(a:vB)(P:PA)(p:vN):Bb (Jh a P) p=if a.data.toList.isPrefixOf p then Bb P (p.drop a.data.toList.length)else none:=by
 unfold Jh
 by_cases h0:a.size=0
 ·rw[if_pos h0,FW h0];simp
 rw[if_neg h0];cases hp:a.data.toList.isPrefixOf p with
 | true =>(obtain⟨r,rfl⟩:=Sw.1 hp;rw[if_pos rfl,fF];cases P with| nil=>rfl| no=>rfl| leaf q v=>simp only[Bb,CV,gM]| ext q n =>(simp only[Bb,CV];have e:(a.data.toList++q.data.toList).isPrefixOf (a.data.toList++r)=q.data.toList.isPrefixOf r:=by rw[Bool.eq_iff_iff,Sw,Sw];exact⟨fun ⟨s,e⟩=>⟨s,by rw[bZ]at e;exact iW e⟩,fun ⟨s,e⟩=>⟨s,by rw[e,bZ]⟩⟩);rw[e,bK, <-List.drop_drop,fF]| br v ks =>show (if a.data.toList.isPrefixOf (a.data.toList++r)=true then Bb (.br v ks) ((a.data.toList++r).drop _)else none)=_;rw[hp,if_pos rfl,fF])
 | false =>have A:=KZ hp;rw[if_neg ff];cases P with| nil=>rfl| no=>rfl| leaf q v =>simp only[Bb,CV];rw[if_neg (fun e=>A _ e.symm)]| ext q n =>simp only[Bb,CV];rw[if_neg];intro e;obtain⟨s,e⟩:=Sw.1 e;rw[bZ]at e;exact A _ e| br v ks =>show (if a.data.toList.isPrefixOf p=true then _ else none)=_;rw[hp];rfl
theorem NN(v:vB)(ks:Nat->PA)(i:Nat)(P:PA)(x:vU)(t:vN):Bb (.br v (Ca ks i P)) (x :: t)=if x.toNat=i then Bb P t else Bb (.br v ks) (x :: t):=by
 show Bb (Ca ks i P x.toNat) t=if x.toNat=i then _ else Bb (ks x.toNat) t
 unfold Ca
 by_cases h:x.toNat=i
 ·rw[if_pos h,if_pos h]
 ·rw[if_neg h,if_neg h]
theorem VV(v:vB)(ks:Nat->PA)(p u:vB)(hu:u.size≠0)(hk:∀ x t,p.data.toList=x :: t->(ks x.toNat).isNil=true)(q:vN):Bb (Hs (.br v ks) p u) q=if q=p.data.toList then some u else Bb (.br v ks) q:=by
 rw[Vb]
 by_cases h0:p.size=0
 ·rw[if_pos h0,FW h0];cases q with| nil=>simp[Bb,hu]| cons x t=>rfl
 ·rw[if_neg h0];obtain⟨x,t,A⟩:=Sx h0;obtain⟨J,K⟩:=Rp A;have H:=Py (hk x t A);rw[J,A];cases q with| nil=>simp[Bb]| cons y s =>rw[NN];by_cases hy:y=x;{subst hy;rw[if_pos rfl];simp only[Bb,K,H,List.cons.injEq,true_and];by_cases e:t=s;{rw[if_pos e,if_pos e.symm]};rw[if_neg e,if_neg (fun h=>e h.symm)]};rw[if_neg (Zp hy),if_neg (fun e=>hy (List.cons.inj e).1)]
theorem EY(a b:vN):∃ a' b',a=a.take (Hu a b)++a'/\b=a.take (Hu a b)++b'/\a'=a.drop (Hu a b)/\b'=b.drop (Hu a b)/\(∀ x s y t,a'=x :: s->b'=y :: t->x≠y):=by
 obtain⟨q,J,K⟩:=AK a b
 refine⟨_,_,(dB _ _).symm,?_,rfl,rfl,?_⟩
 ·rw[q,dB]
 ·intro x s y t A H e;have h:=YU a b;rw[A,H,e]at h;simp[Hu]at h
theorem H_{a b:vN}(h:Hu a b=a.length):b=a++b.drop a.length:=by
 obtain⟨e,q,A⟩:=AK a b
 rw[h,cD]at e
 have:=(dB a.length b).symm
 rw[<-e]at this;exact this
theorem WM(p:vB)(k:Nat):(p.extract 0 k).data.toList=p.data.toList.take k:=by
 simp[fG]
theorem VW:∀ (P:PA),(Dd P\/P=.no\/P=.nil)->∀ (p u:vB),u.size≠0->∀ q,Bb (Dh P p u) q=if q=p.data.toList then some u else Bb P q
 | .nil,_,p,u,_,q=>by
  show (if p.data.toList=q then some u else none)=if q=p.data.toList then some u else none
  by_cases e:q=p.data.toList
  ·rw[if_pos e,if_pos e.symm]
  ·rw[if_neg e,if_neg (fun h=>e h.symm)]
 | .no,_,p,u,_,q=>by
  show (if p.data.toList=q then some u else none)=if q=p.data.toList then some u else none
  by_cases e:q=p.data.toList
  ·rw[if_pos e,if_pos e.symm]
  ·rw[if_neg e,if_neg (fun h=>e h.symm)]
 | .leaf a v,h,p,u,hu,q=>by
  have hc:v.size≠0:=by
   rcases h with h | h | h
   ·exact h.2
   ·cases h
   ·cases h
  unfold Dh
  by_cases hpa:p=a
  ·rw[if_pos hpa]
   subst hpa;simp only[Bb]
   by_cases e:q=p.data.toList
   ·rw[if_pos e,if_pos e.symm]
   ·rw[if_neg e,if_neg (fun h=>e h.symm),if_neg (fun h=>e h.symm)]
  rw[if_neg hpa,FU,WM]
  obtain⟨a',K,X,hb,H,A,a3⟩:=EY a.data.toList p.data.toList
  obtain⟨Z,a1,a4⟩:=AK a.data.toList p.data.toList
  obtain⟨n,hn⟩:=vE (Cy a p)
  have a9:Hu a.data.toList p.data.toList=n:=hn.symm;rw[a9]at X hb H A Z a1 a4;rw[<-hn, <-Z]
  obtain⟨c,a5⟩:=vE (a.data.toList.take n)
  rw[<-a5]at X hb ⊢;have a0:(a.extract n a.size).data.toList=a':=by rw[Oj,H]
  have J:(p.extract n p.size).data.toList=K:=by rw[Oj,A]
  obtain⟨x1,e1⟩:∃ x,x=a.extract n a.size:=⟨_,rfl⟩
  obtain⟨x2,e2⟩:∃ x,x=p.extract n p.size:=⟨_,rfl⟩
  rw[<-e1]at a0 ⊢;rw[<-e2]at J ⊢;have a7:∀ r,Bb (Hs (Hs (.br ⟨#[]⟩ fun _=>.nil) x1 v) x2 u) r=if r=K then some u else if r=a' then some v else none:=by
   intro r;have a8:∃ v1 a2,Hs (.br ⟨#[]⟩ fun _=>.nil) x1 v=.br v1 a2/\∀ x t,x2.data.toList=x :: t->(a2 x.toNat).isNil=true:=by
    rw[Vb]
    by_cases h0:x1.size=0
    ·rw[if_pos h0];exact⟨_,_,rfl,fun _ _ _=>rfl⟩
    ·rw[if_neg h0]
     refine⟨_,_,rfl,fun y t hy=>?_⟩
     obtain⟨x,s,hx⟩:=Sx h0
     unfold Ca;rw[(Rp hx).1,if_neg (Zp (Ne.symm (a3 x s y t (by rw[<-a0,hx]) (by rw[<-J,hy]))))];rfl
   obtain⟨v1,a2,h1,h2⟩:=a8
   rw[h1,VV v1 a2 x2 u hu h2, <-h1,VV _ _ x1 v hc (fun _ _ _=>rfl),a0,J]
   congr 1
   congr 1
   cases r <;> rfl
  cases hp:c.isPrefixOf q with
  | false =>
   have O:=KZ hp;rw[if_neg ff,if_neg (fun e=>O K (e.trans hb))];show none=if a.data.toList=q then some v else none
   rw[if_neg (fun e=>O a' (e.symm.trans X))]
  | true =>
   obtain⟨r,rfl⟩:=Sw.1 hp
   rw[if_pos rfl,fF,a7];show _=if c++r=p.data.toList then some u else if a.data.toList=c++r then some v else none
   rw[hb,X];simp only[gM]
   congr 1
   by_cases e:r=a'
   ·rw[if_pos e,if_pos e.symm]
   ·rw[if_neg e,if_neg (fun h=>e h.symm)]
 | .ext a n,h,p,u,hu,q=>by
  have hc:Dd (.ext a n):=by
   rcases h with h | h | h
   ·exact h
   ·cases h
   ·cases h
  have ih:=VW n (.inl hc.2.2.2);unfold Dh
  by_cases hf:Cy a p=a.size
  ·rw[if_pos hf,FU]
   have hb:=H_ (a:=a.data.toList) (b:=p.data.toList) (by rw[Ix];exact hf)
   obtain⟨K,A⟩:∃ K,K=p.data.toList.drop a.data.toList.length:=⟨_,rfl⟩
   rw[<-A]at hb;have hx:(p.extract (Cy a p) p.size).data.toList=K:=by rw[Oj,hf,A,Ix]
   show _=if q=p.data.toList then some u else if a.data.toList.isPrefixOf q then Bb n (q.drop a.data.toList.length)else none
   cases hp:a.data.toList.isPrefixOf q with
   | false =>
    rw[if_neg ff,if_neg ff,if_neg (fun e=>KZ hp K (e.trans hb))]
   | true =>
    obtain⟨r,rfl⟩:=Sw.1 hp
    rw[if_pos rfl,if_pos rfl,fF,ih _ u hu,hx,hb];simp only[gM]
  ·rw[if_neg hf,FU,WM]
   obtain⟨a',K,X,hb,H,A,a3⟩:=EY a.data.toList p.data.toList
   obtain⟨Z,a1,a4⟩:=AK a.data.toList p.data.toList
   obtain⟨m,hm⟩:=vE (Cy a p)
   have b0:Hu a.data.toList p.data.toList=m:=hm.symm;rw[b0]at X hb H A Z a1 a4;rw[<-hm]at hf ⊢;rw[<-Z]
   obtain⟨c,a5⟩:=vE (a.data.toList.take m)
   rw[<-a5]at X hb ⊢;have a0:(a.extract m a.size).data.toList=a':=by rw[Oj,H]
   have J:(p.extract m p.size).data.toList=K:=by rw[Oj,A]
   have b1:a'.length=a.size - m:=by rw[H,gP,Ix]
   rw[Ix]at a1;cases a' with
   | nil=>simp at b1;omega
   | cons x s =>
    have b2:(a.extract (m+1) a.size).data.toList=s:=by
     rw[Oj, <-List.drop_drop, <-H];rfl
    rw[(Rp a0).1]
    obtain⟨x2,e2⟩:∃ x,x=p.extract m p.size:=⟨_,rfl⟩
    rw[<-e2]at J ⊢;have a7:∀ r,Bb (Hs (.br ⟨#[]⟩ (Ca (fun _=>.nil) x.toNat (Jh (a.extract (m+1) a.size) n))) x2 u) r=if r=K then some u else if (x :: s).isPrefixOf r then Bb n (r.drop (s.length+1))else none:=by
     intro r;rw[VV _ _ _ u hu,J]
     ·congr 1
      cases r with
      | nil=>rfl
      | cons y t =>
       rw[NN,FU,b2]
       by_cases e:y=x
       ·subst e;simp
       ·rw[if_neg (Zp e),if_neg]
        ·rfl
        ·intro O
         obtain⟨r,O⟩:=Sw.1 O
         exact e (List.cons.inj O).1
     ·intro y t hy
      unfold Ca;rw[if_neg (Zp (Ne.symm (a3 x s y t rfl (by rw[<-J,hy]))))];rfl
    have b3:a.data.toList.length=c.length+(s.length+1):=by
     have O:=congrArg List.length X;rw[bK]at O;exact O
    show _=if q=p.data.toList then some u else if a.data.toList.isPrefixOf q then Bb n (q.drop a.data.toList.length)else none
    cases hp:c.isPrefixOf q with
    | false =>
     have O:=KZ hp;rw[if_neg ff,if_neg (fun e=>O K (e.trans hb)),if_neg];intro e
     obtain⟨r,e⟩:=Sw.1 e
     rw[X,bZ]at e;exact O _ e
    | true =>
     obtain⟨r,rfl⟩:=Sw.1 hp
     have e2:(c++r).drop (c.length+(s.length+1))=r.drop (s.length+1):=by rw[<-List.drop_drop,fF]
     rw[if_pos rfl,fF,a7,b3,e2];have e1:a.data.toList.isPrefixOf (c++r)=(x :: s).isPrefixOf r:=by
      rw[Bool.eq_iff_iff,Sw,Sw];constructor
      ·rintro⟨z,e⟩
       rw[X,bZ]at e
       exact⟨z,iW e⟩
      ·rintro⟨z,rfl⟩
       exact⟨z,by rw[X,bZ]⟩
     rw[e1,hb];simp only[gM]
 | .br v ks,h,p,u,hu,q=>by
  have hc:Dd (.br v ks):=by
   rcases h with h | h | h
   ·exact h
   ·cases h
   ·cases h
  unfold Dh
  by_cases h0:p.size=0
  ·rw[if_pos h0,FW h0]
   cases q with
   | nil=>simp[Bb,hu]
   | cons x t=>rfl
  ·rw[if_neg h0]
   obtain⟨x,t,hx⟩:=Sx h0
   obtain⟨h1,h2⟩:=Rp hx
   have ih:=VW (ks (Ax p)) (by
    cases hn:(ks (Ax p)).isNil with
    | true=>exact .inr (.inr (Py hn))
    | false=>exact .inl (hc.2.1 _ hn)) (Ft p) u hu
   rw[h1]at ih ⊢;rw[hx];cases q with
   | nil=>simp[Bb]
   | cons y s =>
    rw[NN]
    by_cases hy:y=x
    ·subst hy
     rw[if_pos rfl,ih,h2];simp only[List.cons.injEq,true_and];rfl
    ·rw[if_neg (Zp hy),if_neg (fun e=>hy (List.cons.inj e).1)]
theorem Yj:Dz s=true↔∀ x∈s.data.toList,x.toNat < 16:=by
 unfold Dz;rw[fD];constructor
 ·intro h x e;have q:=h x e;simp only[decide_eq_true_eq,fN]at q;have:(15:vU).toNat=15:=rfl;omega
 ·intro h x e;have q:=h x e;simp only[decide_eq_true_eq,fN];have:(15:vU).toNat=15:=rfl;omega
theorem kH{b:vB}(h:Dz a=true)(k:Dz b=true):Dz (a++b)=true:=by
 rw[Yj]at *;intro x q;rw[CV]at q;rcases bR.1 q with e | e
 ·exact h x e
 ·exact k x e
theorem SN(h:Dz a=true)(k:Nat):Dz (a.extract 0 k)=true:=by
 rw[Yj]at *;intro x e;rw[WM]at e;exact h x (iK e)
theorem AQ(h:Dz a=true):Dz (Ft a)=true:=Px h 1 _
theorem Yl{p:vB}(h:Dz p=true)(h0:p.size≠0):Ax p < 16:=by
 obtain⟨x,t,e⟩:=Sx h0
 rw[(Rp e).1];exact Yj.1 h x (by rw[e];exact bO)
theorem Zk(a b:vB):(a++b).size=a.size+b.size:=by
 rw[<-Ix,CV,bK,Ix,Ix]
theorem FQ{P:PA}(ha:Dz a=true)(h:Dd P):Dd (Jh a P):=by
 unfold Jh
 by_cases h0:a.size=0
 ·rw[if_pos h0];exact h
 rw[if_neg h0];cases P with
 | nil=>exact h.elim
 | no=>exact h.elim
 | leaf q v=>exact⟨kH ha h.1,h.2⟩
 | ext q n=>exact⟨by rw[Zk];omega,kH ha h.2.1,h.2.2⟩
 | br v ks=>exact⟨h0,ha,rfl,h⟩
theorem Yi(ks:Nat->PA)(i:Nat)(P:PA):Ca ks i P i=P:=if_pos rfl
theorem BC(ks:Nat->PA)(P:PA)(h:j≠i):Ca ks i P j=ks j:=if_neg h
def Ld(ks:Nat->PA):Prop:=(∀ i,(ks i).isNil=false->i < 16)/\(∀ i,(ks i).isNil=false->Dd (ks i))
theorem Ld.set{ks:Nat->PA}(h:Ld ks){P:PA}(hi:i < 16)(hP:Dd P):Ld (Ca ks i P):=by
 refine⟨fun j q=>?_,fun j q=>?_⟩
 ·by_cases e:j=i;{rw[e];exact hi};rw[BC _ _ e]at q;exact h.1 j q
 ·by_cases e:j=i;{rw[e,Yi];exact hP};rw[BC _ _ e]at q ⊢;exact h.2 j q
theorem Ld.cut{ks:Nat->PA}(h:Ld ks)(i:Nat):Ld (Ca ks i .nil):=by
 refine⟨fun j q=>?_,fun j q=>?_⟩
 ·by_cases e:j=i;{rw[e,Yi]at q;cases q};rw[BC _ _ e]at q;exact h.1 j q
 ·by_cases e:j=i;{rw[e,Yi]at q;cases q};rw[BC _ _ e]at q ⊢;exact h.2 j q
theorem UK:Ld (fun _=>.nil):=⟨fun _ h=>Bool.noConfusion h,fun _ h=>Bool.noConfusion h⟩
theorem AG.set{v:vB}{ks:Nat->PA}(h:AG v ks)(i:Nat){P:PA}(hP:P.isNil=false):AG v (Ca ks i P):=by
 have q:∀ j,(ks j).isNil=false->(Ca ks i P j).isNil=false:=by intro j A;by_cases e:j=i;{rw[e,Yi];exact hP};rw[BC _ _ e];exact A
 rcases h with⟨a,b,h1,h2,h3⟩ |⟨h1,a,h2⟩
 ·exact .inl ⟨a,b,h1,q a h2,q b h3⟩
 ·exact .inr ⟨h1,a,q a h2⟩
theorem VG{ks:Nat->PA}(v p u:vB)(h:Ld ks)(hp:Dz p=true)(hu:u.size≠0)(h2:(v.size≠0/\p.size≠0)\/∃ i,(ks i).isNil=false/\(p.size=0\/Ax p≠i)):Dd (Hs (.br v ks) p u):=by
 rw[Vb]
 by_cases h0:p.size=0
 ·rw[if_pos h0];rcases h2 with⟨_,e⟩ |⟨i,hi,_⟩;{exact (e h0).elim};exact⟨h.1,h.2,.inr ⟨hu,i,hi⟩⟩
 ·rw[if_neg h0];have q:=h.set (Yl hp h0) (P:=.leaf (Ft p) u) ⟨AQ hp,hu⟩;refine⟨q.1,q.2,?_⟩;rcases h2 with⟨e,_⟩ |⟨i,hi,e | e⟩;{exact .inr ⟨e,Ax p,by rw[Yi];rfl⟩};{exact (h0 e).elim};exact .inl ⟨Ax p,i,e,by rw[Yi];rfl,by rw[BC _ _ (Ne.symm e)];exact hi⟩
theorem VF:∀ (P:PA),(Dd P\/P=.no\/P=.nil)->∀ (p u:vB),Dz p=true->u.size≠0->Dd (Dh P p u)
 | .nil,_,p,u,hp,hu=>⟨hp,hu⟩
 | .no,_,p,u,hp,hu=>⟨hp,hu⟩
 | .leaf a v,h,p,u,hp,hu=>by
  have q:Dz a=true/\v.size≠0:=by
   rcases h with h | h | h
   ·exact h
   ·cases h
   ·cases h
  unfold Dh
  by_cases hpa:p=a
  ·rw[if_pos hpa];exact⟨hp,hu⟩
  rw[if_neg hpa];refine FQ (SN hp _) ?_
  obtain⟨a',b',ha,hb,a0,a1,a2⟩:=EY a.data.toList p.data.toList
  have O:(a.extract (Cy a p) a.size).data.toList=a':=by rw[Oj,a0];rfl
  have A:(p.extract (Cy a p) p.size).data.toList=b':=by rw[Oj,a1];rfl
  have X:=Px q.1 (Cy a p) a.size;have H:=Px hp (Cy a p) p.size;have a3:¬(a'=[]/\b'=[]):=by
   rintro⟨rfl,rfl⟩
   exact hpa (Rg (hb.trans ha.symm))
  obtain⟨x1,e1⟩:∃ x,x=a.extract (Cy a p) a.size:=⟨_,rfl⟩
  obtain⟨x2,e2⟩:∃ x,x=p.extract (Cy a p) p.size:=⟨_,rfl⟩
  rw[<-e1]at O X ⊢;rw[<-e2]at A H ⊢;rw[Vb]
  by_cases K:x1.size=0
  ·rw[if_pos K]
   refine VG v x2 u UK H hu (.inl ⟨q.2,fun e=>a3 ⟨?_,?_⟩⟩)
   ·rw[<-O];exact FW K
   ·rw[<-A];exact FW e
  ·rw[if_neg K]
   refine VG _ x2 u (UK.set (Yl X K) ⟨AQ X,q.2⟩) H hu (.inr ⟨Ax x1,by rw[Yi];rfl,?_⟩)
   by_cases h9:x2.size=0
   ·exact .inl h9
   ·obtain⟨x,s,hx⟩:=Sx K
    obtain⟨y,t,hy⟩:=Sx h9
    rw[(Rp hx).1,(Rp hy).1];exact .inr (Zp (Ne.symm (a2 x s y t (by rw[<-O,hx]) (by rw[<-A,hy]))))
 | .ext a n,h,p,u,hp,hu=>by
  have q:Dd (.ext a n):=by
   rcases h with h | h | h
   ·exact h
   ·cases h
   ·cases h
  unfold Dh
  by_cases hf:Cy a p=a.size
  ·rw[if_pos hf]
   exact FQ q.2.1 (VF n (.inl q.2.2.2) _ u (Px hp _ _) hu)
  ·rw[if_neg hf]
   refine FQ (SN hp _) ?_
   obtain⟨a',b',ha,hb,a0,a1,a2⟩:=EY a.data.toList p.data.toList
   have O:(a.extract (Cy a p) a.size).data.toList=a':=by rw[Oj,a0];rfl
   have A:(p.extract (Cy a p) p.size).data.toList=b':=by rw[Oj,a1];rfl
   have X:=Px q.2.1 (Cy a p) a.size;have H:=Px hp (Cy a p) p.size;have K:(a.extract (Cy a p) a.size).size≠0:=by
    have h3:=(AK a.data.toList p.data.toList).2.1;have h4:Cy a p<=a.size:=by rw[<-Ix];exact h3
    rw[Jp];omega
   obtain⟨x2,e2⟩:∃ x,x=p.extract (Cy a p) p.size:=⟨_,rfl⟩
   rw[<-e2]at A H ⊢;have hj:=FQ (Px q.2.1 (Cy a p+1) a.size) q.2.2.2;have hO:=UK.set (Yl X K) hj
   obtain⟨J,hJ⟩:=vE (Jh (a.extract (Cy a p+1) a.size) n)
   rw[<-hJ]at hO hj ⊢;have hz:=Yi (fun _=>PA.nil) (Ax (a.extract (Cy a p) a.size)) J;have Z:=VE hj;rw[<-hz]at Z
   obtain⟨KS,a4⟩:=vE (Ca (fun _=>PA.nil) (Ax (a.extract (Cy a p) a.size)) J)
   rw[<-a4]at hO Z ⊢;refine VG ⟨#[]⟩ x2 u hO H hu (.inr ⟨Ax (a.extract (Cy a p) a.size),Z,?_⟩)
   by_cases h9:x2.size=0
   ·exact .inl h9
   ·obtain⟨x,s,hx⟩:=Sx K
    obtain⟨y,t,hy⟩:=Sx h9
    rw[(Rp hx).1,(Rp hy).1];exact .inr (Zp (Ne.symm (a2 x s y t (by rw[<-O,hx]) (by rw[<-A,hy]))))
 | .br v ks,h,p,u,hp,hu=>by
  have q:Dd (.br v ks):=by
   rcases h with h | h | h
   ·exact h
   ·cases h
   ·cases h
  unfold Dh
  by_cases K:p.size=0
  ·rw[if_pos K]
   refine⟨q.1,q.2.1,?_⟩
   rcases q.2.2 with h1 |⟨_,h2⟩
   ·exact .inl h1
   ·exact .inr ⟨hu,h2⟩
  ·rw[if_neg K]
   have hk:=VF (ks (Ax p)) (by
    cases hn:(ks (Ax p)).isNil with
    | true=>exact .inr (.inr (Py hn))
    | false=>exact .inl (q.2.1 _ hn)) (Ft p) u (AQ hp) hu
   have hs:=Ld.set ⟨q.1,q.2.1⟩ (Yl hp K) hk
   exact⟨hs.1,hs.2,q.2.2.set _ (VE hk)⟩
theorem pT{ks:Nat->PA}(h:Ld ks):i∈Gs ks↔(ks i).isNil=false:=by
 unfold Gs;rw[cG,dZ,gJ]
 exact⟨fun e=>e.2,fun e=>⟨h.1 i e,e⟩⟩
theorem jsD(ks:Nat->PA):(Gs ks).Nodup:=List.Nodup.sublist jI List.nodup_range
theorem eF{v:vB}{ks:Nat->PA}(h:Ld ks):Tm v ks=.no\/Dd (Tm v ks):=by
 have A:=fun i=>pT (i:=i) h;have J:=jsD ks;unfold Tm;cases e:Gs ks with
 | nil =>show (if v.size=0 then PA.no else .leaf ⟨#[]⟩ v)=.no\/Dd (if v.size=0 then PA.no else .leaf ⟨#[]⟩ v);by_cases h0:v.size=0;{rw[if_pos h0];exact .inl rfl};rw[if_neg h0];exact .inr ⟨rfl,h0⟩
 | cons i r =>rw[e]at A J;have q:=(A i).1 bO;cases r with| nil =>show (if v.size=0 then Jh ⟨#[UInt8.ofNat i]⟩ (ks i)else .br v ks)=.no\/Dd (if v.size=0 then Jh ⟨#[UInt8.ofNat i]⟩ (ks i)else .br v ks);right;by_cases h0:v.size=0;{rw[if_pos h0];(have K:=h.1 i q;refine FQ ?_ (h.2 i q);rw[Yj];intro x H;have H:x=UInt8.ofNat i:=by simpa using H);rw[H,iO];omega};rw[if_neg h0];exact⟨h.1,h.2,.inr ⟨h0,i,q⟩⟩| cons j r =>right;refine⟨h.1,h.2,.inl ⟨i,j,?_,q,(A j).1 (by simp)⟩⟩;rintro rfl;simp at J
theorem jM{v:vB}{ks:Nat->PA}(h:Ld ks)(q:vN):Bb (Tm v ks) q=Bb (.br v ks) q:=by
 have A:=fun i=>pT (i:=i) h;unfold Tm;cases e:Gs ks with
 | nil =>(rw[e]at A;have Z:∀ i,ks i=.nil:=fun i=>Py (by cases hb:(ks i).isNil with| true=>rfl| false=>exact ((List.mem_nil_iff i).1 ((A i).2 hb)).elim);show Bb (if v.size=0 then PA.no else .leaf ⟨#[]⟩ v) q=_;cases q with| nil =>(show _=if v.size=0 then none else some v);by_cases h0:v.size=0;{rw[if_pos h0,if_pos h0];rfl};rw[if_neg h0,if_neg h0];rfl| cons x t =>show _=Bb (ks x.toNat) t;rw[Z];by_cases h0:v.size=0;{rw[if_pos h0];rfl};rw[if_neg h0];rfl)
 | cons i r =>cases r with| nil =>show Bb (if v.size=0 then Jh ⟨#[UInt8.ofNat i]⟩ (ks i)else .br v ks) q=_;by_cases h0:v.size=0;{rw[if_pos h0,FU];(rw[e]at A;have X:=h.1 i ((A i).1 bO);have H:(UInt8.ofNat i).toNat=i:=by rw[iO];omega);cases q with| nil=>show (if false=true then _ else none)=if v.size=0 then none else some v;rw[if_pos h0,if_neg ff]| cons x t =>show (if ([UInt8.ofNat i].isPrefixOf (x :: t))=true then Bb (ks i) ((x :: t).drop 1)else none)=Bb (ks x.toNat) t;by_cases hx:x=UInt8.ofNat i;{subst hx;simp[H]};have J:x.toNat≠i:=fun e=>hx (dP.1 (by rw[H];exact e));have K:ks x.toNat=.nil:=Py (by cases hb:(ks x.toNat).isNil with| true=>rfl| false=>exact (J (by simpa using (A _).2 hb)).elim);rw[K,if_neg];{rfl};intro O;obtain⟨r,O⟩:=Sw.1 O;exact hx (List.cons.inj O).1};rw[if_neg h0]| cons j r=>rfl
theorem jvz(P:PA)(q:vN):Bb (Uv P) q=Bb P q:=by
 unfold Uv;cases h:P.isNo with
 | true=>rw[if_pos rfl,pV h];rfl
 | false=>rw[if_neg ff]
theorem VQ:∀ (P:PA),Dd P->∀ (p:vB),Dz p=true->(Ho P p=.no\/Dd (Ho P p))/\∀ q,Bb (Ho P p) q=if q=p.data.toList then none else Bb P q
 | .nil,h,_,_=>h.elim
 | .no,h,_,_=>h.elim
 | .leaf a v,h,p,hp=>by
  unfold Ho
  by_cases e:p=a
  ·rw[if_pos e]
   refine⟨.inl rfl,fun q=>?_⟩
   subst e;show none=if q=p.data.toList then none else if p.data.toList=q then some v else none
   by_cases h9:q=p.data.toList
   ·rw[if_pos h9]
   ·rw[if_neg h9,if_neg (fun e=>h9 e.symm)]
  ·rw[if_neg e]
   refine⟨.inr h,fun q=>?_⟩
   by_cases h9:q=p.data.toList
   ·rw[if_pos h9]
    show (if a.data.toList=q then some v else none)=none;rw[if_neg (fun h8=>e (Rg (h9.symm.trans h8.symm)))]
   ·rw[if_neg h9]
 | .ext a n,h,p,hp=>by
  unfold Ho
  obtain⟨A,X⟩:=VQ n h.2.2.2 (p.extract a.size p.size) (Px hp _ _)
  cases hb:Fb a p with
  | false =>
   rw[if_neg ff]
   refine⟨.inr h,fun q=>?_⟩
   by_cases h9:q=p.data.toList
   ·rw[if_pos h9,h9]
    show (if a.data.toList.isPrefixOf p.data.toList=true then _ else none)=none;unfold Fb at hb;rw[hb];rfl
   ·rw[if_neg h9]
  | true =>
   rw[if_pos rfl]
   obtain⟨Z,H⟩:=Sw.1 hb
   have J:(p.extract a.size p.size).data.toList=Z:=by rw[Oj,H, <-Ix,fF]
   refine⟨?_,fun q=>?_⟩
   ·rcases A with A | A
    ·rw[A]
     left;unfold Jh
     by_cases h0:a.size=0
     ·rw[if_pos h0]
     ·rw[if_neg h0]
    ·exact .inr (FQ h.2.1 A)
   ·rw[FU]
    show _=if q=p.data.toList then none else if a.data.toList.isPrefixOf q then Bb n (q.drop a.data.toList.length)else none
    cases hq:a.data.toList.isPrefixOf q with
    | false =>
     rw[if_neg ff,if_neg ff,if_neg (fun e=>KZ hq Z (e.trans H))]
    | true =>
     obtain⟨r,rfl⟩:=Sw.1 hq
     rw[if_pos rfl,if_pos rfl,fF,X,J,H];simp only[gM]
 | .br v ks,h,p,hp=>by
  unfold Ho;have K:Ld ks:=⟨h.1,h.2.1⟩
  by_cases h0:p.size=0
  ·rw[if_pos h0]
   refine⟨eF K,fun q=>?_⟩
   rw[jM K,FW h0];cases q with
   | nil=>rfl
   | cons x t=>rfl
  ·rw[if_neg h0]
   obtain⟨x,t,J⟩:=Sx h0
   obtain⟨O,h2⟩:=Rp J
   cases hn:(ks (Ax p)).isNil with
   | true =>
    rw[if_pos rfl]
    refine⟨.inr h,fun q=>?_⟩
    by_cases h9:q=p.data.toList
    ·rw[if_pos h9,h9,J]
     show Bb (ks x.toNat) t=none;rw[<-O,Py hn];rfl
    ·rw[if_neg h9]
   | false =>
    rw[if_neg ff]
    obtain⟨A,X⟩:=VQ (ks (Ax p)) (h.2.1 _ hn) (Ft p) (AQ hp)
    have hS:Ld (Ca ks (Ax p) (Uv (Ho (ks (Ax p)) (Ft p)))):=by
     unfold Uv;rcases A with A | A
     ·rw[A];exact K.cut _
     ·rw[jz0 A,if_neg ff]
      exact K.set (Yl hp h0) A
    refine⟨eF hS,fun q=>?_⟩
    rw[jM hS,J];cases q with
    | nil=>rfl
    | cons y s =>
     rw[NN,O]
     by_cases hy:y=x
     ·subst hy
      rw[if_pos rfl,jvz, <-O,X,h2];simp only[List.cons.injEq,true_and];show _=if s=t then none else Bb (ks y.toNat) s
      rw[O]
     ·rw[if_neg (Zp hy),if_neg (fun e=>hy (List.cons.inj e).1)]
theorem JY(h:i < 16):(UInt8.ofNat i).toNat=i:=by rw[iO];omega
theorem DS:∀ (P:PA),Dd P->∃ p v,Bb P p=some v
 | .nil,h=>h.elim
 | .no,h=>h.elim
 | .leaf a v,_=>⟨a.data.toList,v,if_pos rfl⟩
 | .ext a n,h=>by
  obtain⟨p,v,e⟩:=DS n h.2.2.2
  refine⟨a.data.toList++p,v,?_⟩
  show (if a.data.toList.isPrefixOf (a.data.toList++p)=true then Bb n ((a.data.toList++p).drop a.data.toList.length)else none)=some v;rw[if_pos (Sw.2 ⟨p,rfl⟩),fF,e]
 | .br v ks,h=>by
  have q:∃ i,(ks i).isNil=false:=by
   rcases h.2.2 with⟨i,_,_,e,_⟩ |⟨_,i,e⟩
   ·exact⟨i,e⟩
   ·exact⟨i,e⟩
  obtain⟨i,q⟩:=q
  obtain⟨p,u,e⟩:=DS (ks i) (h.2.1 i q)
  refine⟨UInt8.ofNat i :: p,u,?_⟩
  show Bb (ks (UInt8.ofNat i).toNat) p=some u;rw[JY (h.1 i q),e]
theorem KL{v:vB}{ks:Nat->PA}(h:Dd (.br v ks)):∃ p q a b,p.head?≠q.head?/\Bb (.br v ks) p=some a/\Bb (.br v ks) q=some b:=by
 have A:∀ i,(ks i).isNil=false->∃ t u,Bb (.br v ks) (UInt8.ofNat i :: t)=some u:=by intro i H;obtain⟨p,u,e⟩:=DS (ks i) (h.2.1 i H);refine⟨p,u,?_⟩;show Bb (ks (UInt8.ofNat i).toNat) p=some u;rw[JY (h.1 i H),e]
 rcases h.2.2 with⟨i,j,hij,H,hj⟩ |⟨hv,i,H⟩
 ·obtain⟨t,a,J⟩:=A i H;obtain⟨s,b,K⟩:=A j hj;refine⟨_,_,a,b,?_,J,K⟩;(intro e;have e:UInt8.ofNat i=UInt8.ofNat j:=by simpa using e);have:=congrArg UInt8.toNat e;rw[JY (h.1 i H),JY (h.1 j hj)]at this;exact hij this
 ·obtain⟨t,a,J⟩:=A i H;refine⟨[],_,v,a,?_,?_,J⟩;{simp};show (if v.size=0 then none else some v)=some v;rw[if_neg hv]
theorem KE:∀ (a r p q:vN),p.head?≠q.head?->r <+: a++p->r <+: a++q->r <+: a
 | [],r,p,q,h,A,H=>by
  cases r with
  | nil=>exact List.nil_prefix
  | cons x s =>
   obtain⟨O,J⟩:=A
   obtain⟨X,K⟩:=H
   rw[cL]at J K;exfalso;apply h;rw[<-J, <-K];rfl
 | y :: a,r,p,q,h,A,H=>by
  cases r with
  | nil=>exact List.nil_prefix
  | cons x s =>
   rw[cR]at A H
   obtain⟨e,A⟩:=List.cons_prefix_cons.1 A
   obtain⟨_,H⟩:=List.cons_prefix_cons.1 H
   rw[e];exact List.cons_prefix_cons.2 ⟨rfl,KE a s p q h A H⟩
theorem KG(a:vB)(n:PA)(t:vN):Bb (.ext a n) (a.data.toList++t)=Bb n t:=by
 show (if a.data.toList.isPrefixOf (a.data.toList++t)=true then Bb n ((a.data.toList++t).drop a.data.toList.length)else none)=Bb n t;rw[if_pos (Sw.2 ⟨t,rfl⟩),fF]
theorem AX{n:PA}{p:vN}{v:vB}(h:Bb (.ext a n) p=some v):a.data.toList <+: p:=by
 have h:(if a.data.toList.isPrefixOf p=true then Bb n (p.drop a.data.toList.length)else none)=some v:=h
 by_cases e:a.data.toList.isPrefixOf p=true
 ·exact List.isPrefixOf_iff_prefix.1 e
 ·rw[if_neg e]at h;cases h
theorem VD{n:PA}(h:Dd (.ext a n)):∃ p q x y,p.head?≠q.head?/\Bb (.ext a n) (a.data.toList++p)=some x/\Bb (.ext a n) (a.data.toList++q)=some y:=by
 cases n with
 | br v ks =>obtain⟨p,q,x,y,e,A,H⟩:=KL h.2.2.2;exact⟨p,q,x,y,e,by rw[KG,A],by rw[KG,H]⟩
 | nil=>cases h.2.2.1
 | no=>cases h.2.2.1
 | leaf _ _=>cases h.2.2.1
 | ext _ _=>cases h.2.2.1
theorem Zm{v:vB}{p:vN}(h:Bb (.leaf a v) p=some u):a.data.toList=p/\v=u:=by
 have h:(if a.data.toList=p then some v else none)=some u:=h
 by_cases e:a.data.toList=p
 ·rw[if_pos e]at h;exact⟨e,bV h⟩
 ·rw[if_neg e]at h;cases h
theorem OE{p q:vN}(h:p.head?≠q.head?):p≠q:=fun e=>h (by rw[e])
theorem uniq:∀ (P Q:PA),Dd P->Dd Q->(∀ p,Bb P p=Bb Q p)->P=Q
 | .nil,_,h,_,_=>h.elim
 | .no,_,h,_,_=>h.elim
 | .leaf a v,Q,h,k,e=>by
  cases Q with
  | nil=>exact k.elim
  | no=>exact k.elim
  | leaf b u =>
   have H:Bb (.leaf b u) a.data.toList=some v:=by rw[<-e];exact if_pos rfl
   obtain⟨A,J⟩:=Zm H
   rw[Rg A,J]
  | ext b n =>
   obtain⟨p,q,x,y,H,A,J⟩:=VD k
   rw[<-e]at A J;exact absurd (iW ((Zm A).1.symm.trans (Zm J).1)) (OE H)
  | br u ks =>
   obtain⟨p,q,x,y,H,A,J⟩:=KL k
   rw[<-e]at A J;exact absurd ((Zm A).1.symm.trans (Zm J).1) (OE H)
 | .ext a n,Q,h,k,e=>by
  obtain⟨p,q,x,y,H,A,J⟩:=VD h
  cases Q with
  | nil=>exact k.elim
  | no=>exact k.elim
  | leaf b u =>
   rw[e]at A J;exact absurd (iW ((Zm A).1.symm.trans (Zm J).1)) (OE H)
  | ext b m =>
   have g2:=A;have g3:=J;rw[e]at g2 g3;have a2:=KE _ _ p q H (AX g2) (AX g3)
   obtain⟨p',q',x',y',k1,X,Z⟩:=VD k
   have f2:=X;have f3:=Z;rw[<-e]at f2 f3;have a1:=KE _ _ p' q' k1 (AX f2) (AX f3);have a0:a.data.toList=b.data.toList:=a1.eq_of_length (Nat.le_antisymm a1.length_le a2.length_le);have a0:=Rg a0;subst a0;rw[uniq n m h.2.2.2 k.2.2.2 (fun t=>by rw[<-KG a n t, <-KG a m t,e])]
  | br u ks =>
   exfalso
   obtain⟨p',q',x',y',k1,X,Z⟩:=KL k
   rw[<-e]at X Z;have h9:=KE [] _ p' q' k1 (by simpa using AX X) (by simpa using AX Z);have h9:=List.prefix_nil.1 h9;apply h.1;rw[<-Ix,h9];rfl
 | .br v ks,Q,h,k,e=>by
  cases Q with
  | nil=>exact k.elim
  | no=>exact k.elim
  | leaf b u =>
   obtain⟨p,q,x,y,H,A,J⟩:=KL h
   rw[e]at A J;exact absurd ((Zm A).1.symm.trans (Zm J).1) (OE H)
  | ext b m =>
   exfalso
   obtain⟨p',q',x',y',k1,X,Z⟩:=KL h
   rw[e]at X Z;have h9:=KE [] _ p' q' k1 (by simpa using AX X) (by simpa using AX Z);have h9:=List.prefix_nil.1 h9;apply k.1;rw[<-Ix,h9];rfl
  | br u js =>
   have ev:v=u:=by
    have O:=e [];have O:(if v.size=0 then none else some v)=if u.size=0 then none else some u:=O
    by_cases hv:v.size=0
    ·by_cases hu:u.size=0
     ·rw[Og hv,Og hu]
     ·rw[if_pos hv,if_neg hu]at O;cases O
    ·by_cases hu:u.size=0
     ·rw[if_neg hv,if_pos hu]at O;cases O
     ·rw[if_neg hv,if_neg hu]at O;exact bV O
   have ek:ks=js:=by
    funext i
    have K:i < 16->∀ t,Bb (ks i) t=Bb (js i) t:=by
     intro hi t
     have:=e (UInt8.ofNat i :: t)
     have:Bb (ks (UInt8.ofNat i).toNat) t=Bb (js (UInt8.ofNat i).toNat) t:=this
     rw[JY hi]at this;exact this
    cases H:(ks i).isNil with
    | true =>
     cases A:(js i).isNil with
     | true=>rw[Py H,Py A]
     | false =>
      obtain⟨t,z,hz⟩:=DS (js i) (k.2.1 i A)
      rw[<-K (k.1 i A),Py H]at hz;cases hz
    | false =>
     cases A:(js i).isNil with
     | true =>
      obtain⟨t,z,hz⟩:=DS (ks i) (h.2.1 i H)
      rw[K (h.1 i H),Py A]at hz;cases hz
     | false=>exact uniq (ks i) (js i) (h.2.1 i H) (k.2.1 i A) (K (h.1 i H))
   rw[ev,ek]
section
attribute [local go_sem] Oper.semAt_some
structure XK where
 path:vB
 value:vB
 ref:vB
def Mf(p:vB):Bool:=p.size % 2 == 0 && Dz p
def Ee(i:Nat):vB:=⟨#[UInt8.ofNat i]⟩
def Kw(p:vB):vV:=.tuple #[(if Mf p=true then Iz p else ⟨#[]⟩:),Mf p]
theorem EN(w:vW)(p:vB)(hs:p.size<=1000000):vR 189 #[p] w (Kw p):=by
 by_cases h2:p.size % 2=0
 ·have H:(p.size:Int) % 2=0:=vO;cases hv:Dz p with| true =>(have q:Mf p=true:=by unfold Mf;rw[hv,h2];rfl);(have A:Kw p=.tuple #[Iz p,true]:=by unfold Kw;rw[q];rfl);(rw[A];clear q A;unfold vR vQ;go_in;go_wp2_with fail);(refine (OM w p vO).mono ?_;rintro e w1 ⟨rfl,rfl⟩;rw[hv];go_wp2_with fail);(refine vC (VI w1 p hs) fun K J=>?_;go_wp2_with fail);go_ret2;exact⟨rfl,J⟩| false =>(have q:Mf p=false:=by unfold Mf;rw[hv,h2];rfl);(have A:Kw p=.tuple #[.string ⟨#[]⟩,false]:=by unfold Kw;rw[q];rfl);(rw[A];clear q A;unfold vR vQ;go_in;go_wp2_with fail);(refine (OM w p vO).mono ?_;rintro e w1 ⟨rfl,rfl⟩;rw[hv];go_wp2_with fail);go_ret2;exact⟨rfl,Aa w1⟩
 ·have H:¬(p.size:Int) % 2=0:=vO;(have q:Mf p=false:=by unfold Mf;rw[show (p.size % 2 == 0)=false by simpa using h2];rfl);(have A:Kw p=.tuple #[.string ⟨#[]⟩,false]:=by unfold Kw;rw[q];rfl);(have O:((p.size:Int) % 2 != 0)=true:=by simpa using H);(rw[A];clear q A;unfold vR vQ;go_in;go_wp2_with fail);go_ret2;exact⟨rfl,Aa w⟩
def tF(p:XK):List vV:=[p.path,p.value,p.ref]
theorem Hr:Tryz.prog.underlying 292=some (.slice 371):=vY
theorem Sc:(Tryz.prog.info? 371).map (fun i=>(i.zero,i.size,i.bytes))=some (some (.agg #[.string ⟨#[]⟩,.string ⟨#[]⟩,.string ⟨#[]⟩]),3,48):=vY
theorem Vz:Me Tryz.prog 292 371 3 48:=Me.mk' Hr Sc rfl vI
def bare(W:vW):vW:={ W with heap:=#[] }
theorem juz(W:vW):Af (bare W) W:=⟨rfl,rfl,rfl,cE _,fun b hb=>absurd hb (Nat.not_lt_zero b)⟩
theorem Av.any{T:TypeId}{xs:List vV}(h:W.ownsRow 0 T sz v n xs):Av T sz (bare W) W v n xs:=⟨Ir h,h,juz W,fun _ _=>cE _⟩
theorem jyD(p:XK):∀ u∈tF p,u.oneCell'=true:=by
 intro u e;simp only[tF,bT,iH,or_false]at e;rcases e with rfl | rfl | rfl <;> rfl
end
def Cb(g:Nat->Nat):Nat->Nat
 | 0=>0
 | n+1=>Cb g n+g n
def En:Nat->vL->Nat
 | 0,_=>1
 | f+1,l=>1+(if l.length<=1 then 0 else if 0 < Aj l then En f (Az (Aj l) l)else Cb (fun i=>if (Ah i l).length=0 then 0 else En f (Az 1 (Ah i l))) 16)
theorem oL(g:Nat->Nat)(l:vL)(h0:∀ i,(Ah i l).length=0->g i=0)(hg:∀ i,(Ah i l).length≠0->g i+2<=3 * (Ah i l).length):∀ n,Cb g n+2 * Tl l n<=3 * Sy l n
 | 0=>by simp[Cb,Sy,Tl]
 | n+1=>by
  have e:=oL g l h0 hg n;rw[Cb,Sy,Tl]
  by_cases hz:(Ah n l).length=0
  ·rw[if_pos hz,h0 n hz];omega
  ·have:=hg n hz
   rw[if_neg hz];omega
structure QD(c:Nat)(l:vL):Prop where
 all:c+2<=3 * l.length
 two:2<=l.length->Aj l=0->c+3<=3 * l.length
theorem jz4:∀ (f:Nat) (l:vL),Eu f l->l≠[]->QD (En f l) l:=by
 intro f;induction f with
 | zero =>intro l h hn;have h0:l.length≠0:=fun e=>hn (bH e);have hl:=Wi h;exact⟨by show 1+2<=_;omega,fun h2=>by omega⟩
 | succ f ih =>intro l h hn;have h0:l.length≠0:=fun e=>hn (bH e);by_cases h1:l.length=1;{(have e:En (f+1) l=1:=by unfold En;rw[if_pos vO]);exact⟨by omega,fun h2=>by omega⟩};have h2:2<=l.length:=vO;have A:=Rh h h2;by_cases hk:0 < Aj l;{have a3:Eu f (Az (Aj l) l):=(Yh (Aj l) h (fun p hp q hq=>(A p hp).1.trans (A q hq).1.symm) (fun p hp=>(A p hp).2)).mono vO;(have O:Az (Aj l) l≠[]:=fun e=>by have:=Jn (Aj l) l;rw[e]at this;simp at this;omega);(have H:=(ih _ a3 O).two (by rw[Jn];omega) (MU vO);rw[Jn]at H;have e:En (f+1) l=1+En f (Az (Aj l) l):=by rw[En,if_neg vO,if_pos hk]);exact⟨by omega,fun _ hz=>by omega⟩};(have X:∀ i,(Ah i l).length≠0->Az 1 (Ah i l)≠[]:=fun i Z e=>by have:=Jn 1 (Ah i l);rw[e]at this;simp at this;omega);obtain⟨a,ha⟩:∃ a,l[0]?=some a:=⟨_,bB vO⟩;obtain⟨b,hb⟩:∃ b,l[l.length - 1]?=some b:=⟨_,bB vO⟩;(have ga:l.getD 0 pd=a:=by rw[bJ,ha];rfl);(have gb:l.getD (l.length - 1) pd=b:=by rw[bJ,hb];rfl);have J:=bD ha;have a0:=bD hb;have a1:=Xh h.rise vO ha hb;obtain⟨g,K⟩:=vE (fun i=>if (Ah i l).length=0 then 0 else En f (Az 1 (Ah i l)));(have e:En (f+1) l=1+Cb g 16:=by rw[En,if_neg vO,if_neg hk,K]);(have H:Cb g 16+4<=3 * l.length:=by have a5:=oL g l (fun i Z=>by rw[K];simp only[Z,if_true]) (fun i Z=>by have:=(ih _ (Yn i h) (X i Z)).all;rw[Jn]at this;rw[K];simp only[if_neg Z];exact this) 16;(have a2:Hu a.l b.l=0:=by(have:Aj l=Hu a.l b.l:=by unfold Aj Cy;rw[ga,gb]);omega);cases hbl:b.l with| nil=>rw[hbl]at a1;exact absurd a1 (not_lt_nil _)| cons y t =>have hy:=Tn (h.size b a0).2.2.1 hbl;have cb:=DU a0 hbl;cases hal:a.l with| nil =>have:=eP ⟨a,J,hal⟩ 16;have:=TE cb hy;omega| cons x r =>(have hx:=Tn (h.size a J).2.2.1 hal;have ca:=DU J hal;have a4:x≠y:=by intro e;rw[hal,hbl,e]at a2;simp[Hu]at a2);have O:x.toNat≠y.toNat:=fun e=>a4 (dP.1 e);have:=JJ l 16;(have:2<=Tl l 16:=by rcases fA x.toNat y.toNat with e | e;{exact MY ca cb e hy};exact MY cb ca vO hx);omega);exact⟨by omega,fun _ _=>by omega⟩
theorem qW{α:Type}{R:α->α->Prop}(hi:∀ x,¬ R x x)(ht:∀ x y,R x y->¬ R y x):∀ {a b:List α},a.Pairwise R->b.Pairwise R->(∀ x,x∈a↔x∈b)->a=b
 | [],[],_,_,_=>rfl
 | [],y :: b,_,_,h=>absurd ((h y).2 bO) (by simp)
 | x :: a,[],_,_,h=>absurd ((h x).1 bO) (by simp)
 | x :: a,y :: b,ha,hb,h=>by
  rw[gD]at ha hb;have e:x=y:=by
   rcases bT.1 ((h x).1 bO)with e | h1
   ·exact e
   rcases bT.1 ((h y).2 bO)with e | h2
   ·exact e.symm
   exact absurd (ha.1 y h2) (ht _ _ (hb.1 x h1))
  subst e;rw[qW hi ht ha.2 hb.2 fun z=>?_];constructor
  ·intro q
   rcases bT.1 ((h z).1 (bM _ q))with e | h1
   ·subst e;exact absurd (ha.1 z q) (hi z)
   ·exact h1
  ·intro q
   rcases bT.1 ((h z).2 (bM _ q))with e | h1
   ·subst e;exact absurd (hb.1 z q) (hi z)
   ·exact h1
def WJ(l:vL):vL:=l.filter fun q=>q.1.size=0
theorem WP(p:Ar):p.1.size=0↔p.l=[]:=by
 show p.1.data.toList.length=0↔_;exact List.length_eq_zero_iff
theorem jsR(x y:vN)(h:Lt x y):¬ Lt y x:=fun k=>lt_irrefl _ (FL _ _ _ h k)
theorem jqF(h:Eu f l):l=WJ l++(List.range 16).flatMap fun i=>Ah i l:=by
 refine qW (R:=fun p q:Ar=>Lt p.l q.l) (fun x=>lt_irrefl _) (fun x y=>jsR _ _) h.rise ?_ fun p=>?_
 ·rw[jD];refine⟨h.rise.filter _,?_,fun p e q A=>?_⟩;{(have:∀ n,((List.range n).flatMap fun i=>Ah i l).Pairwise fun p q:Ar=>Lt p.l q.l:=fun n=>by induction n with| zero=>simp| succ n ih =>rw[gG,dW,jD];refine⟨ih,?_,fun p e q A=>?_⟩;{simpa using (pG n h).rise};obtain⟨i,J,e⟩:=dL.1 e;simp only[dN,List.flatMap_nil,cB]at A;obtain⟨_,a,r,K,Z⟩:=Ul e;obtain⟨_,b,t,H,e4⟩:=Ul A;rw[K,H];have:=dZ.1 J;exact Nd.2 (.inl (dQ.2 vO)));exact this 16};obtain⟨_,O⟩:=cG.1 e;obtain⟨i,_,A⟩:=dL.1 A;obtain⟨_,b,t,H,_⟩:=Ul A;rw[(WP p).1 (by simpa using O),H];exact OT
 ·rw[bR];constructor;{intro e;cases hl:p.l with| nil=>exact .inl (cG.2 ⟨e,by simpa using (WP p).2 hl⟩)| cons x r =>have X:=Tn (h.size p e).2.2.1 hl;exact .inr (dL.2 ⟨x.toNat,dZ.2 X,WG e hl⟩)};rintro (e | e);{exact (cG.1 e).1};obtain⟨i,_,e⟩:=dL.1 e;exact (Ul e).1
theorem V_(h:Eu f l)(hn:l≠[]):WJ l=if (l.getD 0 pd).1.size=0 then [l.getD 0 pd]else []:=by
 cases l with
 | nil=>exact absurd rfl hn
 | cons p r =>(have H:∀ q∈r,¬ q.1.size=0:=fun q A e=>by have:=(gD.1 h.rise).1 q A;rw[(WP q).1 e]at this;exact not_lt_nil _ this);(have J:r.filter (fun q:Ar=>q.1.size=0)=[]:=by rw[List.filter_eq_nil_iff];intro q A;simpa using H q A);(show (p :: r).filter _=if p.1.size=0 then [p]else []);rw[List.filter_cons,J];by_cases e:p.1.size=0;{rw[if_pos e,if_pos (by simpa using e)]};rw[if_neg e,if_neg (by simpa using e)]
theorem FA(a b:vB):(a++b).data.toList=a.data.toList++b.data.toList:=by rw[dK,fK]
theorem uK(h:x.toNat=i):UInt8.ofNat i=x:=by subst h;exact iR
theorem jxv{p:vB}{k:Nat}(h:q.l=x :: r)(hx:x.toNat=i):p++q.1=(p++Ee i)++q.1.extract 1 q.1.size:=by
 refine Rg ?_;rw[FA,FA,FA,DP _ _ _ (bP _)];have h:q.1.data.toList=x :: r:=h;rw[h];unfold Ee;rw[uK hx];simp
theorem jxw{p:vB}{k:Nat}(h:q.l.take k=a.data.toList):p++q.1=(p++a)++q.1.extract k q.1.size:=by
 refine Rg ?_;rw[FA,FA,FA,DP _ _ _ (bP _), <-h,bZ];show _++q.l=_++(q.l.take k++q.l.drop k);rw[dB]
def Da:Nat->vL->PA
 | 0,_=>.no
 | f+1,l =>
  if l.length=0 then .no
  else if l.length=1 then .leaf (l.getD 0 pd).1 (l.getD 0 pd).2
  else if 0 < Aj l then .ext ((l.getD 0 pd).1.extract 0 (Aj l)) (Da f (Az (Aj l) l))
  else .br (if (l.getD 0 pd).1.size=0 then (l.getD 0 pd).2 else ⟨#[]⟩) fun i=>if (Ah i l).length=0 then .nil else Da f (Az 1 (Ah i l))
theorem JA(f:Nat)(l:vL):Da (f+1) l =
  if l.length=0 then .no
  else if l.length=1 then .leaf (l.getD 0 pd).1 (l.getD 0 pd).2
  else if 0 < Aj l then .ext ((l.getD 0 pd).1.extract 0 (Aj l)) (Da f (Az (Aj l) l))
  else .br (if (l.getD 0 pd).1.size=0 then (l.getD 0 pd).2 else ⟨#[]⟩) fun i=>if (Ah i l).length=0 then .nil else Da f (Az 1 (Ah i l)):=rfl
theorem Th(f:Nat)(h:l.length=0):Da (f+1) l=.no:=by rw[JA];rw[if_pos h]
theorem Um(f:Nat)(h:l.length=1):Da (f+1) l=.leaf (l.getD 0 pd).1 (l.getD 0 pd).2:=by rw[JA];rw[if_neg vO,if_pos h]
theorem AU(f:Nat)(h:2<=l.length)(hk:0 < Aj l):Da (f+1) l=.ext ((l.getD 0 pd).1.extract 0 (Aj l)) (Da f (Az (Aj l) l)):=by
 rw[JA];rw[if_neg vO,if_neg vO,if_pos hk]
theorem AZ(f:Nat)(h:2<=l.length)(hk:¬ 0 < Aj l):Da (f+1) l=.br (if (l.getD 0 pd).1.size=0 then (l.getD 0 pd).2 else ⟨#[]⟩) fun i=>if (Ah i l).length=0 then .nil else Da f (Az 1 (Ah i l)):=by
 rw[JA];rw[if_neg vO,if_neg vO,if_neg hk]
theorem sR(h:Eu f l)(hi:(Ah i l).length≠0):i < 16:=by
 cases e:Ah i l with
 | nil=>rw[e]at hi;exact (hi rfl).elim
 | cons p r =>obtain⟨q,a,t,A,H⟩:=Ul (show p∈Ah i l by rw[e];exact bO);rw[<-H];exact Tn (h.size p q).2.2.1 A
theorem TW:∀ (f:Nat) (l:vL),Eu f l->∀ p:vB,Dz p=true->Bb (Da (f+1) l) p.data.toList=Fk l p:=by
 intro f;induction f with
 | zero =>intro l h p O;have hl:=Wi h;by_cases h0:l.length=0;{rw[Th _ h0,bH h0];rfl};have H:l.length=1:=vO;rw[Um _ H];obtain⟨q,rfl⟩:=fR.1 H;(show (if q.1.data.toList=p.data.toList then some q.2 else none)=if q.1=p then some q.2 else Fk [] p);by_cases e:q.1=p;{rw[if_pos e,if_pos (by rw[e])]};rw[if_neg e,if_neg (fun h=>e (Rg h))];rfl
 | succ f ih =>intro l h p O;by_cases h0:l.length=0;{rw[Th _ h0,bH h0];rfl};by_cases H:l.length=1;{rw[Um _ H];obtain⟨q,rfl⟩:=fR.1 H;(show (if q.1.data.toList=p.data.toList then some q.2 else none)=if q.1=p then some q.2 else Fk [] p);by_cases e:q.1=p;{rw[if_pos e,if_pos (by rw[e])]};rw[if_neg e,if_neg (fun h=>e (Rg h))];rfl};have Z:2<=l.length:=vO;have a0:=DM h Z;by_cases hk:0 < Aj l;{rw[AU _ Z hk];show (if ((l.getD 0 pd).1.extract 0 (Aj l)).data.toList.isPrefixOf p.data.toList=true then Bb (Da (f+1) (Az (Aj l) l)) (p.data.toList.drop _)else none)=_;rw[Ix,a0];by_cases hb:Fb ((l.getD 0 pd).1.extract 0 (Aj l)) p=true;{(have J:Xc l p=some (Az (Aj l) l,p.extract (Aj l) p.size):=by unfold Xc;rw[if_neg vO,if_pos hk,if_pos hb]);have A:=qO h O J;have K:((l.getD 0 pd).1.extract 0 (Aj l)).data.toList.isPrefixOf p.data.toList=true:=hb;rw[if_pos K, <-Oj,ih _ A.rows _ A.valid,A.find]};(have J:Xc l p=none:=by unfold Xc;rw[if_neg vO,if_pos hk,if_neg hb]);(have A:=(qN h O J).2;have K:¬((l.getD 0 pd).1.extract 0 (Aj l)).data.toList.isPrefixOf p.data.toList=true:=hb;rw[if_neg K, <-A];have e:Bm (An (f+1)) l=⟨2,(l.getD 0 pd).1.extract 0 (Aj l),⟨#[]⟩,Ba (An (f+1) (Az (Aj l) l)).text :: Cv 15⟩:=by unfold Bm;rw[if_neg h0,if_neg H,if_pos hk]);rw[e];rfl};rw[AZ _ Z hk];cases hpl:p.data.toList with| nil =>(have J:Xc l p=none:=by unfold Xc;rw[if_neg vO,if_neg hk,hpl]);have A:=(qN h O J).2;rw[<-A];obtain⟨rs,a1⟩:=vE ((List.range 16).map fun i=>if (Ah i l).length=0 then (⟨#[]⟩:vB)else Ba (An (f+1) (Az 1 (Ah i l))).text);(have e:Bm (An (f+1)) l=⟨3,⟨#[]⟩,if (l.getD 0 pd).1.size=0 then (l.getD 0 pd).2 else ⟨#[]⟩,rs⟩:=by rw[a1];unfold Bm;rw[if_neg h0,if_neg H,if_neg hk]);(rw[e];have a2:p.size=0:=by rw[<-Ix p,hpl];rfl);obtain⟨X,a3⟩:=vE (if (l.getD 0 pd).1.size=0 then (l.getD 0 pd).2 else ⟨#[]⟩);(rw[<-a3];show (if X.size=0 then none else some X)=if (3:Nat)=1 then _ else if (3:Nat)=3 then (if p.size=0/\X.size≠0 then some X else none)else none);rw[if_neg (by decide:¬(3:Nat)=1),if_pos rfl];by_cases hz:X.size=0;{rw[if_pos hz,if_neg (fun h=>h.2 hz)]};rw[if_neg hz,if_pos ⟨a2,hz⟩]| cons x t =>show Bb (if (Ah x.toNat l).length=0 then .nil else Da (f+1) (Az 1 (Ah x.toNat l))) t=_;by_cases hc:(Ah x.toNat l).length=0;{rw[if_pos hc];refine (KB fun q hq e=>?_).symm;exact DU hq (p:=q) (by show q.1.data.toList=x :: t;rw[e,hpl]) hc};rw[if_neg hc];(have J:Xc l p=some (Az 1 (Ah x.toNat l),p.extract 1 p.size):=by unfold Xc;rw[if_neg vO,if_neg hk,hpl];show (if (Ah x.toNat l).length=0 then _ else _)=_;rw[if_neg hc]);(have A:=qO h O J;have e:t=(p.extract 1 p.size).data.toList:=by rw[Oj,hpl];rfl);rw[e,ih _ A.rows _ A.valid,A.find]
theorem BF(h:Eu (f+1) l)(hc:(Ah i l).length≠0):Eu f (Az 1 (Ah i l))/\Az 1 (Ah i l)≠[]:=
 ⟨Yn i h,fun e=>by have:=Jn 1 (Ah i l);rw[e]at this;simp at this;exact hc this.symm⟩
theorem DZ(h:Eu (f+1) l)(h2:2<=l.length)(hk:0 < Aj l):Eu f (Az (Aj l) l)/\Az (Aj l) l≠[]/\2<=(Az (Aj l) l).length/\Aj (Az (Aj l) l)=0:=by
 have A:=Rh h h2
 exact⟨(Yh (Aj l) h (fun p H q J=>(A p H).1.trans (A q J).1.symm) (fun p H=>(A p H).2)).mono vO,fun e=>by have:=Jn (Aj l) l;rw[e]at this;simp at this;omega,by rw[Jn];exact h2,MU vO⟩
theorem lT:∀ (f:Nat) (l:vL),Eu f l->l≠[]->Dd (Da (f+1) l)/\(2<=l.length->Aj l=0->(Da (f+1) l).isBr=true):=by
 intro f;induction f with
 | zero =>intro l h hn;have hl:=Wi h;have h1:l.length=1:=kL (fZ.2 hn);have K:=h.size _ (CJ (l:=l) vO);rw[Um _ h1];exact⟨⟨K.2.2.1,by omega⟩,fun J=>by omega⟩
 | succ f ih =>intro l h hn;have a1:=fZ.2 hn;by_cases h1:l.length=1;{have K:=h.size _ (CJ (l:=l) vO);rw[Um _ h1];exact⟨⟨K.2.2.1,by omega⟩,fun J=>by omega⟩};have J:2<=l.length:=vO;have K:=h.size _ (CJ (l:=l) vO);by_cases hk:0 < Aj l;{obtain⟨O,X,k3,k4⟩:=DZ h J hk;obtain⟨i1,i2⟩:=ih _ O X;rw[AU _ J hk];exact⟨⟨by rw[DM h J];omega,SN K.2.2.1 _,i2 k3 k4,i1⟩,fun _ e=>by omega⟩};rw[AZ _ J hk];refine⟨⟨fun i q=>?_,fun i q=>?_,?_⟩,fun _ _=>rfl⟩;{by_cases A:(Ah i l).length=0;{have q:(if (Ah i l).length=0 then PA.nil else Da (f+1) (Az 1 (Ah i l))).isNil=false:=q;rw[if_pos A]at q;cases q};exact sR h A};{have q:(if (Ah i l).length=0 then PA.nil else Da (f+1) (Az 1 (Ah i l))).isNil=false:=q;show Dd (if (Ah i l).length=0 then PA.nil else Da (f+1) (Az 1 (Ah i l)));by_cases A:(Ah i l).length=0;{rw[if_pos A]at q;cases q};rw[if_neg A];obtain⟨O,X⟩:=BF h A;exact (ih _ O X).1};obtain⟨a,ha⟩:∃ a,l[0]?=some a:=⟨_,bB vO⟩;obtain⟨b,hb⟩:∃ b,l[l.length - 1]?=some b:=⟨_,bB vO⟩;(have ga:l.getD 0 pd=a:=by rw[bJ,ha];rfl);(have gb:l.getD (l.length - 1) pd=b:=by rw[bJ,hb];rfl);(have Z:=Xh h.rise vO ha hb;have H:Hu a.l b.l=0:=by have:Aj l=0:=vO;unfold Aj at this;rw[ga,gb]at this;exact this);(have a0:∀ p∈l,∀ x t,p.l=x :: t->(if (Ah x.toNat l).length=0 then PA.nil else Da (f+1) (Az 1 (Ah x.toNat l))).isNil=false:=by intro p hp x t hx;have A:=DU hp hx;rw[if_neg A];obtain⟨O,X⟩:=BF h A;exact VE (ih _ O X).1);cases hbl:b.l with| nil=>rw[hbl]at Z;exact absurd Z (not_lt_nil _)| cons y s =>have kb:=a0 b (bD hb) y s hbl;cases hal:a.l with| nil =>(right;rw[ga];have h0:a.1.size=0:=by rw[<-Ix];show a.l.length=0;rw[hal];rfl);rw[if_pos h0];have:=(h.size a (bD ha)).2.2.2.1;exact⟨by omega,y.toNat,kb⟩| cons x t =>left;refine⟨x.toNat,y.toNat,fun e=>?_,a0 a (bD ha) x t hal,kb⟩;have e:=dP.1 e;rw[hal,hbl,e]at H;simp[Hu]at H
theorem JM:∀ (P:PA),Dd P->∀ (p:vN) (v:vB),Bb P p=some v->∀ x∈p,x.toNat < 16
 | .nil,h,_,_,_=>h.elim
 | .no,h,_,_,_=>h.elim
 | .leaf a v,h,p,u,e=>by
  obtain⟨rfl,_⟩:=Zm e
  exact Yj.1 h.1
 | .ext a n,h,p,u,e=>by
  obtain⟨r,rfl⟩:=AX e
  rw[KG]at e;intro x q;rcases bR.1 q with q | q
  ·exact Yj.1 h.2.1 x q
  ·exact JM n h.2.2.2 r u e x q
 | .br v ks,h,[],u,e=>fun x q=>by cases q
 | .br v ks,h,y :: t,u,e=>by
  have e:Bb (ks y.toNat) t=some u:=e;have A:(ks y.toNat).isNil=false:=by
   cases hb:(ks y.toNat).isNil with
   | false=>rfl
   | true=>rw[Py hb]at e;cases e
  intro x q;rcases bT.1 q with rfl | q
  ·exact h.1 _ A
  ·exact JM (ks y.toNat) (h.2.1 _ A) t u e x q
theorem jtt(h:Eu f l){P:PA}(hP:P=.no\/Dd P)(hg:∀ p:vB,Dz p=true->Bb P p.data.toList=Fk l p):P=Da (f+1) l:=by
 by_cases h0:l.length=0
 ·rw[Th _ h0];rcases hP with e | A;{exact e};exfalso;obtain⟨p,v,e⟩:=DS P A;have q:=JM P A p v e;have:=hg ⟨p.toArray⟩ (Yj.2 (by simpa using q));(rw[bH h0]at this;have K:Bb P (⟨p.toArray⟩:vB).data.toList=some v:=by simpa using e);rw[K]at this;cases this
 ·have O:l≠[]:=fun e=>h0 (by rw[e];rfl);obtain⟨A,_⟩:=lT f l h O;rcases hP with rfl | hP;{exfalso;obtain⟨p,v,e⟩:=DS _ A;(have q:=JM _ A p v e;have H:=TW f l h ⟨p.toArray⟩ (Yj.2 (by simpa using q));have K:Bb (Da (f+1) l) (⟨p.toArray⟩:vB).data.toList=some v:=by simpa using e);have J:=hg ⟨p.toArray⟩ (Yj.2 (by simpa using q));rw[K]at H;rw[<-H]at J;cases J};refine uniq P _ hP A fun p=>?_;by_cases q:∀ x∈p,x.toNat < 16;{have H:=TW f l h ⟨p.toArray⟩ (Yj.2 (by simpa using q));(have J:=hg ⟨p.toArray⟩ (Yj.2 (by simpa using q));have e:(⟨p.toArray⟩:vB).data.toList=p:=by simp);rw[e]at H J;rw[H,J]};(have g:∀ Q:PA,Dd Q->Bb Q p=none:=by intro Q X;cases e:Bb Q p with| none=>rfl| some v=>exact absurd (JM Q X p v e) q);rw[g P hP,g _ A]
noncomputable def Om(n:Ai):vB:=@ite _ (∃ d,Gi (Bs d) n) (Classical.propDecidable _) (Cr n) ⟨#[]⟩
theorem TF{n:Ai}(h:Gi (Bs d) n):Om n=Cr n:=if_pos ⟨d,h⟩
theorem jyE{n:Ai}(h:¬ ∃ d,Gi (Bs d) n):Om n=⟨#[]⟩:=if_neg h
noncomputable def Bc:PA->vB
 | .nil=>⟨#[]⟩
 | .no=>Om Db
 | .leaf q v=>Om ⟨1,q,v,Cv 16⟩
 | .ext q n=>Om ⟨2,q,⟨#[]⟩,Ba (Bc n) :: Cv 15⟩
 | .br v ks=>Om ⟨3,⟨#[]⟩,v,(List.range 16).map fun i=>if (ks i).isNil then ⟨#[]⟩else Ba (Bc (ks i))⟩
noncomputable def Ge:PA->Ai
 | .nil=>Db
 | .no=>Db
 | .leaf q v=>⟨1,q,v,Cv 16⟩
 | .ext q n=>⟨2,q,⟨#[]⟩,Ba (Bc n) :: Cv 15⟩
 | .br v ks=>⟨3,⟨#[]⟩,v,(List.range 16).map fun i=>if (ks i).isNil then ⟨#[]⟩else Ba (Bc (ks i))⟩
noncomputable def Bu:PA->vM
 | .nil=>[]
 | .no=>[]
 | .leaf _ _=>[]
 | .ext _ n=>Iq (Bc n)++Bu n
 | .br _ ks=>(List.range 16).flatMap fun i=>if (ks i).isNil then []else Iq (Bc (ks i))++Bu (ks i)
theorem kD{P:PA}(h:P.isNil=false):Bc P=Om (Ge P):=by cases P <;> first | rfl | cases h
theorem FD:(Da (f+1) l).isNil=false:=by
 rw[JA];split
 ·rfl
 ·split;{rfl};split <;> rfl
theorem SU{α:Type}(g:α->List PT):∀ L:List α,Ej (L.flatMap g)=L.flatMap fun i=>Ej (g i)
 | []=>rfl
 | x :: L=>by rw[dN,LU,SU g L];rfl
theorem MQ:∀ (f:Nat) (l:vL),Eu f l->Ge (Da (f+1) l)=Bm (An f) l/\Bc (Da (f+1) l)=(An (f+1) l).text/\Bu (Da (f+1) l)=Ej (Cu (An f) l):=by
 intro f;have q:∀ (f:Nat) (l:vL),Eu f l->Ge (Da (f+1) l)=Bm (An f) l->Bc (Da (f+1) l)=(An (f+1) l).text:=by intro f l hr h;rw[kD FD,h,TF (good f l hr).1];rfl
 induction f with
 | zero =>intro l h;have hl:=Wi h;by_cases h0:l.length=0;{(have e:Ge (Da (0+1) l)=Bm (An 0) l:=by rw[Th _ h0];unfold Bm;rw[if_pos h0];rfl);exact⟨e,q 0 l h e,by rw[Th _ h0];unfold Cu;rw[if_pos vO];rfl⟩};have A:l.length=1:=vO;(have e:Ge (Da (0+1) l)=Bm (An 0) l:=by rw[Um _ A];unfold Bm;rw[if_neg h0,if_pos A];rfl);exact⟨e,q 0 l h e,by rw[Um _ A];unfold Cu;rw[if_pos vO];rfl⟩
 | succ f ih =>(intro l h;have J:∀ m,Eu f m->m≠[]->Iq (Bc (Da (f+1) m))++Bu (Da (f+1) m)=Ej (Hx (An (f+1) m)):=by intro m hm X;obtain⟨_,i2,i3⟩:=ih m hm;have Z:=(good f m hm).2.1 X;rw[i2,i3];unfold Iq Hx;by_cases hz:(An (f+1) m).text.size < 32;{rw[if_pos hz,if_pos hz];have e:(An (f+1) m).kids=[]:=Z.small hz;have e:Cu (An f) m=[]:=e;rw[e];rfl};rw[if_neg hz,if_neg hz];show _=Bz (An (f+1) m)++[];rw[cB];rfl);by_cases h0:l.length=0;{(have e:Ge (Da (f+1+1) l)=Bm (An (f+1)) l:=by rw[Th _ h0];unfold Bm;rw[if_pos h0];rfl);exact⟨e,q _ l h e,by rw[Th _ h0];unfold Cu;rw[if_pos vO];rfl⟩};by_cases A:l.length=1;{(have e:Ge (Da (f+1+1) l)=Bm (An (f+1)) l:=by rw[Um _ A];unfold Bm;rw[if_neg h0,if_pos A];rfl);exact⟨e,q _ l h e,by rw[Um _ A];unfold Cu;rw[if_pos vO];rfl⟩};have K:2<=l.length:=vO;by_cases hk:0 < Aj l;{obtain⟨H,O,_,_⟩:=DZ h K hk;(have e:Ge (Da (f+1+1) l)=Bm (An (f+1)) l:=by rw[AU _ K hk];unfold Bm;rw[if_neg h0,if_neg A,if_pos hk];show (⟨2,_,⟨#[]⟩,Ba (Bc (Da (f+1) (Az (Aj l) l))) :: Cv 15⟩:Ai)=_;rw[(ih _ H).2.1]);refine⟨e,q _ l h e,?_⟩;rw[AU _ K hk];unfold Cu;rw[if_neg vO,if_pos hk];exact J _ H O};(have e:Ge (Da (f+1+1) l)=Bm (An (f+1)) l:=by rw[AZ _ K hk];unfold Bm;rw[if_neg h0,if_neg A,if_neg hk];show (⟨3,⟨#[]⟩,_,(List.range 16).map _⟩:Ai)=⟨3,⟨#[]⟩,_,(List.range 16).map _⟩;congr 1;refine cZ fun i _=>?_;show (if (if (Ah i l).length=0 then PA.nil else Da (f+1) (Az 1 (Ah i l))).isNil=true then _ else Ba (Bc (if (Ah i l).length=0 then PA.nil else Da (f+1) (Az 1 (Ah i l)))))=_;by_cases hc:(Ah i l).length=0;{rw[if_pos hc,if_pos hc];rfl};obtain⟨H,O⟩:=BF h hc;rw[if_neg hc,if_neg hc,FD,if_neg ff,(ih _ H).2.1]);refine⟨e,q _ l h e,?_⟩;(have eB:Cu (An (f+1)) l=(List.range 16).flatMap fun i=>if (Ah i l).length=0 then []else Hx (An (f+1) (Az 1 (Ah i l))):=by unfold Cu;rw[if_neg vO,if_neg hk]);rw[AZ _ K hk,eB,SU];show (List.range 16).flatMap _=_;congr 1;funext i;show (if (if (Ah i l).length=0 then PA.nil else Da (f+1) (Az 1 (Ah i l))).isNil=true then _ else Iq (Bc (if (Ah i l).length=0 then PA.nil else Da (f+1) (Az 1 (Ah i l))))++Bu (if (Ah i l).length=0 then PA.nil else Da (f+1) (Az 1 (Ah i l))))=_;by_cases hc:(Ah i l).length=0;{rw[if_pos hc,if_pos hc];rfl};obtain⟨H,O⟩:=BF h hc;rw[if_neg hc,if_neg hc,FD,if_neg ff];exact J _ H O
def Iv(p v:vB):vL:=if Mf p=true then [(Iz p,v)]else []
def Ii:PA->vB->vL
 | .nil,_=>[]
 | .no,_=>[]
 | .leaf q v,p=>Iv (p++q) v
 | .ext q n,p=>Ii n (p++q)
 | .br v ks,p=>(if v.size=0 then []else Iv p v)++(List.range 16).flatMap fun i=>if (ks i).isNil then []else Ii (ks i) (p++Ee i)
theorem eV(p a:vB)(k:Nat)(l:vL)(h:∀ q∈l,p++q.1=(p++a)++q.1.extract k q.1.size):(Az k l).map (fun q=>(Iz ((p++a)++q.1),q.2))=l.map fun q=>(Iz (p++q.1),q.2):=by
 unfold Az;rw[dA];refine cZ fun q e=>?_;show (Iz ((p++a)++q.1.extract k q.1.size),q.2)=_;rw[<-h q e]
theorem jtr:∀ (f:Nat) (l:vL),Eu f l->∀ p:vB,(∀ q∈l,Mf (p++q.1)=true)->Ii (Da (f+1) l) p=l.map fun q=>(Iz (p++q.1),q.2):=by
 intro f;induction f with
 | zero =>intro l h p J;have hl:=Wi h;by_cases h0:l.length=0;{rw[Th _ h0,bH h0];rfl};have K:l.length=1:=vO;rw[Um _ K];obtain⟨q,rfl⟩:=fR.1 K;show Iv (p++q.1) q.2=[(Iz (p++q.1),q.2)];unfold Iv;rw[if_pos (J q bO)]
 | succ f ih =>intro l h p J;by_cases h0:l.length=0;{rw[Th _ h0,bH h0];rfl};by_cases K:l.length=1;{rw[Um _ K];obtain⟨q,rfl⟩:=fR.1 K;show Iv (p++q.1) q.2=[(Iz (p++q.1),q.2)];unfold Iv;rw[if_pos (J q bO)]};have h2:2<=l.length:=vO;by_cases hk:0 < Aj l;{obtain⟨k1,k2,_,_⟩:=DZ h h2 hk;have O:=Rh h h2;rw[AU _ h2 hk];show Ii (Da (f+1) (Az (Aj l) l)) (p++(l.getD 0 pd).1.extract 0 (Aj l))=_;have A:∀ q∈l,p++q.1=(p++(l.getD 0 pd).1.extract 0 (Aj l))++q.1.extract (Aj l) q.1.size:=fun q H=>jxw (by rw[(O q H).1,TL]);rw[ih _ k1 _ (fun q H=>?_),eV p _ _ l A];obtain⟨r,X,rfl⟩:=bC.1 H;show Mf ((p++(l.getD 0 pd).1.extract 0 (Aj l))++r.1.extract (Aj l) r.1.size)=true;rw[<-A r X];exact J r X};rw[AZ _ h2 hk];(have a0:l≠[]:=fun e=>h0 (by rw[e];rfl);have a1:=jqF h;have a2:=V_ h a0;have e1:(if (if (l.getD 0 pd).1.size=0 then (l.getD 0 pd).2 else ⟨#[]⟩:vB).size=0 then []else Iv p (if (l.getD 0 pd).1.size=0 then (l.getD 0 pd).2 else ⟨#[]⟩))=(WJ l).map fun q=>(Iz (p++q.1),q.2):=by rw[a2];by_cases hz:(l.getD 0 pd).1.size=0;{have hm:=CJ (l:=l) vO;(have hs:=h.size _ hm;rw[if_pos hz,if_pos hz,if_neg vO];have e0:p++(l.getD 0 pd).1=p:=by rw[Og hz];exact Rg (by rw[CV];simp));show Iv p _=[(Iz (p++(l.getD 0 pd).1),(l.getD 0 pd).2)];have Z:=J _ hm;rw[e0]at Z ⊢;unfold Iv;rw[if_pos Z]};rw[if_neg hz,if_neg hz];rfl);show (if (if (l.getD 0 pd).1.size=0 then (l.getD 0 pd).2 else ⟨#[]⟩:vB).size=0 then []else Iv p (if (l.getD 0 pd).1.size=0 then (l.getD 0 pd).2 else ⟨#[]⟩))++(List.range 16).flatMap _=l.map _;rw[e1];(conv=>rhs;rw[a1]);rw[bW,List.map_flatMap];congr 1;congr 1;funext i;show (if (if (Ah i l).length=0 then PA.nil else Da (f+1) (Az 1 (Ah i l))).isNil=true then []else Ii (if (Ah i l).length=0 then PA.nil else Da (f+1) (Az 1 (Ah i l))) (p++Ee i))=_;by_cases hc:(Ah i l).length=0;{rw[if_pos hc,bH hc];rfl};obtain⟨k1,k2⟩:=BF h hc;(rw[if_neg hc,FD,if_neg ff];have A:∀ q∈Ah i l,p++q.1=(p++Ee i)++q.1.extract 1 q.1.size:=fun q H=>by obtain⟨_,a,r,e,ha⟩:=Ul H;exact jxv (k:=0) e ha);rw[ih _ k1 _ (fun q H=>?_),eV p _ _ _ A];obtain⟨r,X,rfl⟩:=bC.1 H;show Mf ((p++Ee i)++r.1.extract 1 r.1.size)=true;rw[<-A r X];exact J r (Ul X).1
section
attribute [local go_sem] Oper.semAt_some
theorem zQ{m:Nat}{a:Act}{o:Oper}(ho:execOp a.eval o=(do pure (.value (<-convert 84 9 (.slice (some w2) 1 1)))))
  (h:Ad F (w2.alloc (.cells #[.int .u8 (m:Int)] 5)) w3) (hF:¬ F w2) (hm:m < 16):(execOp a.eval o).run Tryz.prog w3=.ok (.value (Ee m)) w3:=by
 have q:=(Ae.new w2 (.cells #[.int .u8 (m:Int)] 5)).keeps h hF;have e:(m:Int)=((UInt8.ofNat m).toNat:Int):=by rw[GZ m vO]
 have A:w3.ownsRow 0 5 1 (.slice (some w2) 1 1) 1 (Ei [UInt8.ofNat m]):=⟨rfl,.inr ⟨_,1,_,rfl,cE _,q,bP _,by unfold maxLen;omega,rfl,by rw[e];rfl⟩⟩
 have H:=BT w3 Bg Ch Ag A;rw[ho,bQ,H];rfl
end
abbrev El:=vN
abbrev Gp:=Ce El
def Xo(x:Gp):El × vV:=(x.1,x.2.1)
def Yb(m:List (El × vV))(k:El):Option vV:=(m.find? fun x=>decide (k=x.1)).map (·.2)
def Uu:List (El × vV)->El->vV->List (El × vV)
 | [],k,v=>[(k,v)]
 | x :: r,k,v=>if k=x.1 then (k,v) :: r else x :: Uu r k v
def Sq:List (El × vV)->El->List (El × vV)
 | [],_=>[]
 | x :: r,k=>if k=x.1 then r else x :: Sq r k
structure Ia(es:List Gp)(ck:Nat)(m:List (El × Value)):Prop where
 same:es.map Xo=m
 born:(es.map (·.2.2)).Nodup
 lt:∀ x∈es,x.2.2 < ck
 keys:(m.map (·.1)).Nodup
theorem Ia.nil(ck:Nat):Ia [] ck []:=⟨rfl,by simp,by simp,by simp⟩
theorem Ia.len{es:List Gp}{m:List (El × vV)}(h:Ia es ck m):es.length=m.length:=by rw[<-h.same];simp
theorem rL(k:El):∀ es:List Gp,Dr es k=Yb (es.map Xo) k
 | []=>rfl
 | x :: r=>by
  have e:=rL k r;unfold Yb Dr at *;rw[bN,fL,fL]
  by_cases h:k=x.1
  ·simp[h,Xo]
  ·simp[h,Xo]at e ⊢;exact e
theorem Ia.get{es:List Gp}{m:List (El × vV)}(h:Ia es ck m)(k:El):Dr es k=Yb m k:=by rw[rL,h.same]
theorem WR(k:El)(v:vV)(n:Nat):∀ es:List Gp,(Iy es k v n).map Xo=Uu (es.map Xo) k v
 | []=>rfl
 | x :: r=>by
  unfold Iy;rw[bN,Uu]
  by_cases h:k=x.1
  ·rw[if_pos h,if_pos (show k=(Xo x).1 from h),bN];rfl
  ·rw[if_neg h,if_neg (show ¬ k=(Xo x).1 from h),bN,WR k v n r]
theorem sH(k:El):∀ es:List Gp,(Jr es k).map Xo=Sq (es.map Xo) k
 | []=>rfl
 | x :: r=>by
  unfold Jr;rw[bN,Sq]
  by_cases h:k=x.1
  ·rw[if_pos h,if_pos (show k=(Xo x).1 from h)]
  ·rw[if_neg h,if_neg (show ¬ k=(Xo x).1 from h),bN,sH k r]
theorem jL(x:Gp)(r:List Gp)(k:El):Dr (x :: r) k=if k=x.1 then some x.2.1 else Dr r k:=by
 by_cases h:k=x.1 <;> simp[Dr,h]
theorem kY(k:El)(v:vV)(n:Nat):∀ es:List Gp,(Iy es k v n).map (·.2.2)=if (Dr es k).isSome then es.map (·.2.2)else es.map (·.2.2)++[n]
 | []=>rfl
 | x :: r=>by
  unfold Iy;rw[jL]
  by_cases h:k=x.1
  ·rw[if_pos h,if_pos h];simp
  ·rw[if_neg h,if_neg h,bN,kY k v n r]
   cases (Dr r k).isSome <;> simp
theorem lA(k:El)(v:vV):∀ m:List (El × vV),(Uu m k v).map (·.1)=if k∈m.map (·.1)then m.map (·.1)else m.map (·.1)++[k]
 | []=>rfl
 | x :: r=>by
  rw[Uu]
  by_cases h:k=x.1
  ·rw[if_pos h,if_pos (by simp[h])];simp[h]
  ·rw[if_neg h,bN,lA k v r]
   by_cases h2:k∈r.map (·.1)
   ·rw[if_pos h2,if_pos (by rw[bN];exact bM _ h2)];rfl
   ·rw[if_neg h2,if_neg (by rw[bN,bT];exact fun e=>e.elim h h2)];rfl
theorem Ia.put{es:List Gp}{m:List (El × vV)}(h:Ia es ck m)(k:El)(v:vV):Ia (Iy es k v ck) (if (Dr es k).isSome then ck else ck+1) (Uu m k v):=by
 have hb:=kY k v ck es
 refine⟨by rw[WR,h.same],?_,?_,?_⟩
 ·rw[hb];split;{exact h.born};rw[dS];refine⟨h.born,by simp,fun a A b hb e=>?_⟩;obtain⟨x,H,K⟩:=bC.1 A;have:=h.lt x H;simp at hb;omega
 ·intro x H;have q:x.2.2∈(Iy es k v ck).map (·.2.2):=bC.2 ⟨x,H,rfl⟩;rw[hb]at q;split at q;{rename_i hs;rw[if_pos hs];obtain⟨y,J,e⟩:=bC.1 q;rw[<-e];exact h.lt y J};rename_i hs;rw[if_neg hs];rcases bR.1 q with q | q;{obtain⟨y,J,e⟩:=bC.1 q;have:=h.lt y J;omega};simp at q;omega
 ·rw[lA];split;{exact h.keys};rename_i hn;rw[dS];exact⟨h.keys,by simp,fun a A b hb e=>by simp at hb;subst hb;subst e;exact hn A⟩
theorem nA(k:El):∀ es:List Gp,(Jr es k).Sublist es
 | []=>List.Sublist.refl _
 | x :: r=>by
  unfold Jr;split
  ·exact iA _ _
  ·exact (nA k r).cons_cons _
theorem nC(k:El):∀ m:List (El × vV),(Sq m k).Sublist m
 | []=>List.Sublist.refl _
 | x :: r=>by
  unfold Sq;split
  ·exact iA _ _
  ·exact (nC k r).cons_cons _
theorem Ia.del{es:List Gp}{m:List (El × vV)}(h:Ia es ck m)(k:El):Ia (Jr es k) ck (Sq m k):=by
 have e:=nA k es
 exact⟨by rw[sH,h.same],h.born.sublist (e.map _),fun x q=>h.lt x (e.subset q),h.keys.sublist ((nC k m).map _)⟩
structure It where
 text:vB
 refs:vM
 used:Int
 held:Int
abbrev Gd:=El × Nat × It
abbrev vT:=List Gd
theorem Es:Tryz.prog.underlying 130=some (.map 9 140):=vY
theorem Sn(w:vW):(zeroValue 140).run Tryz.prog w=.ok (.pointer none) w:=vY
structure Xk(W:World)(b:Nat)(it:It):Prop where
 cells:∃ rv,Ae W b (.cells #[it.text,rv,.int .i64 it.used,.int .i64 it.held] 142)/\W.ownsRow 0 9 1 rv it.refs.length (it.refs.map Value.string)
def Qa(W:vW)(F:Bf):Prop:=∀ b cur fz,F b->¬ Ae W b (.cells cur 9 fz)
theorem Qa.none(W:vW):Qa W (fun _=>False):=fun _ _ _ h=>h.elim
theorem AO{xs:List vV}(h:W.ownsRow 0 9 1 v n xs)(k:Ad F W W')(hF:Qa W F):W'.ownsRow 0 9 1 v n xs:=by
 refine Kq h k fun b hb H=>?_
 obtain⟨_,⟨q,_⟩ |⟨g,J,A,q,_,K,_⟩⟩:=h
 ·rw[q]at hb;cases hb
 ·rw[q]at hb;have e:some g=some b:=hb;obtain rfl:=bV e;exact hF g A (0,0) H K
theorem Xk.keeps{it:It}(h:Xk W b it)(k:Ad F W W')(hb:¬ F b)(hF:Qa W F):Xk W' b it:=by
 obtain⟨e,q,A⟩:=h.cells
 exact⟨e,q.keeps k hb,AO A k hF⟩
theorem Xk.lt{it:It}(h:Xk W b it):b < W.heap.size:=by obtain⟨q,e,_⟩:=h.cells;exact e.lt
def Vj(x:Gd):El × vV:=(x.1,.pointer (some x.2.1))
structure Ln(W:World)(bm:Nat)(L:vT):Prop where
 mp:∃ es ck,Ae W bm (.map (Al.arr es) ck)/\Ia es ck (L.map Vj)
 blks:(L.map (·.2.1)).Nodup
 items:∀ x∈L,Xk W x.2.1 x.2.2
theorem Ln.keeps{L:vT}(h:Ln W bm L)(k:Ad F W W')(hm:¬ F bm)(hL:∀ x∈L,¬ F x.2.1)(hF:Qa W F):Ln W' bm L:=by
 obtain⟨q,A,H,J⟩:=h.mp
 exact⟨⟨q,A,H.keeps k hm,J⟩,h.blks,fun x e=>(h.items x e).keeps k (hL x e) hF⟩
theorem Ln.ext{L:vT}(h:Ln W bm L)(k:Af W W'):Ln W' bm L:=h.keeps k kI (fun _ _ h=>h) (Qa.none W)
def Be(L:vT)(k:El):Option Gd:=L.find? fun x=>decide (k=x.1)
theorem WK(k:El):∀ L:vT,Yb (L.map Vj) k=(Be L k).map fun x=>.pointer (some x.2.1)
 | []=>rfl
 | x :: r=>by
  have e:=WK k r;unfold Yb Be at *;rw[bN,fL,fL]
  by_cases h:k=x.1
  ·simp[h,Vj]
  ·simp[h,Vj]at e ⊢;exact e
theorem Fa{L:vT}{k:El}{x:Gd}(h:Be L k=some x):x∈L/\x.1=k:=by
 unfold Be at h;have e:=List.find?_some h
 exact⟨List.mem_of_find?_eq_some h,(of_decide_eq_true e).symm⟩
def Hk(o:Option Gd):vV:=match o with | some x=>.pointer (some x.2.1) | none=>.pointer none
theorem Ln.look{L:vT}(h:Ln W bm L)(k:vB)(ok:Bool):(Instr.lookup 130 (.map (some bm)) k ok).run Tryz.prog W=.ok (if ok then .tuple #[Hk (Be L k.data.toList),.bool (Be L k.data.toList).isSome]else Hk (Be L k.data.toList)) W:=by
 obtain⟨A,H,e,q⟩:=h.mp
 have:=Xd Al Es e (Sn W) k.data.toList ok
 rw[q.get,WK]at this;cases ha:Be L k.data.toList with
 | none=>rw[ha]at this;exact this
 | some x=>rw[ha]at this;exact this
structure Ev(W:World)(s bm:Nat)(room:Int)(L:vT):Prop where
 st:Ae W s (.cells #[.int .i64 room,.map (some bm)] 132)
 mp:Ln W bm L
theorem Ev.ext{s:Nat}{room:Int}{L:vT}(h:Ev W s bm room L)(k:Af W W'):Ev W' s bm room L:=⟨h.st.keeps k kI,h.mp.ext k⟩
theorem BG(w:vW)(s bm:Nat)(room:Int)(L:vT)(k:vB)(h:Ev w s bm room L):vR 97 #[s,k] w (Dg ((Be L k.data.toList).map (·.2.2.text))):=by
 have H:=h.st.cell (i:=1) (v:=.map (some bm)) vF;have e:=h.mp.look k true;have A:=Hd h.mp.items;simp only[if_true]at e;clear h;cases ha:Be L k.data.toList with
 | none =>(rw[ha]at e;unfold Hk at e;simp only[Option.isSome]at e;clear ha;unfold vR vQ;go_in;go_wp2_with fail);go_ret2;exact⟨rfl,Aa w⟩
 | some x =>rw[ha]at e;obtain⟨J,q,_⟩:=(A.o x (Fa ha).1).cells;(have K:=q.cell (i:=0) (v:=.string x.2.2.text) vF;unfold Hk at e;simp only[Option.isSome]at e;clear ha q;unfold vR vQ;go_in;go_wp2_with fail);go_ret2;exact⟨rfl,Aa w⟩
def Xn(o:Option Gd):Int:=match o with | some x=>x.2.2.held | none=>0
def OQ(o:Option Gd):Int:=match o with | some x=>x.2.2.used+x.2.2.held | none=>0
section
attribute [local go_sem] Oper.semAt_some
theorem Jc:(Tryz.prog.info? 9).map (fun i=>(i.zero,i.size,i.bytes))=some (some (.string ⟨#[]⟩),1,16):=vY
theorem Ia.lenL{es:List Gp}{L:vT}(h:Ia es ck (L.map Vj)):es.length=L.length:=by rw[h.len];simp
theorem jyY(w:vW)(s bm:Nat)(room:Int)(L:vT)(h:Ev w s bm room L)(h0:0<=room)(e:room<=9223372036854775807)(hl:L.length<=1000000):vR 67 #[s] w (.int .i64 (room - L.length)):=by
 have Z:=Hd (h.st.cell (i:=1) (v:=.map (some bm)) vF);have Q0:=Hd (h.st.cell (i:=0) (v:=.int .i64 room) vF)
 obtain⟨K,ck,O,q⟩:=h.mp.mp
 have HM:=Hd O
 obtain⟨n,H⟩:=vE L.length
 have A:K.length=n:=by rw[q.lenL,H]
 have J:=Hd A;rw[<-H]at hl ⊢;clear h O q A H;unfold vR vQ;go_in;go_wp2_with fail
 refine Ij [0,1,2,3,4,5,6,7,8,9,10] Af Aa Aq vY vY vY ?_
 refine vK ?_
 refine Lo _ s rfl (fun w1 _=>by kernel_rfl) (vS ?_)
 refine vK ?_
 refine Dc s _ rfl (fun w1 e=>Bq Tryz.underlying3 rfl (Am Q0.o ((Ap _).trans e))) (vS ?_)
 refine vK ?_
 refine Lo _ s rfl (fun w1 _=>by kernel_rfl) (vS ?_)
 refine vK ?_
 refine Dc ⟨s,1,none⟩ _ rfl (fun w1 e=>Bq Tryz.underlying130 rfl (Am Z.o ((Ap _).trans e))) (vS ?_);refine Lo _ (.int .i64 K.length) rfl (fun w1 e=>by have hx:=SF Al Es (HM.o.keeps ((Ap _).trans e) kI) 3;simp[execOp,Act.eval,resolve,invoke,builtin,hx,bQ,Result.andThen,cU]) ?_
 refine vS ?_;rw[J.o];iterate 2 refine vK ?_
 refine Hv (fun w3 X=>?_);have HE:=Hd ((Ap _).trans X);clear X;go_wp2_with fail
 go_ret
 exact⟨rfl,HE.o⟩
theorem Jd(W:vW):(Instr.makeMap 130 none).run Tryz.prog W=.ok (.map (some W.heap.size)) (W.alloc (.map #[] 0)):=vY
theorem uB(w:vW)(room:Int):vQ 26 #[.int .i64 room] w fun e w'=>∃ s bm,e=.returned (.pointer (some ⟨s,0,none⟩))/\Af w w'/\Ev w' s bm (max room 0) []/\w.heap.size<=bm/\w.heap.size<=s/\s≠bm:=by
 have q:=Jd;unfold vQ;go_in;go_wp2_with fail
 go_ret
 refine⟨_,_,rfl,((Aa w).alloc _).alloc _,⟨?_,⟨[],0,?_,Ia.nil 0⟩,by simp,fun x A=>by cases A⟩,bP _,Nat.le_succ _,by omega⟩
 ·exact (by simpa using Ae.new (w.alloc (.map #[] 0)) (.cells #[.int .i64 (max room 0),.map (some w.heap.size)] 132))
 ·exact (Ae.new w (.map #[] 0)).alloc _
def ID(v:vV):Nat:=match v with | .slice _ n _=>n | _=>0
def BN(s:List Gp):Array Nat:=(s.map (·.2.2)).toArray
def Yy(s:List Gp):List vV:=(s.map (·.1)).map encStr
structure IK(w:World)(r bm ck:Nat)(es s:List Gp)(v:Value)(W:World):Prop where
 row:Av 9 1 w W v s.length (Yy s)
 it:Ae W r (.mapIter (some bm) ck (BN s) ck)
 sub:∀ x∈s,x∈es
 nd:(s.map (·.2.2)).Nodup
 ne:∀ b,v.ownBlock=some b->b≠r
theorem JZ{α β:Type}(f:α->β):∀ {l:List α},(l.map f).Nodup->l.Nodup
 | [],_=>List.nodup_nil
 | x :: r,h=>by
  rw[bN,dF]at h;exact dF.2 ⟨fun e=>h.1 (bC.2 ⟨x,e,rfl⟩),JZ f h.2⟩
theorem IK.len{r:Nat}{es s:List Gp}(h:IK w r bm ck es s v W):s.length<=es.length:=
 iI (JZ _ h.nd) (fun x e=>h.sub x e)
theorem IK.done{r:Nat}{es s:List Gp}(h:IK w r bm ck es s v W)(h0:Fl es (BN s)=[])(hb:(es.map (·.2.2)).Nodup):s.Perm es:=by
 refine (List.perm_ext_iff_of_nodup (JZ _ h.nd) (JZ _ hb)).2 fun x=>⟨fun q=>h.sub x q,fun q=>?_⟩
 by_cases hc:x.2.2∈s.map (·.2.2)
 ·obtain⟨y,A,e⟩:=bC.1 hc;have:y=x:=Pk hb (h.sub y A) q e;exact this ▸ A
 ·have:x∈Fl es (BN s):=cG.2 ⟨q,by unfold BN;simpa using hc⟩;rw[h0]at this;cases this
theorem Ia.keysL{es:List Gp}{L:vT}(h:Ia es ck (L.map Vj)):es.map (·.1)=L.map (·.1):=by
 have:=congrArg (List.map Prod.fst) h.same
 rw[dA,dA]at this;exact this
def yD(w:vW)(r bm ck:Nat)(es:List Gp)(v:vV)(W:vW):Prop:=∃ s,IK w r bm ck es s v W
end
noncomputable def Fq(t:vB):It:=⟨t,Gc (Bo t),0,0⟩
noncomputable def ky(t:vB):El:=(Ak t).data.toList
noncomputable def Ud(m:List (El × It))(t:vB):List (El × It):=if m.any (fun x=>decide (ky t=x.1))then m else m++[(ky t,Fq t)]
noncomputable def Ck(L:vM):List (El × It):=L.foldl Ud []
def Mq(x:Gd):El × It:=(x.1,x.2.2)
theorem DR{L:vT}{k:El}:Be L k=none↔∀ x∈L,k≠x.1:=by
 unfold Be;rw[List.find?_eq_none];simp
theorem jxx{L:vT}{k:El}:(L.map Mq).any (fun x=>decide (k=x.1))=(Be L k).isSome:=by
 rw[List.any_map];unfold Be;rw[List.isSome_find?];rfl
theorem YJ(k:El)(v:vV)(n:Nat):∀ es:List Gp,Dr es k=none->Iy es k v n=es++[(k,v,n)]
 | [],_=>rfl
 | x :: r,h=>by
  rw[jL]at h;unfold Iy
  by_cases hk:k=x.1
  ·rw[if_pos hk]at h;cases h
  ·rw[if_neg hk]at h ⊢
   rw[YJ k v n r h];rfl
theorem Ln.put{L:vT}(h:Ln W bm L)(k:vB)(hk:Be L k.data.toList=none){it:It}(hb:Xk W b it)(hn:∀ x∈L,x.2.1≠b):∃ o,(Instr.mapUpdate 130 (.map (some bm)) k b).run Tryz.prog W=.ok () (W.putObj bm o)/\Ln (W.putObj bm o) bm (L++[(k.data.toList,b,it)]):=by
 obtain⟨es,O,J,X⟩:=h.mp
 have hg:Dr es k.data.toList=none:=by rw[X.get,WK,hk];rfl
 have A:=Ze Al Es J k.data.toList b;have Z:=X.put k.data.toList b;rw[hg]at A Z;simp only[Option.isSome_none,cH,if_false]at A Z;have hK:Ad (fun z=>z=bm) W (W.putObj bm (.map (Al.arr (Iy es k.data.toList b O)) (O+1))):=Ad.onePut W bm _;have hN:Qa W (fun z=>z=bm):=fun z a0 fz e hz=>by have e:z=bm:=e;subst e;have:=J.uniq hz;cases this
 have H:∀ {c:Nat} {i:It},Xk W c i->¬ c=bm:=fun hi e=>by obtain⟨_,K,_⟩:=hi.cells;subst e;have:=J.uniq K;cases this
 refine⟨_,A,⟨_,_,J.put_same _,?_⟩,?_,?_⟩
 ·(have e:Uu (L.map Vj) k.data.toList b=(L++[(k.data.toList,b,it)]).map Vj:=by rw[bW, <-X.same, <-WR,YJ _ _ O _ hg,bW];rfl);rw[<-e];exact Z
 ·rw[bW,dS];exact⟨h.blks,by simp,fun a ha c K e=>by simp at K;subst K;subst e;obtain⟨x,q,e⟩:=bC.1 ha;exact hn x q e⟩
 ·intro x q;rcases bR.1 q with q | q;{exact (h.items x q).keeps hK (H (h.items x q)) hN};simp only[bL]at q;subst q;exact hb.keeps hK (H hb) hN
structure ET(w:World)(bg:Nat)(G:vT)(T:vM)(W:World):Prop where
 ext:Af w W
 at':Ln W bg G
 is:G.map Mq=Ck T
 new:w.heap.size<=bg
 news:∀ x∈G,w.heap.size<=x.2.1
theorem ET.keeps{G:vT}(h:ET w bg G T W)(e:Af W W'):ET w bg G T W':=⟨h.ext.trans e,h.at'.ext e,h.is,h.new,h.news⟩
theorem jqy(h:L[i]?=some t):Ck (L.take (i+1))=Ud (Ck (L.take i)) t:=by
 unfold Ck;rw[cA,h,dX];rfl
section
attribute [local go_sem] Oper.semAt_some
def Cq(S:vT)(M:vM):vM:=(Hb M).filter fun y=>(Be S y.data.toList).isNone
structure Qf(w0:World)(s:Nat)(S:vT)(bg b:Nat)(M:vM)(W:World):Prop where
 ext:Af w0 W
 lo:w0.heap.size<=b
 c3:Ae W b (.cells #[s] 73)
 c5:Ae W (b+1) (.cells #[.map (some bg)] 130)
 c9:Ae W (b+4) (.cells #[.map (some (b+3))] 133)
 tab:∃ es ck,Ae W (b+3) (.map (Al.arr es) ck)/\∀ y:vB,Dr es y.data.toList=Jv (Ez M y)
 var:∃ v n,Ae W (b+2) (.cells #[v] 52)/\W.ownsRow 0 9 1 v n ((Cq S M).map Value.string)/\n<=M.length/\∀ z,v.ownBlock=some z->b+5<=z
theorem Qf.keeps{s:Nat}{S:vT}(h:Qf w0 s S bg b M W)(e:Af W W'):Qf w0 s S bg b M W':=by
 obtain⟨q,A,H,J⟩:=h.tab
 obtain⟨v,n,K,O,X,Z⟩:=h.var
 exact⟨h.ext.trans e,h.lo,h.c3.keeps e kI,h.c5.keeps e kI,h.c9.keeps e kI,⟨q,A,H.keeps e kI,J⟩,v,n,K.keeps e kI,Jy O e,X,Z⟩
theorem nU(S:vT)(M:vM)(x:vB):Cq S (M++[x])=if Ji (Hb M) x=true then Cq S M else if (Be S x.data.toList).isNone then Cq S M++[x]else Cq S M:=by
 unfold Cq;rw[SA];unfold Ih;split
 ·rfl
 ·rw[List.filter_append];split;{rename_i h;rw[gX (by simpa using h)];rfl};rename_i h;rw[gY (by simpa using h)];simp
theorem jrO(M:vM)(x y:vB):Ez (M++[x]) y=Ez M y+(if x.data.toList=y.data.toList then 1 else 0):=by
 unfold Ez;rw[bW,List.count_append,bN,fX,List.count_singleton]
 simp
def Ik(G:vT)(x:vB):vM:=match Be G x.data.toList with | some y=>y.2.2.refs | none=>[]
theorem MS{G:vT}{x:vB}{y:Gd}(h:Be G x.data.toList=some y):Ik G x=y.2.2.refs:=by unfold Ik;rw[h]
theorem hZ(S:vT)(M:vM):(Cq S M).Nodup:=(YE M).sublist jI
theorem DW{S:vT}{x:vB}:x∈Cq S M↔x∈M/\Be S x.data.toList=none:=by
 unfold Cq;rw[cG,Rb];simp
theorem VC{x:vB}(h:x.data.toList=y.data.toList):x=y:=ByteArray.ext (Array.ext' h)
theorem nT(S:vT)(M:vM):∀ T:vM,∃ X,Cq S (M++T)=Cq S M++X
 | []=>⟨[],by simp⟩
 | x :: T=>by
  obtain⟨X,q⟩:=nT S (M++[x]) T
  have e:M++x :: T=M++[x]++T:=by simp
  rw[e,q,nU];split
  ·exact⟨X,rfl⟩
  ·split
   ·exact⟨x :: X,by simp⟩
   ·exact⟨X,rfl⟩
theorem jsX(w0:vW)(s:Nat)(S:vT)(bg:Nat):Qf w0 s S bg w0 [] (((((w0.alloc (.cells #[s] 73)).alloc (.cells #[.map (some bg)] 130)).alloc (.cells #[.slice none 0 0] 52)).alloc (.map #[] 0)).alloc (.cells #[.map (some (w0.heap.size+3))] 133)):=by
 obtain⟨e,K⟩:=vE (w0.alloc (.cells #[s] 73))
 obtain⟨q,O⟩:=vE (e.alloc (.cells #[.map (some bg)] 130))
 obtain⟨A,X⟩:=vE (q.alloc (.cells #[.slice none 0 0] 52))
 obtain⟨H,Z⟩:=vE (A.alloc (.map #[] 0))
 obtain⟨W5,h5⟩:=vE (H.alloc (.cells #[.map (some (w0.heap.size+3))] 133))
 rw[<-K, <-O, <-X, <-Z, <-h5];have z1:e.heap.size=w0.heap.size+1:=by rw[K,bG]
 have z2:q.heap.size=w0.heap.size+2:=by rw[O,bG,z1]
 have z3:A.heap.size=w0.heap.size+3:=by rw[X,bG,z2]
 have z4:H.heap.size=w0.heap.size+4:=by rw[Z,bG,z3]
 have e1:Af w0 e:=by rw[K];exact (Aa w0).alloc _
 have e2:Af e q:=by rw[O];exact (Aa e).alloc _
 have e3:Af q A:=by rw[X];exact (Aa q).alloc _
 have e4:Af A H:=by rw[Z];exact (Aa A).alloc _
 have J:Af H W5:=by rw[h5];exact (Aa H).alloc _
 have b1:=by have:=Ae.new w0 (.cells #[s] 73);rw[<-K]at this;exact this
 have b2:=by have:=Ae.new e (.cells #[.map (some bg)] 130);rw[<-O,z1]at this;exact this
 have b3:=by have:=Ae.new q (.cells #[.slice none 0 0] 52);rw[<-X,z2]at this;exact this
 have b4:=by have:=Ae.new A (.map #[] 0);rw[<-Z,z3]at this;exact this
 have b5:=by have:=Ae.new H (.cells #[.map (some (w0.heap.size+3))] 133);rw[<-h5,z4]at this;exact this
 exact⟨(((e1.trans e2).trans e3).trans e4).trans J,bP _,b1.keeps (((e2.trans e3).trans e4).trans J) kI,b2.keeps ((e3.trans e4).trans J) kI,b5,⟨[],0,b4.keeps J kI,fun y=>rfl⟩,.slice none 0 0,0,b3.keeps (e4.trans J) kI,fE _ _ _ _,bP _,fun z hz=>by cases hz⟩
theorem EC{xs:vM}(h:w.ownsRow 0 9 1 v n (xs.map Value.string)):Ic w v xs:=by
 have A:xs.length=n:=by have:=h.1;simpa using this
 obtain⟨_,⟨rfl,O⟩ |⟨g,e,H,rfl,X,J,K,Z,h7⟩⟩:=id h
 ·exact .inl ⟨none,0,rfl,bH vO⟩
 ·subst A;refine .inr ⟨g,0,e,rfl,(dD.1 J).1,K,fun j x q=>?_⟩;have hj:=(bI.1 q).1;have:=h.cellAt j vO;rw[bX,this,bY,q];rfl
theorem jqx(L:vM)(t:vB):Ck (L++[t])=Ud (Ck L) t:=by unfold Ck;rw[dX];rfl
theorem FN(L:vM):(∀ p∈Ck L,∃ t∈L,p=(ky t,Fq t))/\(∀ t∈L,∃ p∈Ck L,p.1=ky t)/\(Ck L).length<=L.length:=by
 suffices h:∀ (R q:vM),((∀ p∈Ck q,∃ t∈q,p=(ky t,Fq t))/\(∀ t∈q,∃ p∈Ck q,p.1=ky t)/\(Ck q).length<=q.length)->(∀ p∈Ck (q++R),∃ t∈q++R,p=(ky t,Fq t))/\(∀ t∈q++R,∃ p∈Ck (q++R),p.1=ky t)/\(Ck (q++R)).length<=(q++R).length from by have:=h L [] ⟨fun p H=>(by cases H),fun t J=>(by cases J),bP _⟩;simpa using this
 intro R;induction R with
 | nil=>intro q h;simpa using h
 | cons t R ih =>intro q ⟨h1,h2,h3⟩;have:=ih (q++[t]) (by rw[jqx];unfold Ud;split;{rename_i hb;obtain⟨p,H,e⟩:=gR.1 hb;refine⟨fun p H=>by obtain⟨x,A,e⟩:=h1 p H;exact⟨x,bR.2 (.inl A),e⟩,fun x A=>?_,by rw[bK];exact bF h3 (Nat.le_add_right _ _)⟩;rcases bR.1 A with A | A;{exact h2 x A};simp only[bL]at A;subst A;exact⟨p,H,(of_decide_eq_true e).symm⟩};refine⟨fun p H=>?_,fun x A=>?_,by rw[bK,bK];exact Nat.add_le_add_right h3 1⟩;{rcases bR.1 H with H | H;{obtain⟨x,A,e⟩:=h1 p H;exact⟨x,bR.2 (.inl A),e⟩};simp only[bL]at H;subst H;exact⟨t,by simp,rfl⟩};rcases bR.1 A with A | A;{obtain⟨p,H,e⟩:=h2 x A;exact⟨p,bR.2 (.inl H),e⟩};simp only[bL]at A;subst A;exact⟨(ky x,Fq x),by simp,rfl⟩);simpa using this
theorem jN{G:vT}(h:G.map Mq=Ck L)(ht:t∈L):(Be G (Ak t).data.toList).isSome=true:=by
 obtain⟨p,q,e⟩:=(FN L).2.1 t ht
 rw[<-h]at q
 obtain⟨x,A,rfl⟩:=bC.1 q
 cases ha:Be G (Ak t).data.toList with
 | some y=>rfl
 | none=>exact absurd e.symm (DR.1 ha x A)
theorem Xf{G:vT}(h:G.map Mq=Ck L){x:Gd}(hx:x∈G):∃ t∈L,x.1=ky t/\x.2.2=Fq t:=by
 obtain⟨t,q,e⟩:=(FN L).1 (Mq x) (by rw[<-h];exact bC.2 ⟨x,hx,rfl⟩)
 exact⟨t,q,congrArg Prod.fst e,congrArg Prod.snd e⟩
def Jk(f:Nat)(v:Int)(it:It):It:=if f=2 then { it with used:=v }else { it with held:=v }
def Cl(f c:Nat)(v:Int)(x:Gd):Gd:=if x.2.1=c then (x.1,x.2.1,Jk f v x.2.2)else x
theorem jwv(f c:Nat)(v:Int)(L:vT):(L.map (Cl f c v)).map Vj=L.map Vj:=by
 rw[dA];refine cZ (fun x _=>?_);simp only[Function.comp,Cl];split <;> rfl
theorem oG(f c:Nat)(v:Int)(L:vT):(L.map (Cl f c v)).map (·.2.1)=L.map (·.2.1):=by
 rw[dA];refine cZ (fun x _=>?_);simp only[Function.comp,Cl];split <;> rfl
theorem Ln.setF{L:vT}(h:Ln W bm L){c:Nat}{it:It}(hc:Xk W c it)(hf:f=2\/f=3)(v:Int):Ln (W.setCell ⟨c,f,none⟩ (.int .i64 v)) bm (L.map (Cl f c v)):=by
 obtain⟨rv,q,Z⟩:=hc.cells
 have A:Ad (fun z=>z=c) W (W.setCell ⟨c,f,none⟩ (.int .i64 v)):=Ad.oneSet W ⟨c,f,none⟩ _;have hN:Qa W (fun z=>z=c):=fun z a0 fz e hz=>by have e:z=c:=e;subst e;have:=q.uniq hz;injection this with _ H;exact absurd H vI
 obtain⟨es,ck,O,H⟩:=h.mp
 have J:bm≠c:=fun e=>by subst e;have:=O.uniq q;cases this
 refine⟨⟨es,ck,O.keeps A J,by rw[jwv];exact H⟩,by rw[oG];exact h.blks,fun x hx=>?_⟩
 obtain⟨y,hy,rfl⟩:=bC.1 hx
 have X:=h.items y hy;unfold Cl;split
 ·rename_i e;obtain⟨K,hb,hr⟩:=X.cells;rw[e]at hb;refine⟨K,?_,?_⟩;{show Ae _ y.2.1 _;rw[e];rcases hf with rfl | rfl;{exact hb.set_same (i:=2) _};exact hb.set_same (i:=3) _};have:=AO hr A hN;rcases hf with rfl | rfl <;> exact this
 ·rename_i e;exact X.keeps A e hN
end
def Oz(S:vT)(t:vB):Prop:=∃ x,Be S (ky t)=some x/\x.2.2.text=t
structure Ru(S:vT)(l:vL):Prop where
 ok:Dv l=0
 has:∀ x∈Bz (Ds l),Oz S x
def PV(S:vT):Prop:=∀ x∈S,∃ n,Ht x.2.2.text n
section
attribute [local go_sem] Oper.semAt_some
theorem LR{x:vB}(hB:Ae w b (.cells #[x,y] 49)):(loadVar 49 b).run Tryz.prog w=.ok (.agg #[x,y]) w:=by
 have:=TN (b:=b) (o:=0) (hB.cell (i:=0) vF) (hB.cell (i:=1) vF)
 simpa [Instr.loadAt,Instr.sureAddr,bQ,Result.andThen]using this
theorem Vx:Xg (Tryz.prog.underlying 371)=true:=vY
theorem Pv:(Tryz.prog.info? 371).map (·.size)=some 3:=vY
theorem Qg:∀ w,(Instr.alloc 371 true (.tuple #[])).run Tryz.prog w=.ok w (w.alloc (.cells [Value.string ⟨#[]⟩,.string ⟨#[]⟩,.string ⟨#[]⟩].toArray 371)):=fun w=>by kernel_rfl
theorem jyh{o:Nat}{x z:vB}(h1:w.cell? ⟨b,o,none⟩=some (.string x))(h2:w.cell? ⟨b,o+1,none⟩=some (.string y))(h3:w.cell? ⟨b,o+2,none⟩=some (.string z)):(Instr.loadAt 371 (.pointer (some ⟨b,o,none⟩))).run Tryz.prog w=.ok (.agg #[x,y,z]) w:=by
 obtain⟨A,q⟩:=Yd Vx
 refine Yg (xs:=[x,y,z]) q Pv (fun j v e=>?_);rw[Addr.add_lit]
 match j,e with
 | 0,e=>simp at e;subst e;exact h1
 | 1,e=>simp at e;subst e;exact h2
 | 2,e=>simp at e;subst e;exact h3
 | j+3,e=>simp at e
theorem Hf:∀ w,(Instr.alloc 49 true (.tuple #[])).run Tryz.prog w=.ok w (w.alloc (.cells [Value.string ⟨#[]⟩,.string ⟨#[]⟩].toArray 49)):=fun w=>by kernel_rfl
theorem KQ(x y:vB):∀ u∈[Value.string x,y],u.oneCell'=true:=by
 intro u e;simp at e;rcases e with rfl | rfl <;> rfl
theorem jyq(x:vB):(⟨#[]⟩:vB)++x=x:=ByteArray.empty_append
theorem TX(k:vB):Mf (Ci k)=true:=by
 unfold Mf;rw[FE,JT];simp
theorem YQ:∀ l:vN,Rd (Mg l)=l
 | []=>rfl
 | b :: l=>by
  have h:(b >>> 4) <<< 4 |||(b &&& 15)=b:=by
   have h:∀ b:Fin 256,((UInt8.ofNat b.1) >>> 4) <<< 4 |||((UInt8.ofNat b.1) &&& 15)=UInt8.ofNat b.1:=by decide +kernel
   have:=h ⟨b.toNat,b.toNat_lt⟩
   simpa only[iR]using this
  show ((b >>> 4) <<< 4 |||(b &&& 15)) :: Rd (Mg l)=_;rw[h,YQ l]
theorem TC(k:vB):Iz (Ci k)=k:=by
 unfold Iz Ci;show (⟨(Rd (Mg k.data.toList)).toArray⟩:vB)=k;rw[YQ]
end
