/- Lemmas; each is under no condition but those that it states. -/
import Derived.Test.YtegloohdmjadoaaGreatDoorPu33
namespace Go.Proofs.YtegloohdmjadoaaGreatDoor
set_option linter.unusedSimpArgs false
set_option linter.unusedVariables false
set_option maxRecDepth 100000
set_option maxHeartbeats 16000000
open Go Go.RowKit
section
attribute [local go_sem] Oper.semAt_some
noncomputable def rootM(l:vL):vB:=shaB (jaF l).text
theorem jus{l:vL}(h:jaD l=0):entP (ja4 13 (jaM l)) ⟨#[]⟩=l:=by
 have e:∀ q:vB,(⟨#[]⟩:vB)++q=q:=fun q=>jbE (by rw[jln];rfl);rw[jsO 12 _ (jbx (jaG h)) ⟨#[]⟩ (fun q m=>by
  obtain⟨p,o,rfl⟩:=bI.1 m
  rw[e];exact jvb p.1)]
 unfold jaM;rw[dO]
 conv=>rhs;rw[<-List.map_id l]
 refine dV fun p o=>?_;show (jbD (⟨#[]⟩++jbf p.1),p.2)=p;rw[e,jhi]
structure PaM(w w1:World)(l:vL)(T:TypeId)(x:Value):Prop where
 ext:Ext w w1
 pa:PaO (ja4 13 (jaM l)) (.iface T x) (jlg w w1) w1
theorem jss(w:vW)(s bm:Nat)(room:Int)(S:vT)(hs:jaT w s bm room S)(hN:jec S)(l:vL)(h:HasM S l) :
  vQ 43 #[.pointer (some ⟨s,0,none⟩),.string (rootM l)] w fun e w'=>∃ T x,e=.returned (.tuple #[.iface T x,.bool true])/\PaM w w' l T x:=by
 refine (jx1 w s bm room S hs hN (rootM l)).mono ?_;rintro e w' ⟨o,m⟩
 obtain⟨k,A⟩:=js1 w h
 unfold rootM at m;rw[A]at m
 obtain⟨T,x,rfl,E⟩:=m
 exact⟨T,x,rfl,o,E,fun z H=>H.2⟩
theorem jwa(w1 W:vW)(l:vL)(h:jaD l=0)(T:TypeId)(x:vV)(D:Nat->Prop)(hp:PaO (ja4 13 (jaM l)) (.iface T x) D w1)(hE:Ext w1 W) :
  vQ (jf0 (ja4 13 (jaM l))) #[x,.string ⟨#[]⟩,.slice none 0 0] W fun e w'=>∃ v,e=.returned v/\ERow w1 w' v l.length l:=by
 have m:=jbx (jaG h);have A:=jkf (jaG h);refine (jnv _ w1 W T x D ⟨#[]⟩ (.slice none 0 0) 0 12 [] hp (ORow.nil _ _ hE) (jsN 12 _ 12 m m) (by have:(⟨#[]⟩:vB).size=0:=rfl;omega) (by rw[jkg 12 _ m];omega)).mono ?_;rintro e w' ⟨v,n,rfl,o⟩;rw[cM,jus h]at o
 have:=o.len'
 subst this
 exact⟨v,rfl,o⟩
theorem jwh(w:vW)(s bm:Nat)(room:Int)(S:vT)(hs:jaT w s bm room S)(hN:jec S)(l:vL)(h:HasM S l) :
  vQ 19 #[.pointer (some ⟨s,0,none⟩),.string (rootM l)] w fun e w'=>∃ v,e=.returned (.tuple #[v,.int .i64 0])/\ERow w w' v l.length l:=by
 have X:=Hd (jss w s bm room S hs hN l h);have Z:=Hd h.ok
 obtain⟨P,J⟩:=vE (ja4 13 (jaM l))
 have K:=Hd J;have a0:=jeg P;clear hs hN h J;go_enter Tryz.func19,Tryz.ntmps19;go_wp2_with fail
 refine X.o.mono ?_;rintro e w1 ⟨T,x,rfl,A⟩;have O:=Hd A;have m:=A.pa.at'.meth;rw[<-K.o]at m;have a1:∀ w,(Go.method (410+1) T x "guilloche/trie.entries").run Tryz.prog w=.ok (jf0 P,x) w:=m.ent;have Q:=Hd (jwa w1 w1 l Z.o T x _ A.pa (ExtR w1));rw[<-K.o]at Q;clear A m;go_wp2_with fail
 refine Q.o.mono ?_;rintro e w2 ⟨v,rfl,E⟩;have H:=Hd E
 obtain⟨a,c,hv⟩:=E.sl
 subst hv;clear E;go_wp2_with fail
 go_ret2
 exact⟨_,rfl,⟨_,_,rfl⟩,H.o.own,O.o.ext.trans H.o.ext,fun b hb=>bG O.o.ext.size (H.o.new b hb)⟩
end
theorem jfS:∀ (xs:List Chg) (j:Nat) (p:Chg),xs[j]?=some p->(jeT xs)[j * 3]?=some (.string p.key)/\(jeT xs)[j * 3+1]?=some (.string p.value)/\(jeT xs)[j * 3+2]?=some (.bool p.gone)
 | [],j,p,h=>by simp at h
 | x :: r,0,p,h=>by simp at h;subst h;exact⟨rfl,rfl,rfl⟩
 | x :: r,j+1,p,h=>by
  obtain⟨e,m,o⟩:=jfS r j p (by simpa using h)
  rw[show (j+1) * 3=j * 3+3 by omega]
  exact⟨e,m,o⟩
theorem CRow.rdT{w0 w:vW}{v:vV}{n:Nat}{xs:List Chg}(h:CRow w0 w v n xs):RdC w v xs:=by
 have o:xs.length=n:=by have:=h.len;rw[jjw]at this;omega
 obtain⟨_,⟨rfl,Q⟩ |⟨g,e,A,rfl,X,E,H,Z,h7⟩⟩:=h.own
 ·exact .inl ⟨none,0,rfl,bD vO⟩
 ·subst o
  refine .inr ⟨g,0,e,rfl,(dH.1 E).1,H,fun j x m=>?_⟩;have hj:=(bO.1 m).1
  obtain⟨J,K,O⟩:=jfS xs j x m
  exact⟨by rw[cF,h.own.cellAt (j * 3) vO,J],by rw[cF,h.own.cellAt (j * 3+1) vO,K],by rw[cF,h.own.cellAt (j * 3+2) vO,O]⟩
theorem jpN{l m:vL}(h1:l.length<=40)(h2:m.length<=40):(jgZ l m).length<=80:=by
 have e:∀ l m:vL,(jbz l m).length<=l.length+m.length:=fun l m=>by
  fun_induction jbz l m <;> simp only[bP,dD]at * <;> omega
 unfold jgZ;split
 ·have:=e l m;omega
 ·simp
theorem jos{c:Chg}(h:c.bad=false):c.key.size<=6:=by
 unfold Chg.bad at h;have m:jcg c.key=true:=by
  cases e:jcg c.key with
  | true=>rfl
  | false=>rw[e]at h;simp at h
 unfold jcg at m;exact (of_decide_eq_true m).2
structure OkP(P:PA):Prop where
 can:P=.no\/CanP P
 dp:Dp P 12
theorem OkP.va{P:PA}(h:OkP P):VaP P:=by
 rcases h.can with h | h
 ·subst h;trivial
 ·exact jrj P h
theorem OkP.there{P:PA}(h:OkP P):P.isNil=false:=by
 rcases h.can with h | h
 ·subst h;rfl
 ·cases P with
  | nil=>exact h.elim
  | _=>rfl
theorem OkP.dp9{P:PA}(h:OkP P):Dp P 900000:=jcd P 12 _ h.dp vO
theorem OkP.step{P:PA}(h:OkP P){c:Chg}(hc:c.bad=false):OkP (jcn P c):=by
 refine⟨(jtp h.can hc).1,?_⟩
 have e:=jos hc;have m:=jep c.key;unfold jcn;split
 ·exact jin P 12 _ h.dp
 ·exact jof P 12 _ _ h.dp vO
theorem jzs{l:vL}(h:jaD l=0):OkP (ja4 13 (jaM l)):=⟨joU (jbx (jaG h)),jsN 12 _ 12 (jbx (jaG h)) (jbx (jaG h))⟩
noncomputable def lackB(S:vT)(t:vB):Bool:=(atL S (shaB t).data.toList).isNone
noncomputable def freshU(S:vT)(U:vM):vM:=(jaU U).filter (lackB S)
theorem jpW(S:vT)(U:vM)(x:vB):freshU S (U++[x])=freshU S U++(if memB (jaU U) x=true then []else if lackB S x=true then [x]else []):=by
 unfold freshU;rw[jfX];unfold addF
 by_cases h:memB (jaU U) x=true
 ·rw[if_pos h,if_pos h,cC]
 ·rw[if_neg h,if_neg h,gS]
  congr 1
  cases e:lackB S x <;> simp[e]
theorem jlM(S:vT)(U:vM):(freshU S U).length<=U.length:=bG (dE _ _) (jg1 U)
noncomputable def belowM(m:vL):vM:=underP (ja4 13 (jaM m))
theorem jfs{m:vL}(h:jaD m=0):belowM m=jaA (jar (jac 12) (jaM m)):=(jfC 12 _ (jbx (jaG h))).2.2
theorem jx0{m:vL}(h:jaD m=0):textP (ja4 13 (jaM m))=(jaF m).text:=(jfC 12 _ (jbx (jaG h))).2.1
theorem jlr{m:vL}(h:jaD m=0):(belowM m).length<=118:=by
 have e:=jey (ja4 13 (jaM m)) jdC;have o:cntP (ja4 13 (jaM m))=cntT 12 (jaM m):=jkg 12 _ (jbx (jaG h));have A:=jkf (jaG h);unfold belowM;omega
noncomputable def newM(S:vT)(m:vL):vM:=(jaF m).text :: freshU S (belowM m)
def jby(l:vL)(cs:List Chg):vL:=jb2 (jbX l cs)
def UpdP(w:vW)(S:vT)(l:vL)(cs:List Chg)(e:Ending)(w':vW):Prop:=
 if jaY l cs=0 then ∃ r,e=.returned (.tuple #[r,.int .i64 0])/\SRow w w' r (newM S (jby l cs)).length (newM S (jby l cs))else e=.returned (.tuple #[.slice none 0 0,.int .i64 (jaY l cs)])/\Ext w w'
def jyJ(W3:vW)(D0:Nat->Prop)(P0:PA)(ds:List Chg)(pv iv:vV)(wr:vW):Prop:=∃ (k:Nat) (T:TypeId) (x:vV) (D:Nat->Prop),k<=ds.length/\iv=.int .i64 k/\pv=.iface T x/\PaO ((ds.take k).foldl jcn P0) (.iface T x) D wr/\(∀ z,D z->D0 z\/W3.heap.size<=z)/\jae D0 W3 wr
theorem jok{P:PA}(h:OkP P):∀ (ds:List Chg),(∀ c∈ds,c.bad=false)->OkP (ds.foldl jcn P)
 | [],_=>h
 | c :: ds,hc=>jok (h.step (hc c bK)) ds (fun d e=>hc d (bH _ e))
theorem juB{P:PA}(h:OkP P)(ds:List Chg)(hc:ds.any Chg.bad=false)(k:Nat):OkP ((ds.take k).foldl jcn P):=jok h _ fun c m=>by
 have:=List.any_eq_false.1 hc c (gC m)
 cases e:c.bad with
 | false=>rfl
 | true=>exact absurd e this
structure UpB(W7:World)(S:vT)(mb:Nat)(t:vB)(U:vM)(k:Nat)(rv:Value)(wr:World):Prop where
 row:∃ n,SRow W7 wr rv n (t :: freshU S (U.take k))
 out:rv.ownBlock≠some mb
 tab:∃ es ck,Blk wr mb (.map (Tryz.ES.arr es) ck)/\∀ x:vB,ja3 es x.data.toList=cntV (cntB (U.take k) x)
def jyK(W7:vW)(S:vT)(mb:Nat)(t:vB)(U:vM)(rv iv:vV)(wr:vW):Prop:=∃ k:Nat,k<=U.length/\iv=.int .i64 k/\UpB W7 S mb t U k rv wr
theorem jpJ(L:vM)(x y:vB):cntB (L++[x]) y=cntB L y+(if x.data.toList=y.data.toList then 1 else 0):=by
 unfold cntB;rw[bZ,List.count_append,bT,gN,List.count_singleton]
 simp
theorem jnN{α:Type}{l:List α}{k:Nat}{x:α}(h:l[k]?=some x):l.take (k+1)=l.take k++[x]:=by rw[bS,h];rfl
section
attribute [local go_sem] Oper.semAt_some
theorem UpdP.bad{w w':vW}{S:vT}{l:vL}{cs:List Chg}{x:Int}(h:jaY l cs=x)(h0:x≠0)(he:Ext w w'):UpdP w S l cs (.returned (.tuple #[.slice none 0 0,.int .i64 x])) w':=by
 unfold UpdP;rw[h,if_neg h0];exact⟨rfl,he⟩
theorem jx7(w:vW)(hc:jbW w)(he:ErrT w)(s bm:Nat)(room:Int)(S:vT)(hs:jaT w s bm room S)(hN:jec S)(l:vL)(h:HasM S l)(u:vV)(cs:List Chg)(hu:RdC w u cs)(hnc:cs.length<=9223372036854775807)(hsc:∀ c∈cs,c.key.size<=9223372036854775807/\c.value.size<=9223372036854775807) :
  vQ 15 #[.pointer (some ⟨s,0,none⟩),.string (rootM l),u] w (UpdP w S l cs):=by
 have HR:=Hd (jss w s bm room S hs hN l h);have HK:=Hd h.ok;have g3:=Hd (bB hc he);have l0:=Hd hs;have c5:=jaG h.ok;have g4:=Hd (show (l.length<=9223372036854775807)/\∀ p∈l,p.1.size<=9223372036854775807/\p.2.size<=9223372036854775807 from⟨by have:=c5.len;omega,fun p hp=>by have:=c5.size p hp;omega⟩);have f3:=Hd (fun(w2:vW) (v:vV) (hv:RdP w2 v l) (e:Ext w w2)=>jwG w2 v u l cs hv (hu.ext e) g4.o.1 hnc g4.o.2 hsc)
 obtain⟨a,c,m4⟩:=hu.sl
 subst m4
 obtain⟨P,hP⟩:=vE (ja4 13 (jaM l))
 have HP:=Hd hP;have o4:=jeg P;have g5:=Hd (fun(w3:vW) (v:vV) (hv:RdP w3 v l) (e:Ext w w3)=>jnE w3 v l (hc.ext e) hv h.ok);have l1:Hid (shaB (jaF l).text=rootM l):=rfl;rw[l1.o]at g5;clear hs hN h hP hc he c5 hu hsc l1
 obtain⟨rt,l2⟩:=vE (rootM l)
 rw[<-l2]at HR g5 ⊢;clear l2;go_enter Tryz.func15,Tryz.ntmps15;go_wp2_with fail
 refine HR.o.mono ?_;rintro e w1 ⟨T,x,rfl,hM⟩;have HM:=Hd hM;have c6:=hM.pa.at'.meth;rw[<-HP.o]at c6;have m5:∀ w,(Go.method (410+1) T x "guilloche/trie.entries").run Tryz.prog w=.ok (jf0 P,x) w:=c6.ent;have HC:=Hd (jwa w1 w1 l HK.o T x _ hM.pa (ExtR w1));rw[<-HP.o]at HC;clear hM c6;go_wp2_with fail
 refine HC.o.mono ?_;rintro e w2 ⟨v,rfl,h1⟩;have H1:=Hd h1;have i2:=Hd (HM.o.ext.trans h1.ext);have d5:=Hd (bB (HM.o.pa.ext h1.ext) h1.ext.size);rw[<-HP.o]at d5;have HA:=Hd (f3.o w2 v h1.rd i2.o)
 obtain⟨a1,c1,hv⟩:=h1.sl
 subst hv;clear h1 m5 f3 HC;go_wp2_with fail
 refine HA.o.mono ?_;rintro e w3 e0;unfold je0 at e0
 by_cases h0:jaY l cs=0
 case neg =>
  rw[if_neg h0]at e0
  obtain⟨rfl,hE⟩:=e0
  have HX:=Hd (i2.o.trans hE)
  obtain⟨x0,i3⟩:=vE (jaY l cs)
  have m6:=Hd i3.symm;rw[<-i3]at h0 ⊢;clear hE i3;go_wp2_with fail
  go_ret2;exact UpdP.bad m6.o h0 HX.o
 rw[if_pos h0]at e0
 obtain⟨r,rfl,h3⟩:=e0
 have m7:=Hd h0;have g6:=jca h0
 obtain⟨m,hm⟩:=vE (jb2 (jbX l cs))
 rw[<-hm]at h3 g6;have m8:=Hd hm;have b8:=Hd g6;have c5:=jaG g6;have f4:=Hd (show (m.length<=9223372036854775807)/\∀ p∈m,p.1.size<=9223372036854775807/\p.2.size<=9223372036854775807 from⟨by have:=c5.len;omega,fun p hp=>by have:=c5.size p hp;omega⟩);have l3:=Hd (i2.o.trans h3.ext);have f5:=Hd (bB (d5.o.1.ext h3.ext) (bG d5.o.2 h3.ext.size));have HV:=Hd (bB (ERow.rd (H1.o.mono h3.ext)) h3.rd)
 obtain⟨a2,c2,hr⟩:=h3.sl
 subst hr;have l4:=Hd (g5.o w3 _ HV.o.1 l3.o);clear h3 c5 g6 hm h0 HA H1 g5;go_wp2_with fail
 refine l4.o.mono ?_;rintro e w4 ⟨rfl,hE⟩;have m9:=Hd (l3.o.trans hE);have d6:=Hd (bB (f5.o.1.ext hE) (bG f5.o.2 hE.size));have l5:=Hd (jy2 w4 _ _ l m (HV.o.1.ext hE) (HV.o.2.ext hE) g4.o.1 f4.o.1 g4.o.2 f4.o.2);clear hE l4;go_wp2_with fail
 refine l5.o.mono ?_;rintro e w5 ⟨dv,rfl,hd⟩;have HD:=Hd hd;have n0:=Hd (m9.o.trans hd.ext);have k3:=Hd (bB (d6.o.1.ext hd.ext) (bG d6.o.2 hd.ext.size));have i4:=jpO HK.o b8.o;have n1:=jpN (jaG HK.o).len (jaG b8.o).len
 obtain⟨ds,i5⟩:=vE (jgZ l m)
 rw[<-i5]at HD i4 n1;have i6:=Hd i4
 obtain⟨a3,c3,l6⟩:=hd.sl
 rw[<-i5]at l6;subst l6;clear hd i4 i5 l5;have f6:=Hd (jzs HK.o);rw[<-HP.o]at f6;have k4:=Hd HD.o.rdT;go_wp2_with fail
 go_loopw [8,56] (fun pv iv wr=>jyJ w5 (jlg w w1) P ds pv iv wr) (fun _ iv _=>ds.length - (intOf iv).toNat)
 case atStart=>exact⟨0,T,x,jlg w w1,by omega,rfl,rfl,k3.o.1,fun z hz=>.inl hz,(ExtR w5).mono (fun _ _ e=>e.elim)⟩
 case round =>
  obtain⟨k,Tk,xk,D,hk,rfl,rfl,c8,hD,c9⟩:=hrel
  by_cases hlt:k < ds.length
  ·rcases k4.o with⟨_,_,_,hz⟩ |⟨b,o,cd,hh,hb,hcd,hcell⟩
   ·rw[hz]at hlt;cases hlt
   cases hh
   obtain⟨p,hp⟩:∃ p,ds[k]?=some p:=⟨_,bA hlt⟩
   obtain⟨q1,q2,q3⟩:=hcell k p hp
   have g7:¬ jlg w w1 b:=fun e=>by have h1:=HD.o.new b rfl;have h2:=d6.o.2;have h3:=e.2;omega
   have q1:=jan q1 c9 g7;have q2:=jan q2 c9 g7;have q3:=jan q3 c9 g7;have O:p.bad=false:=by
    cases e:p.bad with
    | false=>rfl
    | true=>exact absurd (jqZ hp e) (by rw[i6.o.fine];simp)
   have i7:=jos O;have b1:(k:Int) < (ds.length:Int):=vO
   have b3:=juB f6.o ds i6.o.fine k;have a9:(ds.take (k+1)).foldl jcn P=jcn ((ds.take k).foldl jcn P) p:=by rw[jnN hp,dF];rfl
   obtain⟨Q,hQ⟩:=vE ((ds.take k).foldl jcn P)
   rw[<-hQ]at c8 b3 a9;have d9:=Hd (bB b3 (b3.step O));have c4:=Hd a9;have c6:=c8.at'.meth;have K:=Hd (bB c8 (bB hD c9))
   obtain⟨ky,vl,gn⟩:=p
   simp only at q1 q2 q3 i7;clear hcell hp hb hcd g7 O b3 a9 c8 hD c9 hQ;have o5:=jfy Q;have o6:=jir Q;have o7:∀ w,(Go.method (410+1) Tk xk "guilloche/trie.drop").run Tryz.prog w=.ok (jfd Q,xk) w:=c6.drop;have o8:∀ w,(Go.method (410+1) Tk xk "guilloche/trie.put").run Tryz.prog w=.ok (jkG Q,xk) w:=c6.put;clear c6;go_wp2_with fail
   have o9:=Hd i7;clear q1 q2 q3;refine vC (jjP _ ky vO) fun w6 d0=>?_;have i8:=(Blk.new wr (.cells #[.string ky,.string vl,.bool gn] 55)).keeps d0 (fun e=>e);have f7:=((ExtR wr).alloc (.cells #[.string ky,.string vl,.bool gn] 55)).trans d0;have q1:w6.cell? ⟨wr.heap.size,1,none⟩=some (.string vl):=i8.cell (i:=1) vF;have q2:w6.cell? ⟨wr.heap.size,2,none⟩=some (.bool gn):=i8.cell (i:=2) vF;have b9:=Hd f7;have l7:(jbf ky).size<=900000:=by have:=jep ky;omega
   have l8:=Hd l7;clear d0 i8 f7 i7 l7;cases gn with
   | true =>
    have X:=Hd (jhZ Q d9.o.1.va w6 Tk xk D (jbf ky) (K.o.1.ext b9.o) l8.o (jcS ky) d9.o.1.dp9)
    obtain⟨pb,O⟩:=vE (jbf ky)
    have e2:=Hd O;rw[<-O]at X ⊢;clear O;go_wp2_with fail
    refine X.o.mono ?_;rintro e J ⟨v7,rfl,d1,d2⟩;have a4:(ds.take (k+1)).foldl jcn P=jbS Q pb:=by rw[c4.o,e2.o];rfl
    have d3:=d9.o.2.there;rw[show jcn Q ⟨ky,vl,true⟩=jbS Q pb by rw[e2.o];rfl]at d3
    obtain⟨T7,x7,rfl⟩:=d1.form d3
    have HF:=Hd (show PaO ((ds.take (k+1)).foldl jcn P) (.iface T7 x7) (Grow D w6 J) J from by rw[a4];exact PaTo.own d1 d2 (K.o.1.ext b9.o).lt);have i9:=Hd d2;clear d1 d2 a4 d3;go_wp2_with fail
    go_roundw
    case rel=>exact⟨k+1,T7,x7,_,by omega,by go_num,rfl,HF.o,fun z hz=>by
     rcases hz with hz | hz
     ·exact K.o.2.1 z hz
     ·exact .inr (bG K.o.2.2.size (bG b9.o.size hz.1)),K.o.2.2.trans' ((b9.o.mono (fun _ _ e=>e.elim)).trans i9.o) (fun z hz e=>(K.o.2.1 z e).resolve_right vO)⟩
    case measure=>exact vJ
   | false =>
    have X:=Hd (jny Q d9.o.1.va w6 Tk xk D (jbf ky) vl (K.o.1.ext b9.o) l8.o (jcS ky) d9.o.1.dp9)
    obtain⟨pb,O⟩:=vE (jbf ky)
    have e2:=Hd O;rw[<-O]at X ⊢;clear O;go_wp2_with fail
    refine X.o.mono ?_;rintro e J ⟨v7,rfl,d1,d2⟩;have a4:(ds.take (k+1)).foldl jcn P=putP Q pb vl:=by rw[c4.o,e2.o];rfl
    have d3:=d9.o.2.there;rw[show jcn Q ⟨ky,vl,false⟩=putP Q pb vl by rw[e2.o];rfl]at d3
    obtain⟨T7,x7,rfl⟩:=d1.form d3
    have HF:=Hd (show PaO ((ds.take (k+1)).foldl jcn P) (.iface T7 x7) (Grow D w6 J) J from by rw[a4];exact PaTo.own d1 d2 (K.o.1.ext b9.o).lt);have i9:=Hd d2;clear d1 d2 a4 d3;go_wp2_with fail
    go_roundw
    case rel=>exact⟨k+1,T7,x7,_,by omega,by go_num,rfl,HF.o,fun z hz=>by
     rcases hz with hz | hz
     ·exact K.o.2.1 z hz
     ·exact .inr (bG K.o.2.2.size (bG b9.o.size hz.1)),K.o.2.2.trans' ((b9.o.mono (fun _ _ e=>e.elim)).trans i9.o) (fun z hz e=>(K.o.2.1 z e).resolve_right vO)⟩
    case measure=>exact vJ
  ·obtain rfl:k=ds.length:=vO
   rw[cE,HP.o,juA HK.o b8.o i6.o]at c8;have j0:Hid (Ext w wr):=(n0.o.trans' c9 (fun z hz e=>by have:=e.1;omega))
   obtain⟨W6,g8⟩:=vE (wr.alloc (.cells #[.slice none 0 0] 98))
   have d0:Ext wr W6:=by rw[g8];exact (ExtR wr).alloc _
   have j1:WrAt wr.heap.size wr.heap.size (.slice none 0 0) [] W6:=⟨bM _,by rw[g8];exact Blk.new wr _,fR _ _ _ _,fun b hb=>(by cases hb),fun _=>rfl⟩;have k5:cntP (ja4 13 (jaM m))=cntT 12 (jaM m):=jkg 12 _ (jbx (jaG b8.o));have b4:=jsR 12 (jaM m) (jbx (jaG b8.o)) wr W6 Tk xk D wr.heap.size (.slice none 0 0) [] (g3.o.1.ext j0.o) (g3.o.2.ext j0.o) c8 d0 j1 (by have:=jkf (jaG b8.o);have:([]:vM).length=0:=rfl;show 0+cntP (ja4 13 (jaM m))<=100000;omega);rw[cM,show textP (ja4 (12+1) (jaM m))=(jaF m).text from jx0 b8.o,show underP (ja4 (12+1) (jaM m))=belowM m from rfl]at b4;have g9:=Hd (jlr b8.o);have f8:=Hd (show newM S (jby l cs)=(jaF m).text :: freshU S (belowM m)from by unfold newM jby;rw[<-m8.o])
   obtain⟨t,ht⟩:=vE (jaF m).text
   obtain⟨U,hU⟩:=vE (belowM m)
   rw[<-ht, <-hU]at f8;rw[<-hU]at g9;rw[<-ht, <-hU]at b4;have k6:=Hd b4;have j2:=Hd (bB j1 (bB d0 g8));clear c8 hD c9 d0 j1 k5 b4 ht hU g8;go_wp2_with fail
   rw[<-j2.o.2.2];refine k6.o.mono ?_;rintro e J ⟨rfl,v7,h4⟩;have b2:=Hd (bB h4.at' (bB (j0.o.trans (h4.ext0 j2.o.1 j2.o.2.1 (bM _))) h4.at'.var.lt))
   obtain⟨g,hg⟩:=vE wr.heap.size
   rw[<-hg]at b2 ⊢;clear h4 hg
   obtain⟨a7,c7,l9⟩:=jaR b2.o.1.row
   obtain⟨n7,j3⟩:∃ n,n=U.length:=⟨_,rfl⟩
   have b0:=Hd b2.o.1.row;rw[<-j3]at l9 b0;subst l9;have j4:=Hd j3;have q7:=b2.o.1.var.cell (i:=0) (v:=.slice a7 n7 c7) vF;clear j3;have n2:(Instr.makeMap 63 none).run Tryz.prog (J.alloc (.cells #[.string t] 9))=.ok (.map (some (J.heap.size+1))) ((J.alloc (.cells #[.string t] 9)).alloc (.map #[] 0)):=by
    rw[<-bR J (.cells #[.string t] 9)];exact Tryz.makeMapSI _
   obtain⟨W8,e4⟩:=vE ((J.alloc (.cells #[.string t] 9)).alloc (.map #[] 0))
   obtain⟨mb,j5⟩:=vE (J.heap.size+1)
   rw[<-e4, <-j5]at n2;have m0:Ext J W8:=by rw[e4];exact ((ExtR J).alloc _).alloc _
   have m1:Blk W8 mb (.map (Tryz.ES.arr []) 0):=by
    rw[e4,j5, <-bR J (.cells #[.string t] 9)];exact Blk.new _ _
   have h7:SRow J (J.alloc (.cells #[.string t] 9)) (.slice (some ⟨J.heap.size,0,none⟩) 1 1) 1 [t]:=ORow.lit (n:=1) #[.string t] (ExtR J) vI rfl;have h7:SRow J W8 (.slice (some ⟨J.heap.size,0,none⟩) 1 1) 1 [t]:=by rw[e4];exact h7.mono ((ExtR _).alloc _)
   have n3:=Hd (show UpB J S mb t U 0 (.slice (some ⟨J.heap.size,0,none⟩) 1 1) W8 from⟨⟨1,h7⟩,fun e=>by injection e with e;have e:J.heap.size=mb:=e;omega,[],0,m1,fun y=>rfl⟩);have q7:=jaa q7 m0;have n4:=Hd (show J.heap.size<=mb by omega);clear e4 j5 m0 m1 h7;go_wp2_with fail
   go_loopw [19,86] (fun rv iv wr=>jyK J S mb t U rv iv wr) (fun _ iv _=>U.length - (intOf iv).toNat)
   case atStart=>exact⟨0,by omega,rfl,n3.o⟩
   case round =>
    obtain⟨k,hk,rfl,m2⟩:=hrel
    by_cases hlt:k < U.length
    ·rcases Nat.eq_zero_or_pos n7 with h0 | h0
     ·have:=j4.o;omega
     obtain⟨b7,rfl⟩:=jnu b0.o vO
     obtain⟨x,hx⟩:∃ x,U[k]?=some x:=⟨_,bA hlt⟩
     obtain⟨⟨n,A⟩,d7,es,ck,h5,h6⟩:=m2
     obtain⟨ar,cr,j6⟩:=A.sl
     subst j6;have HX:=Hd A.ext;have qx:=jaa (jhh b0.o (j:=k) (u:=.string x) (by rw[bV,hx];rfl)) A.ext
     obtain⟨cn,e5⟩:=vE (cntB (U.take k) x)
     have p0:cn<=1000000:=by
      rw[e5];unfold cntB;refine bG jD ?_;rw[bU,cL];have:=g9.o;omega
     have e6:=h6 x;rw[<-e5]at e6;have j7:(Instr.lookup 63 (.map (some mb)) (.string x) false).run Tryz.prog wr=.ok (.int .i64 (cn:Int)) wr:=by
      have:=jcT Tryz.ES Tryz.uMapSI h5 (Tryz.zeroI wr) x.data.toList false
      rw[e6]at this;unfold cntV at this
      by_cases h0:cn=0
      ·rw[if_pos h0]at this;rw[h0];exact this
      ·rw[if_neg h0]at this;exact this
     obtain⟨a5,b5⟩:∃ es2,es2=jbt es x.data.toList (.int .i64 ((cn:Int)+1)) ck:=⟨_,rfl⟩
     obtain⟨b6,f9⟩:∃ ck2,ck2=(if (ja3 es x.data.toList).isSome then ck else ck+1):=⟨_,rfl⟩
     obtain⟨W2,h8⟩:=vE (wr.putObj mb (.map (Tryz.ES.arr a5) b6))
     have j8:(Instr.mapUpdate 63 (.map (some mb)) (.string x) (.int .i64 ((cn:Int)+1))).run Tryz.prog wr=.ok () W2:=by
      have:=jcs Tryz.ES Tryz.uMapSI h5 x.data.toList (.int .i64 ((cn:Int)+1))
      rw[<-b5, <-f9, <-h8]at this;exact this
     have B2:Blk W2 mb (.map (Tryz.ES.arr a5) b6):=by rw[h8];exact h5.put_same _
     have e7:∀ y:vB,ja3 a5 y.data.toList=cntV (cntB (U.take (k+1)) y):=fun y=>by
      rw[b5,jc5,h6 y,jnN hx,jpJ]
      by_cases hxy:y.data.toList=x.data.toList
      ·have n5:y=x:=ByteArray.ext (Array.ext' hxy)
       subst n5;rw[if_pos rfl,if_pos rfl, <-e5];unfold cntV;rw[if_neg vO];simp
      ·rw[if_neg hxy,if_neg (fun e=>hxy e.symm)];rfl
     have g0:∀ W3,Ext W2 W3->(Instr.lookup 63 (.map (some mb)) (.string x) false).run Tryz.prog W3=.ok (.int .i64 ((cn:Int)+1)) W3:=fun W3 e3=>by
      have:=jcT Tryz.ES Tryz.uMapSI (B2.keeps e3 (fun e=>e)) (Tryz.zeroI W3) x.data.toList false
      rw[b5,jc5,if_pos rfl]at this;exact this
     have K2:jae (fun z=>z=mb) wr W2:=by rw[h8];exact jae.onePut _ _ _
     have O2:SRow J W2 (.slice ar n cr) n (t :: freshU S (U.take k)):=A.keeps K2 (fun b hb e=>d7 (by rw[hb];exact congrArg some e)) (fun b hb e=>by have e:b=mb:=e;have:=n4.o;omega);have g1:=Hd (show n<=119 by
      have h1:=A.len;rw[bU,bP]at h1;have h2:=jlM S (U.take k);rw[cL]at h2
      have:=g9.o;omega)
     have g2:=Hd (show memB (jaU (U.take k)) x=true↔cn≠0 from by
      rw[jc0,jbb,e5];unfold cntB;rw[<-Nat.pos_iff_ne_zero,gT,bI]
      exact⟨fun hm=>⟨x,hm,rfl⟩,fun ⟨y,hy,e⟩=>by rw[<-show y=x from ByteArray.ext (Array.ext' e)];exact hy⟩)
     have h9:=Hd (jpW S (U.take k) x);rw[<-jnN hx]at h9;have d8:=Hd (show ∀ W3,Ext W2 W3->∃ es ck,Blk W3 mb (.map (Tryz.ES.arr es) ck)/\∀ y:vB,ja3 es y.data.toList=cntV (cntB (U.take (k+1)) y)from fun W3 e3=>⟨a5,b6,B2.keeps e3 (fun e=>e),e7⟩);have j9:=Hd (bB B2 e7);have k0:=Hd g0;have c0:=Hd O2;have a6:=Hd d7;have b1:(k:Int) < (n7:Int):=by have:=j4.o;omega
     have i0:=Hd (bB hk hlt);have p1:=g9.o;clear A d7 h5 h6 hx e5 e6 b5 f9 h8 B2 e7 g0 K2 O2 h0
     by_cases hc0:cn=0
     ·subst hc0
      have i1:=Hd (show memB (jaU (U.take k)) x=false by
       cases hm:memB (jaU (U.take k)) x with
       | false=>rfl
       | true=>exact absurd rfl (g2.o.1 hm))
      have o2:(Instr.lookup 63 (.map (some mb)) (.string x) false).run Tryz.prog wr=.ok (.int .i64 0) wr:=j7;have o3:(Instr.mapUpdate 63 (.map (some mb)) (.string x) (.int .i64 1)).run Tryz.prog wr=.ok () W2:=j8;have k7:Hid (∀ W3,Ext W2 W3->(Instr.lookup 63 (.map (some mb)) (.string x) false).run Tryz.prog W3=.ok (.int .i64 1) W3):=k0.o;clear j7 j8 k0;go_wp2_with fail
      refine vC (of_t _ _ [x] (by simp) (jdp W2 [x] 9) (g3.o.1.ext (b2.o.2.1.trans (c0.o.ext.alloc _)))) fun w8 Z=>?_;rw[jdX];have Z:=((ExtR W2).alloc (.cells #[.string x] 9)).trans Z;have e8:=Hd Z;have E:=Hd (ji8 w8 s bm room S (shaB x) (l0.o.ext (b2.o.2.1.trans (c0.o.ext.trans Z))));have k1:Hid (lackB S x=(atL S (shaB x).data.toList).isNone):=rfl
      obtain⟨ag,e9⟩:=vE (atL S (shaB x).data.toList)
      rw[<-e9]at E k1
      obtain⟨sx,f0⟩:=vE (shaB x)
      rw[<-f0]at E ⊢;clear Z e9 f0 qx;cases ag with
      | some y =>
       obtain⟨ty,f1⟩:=vE y.2.2.text
       have d4:=Hd (show vQ 11 #[.pointer (some ⟨s,0,none⟩),.string sx] w8 (fun e w'=>e=.returned (.tuple #[.string y.2.2.text,.bool true])/\Ext w8 w')from E.o);go_wp2_with fail
       refine d4.o.mono ?_;rintro e w9 ⟨rfl,a0⟩;have H:=Hd (e8.o.trans a0);clear a0;rw[<-f1];clear f1;have f2:freshU S (U.take (k+1))=freshU S (U.take k):=by rw[h9.o];rw[if_neg (by rw[i1.o];simp),if_neg (by rw[k1.o];simp),cC]
       have HF:=Hd f2;clear f2;go_wp2_with fail
       go_roundw
       case rel=>exact⟨k+1,by have:=i0.o;omega,by go_num,⟨n,by rw[HF.o];exact c0.o.mono H.o⟩,a6.o,d8.o w9 H.o⟩
       case measure=>exact vJ
      | none =>
       have d4:=Hd (show vQ 11 #[.pointer (some ⟨s,0,none⟩),.string sx] w8 (fun e w'=>e=.returned (.tuple #[.string ⟨#[]⟩,.bool false])/\Ext w8 w')from E.o);go_wp2_with fail
       refine d4.o.mono ?_;rintro e w9 ⟨rfl,a0⟩;have H:=Hd (e8.o.trans a0);clear a0;have k8:=k7.o w9 H.o;have n6:n+1<=maxLen:=by have:=g1.o;unfold maxLen;omega
       have n8:(n+1) * 16<=140737488355328:=by have:=g1.o;omega
       go_wp2_with (at_builtin;refine jaS Tryz.sStrs ((c0.o.mono H.o).mono ((ExtR w9).alloc _)) (.tmp 110) (.tmp 112) rfl rfl rfl (jaH (Blk.new w9 _)) (news:=[.string x]) (by intro u hu;simp at hu;rcases hu with rfl;rfl) rfl rfl n6 n8 ?_;intro v' w' r1 r2 r3)
       have k2:SRow J w' v' (n+1) (t :: freshU S (U.take (k+1))):=by
        have e1:freshU S (U.take (k+1))=freshU S (U.take k)++[x]:=by rw[h9.o,if_neg (by rw[i1.o];simp),if_pos (by rw[k1.o];rfl)]
        unfold SRow;rw[e1, <-cZ,bZ];exact r1
       obtain⟨n9,o0,rfl⟩:=k2.sl
       have k9:=(j9.o.1.keeps H.o (fun e=>e)).lt;have m3:=Hd (bB k2 (show (Value.slice n9 (n+1) o0).ownBlock≠some mb from fun e=>by
        rcases r3 with r3 | r3
        ·exact a6.o (r3 ▸ e)
        ·have:=r3 mb e;rw[bR]at this;omega))
       have o1:=Hd (((j9.o.1.keeps H.o (fun e=>e)).alloc (.cells #[.string x] 9)).keeps r2 (fun e=>a6.o e));clear r1 r2 r3 k2 k9;go_wp2_with fail
       go_roundw
       case rel=>exact⟨k+1,by have:=i0.o;omega,by go_num,⟨n+1,m3.o.1⟩,m3.o.2,a5,b6,o1.o,j9.o.2⟩
       case measure=>exact vJ
     ·have p2:¬((cn:Int)+1=1):=vO
      have p3:(((cn:Int)+1) == 1)=false:=by simp;omega
      have i1:=Hd (g2.o.2 hc0);go_wp2_with fail
      refine vC (of_t _ _ [x] (by simp) (jdp W2 [x] 9) (g3.o.1.ext (b2.o.2.1.trans (c0.o.ext.alloc _)))) fun w8 Z=>?_;rw[jdX];have Z:=((ExtR W2).alloc (.cells #[.string x] 9)).trans Z;have e8:=Hd Z;have E:=Hd (ji8 w8 s bm room S (shaB x) (l0.o.ext (b2.o.2.1.trans (c0.o.ext.trans Z))))
      obtain⟨ag,e9⟩:=vE (atL S (shaB x).data.toList)
      rw[<-e9]at E
      obtain⟨sx,f0⟩:=vE (shaB x)
      rw[<-f0]at E ⊢;clear Z e9 f0 qx j7 j8;have f2:freshU S (U.take (k+1))=freshU S (U.take k):=by rw[h9.o,if_pos i1.o,cC]
      have HF:=Hd f2;clear f2;cases ag with
      | some y =>
       obtain⟨ty,f1⟩:=vE y.2.2.text
       have d4:=Hd (show vQ 11 #[.pointer (some ⟨s,0,none⟩),.string sx] w8 (fun e w'=>e=.returned (.tuple #[.string y.2.2.text,.bool true])/\Ext w8 w')from E.o);go_wp2_with fail
       refine d4.o.mono ?_;rintro e w9 ⟨rfl,a0⟩;have H:=Hd (e8.o.trans a0);clear a0;rw[<-f1];clear f1;go_wp2_with fail
       go_roundw
       case rel=>exact⟨k+1,by have:=i0.o;omega,by go_num,⟨n,by rw[HF.o];exact c0.o.mono H.o⟩,a6.o,d8.o w9 H.o⟩
       case measure=>exact vJ
      | none =>
       have d4:=Hd (show vQ 11 #[.pointer (some ⟨s,0,none⟩),.string sx] w8 (fun e w'=>e=.returned (.tuple #[.string ⟨#[]⟩,.bool false])/\Ext w8 w')from E.o);go_wp2_with fail
       refine d4.o.mono ?_;rintro e w9 ⟨rfl,a0⟩;have H:=Hd (e8.o.trans a0);clear a0;have k8:=k0.o w9 H.o;go_wp2_with fail
       go_roundw
       case rel=>exact⟨k+1,by have:=i0.o;omega,by go_num,⟨n,by rw[HF.o];exact c0.o.mono H.o⟩,a6.o,d8.o w9 H.o⟩
       case measure=>exact vJ
    ·obtain rfl:k=U.length:=vO
     obtain⟨⟨n,A⟩, -, -⟩:=m2
     obtain⟨ar,cr,j6⟩:=A.sl
     subst j6;rw[cE]at A;have a8:=Hd A;have p4:¬((U.length:Int) < (n7:Int)):=by have:=j4.o;omega
     clear A;go_wp2_with fail
     go_ret2;unfold UpdP;rw[if_pos m7.o,f8.o];have hn:(t :: freshU S U).length=n:=by have:=a8.o.len;simpa using this
     rw[hn]
     exact⟨_,rfl,a8.o.sl,a8.o.own,b2.o.2.1.trans a8.o.ext,fun b hb=>bG b2.o.2.1.size (a8.o.new b hb)⟩
def jww(W:vW)(b c:Nat):Prop:=∃ rv,W.cell? ⟨b,1,none⟩=some rv/\rv.ownBlock=some c
def RK(w W:vW):Prop:=w.heap.size<=W.heap.size/\∀ b,b < w.heap.size->∀ c,jww W b c->jww w b c
theorem jly{W W':vW}{b i:Nat}(h:W'.heap[b]?=W.heap[b]?):W'.cell? ⟨b,i,none⟩=W.cell? ⟨b,i,none⟩:=by unfold World.cell?;rw[h]
theorem RK.refl(w:vW):RK w w:=⟨bM _,fun _ _ _ h=>h⟩
theorem RK.trans{a b c:vW}(h:RK a b)(k:RK b c):RK a c:=⟨bG h.1 k.1,fun x e y r=>h.2 x e y (k.2 x (bJ e h.1) y r)⟩
theorem RK.keeps{F:BSet}{w W W':vW}(h:RK w W)(k:jae F W W')(hF:∀ b,F b->w.heap.size<=b):RK w W':=⟨bG h.1 k.size,fun b hb c r=>by
 obtain⟨m,e,o⟩:=r
 rw[jly (k.block b (bJ hb h.1) (fun f=>by have:=hF b f;omega))]at e;exact h.2 b hb c ⟨m,e,o⟩⟩
theorem RK.ext{w W W':vW}(h:RK w W)(e:Ext W W'):RK w W':=h.keeps e (fun _ f=>f.elim)
theorem RK.put{w W W':vW}{bm:Nat}{es:Array MapEntry}{ck:Nat}(h:RK w W)(k:jae (fun z=>z=bm) W W')(hm:Blk W' bm (.map es ck)):RK w W':=⟨bG h.1 k.size,fun b hb c r=>by
 obtain⟨o,m,A⟩:=r
 by_cases e:b=bm
 ·subst e
  unfold World.cell? at m;rw[show W'.heap[b]?=_ from hm]at m;cases m
 ·rw[jly (k.block b (bJ hb h.1) e)]at m
  exact h.2 b hb c ⟨o,m,A⟩⟩
theorem RK.set{w W:vW}(h:RK w W)(zb:Nat){f:Nat}(hf:f=2\/f=3)(v:vV):RK w (W.setCell ⟨zb,f,none⟩ v):=⟨by rw[gG];exact h.1,fun b hb c r=>by
 obtain⟨o,m,A⟩:=r
 rw[World.cell?_setCell_other _ _ _ _ (fun e=>by have:=congrArg Addr.off e;rcases hf with rfl | rfl <;> cases this)]at m;exact h.2 b hb c ⟨o,m,A⟩⟩
def jmR(w W:vW)(G:vT):Prop:=∀ x∈G,∀ c,jww W x.2.1 c->w.heap.size<=c
theorem jmR.rk{w W W':vW}{G:vT}(h:jmR w W G)(hk:RK W W')(hl:∀ x∈G,x.2.1 < W.heap.size):jmR w W' G:=fun x e c r=>h x e c (hk.2 _ (hl x e) c r)
def AnyL(L:vM):Prop:=∀ t∈L,(∃ n,jbC t n)\/GetE t
def jyy(w:vW)(bg:Nat)(L:vM)(iv:vV)(W:vW):Prop:=∃ i:Nat,i<=L.length/\iv=.int .i64 i/\(∀ t∈L.take i,∃ n,jbC t n)/\∃ G,ReS w bg G (L.take i) W/\jmR w W G
def AnyQ(Q:Prop)(L:vM):Prop:=∀ t∈L,(∃ n,jbC t n)\/(GetE t/\Q)
theorem jAA{L:vM}(h:AnyL L):AnyQ True L:=fun t m=>(h t m).imp id (fun e=>⟨e,trivial⟩)
theorem jgQ{L:vM}(h:∀ t∈L,∃ n,jbC t n):AnyQ False L:=fun t e=>.inl (h t e)
def RdA(Q:Prop)(w:vW)(L:vM)(e:Ending)(w':vW):Prop:=(e=.returned (.tuple #[.map none,.int .i64 2])/\Ext w w'/\Q)\/((∀ t∈L,∃ n,jbC t n)/\∃ bg G,e=.returned (.tuple #[.map (some bg),.int .i64 0])/\ReS w bg G L w'/\jmR w w' G)
theorem jpg{L:vM}{i:Nat}{t:vB}{P:vB->Prop}(h:∀ x∈L.take i,P x)(ht:L[i]?=some t)(hp:P t):∀ x∈L.take (i+1),P x:=fun x e=>by
 rw[bS,ht]at e;rcases bW.1 e with e | e
 ·exact h x e
 ·have e:x∈[t]:=e
  rw[cG.1 e];exact hp
theorem jtl(w:vW)(hc:jbW w)(hGE:ErrT w)(v:vV)(L:vM)(hv:RdS w v L)(hl:L.length<=1000)(h0:L≠[])(Q:Prop)(hN:AnyQ Q L) :
  vQ 32 #[v] w (RdA Q w L):=by
 have f8:0 < L.length:=fV.2 h0
 obtain⟨a,c,rfl,_⟩:=hv.slice
 have f0:=Hd hv;have HC:=Hd hc;have HN:=Hd hN;have f1:=Hd hGE;have f2:=Tryz.makeMapIt w;clear hv hc hN h0 hGE;have f9:((L.length:Int) == 0)=false:=by simpa using (by omega:L.length≠0)
 go_enter Tryz.func32,Tryz.ntmps32;go_wp2_with fail
 obtain⟨bg,b9⟩:=vE w.heap.size
 have d7:=Hd b9;rw[<-b9];clear b9 f2;go_loopw [16] (fun iv wr=>jyy w bg L iv wr) (fun iv _=>L.length - (intOf iv).toNat)
 case atStart =>
  refine⟨0,cD _,rfl,fun t ht=>(by cases ht),[],⟨(ExtR w).alloc _,⟨⟨[],0,?_,MapV.nil 0⟩,by simp,fun x m=>by cases m⟩,rfl,by rw[d7.o];exact bM _,fun x m=>by cases m⟩,fun x m=>by cases m⟩
  rw[d7.o];exact Blk.new w _
 case round =>
  obtain⟨i,hi,rfl,a7,G,hS,d8⟩:=hrel
  have c0:=Hd d8;clear d8;have a9:=Hd a7;have H:=Hd hS;clear hS a7
  by_cases hlt:i < L.length
  ·have b1:(i:Int) < (L.length:Int):=vO
   obtain⟨t,ht⟩:∃ t,L[i]?=some t:=⟨_,bA hlt⟩
   obtain⟨ax,cx,hh,K⟩:=f0.o.slice
   obtain⟨ba,oa,f3,c1⟩:=K i t ht
   subst f3;cases hh;have q1:=jaa c1 H.o.ext;rcases HN.o t (bE ht)with hnode |⟨hbad,hq⟩
   case inr =>
    have d2:=Hd hbad;have HQ:=Hd hq
    obtain⟨n,hn⟩:=vE jav
    have a4:=Hd (show n.refs.length=16 by rw[hn];rfl);have hg:=d2.o wr (f1.o.ext H.o.ext);unfold jtJ at hg;rw[<-hn]at hg;clear K c1 ht hbad hn hq;go_wp2_with fail
    refine hg.mono ?_;rintro e w4 ⟨rfl,hE⟩;have b5:=Hd (H.o.ext.trans hE);clear hE hg q1;unfold jad.V;go_wp2_with (refine jaj Tryz.allocNode rfl rfl ?_;intro W3 b6 b7;refine jag (vs:=n.cells) rfl rfl rfl rfl b6 (by rw[n.cells_len a4.o];rfl) (by rw[n.cells_len a4.o];exact Tryz.szNode) (jad.one _) ?_;intro W4 c2 b8;have O:Ext w4 W4:=b7.trans' b8 (fun x m e=>by have e:x=w4.heap.size:=e;omega))
    go_ret2;exact .inl ⟨rfl,b5.o.trans O,HQ.o⟩
   have a0:=Hd (jpg a9.o ht hnode)
   obtain⟨n0,d9⟩:=hnode
   have c3:=jci d9;have e0:=Hd (jqg ht);have e1:=Hd (show itOf t=⟨t,jaZ (nodeOf t),0,0⟩from rfl)
   obtain⟨n,e2⟩:=vE (nodeOf t)
   rw[<-e2]at c3 e1;have g0:=jiD c3
   obtain⟨e3,g,hg⟩:=c3
   have HG:=Hd hg;have a4:=Hd ((hg.one (inlP g)).refs);have e4:=Hd e3;clear K d9 e2 e3 hg c1 ht;go_wp2_with fail
   rw[e4.o];refine vH (jiz (inlP g) wr n HG.o) fun w4 b5=>?_;rw[<-e4.o];clear q1;unfold jad.V;go_wp2_with (refine jaj Tryz.allocNode rfl rfl ?_;intro W3 b6 b7;refine jag (vs:=n.cells) rfl rfl rfl rfl b6 (by rw[n.cells_len a4.o];rfl) (by rw[n.cells_len a4.o];exact Tryz.szNode) (jad.one _) ?_;intro W4 c2 b8;have O:Ext w4 W4:=b7.trans' b8 (fun x m e=>by have e:x=w4.heap.size:=e;omega))
   have c4:=Hd (b5.o.trans O);have e5:=Hd c2;clear b6 b7 c2 b8 O b5;refine vH (of_t _ _ [t] (by simp) (jdp W4 [t] 9) (HC.o.ext ((H.o.ext.trans c4.o).alloc _))) fun w6 hE=>?_;rw[jdX];have c5:=((ExtR W4).alloc (.cells #[.string t] 9)).trans hE;have c6:=Hd (c4.o.trans c5);have f4:=Hd (e5.o.keeps c5 (fun h=>h));have A:=Hd (H.o.keeps c6.o);have E:=A.o.at'.look (shaB t) false;have c7:=Hd (jwI (L:=G) (k:=ky t));have a5:Hid ((shaB t).data.toList=ky t):=rfl;have c9:=Hd (show addG (G.map kvI) t=if (G.map kvI).any (fun x=>decide (ky t=x.1))then G.map kvI else G.map kvI++[(ky t,itOf t)]from rfl);rw[a5.o]at E;simp only[cI,if_false]at E
   obtain⟨sh,e6⟩:=vE (shaB t)
   rw[<-e6]at E a5 ⊢
   obtain⟨kt,e7⟩:=vE (ky t)
   rw[<-e7]at E a5 c7 c9;clear c5 c4 e5 e6 e7;cases ha:atL G kt with
   | some x =>
    rw[ha]at E;unfold ptrO at E;simp only at E;have hz:addG (G.map kvI) t=G.map kvI:=by rw[c9.o,c7.o,ha];rfl
    have HZ:=Hd hz;clear ha hz;go_wp2_with fail
    go_roundw
    case rel =>
     exact⟨i+1,by omega,by go_num,a0.o,G,⟨A.o.ext,A.o.at',by rw[e0.o, <-A.o.is,HZ.o],A.o.new,A.o.news⟩,c0.o.rk ((RK.refl _).ext c6.o) (fun x m=>(H.o.at'.items x m).lt)⟩
    case measure=>exact vJ
   | none =>
    rw[ha]at E;unfold ptrO at E;simp only at E;have hz:addG (G.map kvI) t=G.map kvI++[(kt,itOf t)]:=by rw[c9.o,c7.o,ha];rfl
    have HZ:=Hd hz;have HA:=Hd ha;have a3:=jaq w6 _ n a4.o f4.o;unfold jad.V at a3;clear ha hz;go_wp2_with (refine jaf 110 (.tmp 7) rfl rfl _ _ rfl a3 ?_)
    refine (jou g n HG.o w6).mono ?_;rintro e J ⟨v8,rfl,a6,d3⟩;have d0:=a6.ext;have a1:=a6.new;have b0:=a6.own
    obtain⟨a8,c8,rfl⟩:=a6.sl
    have S8:=A.o.keeps d0;have e8:=S8.at'.ext ((ExtR J).alloc (.cells #[.string t,.slice a8 (jaZ n).length c8,.int .i64 0,.int .i64 0] 81));have d1:=Blk.new J (.cells #[.string t,.slice a8 (jaZ n).length c8,.int .i64 0,.int .i64 0] 81);have e9:jeR (J.alloc (.cells #[.string t,.slice a8 (jaZ n).length c8,.int .i64 0,.int .i64 0] 81)) J.heap.size (itOf t):=by
     rw[e1.o]
     exact⟨_,d1,jbl b0 ((ExtR J).alloc _)⟩
    obtain⟨ob,g1,X⟩:=e8.put sh (by rw[a5.o];exact HA.o) e9 (fun x m e=>by have:=(S8.at'.items x m).lt;omega)
    rw[a5.o]at X;have b2:Ext w ((J.alloc (.cells #[.string t,.slice a8 (jaZ n).length c8,.int .i64 0,.int .i64 0] 81)).putObj bg ob):=(S8.ext.alloc _).putObj (.inr S8.new) _;have d4:=S8.ext.size;have b3:RK wr J:=((RK.refl _).ext c6.o).ext d0;have Z:∃ es ck,Blk ((J.alloc (.cells #[.string t,.slice a8 (jaZ n).length c8,.int .i64 0,.int .i64 0] 81)).putObj bg ob) bg (.map es ck):=by
     obtain⟨es,ck,h1,_⟩:=X.mp
     exact⟨_,ck,h1⟩
    obtain⟨g2,g3,Z⟩:=Z
    have a2:=(b3.ext ((ExtR J).alloc (.cells #[.string t,.slice a8 (jaZ n).length c8,.int .i64 0,.int .i64 0] 81))).put (jae.onePut _ bg ob) Z;have b4:=Hd (show jmR w ((J.alloc (.cells #[.string t,.slice a8 (jaZ n).length c8,.int .i64 0,.int .i64 0] 81)).putObj bg ob) (G++[(kt,J.heap.size,itOf t)])from fun x m c r=>by
     rcases bW.1 m with m | m
     ·exact c0.o.rk a2 (fun x m=>(H.o.at'.items x m).lt) x m c r
     ·rw[cG.1 m]at r
      obtain⟨rv,r1,r2⟩:=r
      have f5:J.heap.size≠bg:=fun e=>by
       obtain⟨_,_,h1,_⟩:=S8.at'.mp
       have:=h1.lt;omega
      have hq:((J.alloc (.cells #[.string t,.slice a8 (jaZ n).length c8,.int .i64 0,.int .i64 0] 81)).putObj bg ob).cell? ⟨J.heap.size,1,none⟩=some (.slice a8 (jaZ n).length c8):=(d1.keeps (jae.onePut _ bg ob) f5).cell (i:=1) vF;have r1:_=some rv:=r1;rw[hq]at r1;have e:=bN r1;rw[<-e]at r2
      have:=a1 c r2
      have:=A.o.ext.size
      omega)
    have d5:=Hd b2;have d6:=Hd X;have f6:Hid (w.heap.size<=J.heap.size):=S8.ext.size;clear b3 Z a2 d4 b2 X e9 d1 e8 S8 b0 a1 d0 a6 d3 a3 E;go_wp2_with fail
    go_roundw
    case rel =>
     refine⟨i+1,by omega,by go_num,a0.o,G++[(kt,J.heap.size,itOf t)],⟨d5.o,d6.o,?_,A.o.new,?_⟩,b4.o⟩
     ·rw[e0.o, <-A.o.is,HZ.o,bZ];rfl
     ·intro x m
      rcases bW.1 m with m | m
      ·exact A.o.news x m
      ·simp only[cG]at m;subst m;exact f6.o
    case measure=>exact vJ
  ·have f7:i=L.length:=vO
   subst f7;have HS:=Hd (show ReS w bg G L wr by have:=H.o;rwa [cE]at this);clear H;go_wp2_with fail
   go_ret2;exact .inr ⟨by have h:=a9.o;rwa [cE]at h,bg,G,rfl,HS.o,c0.o⟩
def okM(S G:vT)(M:vM)(x:vB):Bool:=memB (jaU M) x ||(atL S x.data.toList).isSome ||(atL G x.data.toList).isSome
theorem joI(w0:vW)(s bm:Nat)(room:Int)(S G:vT)(bg b:Nat)(h:jaT w0 s bm room S)(hG:jdn w0 bg G)(W:vW)(M:vM)(hM:Meet w0 s S bg b M W)(x:vB)(hl:M.length<=1000000) :
  vQ 70 #[.string x,.pointer (some ⟨b+4,0,none⟩),.pointer (some ⟨b,0,none⟩),.pointer (some ⟨b+2,0,none⟩),.pointer (some ⟨b+1,0,none⟩)] W fun e w'=>e=.returned (.bool (okM S G M x))/\Meet w0 s S bg b (M++[x]) w':=by
 have HM:=Hd hM;have HS:=Hd h
 obtain⟨es,ck,h5,h6⟩:=hM.tab
 obtain⟨v,n,h1,h2,h3,h4⟩:=hM.var
 obtain⟨ad,cp,rfl⟩:=jaR h2
 obtain⟨cn,a6⟩:=vE (cntB M x)
 have f0:cn<=1000000:=by
  rw[a6];unfold cntB;refine bG jD ?_;rw[bU];exact hl
 have e6:=h6 x;rw[<-a6]at e6;have d0:(Instr.lookup 63 (.map (some (b+3))) (.string x) false).run Tryz.prog W=.ok (.int .i64 (cn:Int)) W:=by
  have:=jcT Tryz.ES Tryz.uMapSI h5 (Tryz.zeroI W) x.data.toList false
  rw[e6]at this;unfold cntV at this
  by_cases h0:cn=0
  ·rw[if_pos h0]at this;rw[h0];exact this
  ·rw[if_neg h0]at this;exact this
 obtain⟨a7,a0⟩:=vE (jbt es x.data.toList (.int .i64 ((cn:Int)+1)) ck)
 obtain⟨b3,a9⟩:=vE (if (ja3 es x.data.toList).isSome then ck else ck+1)
 obtain⟨A,b4⟩:=vE (W.putObj (b+3) (.map (Tryz.ES.arr a7) b3))
 have d1:(Instr.mapUpdate 63 (.map (some (b+3))) (.string x) (.int .i64 ((cn:Int)+1))).run Tryz.prog W=.ok () A:=by
  have:=jcs Tryz.ES Tryz.uMapSI h5 x.data.toList (.int .i64 ((cn:Int)+1))
  rw[<-a0, <-a9, <-b4]at this;exact this
 have B2:Blk A (b+3) (.map (Tryz.ES.arr a7) b3):=by rw[b4];exact h5.put_same _
 have e7:∀ y:vB,ja3 a7 y.data.toList=cntV (cntB (M++[x]) y):=fun y=>by
  rw[a0,jc5,h6 y,jrn]
  by_cases hxy:y.data.toList=x.data.toList
  ·have e1:y=x:=ByteArray.ext (Array.ext' hxy)
   subst e1;rw[if_pos rfl,if_pos rfl, <-a6];unfold cntV;rw[if_neg vO];simp
  ·rw[if_neg hxy,if_neg (fun e=>hxy e.symm)];rfl
 have b0:(Instr.lookup 63 (.map (some (b+3))) (.string x) false).run Tryz.prog A=.ok (.int .i64 ((cn:Int)+1)) A:=by
  have:=jcT Tryz.ES Tryz.uMapSI B2 (Tryz.zeroI A) x.data.toList false
  rw[a0,jc5,if_pos rfl]at this;exact this
 have K2:jae (fun z=>z=b+3) W A:=by rw[b4];exact jae.onePut _ _ _
 have q9:W.cell? ⟨b+4,0,none⟩=some (.map (some (b+3))):=hM.c9.cell (i:=0) vF;have E2:Ext w0 A:=hM.ext.trans' K2 (fun y hy e=>by have e:y=_:=e;have:=hM.lo;omega);have C9:=hM.c9.keeps K2 vO;have f1:A.cell? ⟨b+4,0,none⟩=some (.map (some (b+3))):=C9.cell (i:=0) vF;have C3:=hM.c3.keeps K2 vO;have f2:A.cell? ⟨b,0,none⟩=some (.pointer (some ⟨s,0,none⟩)):=C3.cell (i:=0) vF;have C5:=hM.c5.keeps K2 vO;have V2:=h1.keeps K2 vO;have O2:=ja2 h2 K2 (fun z K e=>by have:=h4 z K;have e:z=_:=e;omega);have f3:A.cell? ⟨b+2,0,none⟩=some (.slice ad n cp):=V2.cell (i:=0) vF;have e5:A.frozen? ⟨b+2,0,none⟩=false:=V2.frozen;have qs:=(h.st.keeps E2 (fun g=>g)).cell (i:=1) (v:=.map (some bm)) vF;have E:=(h.mp.ext E2).look x false;simp only[cI,if_false]at E;have a2:=Hd (show memB (jaU M) x=true↔cn≠0 from by
  rw[jc0,jbb,a6];unfold cntB;rw[<-Nat.pos_iff_ne_zero,gT,bI]
  exact⟨fun hm=>⟨x,hm,rfl⟩,fun ⟨y,hy,e⟩=>by rw[<-show y=x from ByteArray.ext (Array.ext' e)];exact hy⟩)
 have b7:=Hd (jon S M x);have b1:=Hd (show ∃ es ck,Blk A (b+3) (.map (Tryz.ES.arr es) ck)/\∀ y:vB,ja3 es y.data.toList=cntV (cntB (M++[x]) y)from⟨a7,b3,B2,e7⟩);have d2:Hid (∀ W3:vW,Ext w0 W3->jdn W3 bg G):=fun _ e=>hG.ext e
 obtain⟨ok,m⟩:=vE (okM S G M x)
 rw[<-m];have a3:=Hd m;clear m;have f4:=Hd K2;have d3:=Hd C3;have d4:=Hd C5;have b5:=Hd C9;have b6:=Hd V2;have d5:=Hd O2;have d6:=Hd E2;have H4:=Hd h4;have H3:=Hd h3;have a4:=Hd hM.lo;have b2:Hid (frK S (M++[x])=frK S M->Meet w0 s S bg b (M++[x]) A):=(fun e=>⟨E2,hM.lo,C3,C5,C9,⟨a7,b3,B2,e7⟩,_,n,V2,by rw[e];exact O2,by rw[bF];omega,h4⟩);clear hM h h1 h2 h4 h5 h6 a6 e6 a0 a9 b4 B2 e7 K2 C3 C5 C9 V2 O2 E2 hG
 by_cases hc0:cn=0
 ·subst hc0
  have d7:memB (jaU M) x=false:=by
   cases hm:memB (jaU M) x with
   | false=>rfl
   | true=>exact absurd rfl (a2.o.1 hm)
  have b8:=Hd d7;have e8:(Instr.lookup 63 (.map (some (b+3))) (.string x) false).run Tryz.prog W=.ok (.int .i64 0) W:=d0;have e9:(Instr.mapUpdate 63 (.map (some (b+3))) (.string x) (.int .i64 1)).run Tryz.prog W=.ok () A:=d1;have e0:(Instr.lookup 63 (.map (some (b+3))) (.string x) false).run Tryz.prog A=.ok (.int .i64 1) A:=b0;clear d7 d0 d1 b0;cases hs:atL S x.data.toList with
  | some y =>
   rw[hs]at E;unfold ptrO at E;simp only at E;have a5:=Hd (show frK S (M++[x])=frK S M by rw[b7.o,b8.o,hs];rfl);have m:ok=true:=by rw[a3.o];unfold okM;rw[hs];simp
   subst m;clear hs a3;go_enter Tryz.func70,Tryz.ntmps70;go_wp2_with fail
   go_ret
   exact⟨rfl,b2.o a5.o⟩
  | none =>
   rw[hs]at E;unfold ptrO at E;simp only at E;have a5:=Hd (show frK S (M++[x])=frK S M++[x] by rw[b7.o,b8.o,hs];rfl);have m:ok=(atL G x.data.toList).isSome:=by rw[a3.o];unfold okM;rw[hs,b8.o];simp
   have a1:=Hd m;clear hs a3 m;have d8:n+1<=maxLen:=by have:=H3.o;unfold maxLen;omega
   have d9:(n+1) * 16<=140737488355328:=by have:=H3.o;omega
   cases hyg:atL G x.data.toList with
   | some yg =>
    have b9:=Hd hyg;have m:ok=true:=by rw[a1.o,hyg];rfl
    subst m;clear hyg a1;go_enter Tryz.func70,Tryz.ntmps70
    obtain⟨i0,hi,c0,c1,c2⟩:=info_parts Tryz.infoStr
    go_wp2_with (at_builtin;refine jbV _ rfl (.tmp 24) (.tmp 26) 30 rfl 9 i0 _ 1 16 Tryz.uStrs hi c0 c1 c2 rfl vI (.slice ad n cp) n _ rfl (jbl d5.o ((ExtR A).alloc _)) ⟨A.heap.size,0,none⟩ 1 1 [.string x] rfl rfl (jaH (Blk.new A _)) (by simp[Value.oneCell']) d8 d9 ?_;intro v' O r1 r2 J;obtain⟨Q,X,rfl⟩:=jaR r1;have K6:jae (fun z=>(Value.slice ad n cp).ownBlock=some z) A O:=((jae.refl _ A).alloc _).trans r2;have nO:∀ z,z < b+5->¬(Value.slice ad n cp).ownBlock=some z:=(fun z K e=>by have:=H4.o z e;omega);have Z:=b6.o.keeps K6 (nO _ vO);have e2:O.cell? ⟨b+2,0,none⟩=some (.slice ad n cp):=Z.cell (i:=0) vF;have e3:O.frozen? ⟨b+2,0,none⟩=false:=Z.frozen;have K7:jae (fun z=>z=b+2) O (O.setCell ⟨b+2,0,none⟩ (.slice Q (n+1) X)):=jae.oneSet O ⟨b+2,0,none⟩ _;have a8:=(d4.o.keeps K6 (nO _ vO)).keeps K7 vO;have e4:=a8.cell (i:=0) (v:=.map (some bg)) vF;have E7:Ext w0 (O.setCell ⟨b+2,0,none⟩ (.slice Q (n+1) X)):=(d6.o.trans' K6 (fun y hy e=>by have:=H4.o y e;have:=a4.o;omega)).trans' K7 (fun y hy e=>by have e:y=_:=e;have:=a4.o;omega);have H:=(d2.o _ E7).look x false;rw[b9.o]at H;unfold ptrO at H;simp only[cI,if_false]at H)
    go_ret
    refine⟨rfl,E7,a4.o,(d3.o.keeps K6 (nO _ vO)).keeps K7 vO,a8,(b5.o.keeps K6 (nO _ vO)).keeps K7 vO,?_,.slice Q (n+1) X,n+1,Z.set_same (i:=0) _,?_,?_,?_⟩
    ·obtain⟨c4,c6,c7,c8⟩:=b1.o
     exact⟨c4,c6,(c7.keeps K6 (nO _ vO)).keeps K7 vO,c8⟩
    ·rw[a5.o,bZ]
     refine ja2 r1 K7 (fun z K e=>?_);have e:z=b+2:=e;rcases J with J | J
     ·have:=H4.o z (J ▸ K);omega
     ·have h9:=J z K;rw[bR]at h9;have:=b6.o.lt;omega
    ·have:=H3.o;rw[bF];exact Nat.succ_le_succ this
    ·intro z K
     rcases J with J | J
     ·exact H4.o z (J ▸ K)
     ·have h9:=J z K;rw[bR]at h9;have:=b5.o.lt;omega
   | none =>
    have b9:=Hd hyg;have m:ok=false:=by rw[a1.o,hyg];rfl
    subst m;clear hyg a1;go_enter Tryz.func70,Tryz.ntmps70
    obtain⟨i0,hi,c0,c1,c2⟩:=info_parts Tryz.infoStr
    go_wp2_with (at_builtin;refine jbV _ rfl (.tmp 24) (.tmp 26) 30 rfl 9 i0 _ 1 16 Tryz.uStrs hi c0 c1 c2 rfl vI (.slice ad n cp) n _ rfl (jbl d5.o ((ExtR A).alloc _)) ⟨A.heap.size,0,none⟩ 1 1 [.string x] rfl rfl (jaH (Blk.new A _)) (by simp[Value.oneCell']) d8 d9 ?_;intro v' O r1 r2 J;obtain⟨Q,X,rfl⟩:=jaR r1;have K6:jae (fun z=>(Value.slice ad n cp).ownBlock=some z) A O:=((jae.refl _ A).alloc _).trans r2;have nO:∀ z,z < b+5->¬(Value.slice ad n cp).ownBlock=some z:=(fun z K e=>by have:=H4.o z e;omega);have Z:=b6.o.keeps K6 (nO _ vO);have e2:O.cell? ⟨b+2,0,none⟩=some (.slice ad n cp):=Z.cell (i:=0) vF;have e3:O.frozen? ⟨b+2,0,none⟩=false:=Z.frozen;have K7:jae (fun z=>z=b+2) O (O.setCell ⟨b+2,0,none⟩ (.slice Q (n+1) X)):=jae.oneSet O ⟨b+2,0,none⟩ _;have a8:=(d4.o.keeps K6 (nO _ vO)).keeps K7 vO;have e4:=a8.cell (i:=0) (v:=.map (some bg)) vF;have E7:Ext w0 (O.setCell ⟨b+2,0,none⟩ (.slice Q (n+1) X)):=(d6.o.trans' K6 (fun y hy e=>by have:=H4.o y e;have:=a4.o;omega)).trans' K7 (fun y hy e=>by have e:y=_:=e;have:=a4.o;omega);have H:=(d2.o _ E7).look x false;rw[b9.o]at H;unfold ptrO at H;simp only[cI,if_false]at H)
    go_ret
    refine⟨rfl,E7,a4.o,(d3.o.keeps K6 (nO _ vO)).keeps K7 vO,a8,(b5.o.keeps K6 (nO _ vO)).keeps K7 vO,?_,.slice Q (n+1) X,n+1,Z.set_same (i:=0) _,?_,?_,?_⟩
    ·obtain⟨c4,c6,c7,c8⟩:=b1.o
     exact⟨c4,c6,(c7.keeps K6 (nO _ vO)).keeps K7 vO,c8⟩
    ·rw[a5.o,bZ]
     refine ja2 r1 K7 (fun z K e=>?_);have e:z=b+2:=e;rcases J with J | J
     ·have:=H4.o z (J ▸ K);omega
     ·have h9:=J z K;rw[bR]at h9;have:=b6.o.lt;omega
    ·have:=H3.o;rw[bF];exact Nat.succ_le_succ this
    ·intro z K
     rcases J with J | J
     ·exact H4.o z (J ▸ K)
     ·have h9:=J z K;rw[bR]at h9;have:=b5.o.lt;omega
 ·have f5:¬((cn:Int)+1<=1):=vO
  have a5:=Hd (show frK S (M++[x])=frK S M by rw[b7.o,a2.o.2 hc0];rfl);have m:ok=true:=by rw[a3.o];unfold okM;rw[a2.o.2 hc0];simp
  subst m;clear a3;go_enter Tryz.func70,Tryz.ntmps70;go_wp2_with fail
  go_ret
  exact⟨rfl,b2.o a5.o⟩
structure Fair(G:vT):Prop where
 few:G.length<=1000
 refs:∀ y∈G,y.2.2.refs.length<=16
def has2(S G:vT)(x:vB):Prop:=(atL S x.data.toList).isSome=true\/(atL G x.data.toList).isSome=true
structure jfI(S G:vT)(root:vB)(M:vM)(i:Nat):Prop where
 is:M=root ::((frK S M).take i).flatMap (jbZ G)
 le:i<=(frK S M).length
 inG:∀ x∈M,has2 S G x
theorem jg2{G:vT}(h:Fair G):∀ l:vM,(l.flatMap (jbZ G)).length<=16 * l.length
 | []=>by simp
 | x :: r=>by
  have e:=jg2 h r
  have:(jbZ G x).length<=16:=by
   unfold jbZ;split
   ·rename_i y hy;exact h.refs y (ja7 hy).1
   ·simp
  rw[dI,bF,bP];omega
theorem jfI.len{S G:vT}{root:vB}{M:vM}{i:Nat}(h:jfI S G root M i)(hs:Fair G):M.length<=1+16 * i:=by
 have:=jg2 hs ((frK S M).take i)
 rw[cL]at this;have e:=congrArg List.length h.is;rw[bP]at e;omega
theorem jfI.at'{S G:vT}{root:vB}{M:vM}{i:Nat}(h:jfI S G root M i){x:vB}(hx:x∈frK S M):(atL G x.data.toList).isSome=true:=by
 have e:=jfY.1 hx;rcases h.inG x e.1 with h | h
 ·rw[e.2]at h;cases h
 ·exact h
theorem jgk{S G:vT}{M:vM}(h:∀ x∈frK S M,(atL G x.data.toList).isSome=true):(frK S M).length<=G.length:=by
 have o:((frK S M).map fun x=>x.data.toList).Nodup:=by
  have:=jlL S M
  generalize frK S M=l at this;induction l with
  | nil=>simp
  | cons z r ih =>
   rw[fI]at this;rw[bT,fI]
   exact⟨fun A=>by obtain⟨y,m,e⟩:=bI.1 A;exact this.1 (jmX e ▸ m),ih this.2⟩
 have:=iB o (l₂:=G.map (·.1)) (fun k E=>by
  obtain⟨x,H,e⟩:=bI.1 E
  obtain⟨y,m⟩:=dG.1 (h x H)
  exact bI.2 ⟨y,(ja7 m).1,by rw[(ja7 m).2,e]⟩)
 simpa using this
theorem jfI.step{S G:vT}{root:vB}{M:vM}{i:Nat}(h:jfI S G root M i){x:vB}(hx:(frK S M)[i]?=some x)(hr:∀ r∈jbZ G x,has2 S G r):jfI S G root (M++jbZ G x) (i+1):=by
 obtain⟨X,o⟩:=jom S M (jbZ G x)
 have A:i < (frK S M).length:=(bO.1 hx).1
 refine⟨?_,?_,?_⟩
 ·have e:(frK S (M++jbZ G x)).take (i+1)=(frK S M).take i++[x]:=by
   rw[o,List.take_append_of_le_length vO,bS,hx];rfl
  rw[e,fN]
  have:=h.is
  generalize frK S M=l at this;rw[this]
  simp
 ·rw[o,bF];omega
 ·intro y m
  rcases bW.1 m with m | m
  ·exact h.inG y m
  ·exact hr y m
theorem jzr{S G:vT}{M:vM}{x:vB}(h:okM S G M x=true)(hM:∀ y∈M,has2 S G y):has2 S G x:=by
 unfold okM at h;simp only[Bool.or_eq_true]at h;rcases h with (h | h) | h
 ·exact hM x ((jbb _ _).1 ((jc0 _ _).1 h))
 ·exact .inl h
 ·exact .inr h
theorem jxr{S G:vT}{M:vM}{x:vB}(h:okM S G M x=false):¬ has2 S G x:=by
 unfold okM at h;simp only[gM]at h;rintro (e | e)
 ·rw[h.1.2]at e;cases e
 ·rw[h.2]at e;cases e
def jyA(w0:vW)(s:Nat)(S G:vT)(bg b:Nat)(root:vB)(wv iv:vV)(W:vW):Prop:=wv=.bool true/\∃ (i:Nat) (M:vM),iv=.int .i64 i/\jfI S G root M i/\Meet w0 s S bg b M W
def jwu(w0:vW)(s:Nat)(S G:vT)(bg b:Nat)(M R:vM)(wv jv:vV)(W:vW):Prop:=wv=.bool true/\∃ j:Nat,jv=.int .i64 j/\j<=R.length/\Meet w0 s S bg b (M++R.take j) W/\∀ r∈R.take j,has2 S G r
def RhP(w0:vW)(S G:vT)(root:vB)(e:Ending)(w':vW):Prop:=(e=.returned (.tuple #[.slice none 0 0,.int .i64 2])/\Ext w0 w'/\∃ x r,r∈jbZ G x/\¬ has2 S G r)\/∃ v n M,e=.returned (.tuple #[v,.int .i64 0])/\jfI S G root M (frK S M).length/\SRow w0 w' v n (frK S M)
theorem jnD(w0:vW)(s bm:Nat)(room:Int)(S G:vT)(bg:Nat)(h:jaT w0 s bm room S)(hG:jdn w0 bg G)(hs:Fair G)(root:vB)(hr:(atL G root.data.toList).isSome=true) :
  vQ 34 #[.pointer (some ⟨s,0,none⟩),.string root,.map (some bg)] w0 (RhP w0 S G root):=by
 have HS:=Hd h;have HG:=Hd hG;have a1:=Hd hs;have HR:=Hd hr;have c3:=Tryz.makeMapSI;clear h hG hs hr;go_enter Tryz.func34,Tryz.ntmps34;go_wp2_with fail
 go_step3;go_wp2_with fail
 refine vC (joI w0 s bm room S G bg w0.heap.size HS.o HG.o _ [] (jsh w0 s S bg) root (by simp)) fun w5 H=>?_;rw[show okM S G [] root=true by unfold okM;rw[HR.o];simp];have HM:=Hd H;clear H c3
 obtain⟨b,hb⟩:=vE w0.heap.size
 rw[show w0.heap.size+1+1+1+1=w0.heap.size+4 from rfl,show w0.heap.size+1+1+1=w0.heap.size+3 from rfl,show w0.heap.size+1+1=w0.heap.size+2 from rfl];rw[<-hb]at HM ⊢;clear hb;go_wp2_with fail
 go_step3;go_wp2_with fail
 go_loopw [11,12] (fun wv iv wr=>jyA w0 s S G bg b root wv iv wr) (fun _ iv _=>1001 - (intOf iv).toNat)
 case atStart =>
  refine⟨rfl,0,[root],rfl,⟨by simp,cD _,fun x e=>by simp at e;subst e;exact .inr HR.o⟩,HM.o⟩
 case round =>
  obtain⟨rfl,i,M,rfl,Q,H⟩:=hrel
  obtain⟨v,n,A,h2,h3,h4⟩:=H.var
  obtain⟨ad,cp,rfl⟩:=jaR h2
  have hn:(frK S M).length=n:=by have:=h2.1;simpa using this
  have a9:=jgk (S:=S) (M:=M) (fun x e=>Q.at' e);have d6:=a1.o.few;have q8:=A.cell (i:=0) (v:=.slice ad n cp) vF;have Z:=Q.le
  by_cases hlt:i < n
  ·have b1:(i:Int) < (n:Int):=vO
   obtain⟨x,e⟩:∃ x,(frK S M)[i]?=some x:=⟨_,bA vO⟩
   obtain⟨ax,cx,hh,J⟩:=(jjO h2).slice
   obtain⟨ba,oa,c4,b0⟩:=J i x e
   subst c4;cases hh
   obtain⟨y,K⟩:=dG.1 (Q.at' (bE e))
   have hI:=HG.o.items y (ja7 K).1;have a2:=jfE K;have c6:=a1.o.refs y (ja7 K).1
   obtain⟨rv,b3,a3⟩:=hI.cells
   obtain⟨ar,cr,rfl⟩:=jaR a3
   obtain⟨R,hR⟩:=vE y.2.2.refs
   have Q5:=Hd (H.c5.cell (i:=0) (v:=.map (some bg)) vF);have Q8:=Hd q8;have QA:=Hd b0;have QR:=Hd ((b3.keeps H.ext (fun g=>g)).cell (i:=1) (v:=.slice ar y.2.2.refs.length cr) vF);have b4:=Hd (HG.o.ext H.ext);have HY:=Hd K;have b5:=Hd (fun hr=>Q.step e hr);have c7:=Hd Q.inG;have c8:=Hd (Q.len a1.o);have b6:=Hd (jjO a3);have b7:=Hd H;rw[a2, <-hR]at b5;rw[<-hR]at QR b6 c6;have c9:=Hd (show R=jbZ G x by rw[hR,a2]);have a8:i<=1000:=vO
   obtain⟨yb,a4⟩:=vE y.2.1
   rw[<-a4]at QR;have d0:=Hd a4;clear a2 hR a4 a3 b3 hI K e J b0 A h2 Q H hn a9 Z;go_wp2_with fail
   refine jah [0,1,2,3,4,5,6,7,8,9,10] Ext ExtR ExtT vY vY vY ?_;refine qKL ⟨b+1,0,none⟩ _ rfl (fun w1 A=>jab Tryz.underlying71 rfl (jaa Q5.o ((jai _).trans A))) ?_;refine vS ?_;refine qKL ⟨b+2,0,none⟩ _ rfl (fun w1 A=>jab Tryz.underlying30 rfl (jaa Q8.o ((jai _).trans A))) ?_;refine vS ?_;iterate 2 refine vK ?_
   refine qKL ⟨ba,oa+i,none⟩ _ rfl (fun w1 A=>jab Tryz.underlying9 rfl (jaa QA.o ((jai _).trans A))) ?_;refine vS ?_;refine jcr _ (.pointer (some ⟨yb,0,none⟩)) rfl vY rfl (fun w1 A=>by
    have e:=(b4.o.ext ((jai _).trans A)).look x false;rw[HY.o]at e;unfold ptrO at e;simp only[cI,if_false]at e;rw[<-d0.o]at e;simp[execOp,Act.eval,e,cA,Result.andThen,cR]) ?_
   refine vS ?_;refine jcr _ (.pointer (some ⟨yb,0,none⟩)) rfl vY rfl (fun w1 _=>by kernel_rfl) ?_;refine vS ?_
   refine vK ?_
   refine qKL ⟨yb,1,none⟩ _ rfl (fun w1 A=>jab Tryz.underlying30 rfl (jaa QR.o ((jai _).trans A))) ?_;refine vS ?_;iterate 2 refine vK ?_
   refine qKE (fun w3 he=>?_);have d1:=Hd (b7.o.keeps ((jai _).trans he));clear he b7 Q5 Q8 QA QR b4 HY q8;go_wp2_with fail
   go_loopw [11,36] (fun wv jv d2=>jwu w0 s S G bg b M R wv jv d2) (fun _ jv _=>R.length - (intOf jv).toNat)
   case atStart=>exact⟨rfl,0,rfl,cD _,by rw[jC,cC];exact d1.o,fun r hr=>by cases hr⟩
   case round =>
    obtain⟨rfl,j,rfl,hj,E,b8⟩:=hrel
    have O:=Hd b8;clear b8
    by_cases hlt2:j < R.length
    ·have b2:(j:Int) < (R.length:Int):=vO
     obtain⟨z,hz⟩:∃ z,R[j]?=some z:=⟨_,bA hlt2⟩
     obtain⟨d7,d8,d3,m⟩:=b6.o.slice
     obtain⟨d9,e0,a7,a0⟩:=m j z hz
     subst a7;cases d3;have q2:=jaa a0 E.ext;have b9:=Hd hz;have HT:=Hd (show M++R.take (j+1)=M++R.take j++[z] by rw[bS,hz, <-cB];rfl);have HL:=Hd (show (M++R.take j).length<=1000000 by have:=c8.o;rw[bF,cL];omega);have c0:=Hd E;clear m a0 E hz;go_wp2_with fail
     refine vC (joI w0 s bm room S G bg b HS.o HG.o _ _ c0.o z HL.o) fun w9 a5=>?_;rw[<-HT.o]at a5;have X:=Hd a5
     obtain⟨ok,a6⟩:=vE (okM S G (M++R.take j) z)
     rw[<-a6];have c1:=Hd a6;clear a5 c0 q2 a6;cases ok with
     | false =>
      go_wp2_with fail
      go_ret2;exact .inl ⟨rfl,X.o.ext,x,z,by rw[<-c9.o];exact bE b9.o,jxr c1.o.symm⟩
     | true =>
     go_wp2_with fail
     go_roundw
     case rel =>
      refine⟨rfl,j+1,by go_num,by omega,X.o,jpg O.o b9.o (jzr c1.o.symm fun y K=>?_)⟩
      rcases bW.1 K with K | K
      ·exact c7.o y K
      ·exact O.o y K
     case measure=>exact vJ
    ·have d4:j=R.length:=vO
     subst d4;rw[cE]at E;have X:=Hd E;clear E;go_wp2_with fail
     go_roundw
     case rel=>exact⟨rfl,i+1,M++R,by go_num,b5.o (by have h:=O.o;rwa [cE]at h),X.o⟩
     case measure=>exact vJ
  ·have c2:i=(frK S M).length:=vO
   have HP:=Hd (show jfI S G root M (frK S M).length by rw[<-c2];exact Q);have d5:=Hd (show SRow w0 wr (.slice ad n cp) n (frK S M)from⟨⟨_,_,rfl⟩,h2,H.ext,fun z hz=>by have:=h4 z hz;have:=H.lo;omega⟩);have b1:¬(i:Int) < (n:Int):=vO
   clear c2 Q H A h2 h4 hn a9 Z;go_wp2_with fail
   go_ret2;exact .inr ⟨.slice ad n cp,n,M,rfl,HP.o,d5.o⟩
theorem jg6{L:vM}{G:vT}(h:G.map kvI=readG L)(hL:∀ t∈L,∃ n,jbC t n)(hl:L.length<=1000):Fair G:=by
 refine⟨?_,fun y m=>?_⟩
 ·have:=(jer L).2.2
  rw[<-h,bU]at this;exact bG this hl
 ·obtain⟨t,o,_,e⟩:=jcG h m
  rw[e]
  obtain⟨n,A⟩:=hL t o
  exact jiD (jci A)
theorem ji7{S G:vT}{root:vB}{M:vM}{i:Nat}(h:jfI S G root M i){r:vB}(hr:r∈M):(atL (S++jc1 G (frK S M)) r.data.toList).isSome=true:=by
 rw[jyN];cases hs:atL S r.data.toList with
 | some y=>rfl
 | none =>
  obtain⟨y,e⟩:=dG.1 (h.at' (jfY.2 ⟨hr,hs⟩))
  have m:y∈jc1 G (frK S M):=List.mem_filterMap.2 ⟨r,jfY.2 ⟨hr,hs⟩,e⟩;cases hp:atL (jc1 G (frK S M)) r.data.toList with
  | some z=>rfl
  | none=>exact absurd (ja7 e).2.symm (jj7.1 hp y m)
def jz3(w:vW)(e:Ending)(w':vW):Prop:=∃ k:Int,k≠0/\e=.returned (.tuple #[.string ⟨#[]⟩,.int .i64 k])/\Ext w w'
structure AddY(w:World)(s bm:Nat)(room:Int)(S:vT)(L:vM)(top:vB)(G:vT)(M:vM)(e:Ending)(w':World):Prop where
 given:G.map kvI=readG L
 nodes:∀ t∈L,∃ n,jbC t n
 news:∀ y∈G,w.heap.size<=y.2.1
 path:jfI S G (shaB top) M (frK S M).length
 fits:¬ room - S.length < (frK S M).length
 res:e=.returned (.tuple #[.string (shaB top),.int .i64 0])
 st:jaT w' s bm room (jkd (shaB top).data.toList (jeE ((frK S M).flatMap (jbZ G)) (S++jc1 G (frK S M))))
 kp:jae (fun z=>z=bm\/z∈S.map (·.2.1)) w w'
 rk:RK w w'
 rows:jmR w w' G
def jvT(Q:Prop)(room:Int)(S:vT)(L:vM)(k:Int):Prop:=(k=2/\Q)\/(k=2/\∃ G,G.map kvI=readG L/\∃ x r,r∈jbZ G x/\¬ has2 S G r)\/(k=3/\∃ top G M,L[0]?=some top/\G.map kvI=readG L/\jfI S G (shaB top) M (frK S M).length/\room - S.length < (frK S M).length)
def jnR(Q:Prop)(w:vW)(s bm:Nat)(room:Int)(S:vT)(L:vM)(e:Ending)(w':vW):Prop:=(∃ k:Int,jvT Q room S L k/\k≠0/\e=.returned (.tuple #[.string ⟨#[]⟩,.int .i64 k])/\Ext w w')\/∃ top G M,L[0]?=some top/\AddY w s bm room S L top G M e w'
def jvS(w:vW)(s bm:Nat)(room:Int)(S:vT)(L:vM)(e:Ending)(w':vW):Prop:=jz3 w e w'\/∃ top G M,L[0]?=some top/\AddY w s bm room S L top G M e w'
theorem jj4(w:vW)(hc:jbW w)(hGE:ErrT w)(s bm:Nat)(room:Int)(S:vT)(h:jaT w s bm room S)(v:vV)(L:vM)(hv:RdS w v L)(Q:Prop)(hL:AnyQ Q L)(hll:L.length<=1000)(top:vB)(htop:L[0]?=some top)(hr0:0<=room)(hr1:room<=9223372036854775807)(hS:S.length<=100000)(hSu:∀ x∈S,0<=x.2.2.used/\x.2.2.used<=1000000000)(hSh:∀ x∈S,0<=x.2.2.held/\x.2.2.held<=1000000000) :
  vQ 9 #[.pointer (some ⟨s,0,none⟩),v] w (jnR Q w s bm room S L):=by
 have h0:L≠[]:=fun e=>by subst e;cases htop
 have k2:0 < L.length:=fV.2 h0
 obtain⟨a,c,rfl,_⟩:=hv.slice
 have HR:=Hd (jtl w hc hGE _ L hv hll h0 Q hL);have HC:=Hd hc;have HV:=Hd hv;have HL:=Hd hL;have HS:=Hd h;have X:=Hd htop;have g8:=Hd hSu;have d3:=Hd hSh;clear hc h hv hL htop h0 hSu hSh;go_enter Tryz.func9,Tryz.ntmps9;go_wp2_with fail
 refine HR.o.mono ?_;rintro e w1 (⟨rfl,hE,hq⟩ |⟨a0,bg,G,rfl,hG,e2⟩)
 ·have HE:=Hd hE
  have HQ:=Hd hq;clear hE HR hq;go_wp2_with fail
  go_ret2;exact .inl ⟨2,.inl ⟨rfl,HQ.o⟩,by decide,rfl,HE.o⟩
 have b4:=Hd a0;have g9:=Hd e2;have h2:Hid (∀ x∈G,x.2.1 < w1.heap.size):=fun x A=>(hG.at'.items x A).lt;have h3:=Hd hG.ext;clear a0 e2
 obtain⟨ax,cx,hh,E⟩:=HV.o.slice
 obtain⟨ba,oa,a7,a8⟩:=E 0 top X.o
 subst a7;cases hh;have q1:=jaa a8 hG.ext;have HG:=Hd hG;rw[fX]at q1;clear E a8 hG HR;go_wp2_with fail
 refine vH (of_t _ _ [top] (by simp) (jdp w1 [top] 9) (HC.o.ext (HG.o.ext.alloc _))) fun w2 hE=>?_;rw[jdX];have c8:=((ExtR w1).alloc (.cells #[.string top] 9)).trans hE;have H:=Hd (HG.o.keeps c8);have h4:=Hd c8
 obtain⟨rt,b9⟩:=vE (shaB top)
 have c0:=Hd b9;have h5:=Hd (show (atL G rt.data.toList).isSome=true by rw[b9];exact jlP HG.o.is (bE X.o));rw[<-b9];clear c8 b9 q1;go_wp2_with fail
 have c1:=Hd (jg6 H.o.is b4.o hll);have e3:=Hd (HS.o.ext H.o.ext);refine (jnD w2 s bm room S G bg e3.o H.o.at' c1.o rt h5.o).mono ?_;rintro e w3 (⟨rfl,hE,e4⟩ |⟨v3,n,M,rfl,hP,hF⟩)
 ·have HE:=Hd (H.o.ext.trans hE)
  have h6:=Hd e4;clear hE e4;go_wp2_with fail
  go_ret2;exact .inl ⟨2,.inr (.inl ⟨rfl,G,H.o.is,h6.o⟩),by decide,rfl,HE.o⟩
 have d4:=jgk (S:=S) (M:=M) (fun x A=>hP.at' A);have k3:=c1.o.few;have hn:(frK S M).length=n:=by have:=hF.len;simpa using this
 obtain⟨ad,cp,rfl⟩:=hF.sl
 have HP:=Hd hP;have HF:=Hd hF
 obtain⟨F,c9⟩:=vE (frK S M)
 rw[<-c9]at HF hn d4;have O:=Hd c9;have h7:=Hd (H.o.keeps hF.ext);have e5:=Hd (e3.o.ext hF.ext);clear hP hF c9;go_wp2_with fail
 refine vH (jxX w3 s bm room S e5.o hr0 hr1 vO) fun w4 a4=>?_
 obtain⟨m,hm⟩:=vE (room - (S.length:Int))
 rw[<-hm];have HM:=Hd hm;clear hm
 by_cases hfull:m < (n:Int)
 ·go_wp2_with fail
  go_ret2;exact .inl ⟨3,.inr (.inr ⟨rfl,top,G,M,X.o,H.o.is,by rw[<-c0.o];exact HP.o,by rw[<-O.o,hn, <-HM.o];exact hfull⟩),by decide,rfl,(H.o.ext.trans HF.o.ext).trans a4.o⟩
 ·have d5:=Hd (show RK w1 w4 from(((RK.refl w1).ext h4.o).ext HF.o.ext).ext a4.o)
  have e6:Ad1 w4 s bm bg room S G F (.slice ad n cp) 0 w4:=⟨jae.refl _ _,by rw[jC];show jaT w4 s bm room (S++[]);rw[cC];exact e5.o.ext a4.o,h7.o.at'.ext a4.o,by rw[hn];exact jbl HF.o.own a4.o⟩;have e7:=Hd e6;have c2:=HS.o.mp.mp
  obtain⟨_,_,c2,_⟩:=c2
  have g7:=c2.lt;have h8:Hid (∀ z,(Value.slice ad n cp).ownBlock=some z->z≠bm):=(fun z hz e=>by have:=HF.o.new z hz;have:=H.o.ext.size;omega);have h9:Hid (bg≠bm):=(fun e=>by have:=H.o.new;omega);have i0:Hid (∀ x∈S,∀ y∈G,x.2.1≠y.2.1):=(fun x A y hy e=>by have:=(HS.o.mp.items x A).lt;have:=H.o.news y hy;omega);have i1:=Hd (show F.Nodup by rw[O.o];exact jlL S M);have i2:Hid (∀ x∈F,atL S x.data.toList=none):=(fun x A=>by rw[O.o]at A;exact (jfY.1 A).2);have e8:Hid (∀ x∈F,(atL G x.data.toList).isSome=true):=(fun x A=>by rw[O.o]at A;exact HP.o.at' A);have k5:=Hd (HS.o.st);subst hn;clear e6 c2;go_wp2_with fail
  rw[show decide (m < (F.length:Int))=false from decide_eq_false (Int.not_lt.2 hfull)];go_loopw [46] (fun iv wr=>AdR1 w4 s bm bg room S G F (.slice ad F.length cp) iv wr/\RK w1 wr) (fun iv _=>F.length - (intOf iv).toNat)
  case atStart=>exact⟨⟨0,cD _,rfl,e7.o⟩,d5.o⟩
  case round =>
   obtain⟨⟨i,hi,rfl,J⟩,e9⟩:=hrel
   have f0:=Hd e9;clear e9;have HA:=Hd J
   by_cases hlt:i < F.length
   ·have b1:(i:Int) < (F.length:Int):=vO
    obtain⟨x,A⟩:∃ x,F[i]?=some x:=⟨_,bA hlt⟩
    obtain⟨ax,cx,hh,E⟩:=(jjO J.row).slice
    obtain⟨c3,c4,a7,a8⟩:=E i x A
    subst a7;cases hh
    obtain⟨y,hy⟩:=dG.1 (e8.o x (bE A))
    have Q1:=Hd (J.st.st.cell (i:=1) (v:=.map (some bm)) vF);have f1:=Hd J.gv;have HX:=Hd A;have HY:=Hd hy
    obtain⟨yb,a9⟩:=vE y.2.1
    have f2:=Hd a9;clear E A hy J a9;go_wp2_with fail
    refine jay [0,1,2,3,4,5,6,7,8] [8] Ext ExtR ExtT vY vY vY ?_
    refine vP ?_
    refine qA _ (.pointer (some ⟨s,0,none⟩)) rfl (fun w1=>by kernel_rfl) ?_;refine vS ?_
    refine vP ?_
    refine qL ⟨s,1,none⟩ _ rfl (fun w1 h1=>jab Tryz.underlying71 rfl (jaa Q1.o ((jai _).trans h1))) ?_;refine vS ?_;iterate 3 refine vP ?_
    refine jsi _ (.pointer (some ⟨yb,0,none⟩)) rfl vY rfl (fun w1 h1=>by
     have A:=(f1.o.ext ((jai _).trans h1)).look x false;rw[HY.o]at A;unfold ptrO at A;simp only[cI,if_false]at A;rw[<-f2.o]at A;simp[execOp,Act.eval,A,cA,Result.andThen,cR]) ?_
    refine vS ?_;refine qH _ rfl (fun w5 he K hK=>?_);have f3:=HA.o.ext ((jai _).trans he)
    obtain⟨ob,f4,d0⟩:=f3.put i0.o h9.o h8.o i1.o i2.o HX.o HY.o
    rw[<-f2.o]at f4;have f5:=Hd d0
    obtain⟨k6,k7,b5,_⟩:=d0.st.mp.mp
    have d6:=Hd ((f0.o.ext ((jai _).trans he)).put (jae.onePut _ bm ob) b5);clear b5;clear f3 d0 he HA Q1 f1 a8;go_simp;refine hK _ _ ?_;clear hK K;refine qE (fun w7 he=>?_);have i3:=Hd (f5.o.ext he);have d7:=Hd (d6.o.ext he);clear he f5 f4;go_wp2_with fail
    go_roundw
    case rel=>exact⟨⟨i+1,by omega,by go_num,i3.o⟩,d7.o⟩
    case measure=>exact vJ
   ·have i4:i=F.length:=vO
    subst i4
    obtain⟨S1,b0⟩:=vE (S++jc1 G F)
    have c5:=Hd b0;have b3:=Hd (show Ad2 wr s bm bg room S1 G F (.slice ad F.length cp) [] wr from⟨jae.refl _ _,by have:=J.st;rw[cE]at this;rw[b0];exact this,⟨G,J.gv,fun k=>rfl⟩,J.row⟩);have HU:=Hd (show ∀ x∈S1,0<=x.2.2.used/\x.2.2.used<=1000000000 from fun x A=>by
     rw[b0]at A;rcases bW.1 A with A | A
     ·exact g8.o x A
     ·obtain⟨t,ht,_,e⟩:=jcG H.o.is (jbF A).1
      rw[e];exact⟨Int.le_refl _,by show (0:Int)<=1000000000;decide⟩)
    have i5:=Hd (show ∀ r∈F.flatMap (jbZ G),(atL S1 r.data.toList).isSome=true from fun r hr=>by
     rw[b0,O.o];refine ji7 HP.o ?_
     have:=HP.o.is
     rw[cE, <-O.o]at this;rw[this];exact bH _ hr)
    obtain⟨w5,a5⟩:=vE wr
    have i6:=Hd a5;have d8:=Hd (show RK w1 w5 by rw[a5];exact f0.o);rw[<-a5]at b3;have b3:=Hd (show Ad2 w5 s bm bg room S1 G F (.slice ad F.length cp) [] wr by rw[<-a5];exact b3.o);have f6:=Hd (show jae (fun z=>z=bm) w4 w5 by rw[a5];exact J.kp);clear e7 J HA b0 a5;go_wp2_with fail
    go_loopw [61] (fun iv wr=>AdR2 w5 s bm bg room S1 G F (.slice ad F.length cp) iv wr/\RK w1 wr) (fun iv _=>F.length - (intOf iv).toNat)
    case atStart=>exact⟨⟨0,cD _,rfl,b3.o⟩,by rw[<-i6.o];exact d8.o⟩
    case round =>
     obtain⟨⟨i,k8,rfl,J⟩,b6⟩:=hrel
     have a3:=Hd b6;clear b6
     by_cases hlt2:i < F.length
     ·have b1:(i:Int) < (F.length:Int):=vO
      obtain⟨x,A⟩:∃ x,F[i]?=some x:=⟨_,bA hlt2⟩
      obtain⟨ax,cx,hh,E⟩:=(jjO J.row).slice
      obtain⟨c3,c4,a7,a8⟩:=E i x A
      subst a7;cases hh
      obtain⟨y,hy⟩:=dG.1 (e8.o x (bE A))
      obtain⟨G',d1,f7⟩:=J.gv
      have hk:=f7 x.data.toList;rw[hy]at hk
      obtain⟨y',d2,hk⟩:=dR.1 hk
      have a6:=d1.look x false;rw[d2]at a6;unfold ptrO at a6;simp only[cI,if_false]at a6
      obtain⟨rv,f8,c6⟩:=(d1.items y' (ja7 d2).1).cells
      have f9:y'.2.2.refs=jbZ G x:=by rw[jfE hy];exact congrArg (fun z=>z.2.2) hk
      obtain⟨R,hR⟩:=vE (jbZ G x)
      rw[f9, <-hR]at c6
      obtain⟨ar,cr,rfl⟩:=jaR c6
      have qr:=f8.cell (i:=1) (v:=.slice ar R.length cr) vF
      obtain⟨T,hT⟩:=vE ((F.take i).flatMap (jbZ G))
      have i7:=Hd (show (F.take (i+1)).flatMap (jbZ G)=T++R by rw[bS,A,fN,hT,hR];simp);have i8:=Hd (show T.length<=16000 by
       have:=jg2 c1.o (F.take i)
       rw[hT];rw[cL]at this;omega)
      have g0:=Hd (show R.length<=16 by rw[hR,jfE hy];exact c1.o.refs y (ja7 hy).1);have i9:Hid (∀ r∈R,(atL S1 r.data.toList).isSome=true):=(fun r hr=>i5.o r (fA.2 ⟨x,bE A,by rw[<-hR];exact hr⟩));rw[<-hT]at J;have g1:=Hd (show AdR3 w5 s bm bg room S1 G F (.slice (some ⟨c3,c4,none⟩) F.length cp) T R (.slice ar R.length cr) (.int .i64 0) wr from⟨0,cD _,rfl,by rw[jC,cC];exact J,c6⟩)
      obtain⟨yb,a9⟩:=vE y'.2.1
      rw[<-a9]at a6 qr;clear E A hy d1 f7 hk d2 f8 c6 f9 hR hT J a9;go_wp2_with fail
      go_loopw [72] (fun jv g2=>AdR3 w5 s bm bg room S1 G F (.slice (some ⟨c3,c4,none⟩) F.length cp) T R (.slice ar R.length cr) jv g2/\RK w1 g2) (fun jv _=>R.length - (intOf jv).toNat)
      case atStart=>exact⟨g1.o,a3.o⟩
      case round =>
       obtain⟨⟨j,hj,rfl,hB,c7⟩,b7⟩:=hrel
       have b8:=Hd b7;clear b7
       by_cases hlt3:j < R.length
       ·have b2:(j:Int) < (R.length:Int):=vO
        obtain⟨z,hz⟩:∃ z,R[j]?=some z:=⟨_,bA hlt3⟩
        obtain⟨k9,l0,j0,Z⟩:=(jjO c7).slice
        obtain⟨l1,l2,d9,k4⟩:=Z j z hz
        subst d9;cases j0;have qs:=hB.st.st.cell (i:=1) (v:=.map (some bm)) vF
        obtain⟨zb,u,e0,qu,fu,j1,j2,g3,a1⟩:=hB.bump HU.o (by have:=i8.o;have:=g0.o;rw[bF,cL];omega) z (i9.o z (bE hz))
        have l3:=g0.o;have j3 : -9223372036854775808<=u+1:=vO
        have j4:u+1<=9223372036854775807:=vO
        have g4:=Hd (bB (show Ad2 w5 s bm bg room S1 G F (.slice (some ⟨c3,c4,none⟩) F.length cp) (T++R.take (j+1)) _ by rw[bS,hz, <-cB];exact g3) (a1 _ _ _ c7));clear Z hz hB c7 g3 a1 a6 qr;go_wp2_with fail
        go_roundw
        case rel=>exact⟨⟨j+1,by omega,by go_num,g4.o.1,g4.o.2⟩,b8.o.set zb (.inl rfl) _⟩
        case measure=>exact vJ
       ·have j5:j=R.length:=vO
        subst j5;rw[cE, <-i7.o]at hB;have j6:=Hd hB;clear hB c7 g1 a6 qr;go_wp2_with fail
        go_roundw
        case rel=>exact⟨⟨i+1,by omega,by go_num,j6.o⟩,b8.o⟩
        case measure=>exact vJ
     ·have e1:i=F.length:=vO
      subst e1;rw[cE]at J;have l4:=Hd J;have a2:(atL S1 rt.data.toList).isSome=true:=by
       rw[c5.o,O.o];exact ji7 HP.o (by rw[HP.o.is];exact bK)
      have j7:=Hd (show ∀ x∈S1,0<=x.2.2.held/\x.2.2.held<=1000000000 from fun x A=>by
       rw[c5.o]at A;rcases bW.1 A with A | A
       ·exact d3.o x A
       ·obtain⟨t,ht,_,e⟩:=jcG H.o.is (jbF A).1
        rw[e];exact⟨Int.le_refl _,by show (0:Int)<=1000000000;decide⟩)
      have qs:=J.st.st.cell (i:=1) (v:=.map (some bm)) vF
      obtain⟨zb,u,e0,qu,fu,j1,j2,g5,g6⟩:=J.hold j7.o rt a2
      have j3 : -9223372036854775808<=u+1:=vO
      have j4:u+1<=9223372036854775807:=vO
      have j8:=Hd g5;have j9:=Hd (((H.o.ext.trans HF.o.ext).trans a4.o).mono (G:=fun z=>z=bm\/z∈S.map (·.2.1)) (fun _ _ g=>g.elim));have k0:=Hd g6;have k1:=Hd f6.o;clear J b3 f6 g5 g6 a2;go_wp2_with fail
      go_ret2;refine .inr ⟨top,G,M,X.o,H.o.is,b4.o,H.o.news,by rw[<-c0.o];exact HP.o,by rw[<-O.o, <-HM.o];exact Int.not_lt.2 hfull,by rw[c0.o];rfl,?_,?_,((RK.refl w).ext h3.o).trans (a3.o.set zb (.inr rfl) _),g9.o.rk (a3.o.set zb (.inr rfl) _) h2.o⟩
      ·rw[<-O.o, <-c5.o, <-c0.o];exact j8.o
      ·refine (jae.trans' (F:=fun z=>z=bm\/z∈S.map (·.2.1)) j9.o k1.o (fun z hz e=>.inl e)).trans' k0.o (fun z hz e=>?_)
       rw[c5.o,bZ]at e;rcases bW.1 e with e | e
       ·exact .inr e
       ·obtain⟨y,hy,rfl⟩:=bI.1 e
        have:=H.o.news y (jbF hy).1
        omega
theorem jtS(w:vW)(hc:jbW w)(hGE:ErrT w)(s bm:Nat)(room:Int)(S:vT)(h:jaT w s bm room S)(v:vV)(L:vM)(hv:RdS w v L)(hL:AnyL L)(hll:L.length<=1000)(top:vB)(htop:L[0]?=some top)(hr0:0<=room)(hr1:room<=9223372036854775807)(hS:S.length<=100000)(hSu:∀ x∈S,0<=x.2.2.used/\x.2.2.used<=1000000000)(hSh:∀ x∈S,0<=x.2.2.held/\x.2.2.held<=1000000000) :
  vQ 9 #[.pointer (some ⟨s,0,none⟩),v] w (jvS w s bm room S L):=
 (jj4 w hc hGE s bm room S h v L hv True (jAA hL) hll top htop hr0 hr1 hS hSu hSh).mono fun e w' h=>h.imp (fun ⟨k,_,m,o,A⟩=>⟨k,m,o,A⟩) id
theorem jwC(w:vW)(hc:jbW w)(hGE:ErrT w)(s bm:Nat)(room:Int)(S:vT)(h:jaT w s bm room S)(v:vV)(L:vM)(hv:RdS w v L)(hL:AnyL L)(hll:L.length<=1000)(hr0:0<=room)(hr1:room<=9223372036854775807)(hS:S.length<=100000)(hSu:∀ x∈S,0<=x.2.2.used/\x.2.2.used<=1000000000)(hSh:∀ x∈S,0<=x.2.2.held/\x.2.2.held<=1000000000) :
  vQ 9 #[.pointer (some ⟨s,0,none⟩),v] w (jvS w s bm room S L):=by
 cases hL0:L with
 | nil =>
  subst hL0
  obtain⟨a,c,rfl,_⟩:=hv.slice
  exact (jwD w _ a c).mono fun e w' ⟨m,o⟩=>.inl ⟨2,by decide,m,o⟩
 | cons t L' =>
  rw[<-hL0];exact jtS w hc hGE s bm room S h v L hv hL hll t (by rw[hL0];rfl) hr0 hr1 hS hSu hSh
def ComP(w:vW)(s bm:Nat)(room:Int)(S:vT)(l:vL)(cs:List Chg)(e:Ending)(w':vW):Prop:=
 (jaY l cs≠0/\e=.returned (.tuple #[.string ⟨#[]⟩,.int .i64 (jaY l cs)])/\Ext w w')\/(jaY l cs=0/\∃ w1,Ext w w1/\jnR False w1 s bm room S (newM S (jby l cs)) e w')
theorem ComP.bad{w w':vW}{s bm:Nat}{room:Int}{S:vT}{l:vL}{cs:List Chg}{x:Int}(h:jaY l cs=x)(h0:x≠0)(hE:Ext w w'):ComP w s bm room S l cs (.returned (.tuple #[.string ⟨#[]⟩,.int .i64 x])) w':=by
 subst h;exact .inl ⟨h0,rfl,hE⟩
theorem ComP.go{w w1 w':vW}{s bm:Nat}{room:Int}{S:vT}{l:vL}{cs:List Chg}{L:vM}{e:Ending}(h:jaY l cs=0)(hL:L=newM S (jby l cs))(hE:Ext w w1)(hA:jnR False w1 s bm room S L e w'):ComP w s bm room S l cs e w':=by
 subst hL;exact .inr ⟨h,w1,hE,hA⟩
theorem jkC{S:vT}{m:vL}(h:jaD m=0):(newM S m).length<=119:=by
 unfold newM;rw[bP];have e:=jlM S (belowM m);have o:=jlr h;omega
theorem jst{S:vT}{m:vL}(h:jaD m=0){t:vB}(ht:t∈newM S m):t∈jaB (jaF m):=by
 unfold newM at ht;have e:jaB (jaF m)=(jaF m).text :: belowM m:=by rw[jfs h];show jaB (.mk _ _)=_;rw[jaB];rfl
 rw[e];rcases bX.1 ht with rfl | ht
 ·exact bK
 ·unfold freshU at ht
  exact bH _ ((jbb _ _).1 (cU.1 ht).1)
theorem jsu{S:vT}{m:vL}(h:jaD m=0):∀ t∈newM S m,∃ n,jbC t n:=fun t e=>by
 obtain⟨n,o,_⟩:=(jk2 h).node t ((jbb _ _).2 (jst h e))
 exact⟨n,o⟩
theorem jhK(w:vW)(hc:jbW w)(he:ErrT w)(s bm:Nat)(room:Int)(S:vT)(hs:jaT w s bm room S)(hN:jec S)(l:vL)(h:HasM S l)(u:vV)(cs:List Chg)(hu:RdC w u cs)(hnc:cs.length<=9223372036854775807)(hsc:∀ c∈cs,c.key.size<=9223372036854775807/\c.value.size<=9223372036854775807)(hr0:0<=room)(hr1:room<=9223372036854775807)(hS:S.length<=100000)(hSu:∀ x∈S,0<=x.2.2.used/\x.2.2.used<=1000000000)(hSh:∀ x∈S,0<=x.2.2.held/\x.2.2.held<=1000000000) :
  vQ 18 #[.pointer (some ⟨s,0,none⟩),.string (rootM l),u] w (ComP w s bm room S l cs):=by
 have HU:=Hd (jx7 w hc he s bm room S hs hN l h u cs hu hnc hsc);have O:=Hd (bB hc he);have a4:=Hd hs;have HB:=Hd (bB hS (bB hSu hSh));have HR:=Hd (bB hr0 hr1)
 obtain⟨a,c,a5⟩:=hu.sl
 subst a5
 obtain⟨rt,Q⟩:=vE (rootM l)
 rw[<-Q]at HU ⊢;clear Q hs hN h hc he hu hnc hsc hS hSu hSh hr0 hr1;go_enter Tryz.func18,Tryz.ntmps18;go_wp2_with fail
 refine HU.o.mono ?_;rintro e w1 X;unfold UpdP at X
 by_cases h0:jaY l cs=0
 case neg =>
  rw[if_neg h0]at X
  obtain⟨rfl,hE⟩:=X
  have H:=Hd hE
  obtain⟨x0,J⟩:=vE (jaY l cs)
  have a6:=Hd J.symm;rw[<-J]at h0 ⊢;have H0:=Hd h0;have a9:(x0 != 0)=true:=by simpa using h0
  have b0:(x0 == 0)=false:=by simpa using h0
  clear hE J h0;go_wp2_with fail
  go_ret2;exact ComP.bad a6.o H0.o H.o
 rw[if_pos h0]at X
 obtain⟨r,rfl,Z⟩:=X
 have H0:=Hd h0;have m:=jca h0;have m:jaD (jby l cs)=0:=m;have K:=jkC (S:=S) m;have a0:=Hd Z.rd;have H:=Hd Z.ext;have a1:=Hd (jgQ (jsu (S:=S) m));have A:Hid ((newM S (jby l cs))[0]?=some (jaF (jby l cs)).text):=rfl
 obtain⟨L,hL⟩:=vE (newM S (jby l cs))
 rw[<-hL]at a0 a1 A K Z;have a2:=Hd hL;have a7:=Hd K
 obtain⟨a3,c3,e3⟩:=Z.sl
 subst e3
 obtain⟨top,E⟩:=vE (jaF (jby l cs)).text
 rw[<-E]at A;clear Z hL h0 m K E;go_wp2_with fail
 refine (jj4 w1 (O.o.1.ext H.o) (O.o.2.ext H.o) s bm room S (a4.o.ext H.o) _ L a0.o False a1.o (by have:=a7.o;omega) top A.o HR.o.1 HR.o.2 HB.o.1 HB.o.2.1 HB.o.2.2).mono ?_;intro e w2 hA;have HA:=Hd hA;rcases hA with⟨k,_,_,rfl,_⟩ |⟨_,_,_,_,hY⟩
 ·go_wp2_with fail
  go_ret2;exact ComP.go H0.o a2.o H.o HA.o
 ·have a8:=hY.res
  subst a8;clear hY;go_wp2_with fail
  go_ret2;exact ComP.go H0.o a2.o H.o HA.o
end
theorem jxV(w:vW)(s bm:Nat)(room:Int)(L:vT)(k:vB)(h:jaT w s bm room L):vR 27 #[.pointer (some ⟨s,0,none⟩),.string k] w (.int .i64 (jnm (atL L k.data.toList))):=by
 have E:=h.st.cell (i:=1) (v:=.map (some bm)) vF;have e:=h.mp.look k true;have A:=Hd h.mp.items;simp only[if_true]at e;clear h;cases ha:atL L k.data.toList with
 | none =>
  rw[ha]at e;unfold ptrO at e;simp only[Option.isSome]at e;clear ha;go_enter Tryz.func27,Tryz.ntmps27;go_wp2_with fail
  go_ret
  exact⟨rfl,ExtR w⟩
 | some x =>
  rw[ha]at e
  obtain⟨H,m,_⟩:=(A.o x (ja7 ha).1).cells
  have J:=m.cell (i:=3) (v:=.int .i64 x.2.2.held) vF;unfold ptrO at e;simp only[Option.isSome]at e;clear ha m;go_enter Tryz.func27,Tryz.ntmps27;go_wp2_with fail
  go_ret
  exact⟨rfl,ExtR w⟩
section
attribute [local go_sem] Oper.semAt_some
def jgB(S:vT):vM:=S.flatMap fun y=>y.2.2.refs
structure Cnt(S:vT):Prop where
 used:∀ x∈S,x.2.2.used=(cK (jgB S) x.1:Int)
 shut:∀ r∈jgB S,r.data.toList∈S.map (·.1)
 held:∀ x∈S,0<=x.2.2.held
 r16:∀ x∈S,x.2.2.refs.length<=16
def jeZ(S:vT):Int:=(S.map fun x=>x.2.2.held).sum
theorem Cnt.none:Cnt []:=⟨by simp,by simp[jgB],by simp,by simp⟩
theorem js3{S:vT}(h:∀ x∈S,x.2.2.refs.length<=16):(jgB S).length<=16 * S.length:=by
 induction S with
 | nil=>simp[jgB]
 | cons x r ih =>
  have o:=ih fun y m=>h y (bH _ m);have A:=h x bK;have e:jgB (x :: r)=x.2.2.refs++jgB r:=by simp[jgB]
  rw[e,bF,bP];omega
theorem jyU(T:vM)(k:Key):cK T k<=T.length:=by
 unfold cK;have:=jD (a:=k) (l:=T.map (·.data.toList));rwa [bU]at this
def jqF(S:vT):Prop:=∀ x∈S,0 < x.2.2.used+x.2.2.held
theorem jq3{S:vT}(hn:(S.map (·.1)).Nodup){x:Nd5}{k:Key}(hx:x∈S)(e:x.1=k):atL S k=some x:=by
 obtain⟨y,m⟩:=dG.1 (jdo.2 (bI.2 ⟨x,hx,e⟩))
 rw[m,jwK hn hx e m]
end
theorem jlh{S G:vT}{M:vM}{top:vB}:jgB (addS S G M top)=jgB S++(frK S M).flatMap (jbZ G):=by
 rw[jcw];have h:=jrb ((frK S M).flatMap (jbZ G)) (shaB top) (S++jc1 G (frK S M));unfold jgB;rw[h,fN, <-jjR]
theorem jee{S G:vT}{M:vM}{top:vB}:(addS S G M top).map (·.1)=(S++jc1 G (frK S M)).map (·.1):=by rw[jcw,jra]
theorem jro{S G:vT}{L M:vM}{top:vB}(hc:Cnt S)(hG:G.map kvI=readG L)(hf:Fair G)(hP:jfI S G (shaB top) M (frK S M).length):Cnt (addS S G M top):=by
 have E:∀ r∈(frK S M).flatMap (jbZ G),r∈M:=fun r o=>by
  have:=hP.is
  rw[cE]at this;rw[this];exact bH _ o
 refine⟨fun x A=>?_,fun r o=>?_,fun x A=>?_,fun x A=>?_⟩
 ·rw[jlh,jyT]
  rw[jcw]at A
  obtain⟨z,m,rfl⟩:=bI.1 A
  show z.2.2.used+((cK ((frK S M).flatMap (jbZ G)) z.1:Nat):Int)=((cK (jgB S) z.1+cK ((frK S M).flatMap (jbZ G)) z.1:Nat):Int);rcases bW.1 m with m | m
  ·have:=hc.used z m;omega
  ·obtain⟨H,f,J,K⟩:=jbF m
   obtain⟨t,O,_,e⟩:=jcG hG H
   have Z:cK (jgB S) z.1=0:=jwQ fun r o Q=>by
    have:=hc.shut r o
    rw[Q,K, <-jdo,(jfY.1 J).2]at this;cases this
   have X:z.2.2.used=0:=by rw[e];rfl
   omega
 ·rw[jee]
  rw[jlh]at o;rcases bW.1 o with o | o
  ·rw[bZ];exact iD _ (hc.shut r o)
  ·exact jdo.1 (ji7 hP (E r o))
 ·rw[jcw]at A
  obtain⟨z,m,rfl⟩:=bI.1 A
  show 0<=z.2.2.held+((cK [shaB top] z.1:Nat):Int);rcases bW.1 m with m | m
  ·have:=hc.held z m;omega
  ·obtain⟨t,O,_,e⟩:=jcG hG (jbF m).1
   have X:z.2.2.held=0:=by rw[e];rfl
   omega
 ·rw[jcw]at A
  obtain⟨z,m,rfl⟩:=bI.1 A
  show z.2.2.refs.length<=16;rcases bW.1 m with m | m
  ·exact hc.r16 z m
  ·exact hf.refs z (jbF m).1
theorem joo{S G:vT}{L M:vM}{top:vB}(hc:Cnt S)(hfl:jqF S)(hG:G.map kvI=readG L)(hP:jfI S G (shaB top) M (frK S M).length):jqF (addS S G M top):=fun x E=>by
 rw[jcw]at E
 obtain⟨z,m,rfl⟩:=bI.1 E
 show 0 < z.2.2.used+((cK ((frK S M).flatMap (jbZ G)) z.1:Nat):Int)+(z.2.2.held+((cK [shaB top] z.1:Nat):Int));rcases bW.1 m with m | m
 ·have:=hfl z m;omega
 ·obtain⟨o,f,A,H⟩:=jbF m
  obtain⟨t,K,_,e⟩:=jcG hG o
  have O:z.2.2.used=0:=by rw[e];rfl
  have Q:z.2.2.held=0:=by rw[e];rfl
  have J:=(jfY.1 A).1
  have:=hP.is
  rw[cE]at this;rw[this]at J;rcases bX.1 J with h | h
  ·have:1<=cK [shaB top] z.1:=by rw[H,h];exact jvZ (by simp)
   omega
  ·have:1<=cK ((frK S M).flatMap (jbZ G)) z.1:=by rw[H];exact jvZ h
   omega
theorem jvF(T:vM)(r:vB)(S:vT):jeZ (S.map (jh8 T r))=jeZ S+((S.map (·.1)).count r.data.toList:Int):=by
 induction S with
 | nil=>simp[jeZ]
 | cons x l ih =>
  have e:∀ (a:Nd5) b,jeZ (a :: b)=a.2.2.held+jeZ b:=fun a b=>by unfold jeZ;rw[bT,iP]
  rw[bT,e,e,ih,bT,List.count_cons];have m:(jh8 T r x).2.2.held=x.2.2.held+((cK [r] x.1:Nat):Int):=rfl;have o:cK [r] x.1=if x.1=r.data.toList then 1 else 0:=by
   have:=jke r [] x.1
   rw[this];simp[cK]
  rw[m,o]
  by_cases hx:x.1=r.data.toList
  ·rw[if_pos hx,if_pos (by simp[hx])];push_cast;omega
  ·rw[if_neg hx,if_neg (by simpa using hx)];push_cast;omega
theorem jxZ(A B:vT):jeZ (A++B)=jeZ A+jeZ B:=by unfold jeZ;rw[bZ,List.sum_append]
theorem jpf:∀ {B:vT},(∀ x∈B,x.2.2.held=0)->jeZ B=0
 | [],_=>rfl
 | x :: r,h=>by
  have e:jeZ (x :: r)=x.2.2.held+jeZ r:=by unfold jeZ;rw[bT,iP]
  rw[e,h x bK,jpf fun y m=>h y (bH _ m)];rfl
theorem jlB:∀ {l:List Key},l.Nodup->∀ {k:Key},k∈l->l.count k=1
 | [],_,_,m=>by cases m
 | x :: r,h,k,m=>by
  rw[fI]at h;rw[List.count_cons]
  by_cases e:x=k
  ·subst e
   rw[List.count_eq_zero_of_not_mem h.1];simp
  ·have m:k∈r:=(bX.1 m).resolve_left fun o=>e o.symm
   rw[jlB h.2 m];simp[e]
theorem jxY{S G:vT}{L M:vM}{top:vB}(hn:((addS S G M top).map (·.1)).Nodup)(hG:G.map kvI=readG L)(hP:jfI S G (shaB top) M (frK S M).length):jeZ (addS S G M top)=jeZ S+1:=by
 have m:(shaB top).data.toList∈(S++jc1 G (frK S M)).map (·.1):=jdo.1 (ji7 hP (by rw[hP.is];exact bK));rw[jee]at hn;rw[jcw,jvF,jxZ,jpf (B:=jc1 G (frK S M)) (fun x o=>by
  obtain⟨t,A,_,e⟩:=jcG hG (jbF o).1
  rw[e];rfl),jlB hn m]
 omega
theorem jns{S G:vT}{M:vM}{top:vB}:(addS S G M top).length<=S.length+(frK S M).length:=by
 rw[jcw,bU,bF]
 have:(jc1 G (frK S M)).length<=(frK S M).length:=List.length_filterMap_le _ _
 omega
theorem jov{S G:vT}{L M:vM}{top:vB}{n:Int}(h:∀ x∈S,x.2.2.held<=n)(h0:0<=n)(hG:G.map kvI=readG L):∀ x∈addS S G M top,x.2.2.held<=n+1:=fun x o=>by
 rw[jcw]at o
 obtain⟨z,m,rfl⟩:=bI.1 o
 show z.2.2.held+((cK [shaB top] z.1:Nat):Int)<=n+1;have A:=jyU [shaB top] z.1;rw[jA]at A;rcases bW.1 m with m | m
 ·have:=h z m;omega
 ·obtain⟨t,E,_,e⟩:=jcG hG (jbF m).1
  have H:z.2.2.held=0:=by rw[e];rfl
  omega
end Go.Proofs.YtegloohdmjadoaaGreatDoor
