/- Lemmas; each is under no condition but those that it states. -/
import Derived.Test.YtdofbjccfkaijaaGreatDoorPn29
namespace Go.Proofs.YtdofbjccfkaijaaGreatDoor
set_option linter.unusedSimpArgs false
set_option linter.unusedVariables false
set_option maxRecDepth 100000
set_option maxHeartbeats 16000000
open Go Go.RowKit
def jeF(w:vW)(l:vL)(cs:List Chg)(e:Ending)(w':vW):Prop:=
 Ext w w'/\if jaW l cs=0 then ∃ r,e=.returned (.tuple #[r,.int .i64 0])/\RdP w' r (jcH (jcT l cs))else e=.returned (.tuple #[.slice none 0 0,.int .i64 (jaW l cs)])
theorem jeF.bad{w w':vW}{l:vL}{cs:List Chg}{x:Int}(h:jaW l cs=x)(h0:x≠0)(he:Ext w w'):jeF w l cs (.returned (.tuple #[.slice none 0 0,.int .i64 x])) w':=by
 unfold jeF;rw[h,if_neg h0];exact⟨he,rfl⟩
def jA8(w:vW)(l:vL)(cs:List Chg)(lv iv:vV)(wr:vW):Prop:=∃ i:Nat,i<=cs.length/\iv=.int .i64 i/\Ext w wr/\RdP wr lv ((cs.take i).foldl oneL l)
theorem jjY:∀ (cs:List Chg) (l:vL),jb7 l->joo cs->jb7 (cs.foldl oneL l)
 | [],_,h,_=>h
 | c :: r,l,h,hc=>jjY r _ (jtj h (hc c bH)) fun x e=>hc x (bE _ e)
theorem jv0(w:vW)(v u:vV)(l:vL)(cs:List Chg)(hv:RdP w v l)(hu:RdC w u cs)(hn:l.length<=45)(hnc:cs.length<=45)(hs:jb7 l)(hsc:joo cs) :
  vQ 36 #[v,u] w (jeF w l cs):=by
 have HV:=Hd hv;have HU:=Hd hu;have HS:=Hd hs;have K:=Hd hsc
 obtain⟨a,c,rfl⟩:=hv.sl
 obtain⟨a',c',Z⟩:=hu.sl
 subst Z;clear hv hu hs hsc;go_enter Tryz.func36,Tryz.ntmps36;go_wp2_with fail
 refine vH (jk3 w _ l HV.o vO HS.o) fun w1 A=>?_
 by_cases hck:jaw l=0
 case neg =>
  obtain⟨x,hx⟩:=vE (jaw l)
  have O:=Hd (show jaW l cs=x by unfold jaW;rw[if_pos hck,hx]);rw[<-hx]at hck ⊢;have b6:(x == 0)=false:=by simpa using hck
  have b5:(x != 0)=true:=by simpa using hck
  have Q:=Hd hck;clear hck hx;go_wp2_with fail
  go_ret2;exact jeF.bad O.o Q.o A.o
 rw[hck];have E:=Hd hck;clear hck;go_wp2_with fail
 refine vH (jyy w1 _ cs (HU.o.ext A.o) vO K.o) fun w2 hE=>?_;have z:=Hd (A.o.trans hE);clear A;cases hbd:cs.any Chg.bad with
 | true =>
  have O:=Hd (show jaW l cs=1 by unfold jaW;rw[if_neg (by rw[E.o];simp),if_pos hbd]);clear hbd;go_wp2_with fail
  go_ret2;exact jeF.bad O.o vI z.o
 | false =>
  have a1:=Hd hbd;clear hbd;go_wp2_with fail
  go_loopw [0,7] (fun lv iv wr=>jA8 w2 l cs lv iv wr) (fun _ iv _=>cs.length - (intOf iv).toNat)
  case atStart=>exact⟨0,by omega,rfl,ExtR w2,HV.o.ext z.o⟩
  case round =>
   obtain⟨i,hi,rfl,hE,H⟩:=hrel
   obtain⟨L,hL⟩:=vE ((cs.take i).foldl oneL l)
   rw[<-hL]at H
   obtain⟨a2,c2,rfl⟩:=H.sl
   have Q:=Hd hE;have HR:=Hd H;have a3:=Hd hL;have a7:=jpr (cs.take i) l;rw[cQ, <-hL]at a7;have a8:=Hd (show jb7 L by rw[hL];exact jjY _ _ HS.o fun x hx=>K.o x (iJ hx));clear hE H hL
   by_cases hlt:i < cs.length
   ·have b1:(i:Int) < (cs.length:Int):=vO
    rcases HU.o with⟨_,_,_,h0⟩ |⟨b,o,c1,hh,hb,hcc,hcell⟩
    ·rw[h0]at hlt;cases hlt
    cases hh
    obtain⟨p,hp⟩:∃ p,cs[i]?=some p:=⟨_,bA hlt⟩
    obtain⟨q1,q2,q3⟩:=hcell i p hp
    have q1:=jaa q1 (z.o.trans Q.o);have q2:=jaa q2 (z.o.trans Q.o);have q3:=jaa q3 (z.o.trans Q.o);have a9:=Hd (K.o p (bI hp));have b0:=Hd (show (cs.take (i+1)).foldl oneL l=oneL L p by rw[bY,hp,dX, <-a3.o];rfl);clear hcell hp hb hcc;go_wp2_with fail
    refine (jAn wr _ L p HR.o vO a8.o a9.o).mono ?_;rintro e w4 ⟨r4,rfl,H⟩;have a5:=H.ext;have b3:=Hd (ERow.rd H)
    obtain⟨a4,c4,rfl⟩:=H.sl
    have b4:=Hd (Q.o.trans a5);clear H a5 q1 q2 q3;go_wp2_with fail
    go_roundw
    case rel=>exact⟨i+1,by omega,by go_num,b4.o,by rw[b0.o];exact b3.o⟩
    case measure=>exact vJ
   ·have b1:¬(i:Int) < (cs.length:Int):=vO
    have X:L=jcH (jcT l cs):=by rw[a3.o,bN vO,jqR E.o]
    have J:L.length=(jcT l cs).length:=by rw[X,jmY]
    have a0:=Hd X;have a6:=Hd (z.o.trans Q.o);clear X
    by_cases h40:40 < L.length
    ·have b2:(40:Int) < (L.length:Int):=vO
     have O:=Hd (show jaW l cs=12 by unfold jaW;rw[if_neg (by rw[E.o];simp),if_neg (by rw[a1.o];simp),if_pos vO]);clear J;go_wp2_with fail
     go_ret2;exact jeF.bad O.o vI a6.o
    ·have b2:¬(40:Int) < (L.length:Int):=vO
     have O:=Hd (show jaW l cs=0 by unfold jaW;rw[if_neg (by rw[E.o];simp),if_neg (by rw[a1.o];simp),if_neg vO]);clear J;go_wp2_with fail
     go_ret2;unfold jeF;rw[if_pos O.o]
     exact⟨a6.o,_,rfl,by rw[<-a0.o];exact HR.o⟩
theorem jxK{d:Option TypeDesc}(h:jhi d [(false,9,0),(false,9,1),(false,4,2)]=true):∃ f g e:Field,d=some (.struct #[f,g,e])/\(f.name ≠ "_"/\f.type=9/\f.offset=0)/\(g.name ≠ "_"/\g.type=9/\g.offset=1)/\e.name ≠ "_"/\e.type=4/\e.offset=2:=by
 cases d with
 | none=>cases h
 | some d =>
  cases d <;> try (cases h;done)
  rename_i fs
  obtain⟨l⟩:=fs
  rcases l with _ |⟨f,_ |⟨g,_ |⟨e,_ |⟨z,r⟩⟩⟩⟩ <;> simp[jhi]at h
  obtain⟨o,A,E⟩:=h
  exact⟨f,g,e,rfl,o,A,E⟩
theorem Tryz.chgFields:jhi (Tryz.prog.underlying 49) [(false,9,0),(false,9,1),(false,4,2)]=true:=vY
theorem Tryz.chgHeld:Tryz.prog.stoodInHeld 49=false:=vY
theorem Tryz.boolAgg(w:vW):(isAgg 4).run Tryz.prog w=.ok false w:=vY
theorem jzZ(d:Nat)(a b:Bool)(w:vW):(Op.equalIn (d+1) 4 (.bool a) (.bool b)).run Tryz.prog w=.ok (a == b) w:=by
 simp[Op.equalIn,bX,run_underlying Tryz.underlying4,Result.andThen,cO]
theorem jwk(x:vB):(x == x)=true:=by rw[jeo];simp
theorem jx6(x y:vB)(g:Bool)(w:vW):(binOp .neq 49 (.agg #[.string x,.string y,.bool g]) (.agg #[.string x,.string y,.bool g])).run Tryz.prog w=.ok (.bool false) w:=by
 obtain⟨f,k,e,J,⟨K,O,Q⟩,⟨X,Z,h6⟩,h7,h8,h9⟩:=jxK Tryz.chgFields
 have o:∀ (u v z:vV) w,(part 9 #[u,v,z] 0).run Tryz.prog w=.ok u w:=fun u v z w=>by
  simp[part,bX,Tryz.strAgg,Result.andThen,cO]
 have A:∀ (u v z:vV) w,(part 9 #[u,v,z] 1).run Tryz.prog w=.ok v w:=fun u v z w=>by
  simp[part,bX,Tryz.strAgg,Result.andThen,cO]
 have E:∀ (u v z:vV) w,(part 4 #[u,v,z] 2).run Tryz.prog w=.ok z w:=fun u v z w=>by
  simp[part,bX,Tryz.boolAgg,Result.andThen,cO]
 have he:∀ d,(Op.equalIn (d+2) 49 (.agg #[.string x,.string y,.bool g]) (.agg #[.string x,.string y,.bool g])).run Tryz.prog w=.ok true w:=fun d=>by
  rw[Op.equalIn];simp only[bX,run_underlying J,Result.andThen];simp[bX,Result.andThen,Sem.run,Tryz.chgHeld,K,O,Q,X,Z,h6,h7,h8,h9,o,A,E,jxI,jzZ,jwk]
 have H:(Op.equal 49 (.agg #[.string x,.string y,.bool g]) (.agg #[.string x,.string y,.bool g])).run Tryz.prog w=.ok true w:=he 9998;simp only[binOp,bX,H,Result.andThen,cO];rfl
theorem Tryz.isChange:jgG (Tryz.prog.underlying 49)=true:=vY
theorem Tryz.szChange:(Tryz.prog.info? 49).map (·.size)=some 3:=vY
theorem jpd{w:vW}{b o:Nat}{x y:vB}{g:Bool}(h1:w.cell? ⟨b,o,none⟩=some (.string x))(h2:w.cell? ⟨b,o+1,none⟩=some (.string y))(h3:w.cell? ⟨b,o+2,none⟩=some (.bool g)):(Instr.loadAt 49 (.pointer (some ⟨b,o,none⟩))).run Tryz.prog w=.ok (.agg #[.string x,.string y,.bool g]) w:=by
 obtain⟨A,z⟩:=jfR Tryz.isChange
 refine jd9 (xs:=[.string x,.string y,.bool g]) z Tryz.szChange (fun j v e=>?_);rw[Addr.add_lit]
 match j,e with
 | 0,e=>simp at e;subst e;exact h1
 | 1,e=>simp at e;subst e;exact h2
 | 2,e=>simp at e;subst e;exact h3
 | j+3,e=>simp at e
def jBe(w:vW)(l:List Chg)(v:vV)(wr:vW):Prop:=∃ i:Nat,i<=l.length/\v=.int .i64 i/\Ext w wr
theorem joc(w:vW)(v u:vV)(l:List Chg)(hv:RdC w v l)(hu:RdC w u l)(hn:l.length<=1000000):vR 13 #[v,u] w (.bool true):=by
 obtain⟨a,c,E⟩:=hv.sl
 obtain⟨a',c',A⟩:=hu.sl
 have HV:=Hd hv;have HU:=Hd hu;subst E;subst A;clear hv hu;unfold vR vQ;go_in;go_wp2_with fail
 go_loopw [5] (fun i wr=>jBe w l i wr) (fun i _=>l.length - (intOf i).toNat)
 case atStart=>exact⟨0,by omega,rfl,ExtR w⟩
 case round =>
  obtain⟨i,hi,rfl,X⟩:=hrel
  have z:=Hd X;clear X
  by_cases hlt:i < l.length
  ·rcases HV.o with⟨_,_,_,h0⟩ |⟨b,o,c1,hh,hb,hc,hcell⟩
   ·rw[h0]at hlt;cases hlt
   rcases HU.o with⟨_,_,_,h0⟩ |⟨b',o',c2,hh',hb',hc',hcell'⟩
   ·rw[h0]at hlt;cases hlt
   cases hh;cases hh'
   obtain⟨p,H⟩:∃ p,l[i]?=some p:=⟨_,bA hlt⟩
   obtain⟨Z,q2,q3⟩:=hcell i p H
   obtain⟨q4,q5,q6⟩:=hcell' i p H
   have J:Hid (∀ w1,Ext wr w1->(Instr.loadAt 49 (.pointer (some ⟨b,o+i * 3,none⟩))).run Tryz.prog w1=.ok (.agg #[.string p.key,.string p.value,.bool p.gone]) w1):=fun w1 e=>jpd (jaa Z (z.o.trans e)) (jaa q2 (z.o.trans e)) (jaa q3 (z.o.trans e));have K:Hid (∀ w1,Ext wr w1->(Instr.loadAt 49 (.pointer (some ⟨b',o'+i * 3,none⟩))).run Tryz.prog w1=.ok (.agg #[.string p.key,.string p.value,.bool p.gone]) w1):=fun w1 e=>jpd (jaa q4 (z.o.trans e)) (jaa q5 (z.o.trans e)) (jaa q6 (z.o.trans e));have O:=Hd (fun w=>jx6 p.key p.value p.gone w);have b1:(i:Int) < (l.length:Int):=vO
   clear hcell hcell' H Z q2 q3 q4 q5 q6 hc hc' hb hb';go_wp2_with fail
   refine jag [0,1,2,3,4,5,6,7,8] Ext ExtR ExtT vY vY vY ?_;iterate 3 refine vK ?_
   refine qKL ⟨b,o+i * 3,none⟩ _ rfl (fun w1 e=>J.o w1 ((jah wr).trans e)) ?_;refine vS ?_;iterate 3 refine vK ?_
   refine qKL ⟨b',o'+i * 3,none⟩ _ rfl (fun w1 e=>K.o w1 ((jah wr).trans e)) ?_;refine vS ?_;refine jcu _ (.bool false) rfl vY rfl (fun w1 e=>jvg rfl rfl vY (O.o w1)) ?_;refine vS ?_;refine qKE (fun w3 he=>?_);have Q:=Hd ((z.o.trans (jah wr)).trans he);clear he;go_wp2_with fail
   go_roundw
   case rel=>exact⟨i+1,by omega,by go_num,Q.o⟩
   case measure=>exact vJ
  ·have b1:¬(i:Int) < (l.length:Int):=vO
   go_wp2_with fail
   go_ret
   exact⟨rfl,z.o⟩
section
attribute [local go_sem] Oper.semAt_some
def jBf(w:vW)(n:Nat)(iv:vV)(W:vW)(l m:vM):Prop:=∃ i:Nat,i<=n/\iv=.int .i64 i/\l.take i=m.take i/\Ext w W
theorem jtY(w:vW)(v u:vV)(l m:vM)(hv:RdS w v l)(hu:RdS w u m)(hn:l.length<=1000000)(hn2:m.length<=1000000):vR 15 #[v,u] w (.bool (decide (l=m))):=by
 obtain⟨a,c,rfl,_⟩:=hv.slice
 obtain⟨a2,c2,rfl,_⟩:=hu.slice
 have HV:=Hd hv;have HU:=Hd hu;clear hv hu
 by_cases hl:l.length=m.length
 ·have a4:(l.length:Int)=(m.length:Int):=vO
  obtain⟨n,A⟩:=vE l.length
  have Q:m.length=n:=vO
  have X:=Hd Q;have Z:=Hd A;rw[Q, <-A];rw[<-A]at hn;clear a4 hl Q A hn2;unfold vR vQ;go_in;go_wp2_with fail
  go_loopw [5] (fun iv wr=>jBf w n iv wr l m) (fun iv _=>n - (intOf iv).toNat)
  case atStart=>exact⟨0,cE _,rfl,rfl,ExtR w⟩
  case round =>
   obtain⟨i,hi,rfl,a0,hE⟩:=hrel
   have HE:=Hd hE;have a1:=Hd a0;clear hE a0
   by_cases hlt:i < n
   ·have b1:(i:Int) < (n:Int):=vO
    have E:i < l.length:=by have:=Z.o;omega
    have H:i < m.length:=by have:=X.o;omega
    obtain⟨x,hx⟩:∃ x,l[i]?=some x:=⟨_,bA E⟩
    obtain⟨y,hy⟩:∃ y,m[i]?=some y:=⟨_,bA H⟩
    have a5:RdS w (.slice a n c) l:=by have:=HV.o;rwa [<-Z.o]at this
    have a6:RdS w (.slice a2 n c2) m:=by have:=HU.o;rwa [X.o]at this
    have J:∃ ba oa,a=some ⟨ba,oa,none⟩/\wr.cell? ⟨ba,oa+i,none⟩=some (.string x):=by
     rcases HV.o with⟨_,_,_,h0⟩ |⟨bq,oq,cq,hh,_,_,hcell⟩
     ·rw[h0]at E;cases E
     ·exact⟨bq,oq,(cW hh).1,jaa (hcell i x hx) HE.o⟩
    have K:∃ ba oa,a2=some ⟨ba,oa,none⟩/\wr.cell? ⟨ba,oa+i,none⟩=some (.string y):=by
     rcases HU.o with⟨_,_,_,h0⟩ |⟨bq,oq,cq,hh,_,_,hcell⟩
     ·rw[h0]at H;cases H
     ·exact⟨bq,oq,(cW hh).1,jaa (hcell i y hy) HE.o⟩
    obtain⟨ba,oa,rfl,J⟩:=J
    obtain⟨a7,a8,rfl,K⟩:=K
    have HX:=Hd hx;have HY:=Hd hy;have Q1:=Hd J;have Q2:=Hd K;clear a5 a6 E H hx hy J K;go_wp2_with fail
    refine jag [0,1,2,3,4,5,6,7,8] Ext ExtR ExtT vY vY vY ?_;iterate 3 refine vK ?_
    refine qKL ⟨ba,oa+i,none⟩ _ rfl (fun w1 O=>jab Tryz.underlying9 rfl (jaa Q1.o ((jah wr).trans O))) ?_;refine vS ?_;iterate 3 refine vK ?_
    refine qKL ⟨a7,a8+i,none⟩ _ rfl (fun w1 O=>jab Tryz.underlying9 rfl (jaa Q2.o ((jah wr).trans O))) ?_;refine vS ?_
    refine vK ?_
    refine qKE (fun w3 he=>?_);have a3:=Hd (HE.o.trans ((jah wr).trans he));clear he HE Q1 Q2
    by_cases hxy:x=y
    ·subst hxy
     have z:(!x.toList == x.toList)=false:=by simp
     rw[z];clear z;have HT:=Hd (show l.take (i+1)=m.take (i+1) by rw[bY,bY,HX.o,HY.o,a1.o]);go_wp2_with fail
     go_roundw
     case rel=>exact⟨i+1,by omega,by go_num,HT.o,a3.o⟩
     case measure=>exact vJ
    ·have z:(!x.toList == y.toList)=true:=by
      have:¬ x.toList=y.toList:=fun e=>hxy (jdL e)
      simpa using this
     rw[z];clear z;have HN:=Hd (show decide (l=m)=false from decide_eq_false (fun e=>by
      have O:=HX.o;rw[e,HY.o]at O;exact hxy (bS O).symm))
     go_wp2_with fail
     go_ret
     exact⟨by rw[HN.o];rfl,a3.o⟩
   ·have a9:i=n:=vO
    have HD:=Hd (show decide (l=m)=true from decide_eq_true (by
     have O:=a1.o;rw[a9,bN (by rw[<-Z.o];exact bL _),bN (by rw[X.o];exact bL _)]at O;exact O))
    go_wp2_with fail
    go_ret
    exact⟨by rw[HD.o];rfl,HE.o⟩
 ·have HL:Hid (decide (l=m)=false):=(decide_eq_false (fun e=>hl (by rw[e])))
  have hb:((l.length:Int) ==(m.length:Int))=false:=by simp;omega
  have b0:¬(l.length:Int)=(m.length:Int):=vO
  rw[HL.o];unfold vR vQ;go_in;go_wp2_with fail
  go_ret
  exact⟨rfl,ExtR w⟩
end
