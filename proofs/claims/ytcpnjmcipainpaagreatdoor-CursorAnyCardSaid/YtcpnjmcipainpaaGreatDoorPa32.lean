/- Parts of the proof, one behind the other: jac. Each is under no condition but those that it states. -/
import Derived.Test.YtcpnjmcipainpaaGreatDoorPa31
namespace Go.Proofs.YtcpnjmcipainpaaGreatDoor
set_option linter.unusedSimpArgs false
set_option linter.unusedVariables false
set_option maxRecDepth 100000
set_option maxHeartbeats 16000000
section
open Go Go.RowKit
attribute [local go_sem] Oper.semAt_some
def jkO(s:ByteArray)(m:jac):Prop:=(∃ p v,m=⟨1,p,v,jau 16⟩∧jbc p=true∧p.size≤1000000∧v.size≤1000000) ∨
 (∃ p y,m=⟨2,p,⟨#[]⟩,y :: jau 15⟩∧jbc p=true∧p.size≤1000000∧y.size < s.size∧y.size≠0) ∨
 (∃ v rs,m=⟨3,⟨#[]⟩,v,rs⟩∧rs.length=16∧v.size≤1000000∧(∀ r∈rs,r.size < s.size)∧∀ r∈rs,r.size≠0→r≠jaq ⟨#[]⟩)
def jmW(w:World)(s:ByteArray)(e:Ending)(w':World):Prop:=RdNo w e w'∨∃ m:jac,m.refs.length=16∧jkO s m∧e=.returned (.tuple #[m.V,.bool true])∧Ext w w'
theorem jh5(w:World)(s:ByteArray)(hs:s.size≤400000)(hne:s≠jaq ⟨#[]⟩)(o n:Nat)(h:cutN s=some (false,o,n)):Calls Tryz.prog 144 #[.string s] w (RdNo w):=by
 obtain⟨em,hem⟩:∃ em,em=jaq ⟨#[]⟩:=⟨_,rfl⟩
 have hnl:=jbP hne;rw[←hem]at hnl;have HEM:=Hd hem;have HS:=Hd (show s.size≤1000000000 by omega);have H1:=Hd h
 obtain⟨bh,hbh⟩:∃ bh,bh=s.extract (o+n) s.size:=⟨_,rfl⟩
 obtain⟨c,hcd⟩:∃ c,c=s.extract o (o+n):=⟨_,rfl⟩
 have HX:=Hd (And.intro hbh hcd);clear hem hne h hbh hcd;go_enter Tryz.func144,Tryz.ntmps144;go_wp2_with (refine jak Tryz.allocNode rfl rfl ?_;intro W1 hB1 hE1)
 refine (jbN _ ⟨#[]⟩ (by decide)).mono ?_;rintro e w2 ⟨rfl,hE⟩;rw[←HEM.o];have HB2:=Hd (hB1.keeps hE (fun h=>h));have HE2:=Hd (hE1.trans hE);clear hB1 hE1 hE;go_wp2_with fail
 refine (jdd _ s _ HS.o H1.o).mono ?_;rintro e w3 ⟨rfl,hE⟩;simp only;rw[←HX.o.1, ←HX.o.2];have HE3:=Hd (HE2.o.trans hE);have hB3:=HB2.o.keeps hE (fun h=>h);clear hE HE2 HB2;go_wp2_with (refine jaf (vs:=jar.cells) rfl rfl rfl rfl hB3 rfl Tryz.szNode (jac.one _) ?_;intro W8 hB8 hE8)
 refine bodyPost_ret (jag rfl rfl rfl (jal W8 _ jar rfl hB8)) rfl ?_
 exact⟨jar,rfl,rfl,HE3.o.trans' hE8 (fun x hx e=>by have e:x=w.heap.size:=e;omega)⟩
theorem jiL(w:World)(s:ByteArray)(hs:s.size≤400000)(hne:s≠jaq ⟨#[]⟩)(o n:Nat)(h:cutN s=some (true,o,n))(hlt:o+n < s.size):Calls Tryz.prog 144 #[.string s] w (RdNo w):=by
 obtain⟨em,hem⟩:∃ em,em=jaq ⟨#[]⟩:=⟨_,rfl⟩
 have hnl:=jbP hne;rw[←hem]at hnl;have HEM:=Hd hem;have HS:=Hd (show s.size≤1000000000 by omega);have H1:=Hd h
 obtain⟨bh,hbh⟩:∃ bh,bh=s.extract (o+n) s.size:=⟨_,rfl⟩
 obtain⟨c,hcd⟩:∃ c,c=s.extract o (o+n):=⟨_,rfl⟩
 have hbn:=jaO (s:=bh) (by rw[hbh,ByteArray.size_extract];omega);have HX:=Hd (And.intro hbh hcd);clear hem hne h hbh hcd hlt;go_enter Tryz.func144,Tryz.ntmps144;go_wp2_with (refine jak Tryz.allocNode rfl rfl ?_;intro W1 hB1 hE1)
 refine (jbN _ ⟨#[]⟩ (by decide)).mono ?_;rintro e w2 ⟨rfl,hE⟩;rw[←HEM.o];have HB2:=Hd (hB1.keeps hE (fun h=>h));have HE2:=Hd (hE1.trans hE);clear hB1 hE1 hE;go_wp2_with fail
 refine (jdd _ s _ HS.o H1.o).mono ?_;rintro e w3 ⟨rfl,hE⟩;simp only;rw[←HX.o.1, ←HX.o.2];have HE3:=Hd (HE2.o.trans hE);have hB3:=HB2.o.keeps hE (fun h=>h);clear hE HE2 HB2;go_wp2_with (refine jaf (vs:=jar.cells) rfl rfl rfl rfl hB3 rfl Tryz.szNode (jac.one _) ?_;intro W8 hB8 hE8)
 refine bodyPost_ret (jag rfl rfl rfl (jal W8 _ jar rfl hB8)) rfl ?_
 exact⟨jar,rfl,rfl,HE3.o.trans' hE8 (fun x hx e=>by have e:x=w.heap.size:=e;omega)⟩
theorem jh4(w:World)(s:ByteArray)(hs:s.size≤400000)(hne:s≠jaq ⟨#[]⟩)(o n:Nat)(h:cutN s=some (true,o,n))(hle:o+n=s.size)(c:ByteArray)(hcd:c=s.extract o (o+n))(hI:∀ w1,Ext w w1→Calls Tryz.prog 188 #[.string c] w1 fun e w'=>e=.returned (.tuple #[.slice none 0 0,.int .i64 2])∧Ext w1 w'):Calls Tryz.prog 144 #[.string s] w (RdNo w):=by
 obtain⟨em,hem⟩:∃ em,em=jaq ⟨#[]⟩:=⟨_,rfl⟩
 have hnl:=jbP hne;rw[←hem]at hnl;have HEM:=Hd hem;have HS:=Hd (show s.size≤1000000000 by omega);have H1:=Hd h;have H2:=Hd hle;have HCD:=Hd hcd;have HI:=Hd hI;clear hem hne h hle hcd hI;go_enter Tryz.func144,Tryz.ntmps144;go_wp2_with (refine jak Tryz.allocNode rfl rfl ?_;intro W1 hB1 hE1)
 refine (jbN _ ⟨#[]⟩ (by decide)).mono ?_;rintro e w2 ⟨rfl,hE⟩;rw[←HEM.o];have HB2:=Hd (hB1.keeps hE (fun h=>h));have HE2:=Hd (hE1.trans hE);clear hB1 hE1 hE;go_wp2_with fail
 refine (jdd _ s _ HS.o H1.o).mono ?_;rintro e w3 ⟨rfl,hE⟩;simp only;rw[←HCD.o,H2.o,jce];have HE3:=Hd (HE2.o.trans hE);have HB3:=Hd (HB2.o.keeps hE (fun h=>h));clear hE HE2 HB2;go_wp2_with fail
 refine (HI.o w3 HE3.o).mono ?_;rintro e w4 ⟨rfl,hE⟩;have hB4:=HB3.o.keeps hE (fun h=>h);have HE4:=Hd (HE3.o.trans hE);clear hE HE3 HB3;go_wp2_with (refine jaf (vs:=jar.cells) rfl rfl rfl rfl hB4 rfl Tryz.szNode (jac.one _) ?_;intro W8 hB8 hE8)
 refine bodyPost_ret (jag rfl rfl rfl (jal W8 _ jar rfl hB8)) rfl ?_
 exact⟨jar,rfl,rfl,HE4.o.trans' hE8 (fun x hx e=>by have e:x=w.heap.size:=e;omega)⟩
theorem jkz(w:World)(s:ByteArray)(hs:s.size≤400000)(hne:s≠jaq ⟨#[]⟩)(o n:Nat)(h:cutN s=some (true,o,n))(hle:o+n=s.size)(c:ByteArray)(hcd:c=s.extract o (o+n))(xs:List ByteArray)(hI:∀ w1,Calls Tryz.prog 188 #[.string c] w1 fun e w'=>∃ v,e=.returned (.tuple #[v,.int .i64 0])∧SRow w1 w' v xs.length xs)(hl2:xs.length≠2)(hl17:xs.length≠17):Calls Tryz.prog 144 #[.string s] w (RdNo w):=by
 obtain⟨em,hem⟩:∃ em,em=jaq ⟨#[]⟩:=⟨_,rfl⟩
 have hnl:=jbP hne;rw[←hem]at hnl;have HEM:=Hd hem;have HS:=Hd (show s.size≤1000000000 by omega);have H1:=Hd h;have H2:=Hd hle;have HCD:=Hd hcd;have HI:=Hd hI;clear hem hne h hle hcd hI;go_enter Tryz.func144,Tryz.ntmps144;go_wp2_with (refine jak Tryz.allocNode rfl rfl ?_;intro W1 hB1 hE1)
 refine (jbN _ ⟨#[]⟩ (by decide)).mono ?_;rintro e w2 ⟨rfl,hE⟩;rw[←HEM.o];have HB2:=Hd (hB1.keeps hE (fun h=>h));have HE2:=Hd (hE1.trans hE);clear hB1 hE1 hE;go_wp2_with fail
 refine (jdd _ s _ HS.o H1.o).mono ?_;rintro e w3 ⟨rfl,hE⟩;simp only;rw[←HCD.o,H2.o,jce];have HE3:=Hd (HE2.o.trans hE);have HB3:=Hd (HB2.o.keeps hE (fun h=>h));clear hE HE2 HB2;go_wp2_with fail
 refine (HI.o w3).mono ?_;rintro e w4 ⟨v,rfl,hv⟩;have hB4:=HB3.o.keeps hv.ext (fun h=>h);have HE4:=Hd (HE3.o.trans hv.ext);rcases hv.sl with⟨ad,cp,rfl⟩;have d2:((xs.length:Int) == 2)=false:=by simp;omega
 have d17:((xs.length:Int) == 17)=false:=by simp;omega
 clear hv HE3 HB3;go_wp2_with (refine jaf (vs:=jar.cells) rfl rfl rfl rfl hB4 rfl Tryz.szNode (jac.one _) ?_;intro W8 hB8 hE8)
 refine bodyPost_ret (jag rfl rfl rfl (jal W8 _ jar rfl hB8)) rfl ?_
 exact⟨jar,rfl,rfl,HE4.o.trans' hE8 (fun x hx e=>by have e:x=w.heap.size:=e;omega)⟩
theorem jn8(w:World)(s:ByteArray)(hs:s.size≤400000)(hne:s≠jaq ⟨#[]⟩)(o n:Nat)(h:cutN s=some (true,o,n))(hle:o+n=s.size)(c:ByteArray)(hcd:c=s.extract o (o+n))(x y:ByteArray)(hI:∀ w1,Calls Tryz.prog 188 #[.string c] w1 fun e w'=>∃ v,e=.returned (.tuple #[v,.int .i64 0])∧SRow w1 w' v 2 [x,y])(hx:x.size≤400000)(hy:y.size < s.size)(hy0:y.size≠0):Calls Tryz.prog 144 #[.string s] w (jmW w s):=by
 have HP:=Hd (fun w=>jnW w x y (by omega) (by omega));have HR:=Hd (jmc x y);have HF:=Hd (fun h=>jnV (x:=x) (y:=y) (by omega) (by omega) h);have HY:=Hd (And.intro hy hy0)
 obtain⟨g,hg⟩:∃ g,g=jfB x y:=⟨_,rfl⟩
 unfold jik at HP;rw[←hg]at HR HF HP;clear hg hy hy0
 obtain⟨m,ok⟩:=g
 obtain⟨em,hem⟩:∃ em,em=jaq ⟨#[]⟩:=⟨_,rfl⟩
 have hnl:=jbP hne;rw[←hem]at hnl;have HEM:=Hd hem;have HS:=Hd (show s.size≤1000000000 by omega);have H1:=Hd h;have H2:=Hd hle;have HCD:=Hd hcd;have HI:=Hd hI;clear hem hne h hle hcd hI;go_enter Tryz.func144,Tryz.ntmps144;go_wp2_with (refine jak Tryz.allocNode rfl rfl ?_;intro W1 hB1 hE1)
 refine (jbN _ ⟨#[]⟩ (by decide)).mono ?_;rintro e w2 ⟨rfl,hE⟩;rw[←HEM.o];have HB2:=Hd (hB1.keeps hE (fun h=>h));have HE2:=Hd (hE1.trans hE);clear hB1 hE1 hE;go_wp2_with fail
 refine (jdd _ s _ HS.o H1.o).mono ?_;rintro e w3 ⟨rfl,hE⟩;simp only;rw[←HCD.o,H2.o,jce];have HE3:=Hd (HE2.o.trans hE);have HB3:=Hd (HB2.o.keeps hE (fun h=>h));clear hE HE2 HB2;go_wp2_with fail
 refine (HI.o w3).mono ?_;rintro e w4 ⟨v,rfl,hv⟩;have HB4:=Hd (HB3.o.keeps hv.ext (fun h=>h));have HE4:=Hd (HE3.o.trans hv.ext);rcases hv.rd with⟨_,_,_,h0⟩ |⟨b,o2,c2,rfl,hb,hc,hcell⟩
 ·cases h0
 have QX:=Hd (hcell 0 x rfl);have QY:=Hd (hcell 1 y rfl);clear hv hcell HE3 HB3;go_wp2_with fail
 refine jam [0,1,2,3,4,5,6,7,8,9,10] [9] Ext ExtR ExtT (by kernel_rfl) (by kernel_rfl) (by kernel_rfl) ?_;iterate 2 (refine jaj _ rfl (by kernel_rfl) rfl rfl (fun K hK=>?_);go_big_quiet_op;refine hK _ ?_;clear hK K)
 refine jaA ⟨b,o2,none⟩ _ rfl (by kernel_rfl) rfl rfl (fun w1 h1=>jaa Tryz.uStr rfl (jab (by exact QX.o) h1)) ?_;simp only[Act.put,sA,sB,sC];iterate 2 (refine jaj _ rfl (by kernel_rfl) rfl rfl (fun K hK=>?_);go_big_quiet_op;refine hK _ ?_;clear hK K)
 refine jaA ⟨b,o2+1,none⟩ _ rfl (by kernel_rfl) rfl rfl (fun w1 h1=>jaa Tryz.uStr rfl (jab (by exact QY.o) h1)) ?_;simp only[Act.put,sA,sB,sC];refine jb2 _ 189 #[.string x,.string y] (.tuple #[m.V,.bool ok]) rfl (by kernel_rfl) rfl (fun w1=>jaw Tryz.enterReadPair (by kernel_rfl)) (fun w1 h1=>HP.o w1) ?_;simp only[Act.put,sA,sB,sC];iterate 2 (refine jaj _ rfl (by kernel_rfl) rfl rfl (fun K hK=>?_);go_big_quiet_op;refine hK _ ?_;clear hK K)
 refine ja4 _ rfl (by kernel_rfl) rfl (fun w5 he K hK=>?_);have hX:=(jav w4).trans he;refine jg6 (vs:=m.cells) rfl rfl rfl (HB4.o.keeps hX (fun h=>h)) (by rw[m.cells_len HR.o];rfl) (by rw[m.cells_len HR.o];exact Tryz.szNode) m.one ?_;intro W6 hB6 hE6;have HB6:=Hd hB6;have HE6:=Hd ((HE4.o.trans hX).trans' hE6 (fun x hx e=>by have e:x=w.heap.size:=e;omega));clear he hX hB6 hE6 QX QY HB4 HE4;simp only[Act.put,sA,sB,sC];refine hK _ _ ?_;clear hK K
 (refine jaj _ rfl (by kernel_rfl) rfl rfl (fun K hK=>?_);go_big_quiet_op;refine hK _ ?_;clear hK K)
 refine jaX (by kernel_rfl) (fun w7 he=>?_);have HB7:=Hd (HB6.o.keeps he (fun h=>h));have HE7:=Hd (HE6.o.trans he);clear he HB6 HE6;go_wp2_with fail
 refine bodyPost_ret (jag rfl rfl rfl (jal w7 _ m HR.o HB7.o)) rfl ?_;cases ok with
 | false=>exact .inl ⟨m,HR.o,rfl,HE7.o⟩
 | true =>
  refine .inr ⟨m,HR.o,?_,rfl,HE7.o⟩;rcases HF.o rfl with⟨p,v,h1,h2,h3,h4⟩ |⟨p,h1,h2,h3⟩
  ·exact .inl ⟨p,v,h1,h2,h3,h4⟩
  ·exact .inr (.inl ⟨p,y,h1,h2,h3,HY.o.1,HY.o.2⟩)
theorem jmi(w:World)(s:ByteArray)(hs:s.size≤400000)(hne:s≠jaq ⟨#[]⟩)(o n:Nat)(h:cutN s=some (true,o,n))(hle:o+n=s.size)(c:ByteArray)(hcd:c=s.extract o (o+n))(xs:List ByteArray)(hI:∀ w1,Calls Tryz.prog 188 #[.string c] w1 fun e w'=>∃ v,e=.returned (.tuple #[v,.int .i64 0])∧SRow w1 w' v xs.length xs)(hl:xs.length=17)(h0:∀ x∈xs,x.size≠0)(hlt:∀ x∈xs,x.size < s.size):Calls Tryz.prog 144 #[.string s] w (jmW w s):=by
 obtain⟨rs,z,hxs,hrl,hrn,hrm,hz⟩:=jhn xs hl h0
 have hzs:=hlt z hz;have hc:∀ w v,RdS w v xs→Calls Tryz.prog 190 #[v] w (jkM w rs z):=fun w v hv=>jjV w v rs z hrl (by omega) hrn (by rw[←hxs];exact hv);have HF:=Hd (show ∀ v,jcK z=some v→jkO s ⟨3,⟨#[]⟩,v,rs⟩from fun v hv=>.inr (.inr ⟨v,rs,rfl,hrl,by have:=jda hv;omega,fun r hr=>by
  rcases hrm r hr with e | e
  ·rw[e]
   have:=h0 z hz
   show 0 < s.size;omega
  ·exact hlt r e,hrn⟩))
 have HRL:=Hd hrl;have HC:=Hd hc;have HL:=Hd hl;clear hxs hrn hrm hz hzs hc hl h0 hlt hrl
 obtain⟨em,hem⟩:∃ em,em=jaq ⟨#[]⟩:=⟨_,rfl⟩
 have hnl:=jbP hne;rw[←hem]at hnl;have HEM:=Hd hem;have HS:=Hd (show s.size≤1000000000 by omega);have H1:=Hd h;have H2:=Hd hle;have HCD:=Hd hcd;have HI:=Hd hI;clear hem hne h hle hcd hI;go_enter Tryz.func144,Tryz.ntmps144;go_wp2_with (refine jak Tryz.allocNode rfl rfl ?_;intro W1 hB1 hE1)
 refine (jbN _ ⟨#[]⟩ (by decide)).mono ?_;rintro e w2 ⟨rfl,hE⟩;rw[←HEM.o];have HB2:=Hd (hB1.keeps hE (fun h=>h));have HE2:=Hd (hE1.trans hE);clear hB1 hE1 hE;go_wp2_with fail
 refine (jdd _ s _ HS.o H1.o).mono ?_;rintro e w3 ⟨rfl,hE⟩;simp only;rw[←HCD.o,H2.o,jce];have HE3:=Hd (HE2.o.trans hE);have HB3:=Hd (HB2.o.keeps hE (fun h=>h));clear hE HE2 HB2;go_wp2_with fail
 refine (HI.o w3).mono ?_;rintro e w4 ⟨v,rfl,hv⟩;have HB4:=Hd (HB3.o.keeps hv.ext (fun h=>h));have HE4:=Hd (HE3.o.trans hv.ext);have hrd:=hv.rd;rcases hv.sl with⟨ad,cp,rfl⟩;rw[HL.o]at hrd ⊢;have hcall:=HC.o w4 _ hrd;have HCL:=Hd hcall;clear hv HE3 HB3 hrd hcall;go_wp2_with fail
 refine HCL.o.mono ?_;rintro e w5 (⟨m,hml,rfl,hE⟩ |⟨v,hv,rfl,hE⟩)
 ·have HE5:=Hd (HE4.o.trans hE)
  have hB5:=HB4.o.keeps hE (fun h=>h);have HML:=Hd hml;clear hE HE4 HB4 hml;unfold jac.V;go_wp2_with (refine jaf (vs:=m.cells) rfl rfl rfl rfl hB5 (by rw[m.cells_len HML.o];rfl) (by rw[m.cells_len HML.o];exact Tryz.szNode) m.one ?_;intro W8 hB8 hE8)
  refine bodyPost_ret (jag rfl rfl rfl (jal W8 _ m HML.o hB8)) rfl ?_;exact .inl ⟨m,HML.o,rfl,HE5.o.trans' hE8 (fun x hx e=>by have e:x=w.heap.size:=e;omega)⟩
 ·have HE5:=Hd (HE4.o.trans hE)
  have hB5:=HB4.o.keeps hE (fun h=>h);have HFV:=Hd (HF.o v hv)
  obtain⟨m,hm⟩:∃ m:jac,m=⟨3,⟨#[]⟩,v,rs⟩:=⟨_,rfl⟩
  rw[←hm]at HFV ⊢;have HML:=Hd (show m.refs.length=16 by rw[hm];exact HRL.o);clear hE HE4 HB4 hv hm;unfold jac.V;go_wp2_with (refine jaf (vs:=m.cells) rfl rfl rfl rfl hB5 (by rw[m.cells_len HML.o];rfl) (by rw[m.cells_len HML.o];exact Tryz.szNode) m.one ?_;intro W8 hB8 hE8)
  refine bodyPost_ret (jag rfl rfl rfl (jal W8 _ m HML.o hB8)) rfl ?_;exact .inr ⟨m,HML.o,HFV.o,rfl,HE5.o.trans' hE8 (fun x hx e=>by have e:x=w.heap.size:=e;omega)⟩
theorem jgg{x:ByteArray}(h:jcG x)(hs:x.size≤1000000000):x.size≠0:=fun e=>by
 obtain⟨r,h1,h2⟩:=h ⟨#[]⟩ (by rw[jgw];exact hs)
 have:=(jcu h1).2
 omega
theorem jgC{s:ByteArray}{o n:Nat}(h:cutN s=some (true,o,n)):0 < o:=by
 obtain⟨⟨l⟩⟩:=s
 cases l with
 | nil=>exact absurd (jcu h).1 (by decide)
 | cons a t =>
  have h:cutN ⟨(a :: t).toArray⟩=some (true,o,n):=h;rw[jcS]at h
  obtain⟨m,hm⟩:∃ m,m=(if a.toNat < 192 then a.toNat - 128 else a.toNat - 192):=⟨_,rfl⟩
  rw[←hm]at h;clear hm
  by_cases h1:a.toNat < 128
  ·rw[if_pos h1]at h;cases (Prod.mk.inj (Option.some.inj h)).1
  rw[if_neg h1]at h
  by_cases h2:m≤55
  ·rw[if_pos h2]at h
   split at h
   ·have:=(Prod.mk.inj (Prod.mk.inj (Option.some.inj h)).2).1;omega
   ·cases h
  ·rw[if_neg h2]at h
   split at h
   ·split at h
    ·have:=(Prod.mk.inj (Prod.mk.inj (Option.some.inj h)).2).1;omega
    ·cases h
   ·cases h
theorem jn7(w:World)(hG:ErrT w)(s:ByteArray)(hs:s.size≤400000)(hne:s≠jaq ⟨#[]⟩):Calls Tryz.prog 144 #[.string s] w (jmW w s):=by
 cases h:cutN s with
 | none=>exact (jeK w s (by omega) h).mono fun _ _ h=>.inl h
 | some r =>
  obtain⟨b,o,n⟩:=r
  cases b with
  | false=>exact (jh5 w s hs hne o n h).mono fun _ _ h=>.inl h
  | true =>
   have hle:=jfc h;have hle:o+n≤s.size:=hle
   by_cases hlt:o+n < s.size
   ·exact (jiL w s hs hne o n h hlt).mono fun _ _ h=>.inl h
   have he:o+n=s.size:=by omega
   have hop:=jgC h
   obtain⟨c,hcd⟩:∃ c,c=s.extract o (o+n):=⟨_,rfl⟩
   have hcs:c.size < s.size:=by rw[hcd,ByteArray.size_extract];omega
   obtain⟨xs,z,h1,h2,h3,h4,h5⟩:=jiB c.size c (Nat.le_refl _)
   rcases h5 with rfl |⟨hz0,hz⟩
   ·have h2:c=catB xs:=by rw[h2];exact jgw _
    have hI:∀ w1,Calls Tryz.prog 188 #[.string c] w1 fun e w'=>∃ v,e=.returned (.tuple #[v,.int .i64 0])∧SRow w1 w' v xs.length xs:=fun w1=>by
     rw[h2];exact jiA w1 xs h1 (by rw[←h2];omega) (by omega)
    by_cases l2:xs.length=2
    ·match xs,l2 with
     | [x,y],_ =>
      have hx:=h3 x (by simp);have hy:=h3 y (by simp);exact jn8 w s hs hne o n h he c hcd x y hI (by omega) (by omega) (jgg (h1 y (by simp)) (by omega))
    ·by_cases l17:xs.length=17
     ·exact jmi w s hs hne o n h he c hcd xs hI l17 (fun x hx=>jgg (h1 x hx) (by have:=h3 x hx;omega)) (fun x hx=>by have:=h3 x hx;omega)
     ·exact (jkz w s hs hne o n h he c hcd xs hI l2 l17).mono fun _ _ h=>.inl h
   ·refine (jh4 w s hs hne o n h he c hcd fun w1 e1=>?_).mono fun _ _ h=>.inl h
    rw[h2];exact jnF w1 (hG.ext e1) xs z h1 (by rw[←h2];omega) (by omega) hz0 hz
end
end Go.Proofs.YtcpnjmcipainpaaGreatDoor
