/- Lemmas; each is under no condition but those that it states. -/
import Derived.Test.YtnkdaacmpceghaaGreatDoorPa26
import Derived.Lib.SmallJoins
import Derived.Test.YtnkdaacmpceghaaGreatDoorCards
import Derived.Test.YtnkdaacmpceghaaGreatDoorTie
import Derived.Deep.DeepHandedRow
import Derived.Lay
namespace Go.Proofs.YtnkdaacmpceghaaGreatDoor
set_option linter.unusedSimpArgs false
set_option linter.unusedVariables false
set_option maxRecDepth 100000
set_option maxHeartbeats 16000000
variable (W0 w0 w W:vW)(v:vV)(D:Nat->Prop)(b1 wb k b o c s g n bm z y:Nat)(vs:List vV)(M:MdN)(room:Int)(S:vT)(root fr pa to p x:vB){pre lb tmps:Array vV}{F:BSet}{assign body:Code}{l:List Chg}{mb t N sb ck cb rm:Nat}{fz:Nat × Nat}{a:Option Addr}{P:Program}{v1 v2 v3 x2 x3 x4:vV}{W' w1 w':vW}
section
open Go Go.RowKit
theorem jpz(a:Option Addr)(c rm sb cb:Nat)(es:List (Ent Int))(ck:Nat)(h:ChM D w b M a c rm sb cb es ck)(hl:M.all.length<=1000)(bk:Int)(i:Nat)(v:VerN)(r:vB)(hp:jbG M.all bk=some i)(hv:M.all[i]?=some v)(hr:jay es bk=some (.string r))(key:vB)(nodes:vM)(hT:∀ W,Ext w W->vQ 44 #[.pointer (some ⟨sb,0,none⟩),.string r,.string key] W (jr7 nodes W))(hk:jfo ⟨0,r,key,⟨#[]⟩,nodes⟩)(hs:(papB ⟨0,r,key,⟨#[]⟩,nodes⟩).size<=65536) :
  vR 16 #[.pointer (some ⟨b,0,none⟩),.int .i64 bk,.string key] w (.tuple #[.string (papB ⟨0,r,key,⟨#[]⟩,nodes⟩),.int .i64 0]):=by
 have HC:=Hd (jin w D b M a c rm sb cb es ck h hl bk i v r hp hv hr);have HB:=Hd h.blk;have HT:=Hd hT;have a9:key.size<=6:=hk.key;have K:=Hd (fun W nv (hn:RdS W nv nodes)=>jrX W ⟨0,r,key,⟨#[]⟩,nodes⟩ nv hn hk hs)
 obtain⟨pb,O⟩:=vE (papB ⟨0,r,key,⟨#[]⟩,nodes⟩)
 rw[<-O]at K ⊢;clear hT hk hs O;clear h hp hv hr hl;go_enter Tryz.func16,Tryz.ntmps16;go_wp2_with fail
 refine HC.o.mono ?_;rintro e w1 ⟨x,rfl,q,h1,h2,hE⟩
 obtain⟨X,ev,cv⟩:=x
 have q:X=v:=q;subst q;have b0:=Hd h2
 obtain⟨a1,c1,A⟩:=h1.1.sl
 obtain⟨a2,c2,H⟩:=h2.1.sl
 have A:ev=_:=A;have H:cv=_:=H;subst A H;have HE:=Hd hE;have b1:=hE.size;clear h1 h2 hE HC;unfold VX.cells;go_wp2_with (first |(refine jah Tryz.allocVer rfl rfl ?_;intro W2 Z a0) |(refine jad (vs:=[.int .i64 (X.block:Int),.slice a1 X.ents.length c1,.slice a2 X.chgs.length c2,.int .i64 (X.pins:Int)]) rfl rfl rfl rfl Z rfl Tryz.szVer (by simp[Value.oneCell']) ?_;intro W3 a7 a3))
 refine (jgk W3).mono ?_;rintro e w4 ⟨rfl,rfl⟩;have J:Ext w W3:=(HE.o.trans a0).trans' a3 fun x hx e=>by have e:x=w1.heap.size:=e;omega
 have a4:=Hd J;have a5:=HB.o.keeps J (fun h=>h);have q4:W3.cell? ⟨b,4,none⟩=some (.pointer (some ⟨sb,0,none⟩)):=a5.cellL rfl;clear a0 a3 Z a7 J a5;go_wp2_with fail
 refine (HT.o W3 a4.o).mono ?_;rintro e w5 ⟨an,cn,rfl,hR⟩;have H5:=Hd (bA (a4.o.trans hR.ext) hR.rd);clear hR;go_wp2_with fail
 refine vH (K.o w5 _ H5.o.2) fun w6 a8=>?_;have H6:=Hd (H5.o.1.trans a8);go_wp2_with fail
 go_ret2
 exact⟨rfl,H6.o⟩
theorem jpA(a:Option Addr)(c rm sb cb:Nat)(es:List (Ent Int))(ck:Nat)(h:ChM D w b M a c rm sb cb es ck)(hl:M.all.length<=1000)(bk:Int)(i:Nat)(v:VerN)(r:vB)(hp:jbG M.all bk=some i)(hv:M.all[i]?=some v)(hr:jay es bk=some (.string r))(fr to:vB)(limit:Int)(P:vW->Ending->vW->Prop)(hP:∀ W e w',P W e w'->∃ (lv:vV) (m:Bool) (k:Int),e=.returned (.tuple #[lv,.bool m,.int .i64 k]))(hT:∀ W,Ext w W->vQ 52 #[.pointer (some ⟨sb,0,none⟩),.string r,.string fr,.string to,.int .i64 limit] W (P W)) :
  vQ 20 #[.pointer (some ⟨b,0,none⟩),.int .i64 bk,.string fr,.string to,.int .i64 limit] w fun e w'=>∃ W,Ext w W/\P W e w':=by
 have HC:=Hd (jin w D b M a c rm sb cb es ck h hl bk i v r hp hv hr);have HB:=Hd h.blk;have HT:=Hd hT;have a5:=Hd hP;clear hT hP;clear h hp hv hr hl;go_enter Tryz.func20,Tryz.ntmps20;go_wp2_with fail
 refine HC.o.mono ?_;rintro e w1 ⟨x,rfl,q,h1,h2,hE⟩
 obtain⟨K,ev,cv⟩:=x
 have q:K=v:=q;subst q;have a8:=Hd h2
 obtain⟨a1,c1,A⟩:=h1.1.sl
 obtain⟨a2,c2,H⟩:=h2.1.sl
 have A:ev=_:=A;have H:cv=_:=H;subst A H;have HE:=Hd hE;have a9:=hE.size;clear h1 h2 hE HC;unfold VX.cells;go_wp2_with (first |(refine jah Tryz.allocVer rfl rfl ?_;intro W2 O X) |(refine jad (vs:=[.int .i64 (K.block:Int),.slice a1 K.ents.length c1,.slice a2 K.chgs.length c2,.int .i64 (K.pins:Int)]) rfl rfl rfl rfl O rfl Tryz.szVer (by simp[Value.oneCell']) ?_;intro Z a7 a0))
 refine (jgk Z).mono ?_;rintro e w4 ⟨rfl,rfl⟩;have J:Ext w Z:=(HE.o.trans X).trans' a0 fun x hx e=>by have e:x=w1.heap.size:=e;omega
 have a3:=Hd J;have a4:=HB.o.keeps J (fun h=>h);have q4:Z.cell? ⟨b,4,none⟩=some (.pointer (some ⟨sb,0,none⟩)):=a4.cellL rfl;clear X a0 O a7 J a4;go_wp2_with fail
 refine (HT.o Z a3.o).mono ?_;intro e w5 hR
 obtain⟨lv,m,k,rfl⟩:=a5.o _ _ _ hR
 have H5:=Hd hR;clear hR;go_wp2_with fail
 refine bodyPost_ret (results_tmp3 rfl _ _ _) rfl ?_
 exact⟨Z,a3.o,H5.o⟩
theorem Tryz.szNot:(Tryz.prog.info? 65).map (·.size)=some 5:=vY
theorem Tryz.isNot:jb2 (Tryz.prog.underlying 65)=true:=vY
theorem jhR(hl:vs.length=5){T:TypeId}(hB:Blk W b (.cells vs.toArray T fz)):(loadVar 65 ⟨b,0,none⟩).run Tryz.prog W=.ok (.agg vs.toArray) W:=by
 obtain⟨A,e⟩:=jbv Tryz.isNot
 have:(Instr.loadAt 65 (.pointer (some ⟨b,0,none⟩))).run Tryz.prog W=.ok (.agg vs.toArray) W:=ja2 e (by rw[hl];exact Tryz.szNot) (fun j v q=>by rw[Go.WideShapes.add_plain,bT];exact hB.cellL q)
 simpa [Instr.loadAt,Instr.sureAddr,bK,Result.andThen]using this
theorem jnP(a:Option Addr)(c rm sb cb:Nat)(es:List (Ent Int))(ck:Nat)(h:ChM D w b M a c rm sb cb es ck)(hl:M.all.length<=1000)(bk:Int)(i:Nat)(v:VerN)(r:vB)(hp:jbG M.all bk=some i)(hv:M.all[i]?=some v)(hr:jay es bk=some (.string r))(hcl:v.chgs.length<=1000) :
  vQ 21 #[.pointer (some ⟨b,0,none⟩),.int .i64 bk] w fun e w'=>∃ cv,e=.returned (.tuple #[.agg #[.int .i64 0,.int .i64 0,.int .i64 bk,.string r,cv],.int .i64 0])/\Ext w w'/\RdC w' cv v.chgs:=by
 have HC:=Hd (fun W (e:Ext w W)=>jin W D b M a c rm sb cb es ck (h.ext e) hl bk i v r hp hv hr);have HB:=Hd h.blk;have b4:=Hd hcl;clear hcl;clear h hp hv hr hl;go_enter Tryz.func21,Tryz.ntmps21;go_wp2_with fail
 have q:=(ExtR w).alloc (.cells #[.int .i64 0,.int .i64 0,.int .i64 0,.string ⟨#[]⟩,.slice none 0 0] 65);have A:=Blk.new w (.cells #[.int .i64 0,.int .i64 0,.int .i64 0,.string ⟨#[]⟩,.slice none 0 0] 65);generalize w.alloc (.cells #[.int .i64 0,.int .i64 0,.int .i64 0,.string ⟨#[]⟩,.slice none 0 0] 65)=w0 at q A ⊢;have H0:=Hd (bA q A);have b8:=A.lt;clear A;refine (HC.o w0 q).mono ?_;rintro e w1 ⟨x,rfl,X,h1,h2,hE⟩
 obtain⟨Z,ev,cv⟩:=x
 have X:Z=v:=X;subst X;have b5:=Hd h2
 obtain⟨a1,c1,a0⟩:=h1.1.sl
 obtain⟨a2,c2,a3⟩:=h2.1.sl
 have a0:ev=_:=a0;have a3:cv=_:=a3;subst a0 a3;have HE:=Hd hE;have b9:=hE.size;clear h1 h2 hE HC;unfold VX.cells;go_wp2_with (first |(refine jah Tryz.allocVer rfl rfl ?_;intro W2 a8 H) |(refine jad (vs:=[.int .i64 (Z.block:Int),.slice a1 Z.ents.length c1,.slice a2 Z.chgs.length c2,.int .i64 (Z.pins:Int)]) rfl rfl rfl rfl a8 rfl Tryz.szVer (by simp[Value.oneCell']) ?_;intro W3 a9 J))
 refine (jgk W3).mono ?_;rintro e w4 ⟨rfl,rfl⟩;have a4:Ext w W3:=(q.trans (HE.o.trans H)).trans' J fun x hx e=>by have e:x=w1.heap.size:=e;have:=q.size;omega
 have b0:=Hd a4;have b1:=HB.o.keeps a4 (fun h=>h);have q4:W3.cell? ⟨b,4,none⟩=some (.pointer (some ⟨sb,0,none⟩)):=b1.cellL rfl;have q2:W3.cell? ⟨w1.heap.size,2,none⟩=some (.slice a2 Z.chgs.length c2):=a9.cellL rfl;have b2:=(H0.o.2.keeps HE.o (fun h=>h)).keeps (H.trans' J fun x hx e=>by have e:x=w1.heap.size:=e;omega) (fun h=>h);have O:=(b5.o.1.ext HE.o).ext (H.trans' J fun x hx e=>by have e:x=w1.heap.size:=e;omega);have H3:=Hd (bA b2 O);clear H J a8 a9 a4 b1 b2 O q;go_wp2_with fail
 refine (jj8 W3 _ _ H3.o.2 b4.o).mono ?_;rintro e w5 ⟨v5,rfl,a7,K⟩
 obtain⟨a5,c5,b6⟩:=a7.1.sl
 subst b6;have H5:=Hd (bA (b0.o.trans K) (bA (H3.o.1.keeps K (fun h=>h)) (bA a7 K.size)));clear K a7;go_wp2_with (refine jad (vs:=[.int .i64 0,.int .i64 0,.int .i64 bk,.string r,.slice a5 Z.chgs.length c5]) rfl rfl rfl rfl H5.o.2.1 rfl Tryz.szNot (by simp[Value.oneCell']) ?_;intro W6 b7 b3)
 refine bodyPost_ret (jcz rfl rfl rfl (jhR W6 w.heap.size _ rfl b7)) rfl ?_;have c0:=b0.o.size
 refine⟨_,rfl,H5.o.1.trans' b3 fun x hx e=>by have e:x=w.heap.size:=e;omega,H5.o.2.2.1.1.keeps b3 fun b hb e=>?_⟩
 have h1:=(H5.o.2.2.1.2 b hb).1;have h2:=H3.o.1.lt;have e:b=w.heap.size:=e;omega
theorem jnO(a:Option Addr)(c rm sb cb mb tg tc:Nat)(es:List (Ent Int))(ck:Nat)(h:ChM D w b M a c rm sb cb es ck)(key val:vB)(hc:Cac2 w cb mb tg tc key val) :
  vR 24 #[.pointer (some ⟨b,0,none⟩)] w (.int .i64 1):=by
 have H:=Hd (bA h hc);clear h hc;go_enter Tryz.func24,Tryz.ntmps24;go_wp2_with fail
 refine vC (jgE w D b M a c rm sb cb es ck H.o.1) fun O q=>?_;have q5:O.cell? ⟨b,5,none⟩=some (.pointer (some ⟨cb,0,none⟩)):=(H.o.1.ext q).blk.cellL rfl;have A:Cac2 O cb mb tg tc key val:=by
  obtain⟨g1,Z,J,g3⟩:=H.o.2
  exact⟨g1.keeps q (fun h=>h),Z,J,g3.keeps q (fun h=>h)⟩
 have X:=Hd (bA q A);clear q A;go_wp2_with fail
 refine (jsA O cb mb tg tc key val X.o.2).mono ?_;rintro e w3 ⟨ak,a0,rfl,K⟩;have H3:=Hd (X.o.1.trans K);clear K;go_wp2_with fail
 go_ret
 exact⟨rfl,H3.o⟩
theorem jnQ(a:Option Addr)(c rm sb cb:Nat)(es:List (Ent Int))(ck:Nat)(h:ChM D w b M a c rm sb cb es ck)(hl:M.all.length<=1000)(bk:Int)(i:Nat)(v:VerN)(r:vB)(hp:jbG M.all bk=some i)(hv:M.all[i]?=some v)(hr:jay es bk=some (.string r))(fr to t:vB)(limit:Int)(hft:Op.bytesLess fr.toList to.toList=true)(hR:∀ W,Ext w W->vQ 52 #[.pointer (some ⟨sb,0,none⟩),.string r,.string fr,.string to,.int .i64 limit] W fun e w'=>(∃ la n lc,e=.returned (.tuple #[.slice la n lc,.bool false,.int .i64 0]))/\Ext W w')
  (hBd:∀ W,Ext w W->vQ 53 #[.pointer (some ⟨sb,0,none⟩),.string r,.agg #[.string fr,.string to]] W fun e w'=>∃ g c,e=.returned (.tuple #[.slice (some ⟨g,0,none⟩) 1 c,.int .i64 0])/\Ext W w'/\RdS w' (.slice (some ⟨g,0,none⟩) 1 c) [t])
  (hk:jfo ⟨1,r,fr,to,[t]⟩) (hs:(papB ⟨1,r,fr,to,[t]⟩).size<=65536) :
  vR 19 #[.pointer (some ⟨b,0,none⟩),.int .i64 bk,.string fr,.string to,.int .i64 limit] w (.tuple #[.string (papB ⟨1,r,fr,to,[t]⟩),.bool false,.int .i64 0]):=by
 have HC:=Hd (jin w D b M a c rm sb cb es ck h hl bk i v r hp hv hr);have HB:=Hd h.blk;have HR:=Hd hR;have b0:=Hd hBd;have b3:fr.size<=6:=hk.key;have b4:to.size<=6:=hk.to;have O:=Hd (fun W nv (hn:RdS W nv [t])=>jrX W ⟨1,r,fr,to,[t]⟩ nv hn hk hs)
 obtain⟨pb,X⟩:=vE (papB ⟨1,r,fr,to,[t]⟩)
 rw[<-X]at O ⊢;clear hR hBd hk hs X;clear h hp hv hr hl;go_enter Tryz.func19,Tryz.ntmps19;go_wp2_with fail
 refine HC.o.mono ?_;rintro e w1 ⟨x,rfl,A,h1,h2,hE⟩
 obtain⟨Z,ev,cv⟩:=x
 have A:Z=v:=A;subst A;have b5:=Hd h2
 obtain⟨a1,c1,H⟩:=h1.1.sl
 obtain⟨a2,c2,J⟩:=h2.1.sl
 have H:ev=_:=H;have J:cv=_:=J;subst H J;have HE:=Hd hE;have b6:=hE.size;clear h1 h2 hE HC;unfold VX.cells;go_wp2_with (first |(refine jah Tryz.allocVer rfl rfl ?_;intro W2 a0 a3) |(refine jad (vs:=[.int .i64 (Z.block:Int),.slice a1 Z.ents.length c1,.slice a2 Z.chgs.length c2,.int .i64 (Z.pins:Int)]) rfl rfl rfl rfl a0 rfl Tryz.szVer (by simp[Value.oneCell']) ?_;intro W3 b1 a4))
 refine (jgk W3).mono ?_;rintro e w4 ⟨rfl,rfl⟩;have K:Ext w W3:=(HE.o.trans a3).trans' a4 fun x hx e=>by have e:x=w1.heap.size:=e;omega
 have a5:=Hd K;have a7:=HB.o.keeps K (fun h=>h);have q4:W3.cell? ⟨b,4,none⟩=some (.pointer (some ⟨sb,0,none⟩)):=a7.cellL rfl;clear a3 a4 a0 b1 K a7;go_wp2_with fail
 refine (HR.o W3 a5.o).mono ?_;rintro e w5 ⟨⟨la,n,lc,rfl⟩,q⟩;have q:=a5.o.trans q;have q5:w5.cell? ⟨b,4,none⟩=some (.pointer (some ⟨sb,0,none⟩)):=(HB.o.keeps q (fun h=>h)).cellL rfl;have H5:=Hd q;clear q;go_wp2_with fail
 refine (b0.o w5 H5.o).mono ?_;rintro e w6 ⟨g,c6,rfl,a8,a9⟩;have H6:=Hd (bA (H5.o.trans a8) a9);clear a8 a9;go_wp2_with fail
 refine vH (O.o w6 _ H6.o.2) fun w7 b2=>?_;have H7:=Hd (H6.o.1.trans b2);go_wp2_with fail
 refine bodyPost_ret (results_tmp3 rfl _ _ _) rfl ?_
 exact⟨rfl,H7.o⟩
def kA:vB:=⟨#[97]⟩
def kB:vB:=⟨#[98]⟩
def v1B:vB:=⟨#[49]⟩
def w15L:vL:=[(kA,v1B)]
def w15C:List Chg:=[⟨kA,v1B,false⟩]
def n15:jae:=⟨1,jaJ kA,v1B,List.replicate 16 ⟨#[]⟩⟩
def t15:vB:=jaV n15
theorem jp3:jbL [] w15C=0:=by decide +kernel
theorem jp7:jbV (jca [] w15C)=w15L:=by decide +kernel
theorem jjc:jbf w15L=0:=by decide +kernel
theorem jq0{n m:jae}(h1:n.kind=m.kind)(h2:n.path=m.path)(h3:n.value=m.value)(h4:n.refs=m.refs):n=m:=by
 cases n;cases m;simp_all
theorem jjd:jbU (jaz 12) (jeg w15L)=n15:=jq0 (by decide +kernel) (by decide +kernel) (by decide +kernel) (by decide +kernel)
theorem js4:(jlR w15L).text=t15:=by show jaV (jbU (jaz 12) (jeg w15L))=_;rw[jjd];rfl
theorem jms:jdd [] w15L=w15C:=by
 unfold jdd;rw[if_pos ⟨juA,jjc⟩];unfold w15L w15C;simp[ja8]
theorem jqb:updP .no w15C=.leaf (jaJ kA) v1B:=by
 unfold updP;show (jdd [] (jbV (jca [] w15C))).foldl jcv .no=_;rw[jp7,jms];rfl
theorem jmt:jbd t15 n15:=⟨rfl,12,by rw[<-jjd];exact (good 12 (jeg w15L) (jjE (ja1 jjc))).1⟩
theorem jxP:jaP n15=[]:=by
 unfold jaP;refine iF.2 fun r e=>?_;have e:r∈List.replicate 16 (⟨#[]⟩:vB):=e;rw[(List.mem_replicate.1 e).2];exact jet
theorem jxQ:ky t15≠ky noT:=by
 unfold ky;decide +kernel
theorem jmu:t15.size<=1000:=by decide +kernel
theorem jfy:jaW (InlD 12) n15:=by rw[<-jjd];exact (good 12 (jeg w15L) (jjE (ja1 jjc))).1
theorem jkj:textP (updP .no w15C)=t15:=by
 rw[jqb];show putN ⟨1,jaJ kA,v1B,jaw 16⟩=_;exact jeC jfy
theorem jp8:newX S (updP .no w15C)=[t15]:=by
 unfold newX;rw[jkj,jqb];rfl
theorem js2(w:vW)(z:Nat):∃ k,readR (S1L z) (shaB noT)=some (.no,k):=by
 unfold readR gHash;have h:atL (S1L z) (shaB noT).data.toList=some (ky noT,z,⟨noT,[],0,1⟩):=by
  unfold atL S1L ky
  simp
 rw[h];show ∃ k,((some (nodeOf noT)).bind fun m=>jbY (gRef (S1L z)) 160 m 160)=_;rw[show nodeOf noT=jas from jeV w (jcc jhH) jhH]
 exact⟨159,rfl⟩
theorem juC:atL (S1L z) (ky t15)=none:=by
 rw[jeM];intro x e;have e:x∈[(ky noT,z,(⟨noT,[],0,1⟩:It))]:=e;rw[bM.1 e];exact jxQ
noncomputable def S2L(z y:Nat):vT:=S1L z++[(ky t15,y,⟨t15,[],0,1⟩)]
theorem jjb:atL (S2L z y) (shaB t15).data.toList=some (ky t15,y,⟨t15,[],0,1⟩):=by
 show atL (S2L z y) (ky t15)=_;unfold S2L;have e:=juC z;unfold atL at e ⊢;rw[List.find?_append,e]
 simp
theorem js3:jfh es1 (newN 2)=shaB noT:=rfl
def M15:MdN:=⟨2,2,[⟨0,[],[],0⟩,⟨1,w15L,w15C,0⟩]⟩
def M15p:MdN:=⟨2,2,[⟨0,[],[],0⟩,⟨1,w15L,w15C,1⟩]⟩
theorem jvA:jaU (newN 2) w15C=(M15,1,0):=by
 have e:(jb9 (newN 2)).ents=[]:=rfl;unfold jaU;rw[e,if_neg (by rw[jp3];simp),if_neg vI,jp7,jms];rfl
theorem jvB:pinN M15 (-1)=(M15p,1,0):=by
 unfold pinN;rfl
theorem jqa:jbI M15p 1=(M15,0):=by
 unfold jbI;rfl
theorem jdF:jbG M15.all 1=some 1:=rfl
noncomputable def es2:List (Ent Int):=[(0,.string (shaB noT),0),(1,.string (shaB t15),1)]
theorem jp5:jgN es1 (newN 2) (shaB t15) 1=es2:=rfl
theorem jsY:∀ x∈es1,hasB (newN 2).all x.1=true:=by
 intro x e;have e:x∈[((0:Int),Value.string (shaB noT),0)]:=e;rw[bM.1 e];rfl
theorem jgY:∀ x∈es2,hasB M15.all x.1=true:=by
 intro x e;have e:x∈[((0:Int),Value.string (shaB noT),0),((1:Int),Value.string (shaB t15),1)]:=e;rcases bZ.1 e with rfl | e
 ·rfl
 ·rw[bM.1 e];rfl
theorem jeU:jay es2 1=some (.string (shaB t15)):=rfl
theorem jsZ:jay es2 5=none:=rfl
theorem jpr(J:jbA w)(K:ErrT w)(s bm z:Nat)(hA:ChS w0 s bm 100 (S1L z) w 1)(hw0:w0.heap.size<=w.heap.size)(u:vV)(hu:RdC w u w15C) :
  vQ 41 #[.pointer (some ⟨s,0,none⟩),.string (shaB noT),u] w (CcP w0 w s bm 100 (S1L z) 1 (fun _=>False) (fun t O=>t=shaB t15/\∃ y,O=S2L z y)):=by
 refine (jj3 w0 w J K s bm 100 (S1L z) 1 hA hw0 vI vI (shaB noT) u w15C hu vI (fun c J=>by
  have J:c∈[(⟨kA,v1B,false⟩:Chg)]:=J;rw[bM.1 J];decide)).mono ?_
 obtain⟨k0,A⟩:=js2 w z
 rintro e w' (⟨k,hk,hN,K,hE⟩ |⟨t,O,hR,K,h1,h2,h3⟩)
 ·refine absurd hk ?_
  rw[Classical.not_not];rcases hN with (⟨hn,_⟩ |⟨P,Z,q,H⟩) |⟨P,Z,q,H⟩
  ·rw[A]at hn;cases hn
  ·rw[A]at q
   have q:PA.no=P:=congrArg Prod.fst (bP q);subst q;rcases H with H | H
   ·have h0:jbL (entP .no ⟨#[]⟩) w15C=0:=jp3
    omega
   ·exact absurd rfl H
  ·rw[A]at q
   have q:PA.no=P:=congrArg Prod.fst (bP q);subst q;rw[jp8]at H;exact absurd H (jq9 w jmt jxP (by show ((1:Nat):Int)+1<=100;decide))
 ·obtain⟨P,Z,G,M,q,ht,hG,X,hS⟩:=hR
  rw[A]at q;have q:PA.no=P:=congrArg Prod.fst (bP q);subst q;rw[jp8]at hG;rw[jkj]at ht hS;subst ht
  obtain⟨y,H⟩:=jq7 w jmt jxP hG X (juC z)
  exact .inr ⟨shaB t15,O,⟨rfl,y,by rw[hS,H];rfl⟩,K,h1,h2,h3⟩
end
section
open Go Go.RowKit
attribute [local go_sem] Oper.semAt_some
end
section
open Go Go.RowKit
end
section
open Go Go.RowKit
attribute [local go_sem] Oper.semAt_some
theorem jtW(xs:List Chg)(T:TypeId):RdC (w.alloc (.cells (jb5 xs).toArray T)) (.slice (some ⟨w.heap.size,0,none⟩) xs.length xs.length) xs:=
 .inr ⟨w.heap.size,0,xs.length,rfl,by simp,bL _,fun j x e=>by
  obtain⟨q,A,H⟩:=jfb xs j x e
  exact⟨by rw[bT];exact (Blk.new w _).cellL q,by rw[bT];exact (Blk.new w _).cellL A,by rw[bT];exact (Blk.new w _).cellL H⟩⟩
theorem jtX(xs:vL)(T:TypeId):RdP (w.alloc (.cells (jch xs).toArray T)) (.slice (some ⟨w.heap.size,0,none⟩) xs.length xs.length) xs:=by
 refine .inr ⟨_,0,_,rfl,(Blk.new w _).lt,bL _,fun j x e=>?_⟩
 obtain⟨q,A⟩:=jeN xs j x e
 exact⟨by rw[bT];exact (Blk.new w _).cellL q,by rw[bT];exact (Blk.new w _).cellL A⟩
end
section
open Go Go.RowKit
def jr6(P:Program)(gf:FuncId)(pre lb:Array vV)(N:Nat)(vals:Nat->Array vV)(M:BSet)(S:BSet->vW->Prop)(SE:Nat->BSet->vW->Prop):Prop:=
 ∀ (l:Nat) (C:Nat->BSet->vW->Prop) (Cx:Nat->BSet->vW->Prop),(∀ k,Supp (C k))->(∀ k D W,¬ Cx k D W) ->
  ∀ D O W,(∀ k D' W',k < N->C k D' W'->jac (fun b=>D b\/M b) W W'->joO P l (vals k) D' W' (C (k+1)) (Cx (k+1))) ->
   C 0 D W->S O W->(∀ b,D b->¬ O b) ->
   CallsIn Fence.wide 0 P gf ((pre++#[.func (.yield l) #[] #[]])++lb) W (ji0 W M D O N C Cx SE)
def jxl(D:BSet)(W:vW)(Ct:BSet->vW->Prop):Exit->Act->vW->Prop
 | .normal,_,W'=>∃ D':BSet,jac D W W'/\(∀ b,D' b->D b\/W.heap.size<=b)/\Ct D' W'
 | _,_,_=>False
theorem jk9{g:Operand}{ps:Array Tmp}{Q:Exit->Act->vW->Prop}{a:Act}{w:vW}
  {gf:Nat}  (hg:a.eval g=.func (.func gf) pre lb) (eg:∀ args w,(callFunc gf args).run P w=.ok (.enter gf args) w)
   {vals:Nat->Array vV} {M:BSet} {S:BSet->vW->Prop} {SE:Nat->BSet->vW->Prop} (IS:jr6 P gf pre lb N vals M S SE)
  (hS:Supp S) (hps:∀ k,(vals k).size=ps.size)
  (C:Nat->BSet->vW->Prop) (hC:∀ k,Supp (C k))
  (D₀ O₀:BSet) (h0:C 0 D₀ w) (hS0:S O₀ w) (hdis:∀ b,D₀ b->¬ O₀ b)
  (hround:∀ (l k:Nat) (D:BSet) (W:vW) (K:Act->vW->Prop),k < N->C k D W->w.heap.size+1 < W.heap.size ->
   (∀ a1 W1,Ext W W1->(∀ W2,C k D W2->jac (fun b=>b=w.heap.size+1) W1 W2->jac (fun b=>D₀ b\/M b) w W2->body.wpIn (Fence.wide.inRound l) 0 P (jxl D W2 (C (k+1))) a1 W2)->K a1 W1) ->
   assign.wpIn (Fence.wide.inRound l) 0 P (Exit.then K (fun _ _ _=>False)) { tmps:=(ps.zip (vals k)).foldl (fun t (p,v)=>t.setIfInBounds p v) a.tmps,defers:=[] } W)
  (hdone:∀ (D O:BSet) (W:vW),jac (fun b=>D₀ b\/M b) w W->C N D W->SE N O W->Blk W w.heap.size (.deferred (some [])) ->
   Q .normal { a with defers:={ target:=.collected w.heap.size,args:=#[] } :: a.defers } W)
  (hSE:∀ k,Supp (SE k)) :
  (Code.rangeFunc g ps assign body).wpIn Fence.wide 0 P Q a w:=by
 refine jgq hg eg fun a3 W1 a8 a4 b8 b2=>?_;have a9:∀ b,D₀ b->b < w.heap.size:=(hC 0).lt _ _ h0;have b3:∀ b,O₀ b->b < w.heap.size:=hS.lt _ _ hS0
 let CC:Nat->BSet->vW->Prop:=fun k D W=>∃ X:BSet,C k X W/\(∀ b,D b↔X b\/b=w.heap.size+1\/b=w.heap.size)/\¬ X (w.heap.size+1)/\¬ X w.heap.size/\BkAt a3 w.heap.size .ready none W
 have b4:∀ k,Supp (CC k):=fun k=>⟨fun D W ⟨X,Z,H,_,_,q⟩ b hb=>by
   rcases (H b).1 hb with h | rfl | rfl
   ·exact (hC k).lt _ _ Z b h
   ·exact q.loop.lt
   ·exact q.dfr.lt,
  fun D W W' ⟨X,Z,H,h5,h6,q⟩ hs hb=>⟨X,(hC k).st _ _ _ Z hs (fun b h=>hb b ((H b).2 (.inl h))),H,h5,h6,
   (hb _ ((H _).2 (.inr (.inl rfl)))).trans q.loop,(hb _ ((H _).2 (.inr (.inr rfl)))).trans q.dfr⟩⟩
 have b0:∀ {W},jac (fun b=>(D₀ b\/b=w.heap.size+1\/b=w.heap.size)\/M b) W1 W->jac (fun b=>D₀ b\/M b) w W:=fun hk=>(a4.mono (fun _ _ h=>h.elim)).trans' hk (fun x hx h=>by
  rcases h with (h | rfl | rfl) | h
  ·exact .inl h
  ·omega
  ·omega
  ·exact .inr h)
 refine CallsIn.mono (IS (w.heap.size+1) CC (fun _ _ _=>False) b4 (fun _ _ _ h=>h) (fun b=>D₀ b\/b=w.heap.size+1\/b=w.heap.size) O₀ W1 ?_
  ⟨D₀,(hC 0).keeps h0 a4 (fun _ _ h=>h),fun _=>Iff.rfl,fun h=>by have:=a9 _ h;omega,fun h=>by have:=a9 _ h;omega,b2⟩
  (hS.keeps hS0 a4 (fun _ _ h=>h)) (fun b hb ho=>by
   have:=b3 b ho
   rcases hb with h | rfl | rfl
   ·exact hdis b h ho
   ·omega
   ·omega)) ?_
 ·rintro k D W hk ⟨X,Z,H,h5,h6,q⟩ b5
  have a5:D (w.heap.size+1):=(H _).2 (.inr (.inl rfl));refine jgs a8 q (hps k) (hround _ k X W _ hk Z q.loop.lt fun a1 W2 hX b6=>?_);have Z:=(hC k).keeps Z hX (fun _ _ h=>h);have q:=q.keeps hX (fun h=>h) (fun h=>h);have a2:=jac.onePut W2 (w.heap.size+1) (.loop (a3 .busy none))
  refine⟨q,Code.wpIn_mono ?_ (b6 _ ((hC k).keeps Z a2 (fun b hb e=>h5 (e ▸ hb))) a2 (((b0 b5).trans' hX (fun _ _ h=>h.elim)).trans' a2 (fun x hx e=>by omega)))⟩
  intro e a' W' hq;cases e with
  | normal =>
   obtain⟨J,hK,A,hc⟩:=hq
   rw[World.putObj_size]at A;have b9:=q.loop.lt;have n1:¬ J (w.heap.size+1):=fun h=>(A _ h).elim h5 vO;have n2:¬ J w.heap.size:=fun h=>(A _ h).elim h6 vO;have b1:=jac.onePut W' (w.heap.size+1) (.loop (a3 .ready none))
   refine⟨none,rfl,hK.mono fun b _ h=>⟨fun e=>h6 (e ▸ h),fun e=>h5 (e ▸ h)⟩,fun hb=>⟨fun b=>J b\/b=w.heap.size+1\/b=w.heap.size,(hX.mono (fun _ _ h=>h.elim)).trans (((a2.mono (fun x _ e=>e ▸ a5)).trans' hK (fun x hx h=>(H x).2 (.inl h))).trans' b1 (fun x hx e=>e ▸ a5)),?_,.inl ⟨rfl,J,(hC _).keeps hc b1 (fun b hb e=>n1 (e ▸ hb)),fun _=>Iff.rfl,n1,n2,hb⟩⟩⟩
   rintro b (h | rfl | rfl)
   ·exact (A b h).imp (fun h=>(H b).2 (.inl h)) (fun h=>bE hX.size h)
   ·exact .inl a5
   ·exact .inl ((H _).2 (.inr (.inr rfl)))
  | _=>exact hq.elim
 ·rintro e W' ⟨hv,X,O',hk,c0,c1,a0,⟨⟨J,Z,H,h5,h6,q⟩,b7⟩ |⟨_,_,_,h,_⟩⟩
  ·refine⟨hv,.inl ⟨q,fun o hd=>?_⟩⟩
   have a7:=jac.onePut W' (w.heap.size+1) o;exact hdone J O' _ ((b0 hk).trans' a7 (fun x hx e=>by omega)) ((hC N).keeps Z a7 (fun b hb e=>h5 (e ▸ hb))) ((hSE N).keeps b7 a7 (fun b hb e=>a0 _ ((H _).2 (.inr (.inl rfl))) (e ▸ hb))) hd
  ·exact h.elim
end
section
open Go Go.RowKit
attribute [local go_sem] Oper.semAt_some
end
section
open Go Go.RowKit
end
section
open Go Go.RowKit
attribute [local go_sem] Oper.semAt_some
structure RgA(t:Nat)(to:vB)(limit:Int)(W:World):Prop where
 b0:Blk W t (.cells #[.string to] 9)
 b1:Blk W (t+1) (.cells #[.int .i64 limit] 3)
 b2:Blk W (t+2) (.cells #[.slice none 0 0] 53)
 b3:Blk W (t+3) (.cells #[.bool false] 4)
 b4:Blk W (t+4) (.cells #[.int .i64 0] 27)
theorem RgA.keeps{to:vB}{limit:Int}{W:vW}(h:RgA t to limit W)(k:jac F W W')(hF:∀ b,t<=b->b<=t+4->¬ F b):RgA t to limit W':=
 ⟨h.b0.keeps k (hF _ vO vO),h.b1.keeps k (hF _ vO vO),h.b2.keeps k (hF _ vO vO),h.b3.keeps k (hF _ vO vO),h.b4.keeps k (hF _ vO vO)⟩
theorem RgA.new(limit:Int):RgA W.heap.size to limit (((((W.alloc (.cells #[.string to] 9)).alloc (.cells #[.int .i64 limit] 3)).alloc (.cells #[.slice none 0 0] 53)).alloc (.cells #[.bool false] 4)).alloc (.cells #[.int .i64 0] 27)):=by
 refine⟨?_,?_,?_,?_,?_⟩
 ·exact ((((Blk.new W _).alloc _).alloc _).alloc _).alloc _
 ·have:=(((Blk.new (W.alloc (.cells #[.string to] 9)) (.cells #[.int .i64 limit] 3)).alloc (.cells #[.slice none 0 0] 53)).alloc (.cells #[.bool false] 4)).alloc (.cells #[.int .i64 0] 27)
  rwa [bF]at this
 ·have:=((Blk.new ((W.alloc (.cells #[.string to] 9)).alloc (.cells #[.int .i64 limit] 3)) (.cells #[.slice none 0 0] 53)).alloc (.cells #[.bool false] 4)).alloc (.cells #[.int .i64 0] 27)
  rwa [bF,bF]at this
 ·have:=(Blk.new (((W.alloc (.cells #[.string to] 9)).alloc (.cells #[.int .i64 limit] 3)).alloc (.cells #[.slice none 0 0] 53)) (.cells #[.bool false] 4)).alloc (.cells #[.int .i64 0] 27)
  rwa [bF,bF,bF]at this
 ·have:=Blk.new ((((W.alloc (.cells #[.string to] 9)).alloc (.cells #[.int .i64 limit] 3)).alloc (.cells #[.slice none 0 0] 53)).alloc (.cells #[.bool false] 4)) (.cells #[.int .i64 0] 27)
  rwa [bF,bF,bF,bF]at this
theorem jjD{fn:Func}{t u x:Tmp}{ty ty2 ty3:TypeId}(h:fn.results=#[.cell t ty,.cell u ty2,.cell x ty3]){a b c:Addr}(ha:tmps.getD t undef=.pointer (some a))(hb:tmps.getD u undef=.pointer (some b))(hc:tmps.getD x undef=.pointer (some c)){w:vW}
  (l1:(loadVar ty a).run P w=.ok v1 w) (l2:(loadVar ty2 b).run P w=.ok v2 w) (l3:(loadVar ty3 c).run P w=.ok v3 w):(results fn tmps).run P w=.ok (.tuple #[v1,v2,v3]) w:=by
 have e:tmps[t]?.getD undef=.pointer (some a):=by simpa using ha
 have q:tmps[u]?.getD undef=.pointer (some b):=by simpa using hb
 have A:tmps[x]?.getD undef=.pointer (some c):=by simpa using hc
 simp[results,h,e,q,A,asAddr,bK,Result.andThen,l1,l2,l3]
theorem jfg{W:vW}{p:Addr}{v:vV}{t:TypeId}{d:TypeDesc}(hu:P.underlying t=some d)(hd:(match d with | .struct _ | .array _ _=>true | _=>false)=false)(h:W.cell? p=some v):(loadVar t p).run P W=.ok v W:=by
 have:=jab hu hd h
 simpa [Instr.loadAt,Instr.sureAddr,bK,Result.andThen]using this
theorem jyv(y2 y3 y4:vV)(h2:Blk w1 (t+2) (.cells #[x2] 53))(h3:Blk w1 (t+3) (.cells #[x3] 4))(h4:Blk w1 (t+4) (.cells #[x4] 27)) :
  Blk (((w1.setCell ⟨t+1+1,0,none⟩ y2).setCell ⟨t+1+1+1,0,none⟩ y3).setCell ⟨t+1+1+1+1,0,none⟩ y4) (t+2) (.cells #[y2] 53) /\
  Blk (((w1.setCell ⟨t+1+1,0,none⟩ y2).setCell ⟨t+1+1+1,0,none⟩ y3).setCell ⟨t+1+1+1+1,0,none⟩ y4) (t+3) (.cells #[y3] 4) /\
  Blk (((w1.setCell ⟨t+1+1,0,none⟩ y2).setCell ⟨t+1+1+1,0,none⟩ y3).setCell ⟨t+1+1+1+1,0,none⟩ y4) (t+4) (.cells #[y4] 27) /\
  jac (fun b=>b=t+2\/b=t+3\/b=t+4) w1 (((w1.setCell ⟨t+1+1,0,none⟩ y2).setCell ⟨t+1+1+1,0,none⟩ y3).setCell ⟨t+1+1+1+1,0,none⟩ y4):=by
 have q:=jac.oneSet w1 ⟨t+1+1,0,none⟩ y2;have A:=jac.oneSet (w1.setCell ⟨t+1+1,0,none⟩ y2) ⟨t+1+1+1,0,none⟩ y3;have H:=jac.oneSet ((w1.setCell ⟨t+1+1,0,none⟩ y2).setCell ⟨t+1+1+1,0,none⟩ y3) ⟨t+1+1+1+1,0,none⟩ y4
 refine⟨?_,?_,?_,((q.mono (fun b _ e=>.inl e)).trans' A (fun b _ e=>.inr (.inl e))).trans' H (fun b _ e=>.inr (.inr e))⟩
 ·exact ((h2.set_same (i:=0) y2).set_other (p:=⟨t+1+1+1,0,none⟩) (by show t+2≠t+3;omega) _).set_other (p:=⟨t+1+1+1+1,0,none⟩) (by show t+2≠t+4;omega) _
 ·exact ((h3.set_other (p:=⟨t+1+1,0,none⟩) (by show t+3≠t+2;omega) _).set_same (i:=0) y3).set_other (p:=⟨t+1+1+1+1,0,none⟩) (by show t+3≠t+4;omega) _
 ·exact ((h4.set_other (p:=⟨t+1+1,0,none⟩) (by show t+4≠t+2;omega) _).set_other (p:=⟨t+1+1+1,0,none⟩) (by show t+4≠t+3;omega) _).set_same (i:=0) y4
theorem jwk{W:vW}{y2 y3 y4:vV}(h2:Blk W (t+2) (.cells #[y2] 53))(h3:Blk W (t+3) (.cells #[y3] 4))(h4:Blk W (t+4) (.cells #[y4] 27))
  (ha:tmps.getD 10 undef=.pointer (some ⟨t+2,0,none⟩)) (hb:tmps.getD 11 undef=.pointer (some ⟨t+3,0,none⟩)) (hc:tmps.getD 12 undef=.pointer (some ⟨t+4,0,none⟩)):(results Tryz.f52 tmps).run Tryz.prog W=.ok (.tuple #[y2,y3,y4]) W:=
 jjD rfl ha hb hc (jfg Tryz.uEnts rfl (h2.cell (i:=0) vF)) (jfg Tryz.underlying4 rfl (h3.cell (i:=0) vF)) (jfg Tryz.underlying27 rfl (h4.cell (i:=0) vF))
def Cu1(c s:Nat)(fr:vB)(v:vV)(W:vW):Prop:=Blk W c (.cells #[.pointer (some ⟨s,0,none⟩),.string fr,v,.int .i64 1] 292)
structure Pc1(g:Nat)(p x:vB)(W:World):Prop where
 p0:W.cell? ⟨g,0,none⟩=some (.string p)
 p1:W.cell? ⟨g,1,none⟩=some (.string x)
 p2:W.cell? ⟨g,2,none⟩=some (.string ⟨#[]⟩)
 lt:g < W.heap.size
theorem Pc1.keeps{W:vW}{g:Nat}{p x:vB}(h:Pc1 g p x W)(k:jac F W W')(hF:¬ F g):Pc1 g p x W':=⟨jai h.p0 k hF,jai h.p1 k hF,jai h.p2 k hF,bC h.lt k.size⟩
def CuP(W:vW)(c s:Nat)(fr p x:vB)(w':vW):Prop:=∃ g cp,Cu1 c s fr (.slice (some ⟨g,0,none⟩) 1 cp) w'/\Pc1 g p x w'/\W.heap.size<=g/\c < g/\1<=cp
theorem jsU(h:Cu1 c s fr (.slice none 0 0) W)(hx:x.toList.isEmpty=false)(hl:Op.bytesLess p.toList fr.toList=false)(hk:jcX p=true)(hp:p.size<=1000000) :
  vQ 191 #[.pointer (some ⟨c,0,none⟩),.string p,.string x] W fun e w'=>e=.returned (.tuple #[])/\CuP W c s fr p x w'/\jac (fun b=>b=c) W w':=by
 have q1:=Blk.cell (i:=1) (v:=.string fr) h vF;have q2:=Blk.cell (i:=2) (v:=.slice none 0 0) h vF;have H:=Hd h;have O:=jlt W p hp;unfold keyV at O;rw[hk]at O;have a0:=Hd O;clear h O hk hp;go_enter Tryz.func191,Tryz.ntmps191;go_wp2_with fail
 refine a0.o.mono ?_;rintro e w1 ⟨rfl,hE⟩;simp only[if_true];have q2:=jaa q2 hE;have X:=Hd hE;clear hE;go_wp2_with (at_builtin;(refine ja0 Tryz.sPls (ORow.nil _ _ (X.o.alloc _)) (.tmp 28) (.tmp 32) rfl rfl rfl (jaN (Blk.new w1 _)) (news:=[.string p,.string x,.string ⟨#[]⟩]) (jwd ⟨p,x,⟨#[]⟩⟩) rfl rfl vI vI ?_;intro v' w' A K r3;have q:Ext w1 w':=((ExtR w1).alloc _).trans' K (fun x _ e=>by cases e);have q3:=jaa q2 q;have qf:w'.frozen? ⟨c,2,none⟩=false:=(Blk.keeps H.o (X.o.trans q) (fun h=>h)).frozen;have HR:=Hd (bA A q);obtain⟨a2,J,a1⟩:=A.sl;subst a1;clear A K r3 q))
 refine bodyPost_end (results_none rfl _ _ _) rfl ?_
 obtain⟨A,K⟩:=HR.o
 obtain⟨_,⟨_,h3⟩ |⟨g,a3,a4,h2,h3,h4,h5,h6⟩⟩:=A.own
 ·cases h3
 obtain⟨rfl,_,rfl⟩:=dC h2
 have Z:=fun j u hj=>World.ownsRow.cells (g:=g) A.own rfl j u hj;simp only[Addr.add_lit,bT]at Z;have hg:=A.new g rfl;have a5:=Blk.lt H.o;have h1:0+1<=J:=h5;have ks:=jac.oneSet w' ⟨c,2,none⟩ (.slice (some ⟨g,0,none⟩) 1 J)
 exact⟨rfl,⟨g,J,Blk.set_same (i:=2) (Blk.keeps H.o (X.o.trans K) (fun h=>h)) _,Pc1.keeps ⟨Z 0 _ rfl,Z 1 _ rfl,Z 2 _ rfl,Blk.lt h4⟩ ks (by show ¬ g=c;omega),hg,by omega,by omega⟩,((X.o.trans K).mono fun _ _ e=>e.elim).trans ks⟩
theorem jx2(va:vB)(rs:vM)(hr:rs.length=16)(h:Cu1 c s fr (.slice none 0 0) W)(hx:va.toList.isEmpty=false)(hl:Op.bytesLess pa.toList fr.toList=false)(hk:jcX pa=true)(hp:pa.size<=1000000) :
  vQ 149 #[.pointer (some ⟨c,0,none⟩),(jae.mk 1 pa va rs).V,.string ⟨#[]⟩] W fun e w'=>e=.returned (.tuple #[])/\CuP W c s fr pa va w'/\jac (fun b=>b=c) W w':=by
 have HL:Hid ((jae.cells ⟨1,pa,va,rs⟩).length=19):=jae.cells_len _ hr;have q:Ext W (W.alloc (.cells (jae.cells ⟨1,pa,va,rs⟩).toArray 206)):=(ExtR W).alloc _;have K:=Hd (jsU _ c s fr pa va (Blk.keeps h q (fun h=>h)) hx hl hk hp);have A:=Hd q;clear h hx hl hk q;unfold jae.V;have e0:(jae.cells ⟨1,pa,va,rs⟩)[0]?=some (.int .i64 1):=rfl;have e1:(jae.cells ⟨1,pa,va,rs⟩)[1]?=some (.string pa):=rfl;have e2:(jae.cells ⟨1,pa,va,rs⟩)[2]?=some (.string va):=rfl;go_enter Tryz.func149,Tryz.ntmps149;go_wp2_with fail
 rw[jv1];refine K.o.mono ?_;rintro e w1 ⟨rfl,H,J⟩;have O:=Hd H;have X:=Hd ((A.o.mono fun _ _ e=>e.elim).trans J);clear H J;go_wp2_with fail
 refine bodyPost_end (results_none rfl _ _ _) rfl ?_
 obtain⟨g,Z,h1,h2,h3,h4⟩:=O.o
 exact⟨rfl,⟨g,Z,h1,h2,bE A.o.size h3,h4⟩,X.o⟩
theorem jwv(k pa va:vB)(rs:vM)(hf:fr.size<=100000)(hs:jax W s bm room S)(y:Nd5)(hy:atL S k.data.toList=some y)(d:Nat)(n:jae)(hg:jaW (InlD d) n)(htx:y.2.2.text=jaV n)(hn:n=⟨1,pa,va,rs⟩)(hx:va.toList.isEmpty=false)(hlow:Op.bytesLess pa.toList (jaJ fr).toList=false)(hk:jcX pa=true)(hp:pa.size<=1000000) :
  vQ 105 #[.pointer (some ⟨s,0,none⟩),.string k,.string fr] W fun e w'=>∃ c,e=.returned (.tuple #[.pointer (some ⟨c,0,none⟩),.int .i64 0])/\W.heap.size<=c/\CuP W c s (jaJ fr) pa va w'/\Ext W w':=by
 have J:=hg.one (inlP d);have q:=fun w (h:jax w s bm room S)=>jfR w s bm room S k h;rw[hy]at q
 obtain⟨t,ht⟩:=vE y.2.2.text
 rw[<-ht]at htx;have a1:(some y).map (fun z:Nd5=>z.2.2.text)=some t:=by rw[ht];rfl
 simp only[a1]at q;have b9:=Hd q;have HS:=Hd hs;have HG:=Hd hg;have a2:=Hd htx;have a3:=Hd J.refs;have a4:=Hd (n.cells_len J.refs);have a5:=Hd hlow;have HN:=Hd hn;clear hs hy hg htx ht q a1 J hlow hn;go_enter Tryz.func105,Tryz.ntmps105;go_wp2_with fail
 refine vH (b9.o W HS.o) fun w1 a7=>?_;unfold optV;go_wp2_with fail
 rw[a2.o];refine vH (jer (inlP d) w1 n HG.o) fun w2 hE=>?_;rw[<-a2.o];have c0:=Hd (a7.o.trans hE);clear a7;unfold jae.V;go_wp2_with (refine jah Tryz.allocNode rfl rfl ?_;intro W5 a8 a9;refine jad (vs:=n.cells) rfl rfl rfl rfl a8 (by rw[a4.o];rfl) (by rw[a4.o];exact Tryz.szNode) n.one ?_;intro W6 b0 b1)
 have b2:Ext w2 W6:=a9.trans' b1 (fun x hx e=>by have e:x=w2.heap.size:=e;omega);refine vC (je3 W6 fr vO) fun A hE=>?_;have O:=Hd ((c0.o.trans b2).trans hE);have b3:=Hd (b0.keeps hE (fun h=>h))
 obtain⟨pf,X⟩:=vE (jaJ fr)
 have c1:=Hd X;rw[<-X]at a5 ⊢;clear hE b2 b0 b1 a9 a8 X;go_wp2_with fail
 obtain⟨W8,H⟩:=vE (A.alloc (.cells #[.pointer (some ⟨s,0,none⟩),.string pf,.slice none 0 0,.int .i64 1] 292))
 have b4:Blk W8 A.heap.size (.cells #[.pointer (some ⟨s,0,none⟩),.string pf,.slice none 0 0,.int .i64 1] 292):=by rw[H];exact Blk.new A _
 have Z:Ext A W8:=by rw[H];exact (ExtR A).alloc _
 rw[<-H];have c2:Hid (Cu1 A.heap.size s pf (.slice none 0 0) W8):=b4;have c3:=Hd (O.o.trans Z);have c4:=Hd O.o.size;have c5:=Hd (b3.o.keeps Z (fun h=>h));clear H b4 Z b3 O;refine jaq [0,1,2,3,4] [4] Ext ExtR ExtT vY vY vY ?_
 refine vP ?_
 refine qA _ (.pointer (some ⟨A.heap.size,0,none⟩)) rfl (fun w1=>by kernel_rfl) ?_;refine vS ?_
 refine vP ?_
 refine qL ⟨w2.heap.size,0,none⟩ n.V rfl (fun w1 h1=>jap w1 _ n a3.o (c5.o.keeps ((jak _).trans h1) (fun h=>h))) ?_;refine vS ?_;refine qH _ rfl (fun w4 he K hK=>?_);have b5:=Hd (show Ext W8 w4 from(jak _).trans he);clear he;have hl:=jx2 w4 A.heap.size s pf pa va rs (by have:=a3.o;rw[HN.o]at this;exact this) (Blk.keeps c2.o b5.o (fun h=>h)) hx a5.o hk hp;rw[<-HN.o]at hl;refine jaT (jal (vX 149) vY) (hl.mono ?_);rintro e w5 ⟨rfl,b6,b7⟩
 refine⟨_,rfl,hK _ _ ?_⟩
 have H5:=Hd (bA b6 b7);clear hK K b6 b7 hl;refine qE (fun w6 he=>?_);have a0:=Hd he;clear he;refine vS ?_;go_wp2_with fail
 go_ret2
 obtain⟨⟨g,cp,h1,h2,h3,h4⟩,h5⟩:=H5.o
 have hz:=c4.o;have b8:=c3.o.trans b5.o;rw[c1.o]at h1
 exact⟨A.heap.size,rfl,hz,⟨g,cp,Blk.keeps h1 a0.o (fun h=>h),h2.keeps a0.o (fun h=>h),bE b8.size h3,h4⟩,(b8.trans' h5 fun x hx e=>by omega).trans a0.o⟩
theorem jrB(cp:Nat)(fr p x:vB)(h:Cu1 c s fr (.slice (some ⟨g,0,none⟩) n cp) W)(hn:n=0\/n=1/\1<=cp/\Pc1 g p x W/\x.toList.isEmpty=false) :
  vR 226 #[.pointer (some ⟨c,0,none⟩)] W (.bool (n == 1)):=by
 have H:=Hd h;have A:=Hd hn;clear h hn;go_enter Tryz.func226,Tryz.ntmps226;go_wp2_with fail
 go_loopw [2] (fun J wr=>J=.bool false/\Ext W wr) (fun _ _=>0)
 case atStart=>exact⟨rfl,ExtR W⟩
 case round =>
  obtain⟨rfl,q⟩:=hrel
  have e:=Hd q;have K:=Blk.cell (i:=2) (v:=.slice (some ⟨g,0,none⟩) n cp) (Blk.keeps H.o q (fun h=>h)) vF;clear q;rcases A.o with rfl |⟨rfl,hcp,hP,hx⟩
  ·go_wp2_with fail
   go_ret
   exact⟨rfl,e.o⟩
  ·have O:=jaa hP.p0 e.o
   have X:=jaa hP.p1 e.o;have Z:=jaa hP.p2 e.o;clear hP;go_wp2_with fail
   go_ret
   exact⟨rfl,e.o.alloc _⟩
def nx1(p x:vB):Nat->vV
 | 0=>.tuple #[.agg #[.string ⟨#[]⟩,.string ⟨#[]⟩],.bool false]
 | _=>.tuple #[.agg #[.string (jbF p),.string x],.bool true]
theorem jv0(cp:Nat)(fr p x:vB)(h:Cu1 c s fr (.slice (some ⟨g,0,none⟩) n cp) W)(hn:n=0\/n=1/\1<=cp/\Pc1 g p x W/\x.toList.isEmpty=false)(hk:jcX p=true)(hp:p.size<=1000000) :
  vR 193 #[.pointer (some ⟨c,0,none⟩)] W (nx1 p x n):=by
 have X:Ext W (W.alloc (.cells #[.string ⟨#[]⟩,.string ⟨#[]⟩] 52)):=(ExtR W).alloc _;have hB:Blk (W.alloc (.cells #[.string ⟨#[]⟩,.string ⟨#[]⟩] 52)) W.heap.size (.cells #[.string ⟨#[]⟩,.string ⟨#[]⟩] 52):=Blk.new W _;have hs:=jrB _ c s g n cp fr p x (Blk.keeps h X (fun h=>h)) (hn.imp id fun ⟨h1,O,h3,h4⟩=>⟨h1,O,h3.keeps X (fun h=>h),h4⟩);have HS:=Hd hs;have HB:=Hd hB;have HE:=Hd X;have H:=Hd h;have HN:=Hd hn;have b6:=Hd (show ∀ w,vQ 184 #[.string p] w fun e w'=>e=.returned (.tuple #[.string (jbF p),.bool true])/\Ext w w' from fun w=>by
  have:=jlt w p hp
  unfold keyV at this;rw[hk]at this;exact this)
 clear h hn hk hp X hB hs;go_enter Tryz.func193,Tryz.ntmps193;go_wp2_with fail
 refine HS.o.mono ?_;rintro e w1 ⟨rfl,a0⟩;have A:=Hd (HE.o.trans a0);have a8:=Hd (HB.o.keeps a0 (fun h=>h));clear a0;rcases HN.o with rfl |⟨rfl,hcp,hP,hx⟩
 ·go_wp2_with (refine jad (old:=[.string ⟨#[]⟩,.string ⟨#[]⟩]) (vs:=[.string ⟨#[]⟩,.string ⟨#[]⟩]) rfl rfl rfl rfl a8.o rfl Tryz.szEntry (by intro u Z;simp at Z;rcases Z with rfl | rfl <;> rfl) ?_;intro W8 a1 a2)
  refine bodyPost_ret (jan rfl rfl rfl (jcq a1)) rfl ?_
  exact⟨rfl,A.o.trans' a2 fun x hx e=>by have e:x=W.heap.size:=e;omega⟩
 have Q2:=Hd (Blk.cell (i:=2) (v:=.slice (some ⟨g,0,none⟩) 1 cp) (Blk.keeps H.o A.o (fun h=>h)) vF);have HP:=Hd (hP.keeps A.o (fun h=>h));have a9:Hid (c < w1.heap.size):=bC (Blk.lt H.o) A.o.size;clear hP hx;go_wp2_with fail
 refine jau [0,1,2,3,4,5,6,7,8,9,10,11,12,13] [12,13] Ext (jac (fun b=>w1.heap.size<=b)) ExtR ExtT (fun x y z h k=>jac.trans h k) (fun x y h=>h.mono (fun _ _ h=>h.elim)) vY vY vY ?_
 refine vD ?_
 refine qDV _ (.pointer (some ⟨c,0,none⟩)) rfl (fun w1 _=>by kernel_rfl) ?_;refine vS ?_
 refine vD ?_
 refine qDL ⟨c,2,none⟩ _ rfl (fun q O=>jab Tryz.uPls rfl (jai (jaa Q2.o (jak _)) O (by have:=a9.o;exact fun e=>absurd e (Nat.not_le.2 this)))) ?_;refine vS ?_
 refine vD ?_
 refine qDV _ (.pointer (some ⟨c,0,none⟩)) rfl (fun w1 _=>by kernel_rfl) ?_;refine vS ?_
 refine vD ?_
 refine qDL ⟨c,2,none⟩ _ rfl (fun q O=>jab Tryz.uPls rfl (jai (jaa Q2.o (jak _)) O (by have:=a9.o;exact fun e=>absurd e (Nat.not_le.2 this)))) ?_;refine vS ?_;iterate 3 refine vD ?_
 refine qDL ⟨g,0,none⟩ _ rfl (fun q O=>by
  have a3:¬ w1.heap.size<=g:=Nat.not_le.2 HP.o.lt;exact jvT (jai (jaa HP.o.p0 (jak _)) O a3) (jai (jaa HP.o.p1 (jak _)) O a3) (jai (jaa HP.o.p2 (jak _)) O a3)) ?_
 refine vS ?_;refine qDH _ rfl (fun q J K hK=>?_);have a4:=Hd (show Ext w1 q from(jak _).trans J);clear J;refine jbk (v:=.pointer (some ⟨q.heap.size,0,none⟩)) (w':=q.alloc (.cells [Value.string ⟨#[]⟩,.string ⟨#[]⟩,.string ⟨#[]⟩].toArray 368)) (by simp only[execOp,bK,Tryz.allocPl,Result.andThen,cP]) (hK _ _ ((jac.refl _ q).alloc _) ?_);clear hK K;refine vS ?_;refine qDH _ rfl (fun w3 J K hK=>?_);refine jdl (b:=q.heap.size) (old:=[Value.string ⟨#[]⟩,.string ⟨#[]⟩,.string ⟨#[]⟩]) (vs:=[.string p,.string x,.string ⟨#[]⟩]) rfl rfl rfl ((Blk.new q _).keeps J (fun h=>h)) rfl Tryz.szPl (by intro u Z;simp at Z;rcases Z with rfl | rfl | rfl <;> rfl) (fun w4 b0 a5=>hK _ _ (a5.mono (fun x _ e=>by have:=a4.o.size;have e:x=q.heap.size:=e;omega)) ?_);have b1:Hid (Ext w1 w4):=(a4.o.trans ((((ExtR q).alloc _).trans J).trans' a5 (fun x hx e=>by have e:x=q.heap.size:=e;omega)));have b2:=Hd b0;have b8:=Hd a4.o.size;clear hK K J b0 a5;refine vS ?_;refine qDE (fun w5 J=>?_);have b3:=Hd (b1.o.trans J);have a7:=b2.o.keeps J (fun h=>h);have c0:=a7.cell (i:=0) (v:=.string p) vF;have b4:=Hd a7;clear J b1 b2 a7;go_wp2_with fail
 refine vC (b6.o w5) fun w6 X=>?_;have c1:=(b4.o.keeps X (fun h=>h)).cell (i:=1) (v:=.string x) vF;have b5:=Hd (b3.o.trans X);have b7:=Hd (a8.o.keeps b5.o (fun h=>h));clear X b3 b4;go_wp2_with (refine jad (old:=[.string ⟨#[]⟩,.string ⟨#[]⟩]) (vs:=[.string (jbF p),.string x]) rfl rfl rfl rfl b7.o rfl Tryz.szEntry (by intro u Z;simp at Z;rcases Z with rfl | rfl <;> rfl) ?_;intro W8 a1 a2)
 refine bodyPost_ret (jan rfl rfl rfl (jcq a1)) rfl ?_
 exact⟨rfl,(A.o.trans b5.o).trans' a2 fun x hx e=>by have e:x=W.heap.size:=e;omega⟩
theorem jxF(cp:Nat)(fr:vB)(h:Cu1 c s fr (.slice (some ⟨g,0,none⟩) 1 cp) W) :
  vQ 194 #[.pointer (some ⟨c,0,none⟩)] W fun e w'=>e=.returned (.tuple #[])/\Cu1 c s fr (.slice (some ⟨g,0,none⟩) 0 cp) w'/\jac (fun b=>b=c) W w':=by
 have X:=Hd (Blk.cell (i:=2) (v:=.slice (some ⟨g,0,none⟩) 1 cp) h vF);have H:=Hd h;clear h;go_enter Tryz.func194,Tryz.ntmps194;go_wp2_with fail
 refine jaq [0,1,2,3,4,5,6,7,8,9,10,11,12,13,14] [14] Ext ExtR ExtT vY vY vY ?_;iterate 2 refine vP ?_
 refine qA _ (.pointer (some ⟨c,0,none⟩)) rfl (fun w1=>by kernel_rfl) ?_;refine vS ?_
 refine vP ?_
 refine qL ⟨c,2,none⟩ _ rfl (fun w1 J=>jab Tryz.uPls rfl (jaa X.o ((jak _).trans J))) ?_;refine vS ?_
 refine vP ?_
 refine qA _ (.pointer (some ⟨c,0,none⟩)) rfl (fun w1=>by kernel_rfl) ?_;refine vS ?_
 refine vP ?_
 refine qL ⟨c,2,none⟩ _ rfl (fun w1 J=>jab Tryz.uPls rfl (jaa X.o ((jak _).trans J))) ?_;refine vS ?_;iterate 3 refine vP ?_
 refine qA _ (.pointer (some ⟨c,0,none⟩)) rfl (fun w1=>by kernel_rfl) ?_;refine vS ?_
 refine vP ?_
 refine qH _ rfl (fun O q K Z=>?_);have A:=Blk.keeps H.o ((jak _).trans q) (fun h=>h);have q1:O.cell? ⟨c,2,none⟩=some (.slice (some ⟨g,0,none⟩) 1 cp):=A.cell (i:=2) vF;have f1:O.frozen? ⟨c,2,none⟩=false:=A.frozen;have HC:=Hd (bA ((jak _).trans q) (A.set_same (i:=2) (.slice (some ⟨g,0,none⟩) 0 cp)));clear q A;go_simp;refine Z _ _ ?_;clear Z K q1 f1;refine qE (fun w5 q=>?_);have HF:=Hd q;clear q;refine bodyPost_end (results_none rfl _ _ _) rfl ?_
 exact⟨rfl,Blk.keeps HC.o.2 HF.o (fun h=>h),((HC.o.1.mono fun _ _ e=>e.elim).trans (jac.oneSet O ⟨c,2,none⟩ _)).trans (HF.o.mono fun _ _ e=>e.elim)⟩
theorem jl9(cp:Nat)(fr p x:vB)(h:Cu1 c s fr (.slice (some ⟨g,0,none⟩) n cp) W)(hn:n=0\/n=1/\1<=cp/\Pc1 g p x W/\x.toList.isEmpty=false)(hk:jcX p=true)(hp:p.size<=1000000) :
  vQ 150 #[.pointer (some ⟨c,0,none⟩)] W fun e w'=>e=.returned (nx1 p x n)/\Cu1 c s fr (.slice (some ⟨g,0,none⟩) 0 cp) w'/\jac (fun b=>b=c) W w':=by
 have HC:=Hd (Blk.lt h);have H:=Hd h;have b3:=Hd (fun w (e:Ext W w)=>jv0 w c s g n cp fr p x (Blk.keeps h e (fun h=>h)) (hn.imp id fun ⟨h1,h2,h3,h4⟩=>⟨h1,h2,h3.keeps e (fun h=>h),h4⟩) hk hp);have hn:n=0\/n=1:=hn.imp id (·.1);clear h hk hp;go_enter Tryz.func150,Tryz.ntmps150;go_wp2_with (refine jah Tryz.allocEnt rfl rfl ?_;intro W1 a8 a1)
 refine vC (b3.o W1 a1) fun w2 a2=>?_;have J:=Hd (a1.trans a2);have a9:=Hd (a8.keeps a2 (fun h=>h));have b4:=Hd (Blk.keeps H.o J.o (fun h=>h));clear a8 a1 a2
 obtain⟨y,hy⟩:=vE (jbF p)
 rcases hn with rfl | rfl
 ·unfold nx1
  go_wp2_with (first |(refine jah Tryz.allocEnt rfl rfl ?_;intro W5 K O;refine jad (vs:=[.string ⟨#[]⟩,.string ⟨#[]⟩]) rfl rfl rfl rfl K rfl Tryz.szEntry (jhV _ _) ?_;intro W6 A X;have q:Ext w2 W6:=O.trans' X (fun x hx e=>by have e:x=w2.heap.size:=e;omega);have a3:=a9.o.keeps q (fun h=>h);have a4:=jhD (b:=w2.heap.size) (o:=0) (A.cell (i:=0) vF) (A.cell (i:=1) vF)) |(refine jaf 52 (.tmp 4) rfl rfl _ _ rfl a4 ?_) |(refine jad (vs:=[.string ⟨#[]⟩,.string ⟨#[]⟩]) rfl rfl rfl rfl a3 rfl Tryz.szEntry (jhV _ _) ?_;intro W8 a5 Z))
  refine bodyPost_ret (jan rfl rfl rfl (jcq a5)) rfl ?_;have b0:Ext W W8:=(J.o.trans q).trans' Z fun x hx e=>by have e:x=W.heap.size:=e;omega
  exact⟨rfl,Blk.keeps H.o b0 (fun h=>h),b0.mono fun _ _ e=>e.elim⟩
 ·unfold nx1
  rw[<-hy];have HY:=Hd hy;clear hy;go_wp2_with (first |(refine jah Tryz.allocEnt rfl rfl ?_;intro W5 K O;refine jad (vs:=[.string y,.string x]) rfl rfl rfl rfl K rfl Tryz.szEntry (jhV _ _) ?_;intro W6 A X))
  have q:Ext w2 W6:=O.trans' X (fun x hx e=>by have e:x=w2.heap.size:=e;omega);refine (jxF W6 c s g cp fr (Blk.keeps b4.o q (fun h=>h))).mono ?_;rintro e w7 ⟨rfl,b1,a0⟩;have b2:=HC.o;have b5:=J.o.size;have a7:=A.keeps a0 vO;have a4:=jhD (b:=w2.heap.size) (o:=0) (a7.cell (i:=0) vF) (a7.cell (i:=1) vF);have a3:=(a9.o.keeps q (fun h=>h)).keeps a0 vO;have b6:=Hd (((J.o.trans q).mono fun _ _ e=>e.elim).trans a0);have b7:=Hd b1;clear a0 a7 A X O K q b2 b5 b1;go_wp2_with (first |(refine jaf 52 (.tmp 4) rfl rfl _ _ rfl a4 ?_) |(refine jad (vs:=[.string y,.string x]) rfl rfl rfl rfl a3 rfl Tryz.szEntry (jhV _ _) ?_;intro W8 a5 Z))
  refine bodyPost_ret (jan rfl rfl rfl (jcq a5)) rfl ?_;have b2:=HC.o
  exact⟨by rw[HY.o];rfl,Blk.keeps b7.o Z vO,b6.o.trans' Z fun x hx e=>by have e:x=W.heap.size:=e;omega⟩
def EaS1(c s:Nat)(fr p x:vB)(g cp:Nat)(O:BSet)(W:vW):Prop:=(∀ b,O b↔b=c\/b=g)/\Cu1 c s fr (.slice (some ⟨g,0,none⟩) 1 cp) W/\Pc1 g p x W
theorem EaS1.supp(g cp:Nat):Supp (EaS1 c s fr p x g cp):=by
 refine⟨fun D W h b hb=>?_,fun D W A h H hb=>?_⟩
 ·rcases (h.1 b).1 hb with rfl | rfl
  ·exact Blk.lt h.2.1
  ·exact h.2.2.lt
 ·have J:=hb g ((h.1 g).2 (.inr rfl))
  have e:=fun i v (q:W.cell? ⟨g,i,none⟩=some v)=>(show A.cell? ⟨g,i,none⟩=some v by unfold World.cell? at *;rw[J];exact q)
  exact⟨h.1,(hb c ((h.1 c).2 (.inl rfl))).trans h.2.1,e _ _ h.2.2.p0,e _ _ h.2.2.p1,e _ _ h.2.2.p2,bC h.2.2.lt H⟩
def noE(_:Nat)(O:BSet)(_:vW):Prop:=∀ b,¬ O b
theorem noE.supp:Supp (noE k):=⟨fun D W h b hb=>absurd hb (h b),fun D W e h _ _=>h⟩
theorem jpn(g cp:Nat)(hcp:1<=cp)(hx:x.toList.isEmpty=false)(hk:jcX p=true)(hp:p.size<=1000000) :
  jr6 Tryz.prog 106 #[.pointer (some ⟨c,0,none⟩)] #[] 1 (fun _=>#[.string (jbF p),.string x]) (fun b=>b=c) (EaS1 c s fr p x g cp) noE:=by
 intro y C Cx hC a9 D O W hY h0 hS X;have Z:=Hd (jl9 W c s g 1 cp fr p x hS.2.1 (.inr ⟨rfl,hcp,hS.2.2,hx⟩) hk hp);have b0:=Hd (fun W' h=>jl9 W' c s g 0 cp fr p x h (.inl rfl) hk hp);have a0:Hid (¬ D c):=fun h=>X c h ((hS.1 c).2 (.inl rfl));have b1:Hid (c < W.heap.size):=Blk.lt hS.2.1;have HY:=Hd hY;have HC:=Hd hC;have c1:=Hd a9;have H0:=Hd h0
 obtain⟨q,hq⟩:=vE (jbF p)
 unfold nx1 at Z b0;rw[<-hq]at Z HY;clear hY hC a9 h0 hS X hcp hx hk hp hq;refine callsIn_of_wp Tryz.func106 rfl trivial ?_ rfl;simp only[Tryz.ntmps106,cT,bU,dA,Nat.reduceAdd,Nat.reduceSub,cV,cU,dE,cZ,cN,cY];gi_wp2_with fail
 refine⟨trivial,rfl,CallsIn.mono (callsIn_wide.2 Z.o) ?_⟩
 rintro e w1 ⟨rfl,b2,b3⟩;have c2:=Hd b2;have a1:=Hd b3;clear b2 b3;gi_wp2_with fail
 have hX:Ext w1 (w1.alloc (.cells #[.string q,.string x] 52)):=(ExtR w1).alloc _;have hB:Blk (w1.alloc (.cells #[.string q,.string x] 52)) w1.heap.size (.cells #[.string q,.string x] 52):=Blk.new w1 _;generalize w1.alloc (.cells #[.string q,.string x] 52)=w2 at hX hB ⊢;have HX:=Hd hX;have HB:=Hd hB;clear hX hB
 obtain⟨g1,a2⟩:=vE w1.heap.size
 rw[<-a2]at HB ⊢;have HG:=Hd a2;clear a2;gi_loopw [4,5] (fun gv bv wr=>(bv=.bool true/\gv=.pointer (some ⟨g1,0,none⟩)/\wr=w2)\/(bv=.bool false/\∃ D5,C 1 D5 wr/\jac (fun b=>D b\/b=c) W wr/\∀ b,D5 b->D b\/W.heap.size<=b)) (fun _ bv _=>match bv with | .bool true=>1 | _=>0)
 case atStart=>exact .inl ⟨rfl,rfl,rfl⟩
 case round =>
  have K:jac (fun b=>D b\/b=c) W w2:=(a1.o.mono fun b _ h=>.inr h).trans' HX.o (fun _ _ h=>h.elim);have hD:=fun b h=>(HC.o 0).lt _ _ H0.o b h;rcases hrel with⟨rfl,rfl,rfl⟩ |⟨rfl,D5,hC5,hK5,hS5⟩
  ·have b4:C 0 D wr:=(HC.o 0).keeps ((HC.o 0).keeps H0.o a1.o (fun b hb e=>a0.o (by rw[<-show b=c from e];exact hb))) HX.o (fun _ _ h=>h)
   obtain⟨fn,tm,c8,bd,c9,b5⟩:=HY.o 0 D wr vO b4 K
   have q0:=HB.o.cell (i:=0) (v:=.string q) vF;have q1:=HB.o.cell (i:=1) (v:=.string x) vF;have c3:=Hd b5;have a3:=Hd K;have HD:=Hd hD;clear b5 b4 K hD;gi_wp2_with fail
   refine⟨rfl,c3.o.mono ?_⟩
   rintro e A ⟨D5,k5,s5,H⟩
   obtain⟨rfl,C5⟩:=H.resolve_right fun h=>c1.o _ _ _ h.2
   have a4:=k5;have a5:=HB.o.keeps k5 (fun h=>by have:=HD.o _ h;have:=a1.o.size;have:=HG.o;omega);have q0:=a5.cell (i:=0) (v:=.string q) vF;have q1:=a5.cell (i:=1) (v:=.string x) vF;have c4:=Hd (bA C5 (bA k5 s5));clear C5 k5 s5 a5 H;gi_wp2_with fail
   have a7:Ext A (A.alloc (.cells #[.string q,.string x] 52)):=(ExtR A).alloc _;have b6:Blk (A.alloc (.cells #[.string q,.string x] 52)) A.heap.size (.cells #[.string q,.string x] 52):=Blk.new A _;have b7:=Blk.keeps (Blk.keeps (Blk.keeps c2.o HX.o (fun h=>h)) a4 a0.o) a7 (fun h=>h)
   refine⟨trivial,rfl,CallsIn.mono (callsIn_wide.2 (b0.o _ b7)) ?_⟩
   rintro e w7 ⟨rfl, -,a8⟩;have b8:A.heap.size≠c:=by have:=b1.o;have:=a3.o.size;have:=a4.size;omega
   have J:=b6.keeps a8 b8;have p0:=J.cell (i:=0) (v:=.string q) vF;have p1:=J.cell (i:=1) (v:=.string x) vF;have f0:w7.frozen? ⟨A.heap.size,0,none⟩=false:=J.frozen;have f1:w7.frozen? ⟨A.heap.size,1,none⟩=false:=J.frozen;have b9:=Hd (bA a7 a8);clear a7 b6 b7 a8 b8 J q0 q1 a4;gi_wp2_with fail
   obtain⟨c5,k5,s5⟩:=c4.o
   have ks:=(jac.oneSet w7 ⟨A.heap.size,0,none⟩ (.string ⟨#[]⟩)).trans (jac.oneSet (w7.setCell ⟨A.heap.size,0,none⟩ (.string ⟨#[]⟩)) ⟨A.heap.size,1,none⟩ (.string ⟨#[]⟩));have d0:=(HC.o 1).lt _ _ c5;have hz:=a3.o.size;have d1:=k5.size;have c0:=((b9.o.1.mono fun _ _ e=>e.elim).trans b9.o.2).trans' ks (F:=fun b=>b=c) (fun b hb e=>by have e:b=A.heap.size:=e;omega);have c7:¬ D5 c:=fun h=>by
    have:=b1.o
    rcases s5 c h with h | h
    ·exact a0.o h
    ·omega
   refine⟨.inr ⟨rfl,D5,(HC.o 1).keeps c5 c0 (fun b hb e=>c7 (by rw[<-show b=c from e];exact hb)),((a3.o.trans' k5 fun b _ h=>.inl h)).trans' c0 (fun b _ h=>.inr h),fun b hb=>(s5 b hb).imp id fun h=>by omega⟩,by decide⟩
  ·have HF:Hid (ji0 W (fun b=>b=c) D O 1 C Cx noE (.returned (.tuple #[])) wr):=Hd ⟨⟨_,rfl⟩,D5,fun _=>False,hK5,hS5,fun b h=>h.elim,fun b _ h=>h,.inl ⟨hC5,fun b h=>h⟩⟩
   clear hC5 hK5 hS5 K hD;gi_wp2;refine bodyPost_end (results_none rfl _ _ _) rfl ?_;exact HF.o
structure Rg1(t t5:Nat)(to:vB)(k:Nat)(D:BSet)(W:World):Prop where
 is:∀ b,D b↔(t<=b/\b<=t+4)\/b=t5
 a:RgA t to 1 W
 b5:∃ a c,Blk W t5 (.cells #[.slice a k c] 53)/\(k=0->a=none/\c=0)
theorem Rg1.supp(t t5:Nat)(to:vB)(k:Nat):Supp (Rg1 t t5 to k):=by
 refine⟨fun D W h b hb=>?_,fun D W H h X hb=>?_⟩
 ·obtain⟨a,c,A, -⟩:=h.b5
  rcases (h.is b).1 hb with e | rfl
  ·have:=h.a.b4.lt;omega
  ·exact A.lt
 ·obtain⟨a,c,A,J⟩:=h.b5
  have q:∀ b,t<=b->b<=t+4->H.heap[b]?=W.heap[b]?:=fun b K O=>hb b ((h.is b).2 (.inl ⟨K,O⟩))
  exact⟨h.is,⟨(q _ vO vO).trans h.a.b0,(q _ vO vO).trans h.a.b1,(q _ vO vO).trans h.a.b2,(q _ vO vO).trans h.a.b3,(q _ vO vO).trans h.a.b4⟩,a,c,(hb t5 ((h.is t5).2 (.inr rfl))).trans A,J⟩
theorem jtV(k p x:vB)(hSK:∀ w,Ext W w->vQ 105 #[.pointer (some ⟨s,0,none⟩),.string k,.string fr] w fun e w'=>∃ c,e=.returned (.tuple #[.pointer (some ⟨c,0,none⟩),.int .i64 0])/\w.heap.size<=c/\CuP w c s (jaJ fr) p x w'/\Ext w w')(hx:x.toList.isEmpty=false)(hk:jcX p=true)(hp:p.size<=1000000)(hlt:Op.bytesLess (jbF p).toList to.toList=true) :
  vQ 52 #[.pointer (some ⟨s,0,none⟩),.string k,.string fr,.string to,.int .i64 1] W fun e w'=>(∃ la lc,e=.returned (.tuple #[.slice la 1 lc,.bool false,.int .i64 0]))/\Ext W w':=by
 have c9:=Hd hSK;have a9:=Hd (fun c s fr g cp h=>jpn c s fr p x g cp h hx hk hp);clear hSK hx hk hp
 obtain⟨q,hq⟩:=vE (jbF p)
 rw[<-hq]at hlt a9;clear hq;refine (callsIn_wide (n:=0)).1 ?_;refine callsIn_of_wp_marks Tryz.func52 rfl trivial ?_ rfl;simp only[Tryz.ntmps52,cT,bU,dA,Nat.reduceAdd,Nat.reduceSub,cV,cU,dE,cZ,cN,cY];gi_wp2_with fail
 have hA:=RgA.new W to 1;have a1:Ext W (((((W.alloc (.cells #[.string to] 9)).alloc (.cells #[.int .i64 1] 3)).alloc (.cells #[.slice none 0 0] 53)).alloc (.cells #[.bool false] 4)).alloc (.cells #[.int .i64 0] 27)):=((((((ExtR W).alloc _).alloc _).alloc _).alloc _)).alloc _
 refine⟨trivial,rfl,CallsIn.mono (callsIn_wide.2 (c9.o _ a1)) ?_⟩
 rintro e w1 ⟨c,rfl,hc,⟨g,cp,hC,hP,hg,b6,b7⟩,hX⟩;have b8:W.heap.size+5<=c:=by simpa using hc
 have HX:=Hd (a1.trans hX);have HA:=Hd (hA.keeps hX (fun _ _ _ h=>h));have p1:w1.cell? ⟨W.heap.size+1,0,none⟩=some (.int .i64 1):=HA.o.b1.cell (i:=0) vF;have HC:=Hd (bA b8 (bA hC (bA hP (bA b6 b7))));clear hA a1 hX hc hC hP hg b6 b7 b8;gi_wp2_with fail
 clear p1
 obtain⟨w2,X⟩:=vE (w1.alloc (.cells #[.slice none 0 0] 53))
 have J:Ext w1 w2:=by rw[X];exact (ExtR w1).alloc _
 have a2:Blk w2 w1.heap.size (.cells #[.slice none 0 0] 53):=by rw[X];exact Blk.new w1 _
 rw[<-X];have a3:=HC.o.1;have d0:=HC.o.2.2.1.lt;have b9:=HC.o.2.2.2.1;have c0:=HA.o.keeps J (fun _ _ _ h=>h);have c1:=Hd (HX.o.trans J);have d1:=J.size;have d2:=HA.o.b4.lt
 obtain⟨Z,c2⟩:=vE w1.heap.size
 rw[<-c2]at a2 ⊢;have a4:Rg1 W.heap.size Z to 0 (fun b=>(W.heap.size<=b/\b<=W.heap.size+4)\/b=Z) w2:=⟨fun _=>Iff.rfl,c0,_,_,a2,fun _=>⟨rfl,rfl⟩⟩;have a5:EaS1 c s (jaJ fr) p x g cp (fun b=>b=c\/b=g) w2:=⟨fun _=>Iff.rfl,Blk.keeps HC.o.2.1 J (fun h=>h),HC.o.2.2.1.keeps J (fun h=>h)⟩;have HZ:=Hd (show W.heap.size+5<=c/\W.heap.size+5<=Z/\W.heap.size+5<=w2.heap.size from⟨a3,by omega,by omega⟩);have HD:=Hd (show W.heap.size+5<=c/\c < g/\g < Z from⟨a3,b9,by omega⟩);clear X J a2 c0 d1 a3 d0 b9 d2 c2;refine jk9 (gf:=106) (pre:=#[.pointer (some ⟨c,0,none⟩)]) (lb:=#[]) rfl (vX 106) (a9.o c s (jaJ fr) g cp HC.o.2.2.2.2) (EaS1.supp c s (jaJ fr) p x g cp) (fun k=>rfl)
  (Rg1 W.heap.size Z to) (Rg1.supp W.heap.size Z to) _ _ a4 a5 (fun b hb ho=>by
   have:=HD.o
   rcases ho with rfl | rfl <;> rcases hb with hb | hb <;> omega) ?hround ?hdone noE.supp
 case hround =>
  intro y j D W8 K hj A hz hK;simp only[jkm];gi_wp2;refine hK _ _ (ExtR W8) fun H A _ _=>?_;obtain rfl:j=0:=vO
  obtain⟨_,_,h5,h6⟩:=A.b5
  obtain⟨rfl,rfl⟩:=h6 rfl
  have HG:=Hd A;have H5:=Hd h5;have p0:=A.a.b0.cell (i:=0) (v:=.string to) vF;have p1:H.cell? ⟨W.heap.size+1,0,none⟩=some (.int .i64 1):=A.a.b1.cell (i:=0) vF;have p5:=h5.cell (i:=0) (v:=.slice none 0 0) vF;clear A h5 h6 a4 a5;gi_wp2_with (gi_at_builtin;refine jk7 Tryz.sEnts (ORow.nil _ _ ((ExtR H).alloc _)) (.tmp 46) (.tmp 50) rfl rfl rfl (jaN (Blk.new H _)) (news:=[.string q,.string x]) (jhV _ _) rfl rfl vI vI ?_;intro d8 w' r1 r2 r3;have a0:=(H5.o.keeps ((ExtR H).alloc (.cells #[.string q,.string x] 52)) (fun h=>h)).keeps r2 (fun e=>by cases e);have p5:=a0.cell (i:=0) (v:=.slice none 0 0) vF;have f5:w'.frozen? ⟨Z,0,none⟩=false:=a0.frozen;have a7:=Hd (bA (((ExtR H).alloc _).trans' r2 (fun _ _ e=>by cases e):Ext H w') a0);obtain⟨c3,c4,d3⟩:=r1.sl;subst d3;clear r1 r2 r3 a0)
  have ks:=jac.oneSet w' ⟨Z,0,none⟩ (.slice c3 1 c4);have ha:=HZ.o
  refine⟨D,(a7.o.1.mono fun _ _ e=>e.elim).trans' ks (fun b _ e=>(HG.o.is b).2 (.inr e)),fun b hb=>.inl hb,HG.o.is,HG.o.a.keeps ((a7.o.1.mono fun _ _ e=>e.elim).trans ks) (fun b h1 h2 e=>by have e:b=Z:=e;omega),c3,c4,a7.o.2.set_same (i:=0) _,fun e=>by cases e⟩
 case hdone =>
  intro D O H c5 A d4 c7
  obtain⟨la,lc,h5, -⟩:=A.b5
  have a8:=Hd A.a;have d5:=Hd c7;have c8:Ext W H:=c1.o.trans' c5 (fun b hb e=>by
   have:=HZ.o
   rcases e with (e | e) | e <;> omega)
  have d6:=Hd c8;have p5:=h5.cell (i:=0) (v:=.slice la 1 lc) vF;have p2:H.cell? ⟨W.heap.size+1+1,0,none⟩=some (.slice none 0 0):=A.a.b2.cell (i:=0) vF;have p3:H.cell? ⟨W.heap.size+1+1+1,0,none⟩=some (.bool false):=A.a.b3.cell (i:=0) vF;have p4:H.cell? ⟨W.heap.size+1+1+1+1,0,none⟩=some (.int .i64 0):=A.a.b4.cell (i:=0) vF;have f2:H.frozen? ⟨W.heap.size+1+1,0,none⟩=false:=A.a.b2.frozen;have f3:H.frozen? ⟨W.heap.size+1+1+1,0,none⟩=false:=A.a.b3.frozen;have f4:H.frozen? ⟨W.heap.size+1+1+1+1,0,none⟩=false:=A.a.b4.frozen;clear A c5 d4 c7 a4 a5 c8 h5;gi_wp2_with fail
  obtain⟨g2,g3,g4,gk⟩:=jyv (.slice la 1 lc) (.bool false) (.int .i64 0) a8.o.b2 a8.o.b3 a8.o.b4
  have d7:=d5.o.keeps gk (by have:=HZ.o;omega)
  refine⟨by simp,.inl ⟨_,_,rfl,run_takeDeferred d7,?_⟩⟩
  have d9:=HZ.o
  refine⟨_,jwk (g2.put_other vO _) (g3.put_other vO _) (g4.put_other vO _) rfl rfl rfl,⟨_,_,rfl⟩,?_⟩
  exact (d6.o.trans' gk (fun b hb e=>by omega)).trans' (jac.onePut _ w2.heap.size (.deferred none)) (fun b hb e=>by have:=c1.o.size;omega)
structure PrC(W0 W:World)(wb:Nat)(v:Value)(nodes:vM):Prop where
 cubes:jbA W0
 rd:RdS W0 v nodes
 ext:Ext W0 W
 lo:W0.heap.size<=wb
 few:nodes.length<=1000000
structure PrR(W0:World)(wb:Nat)(v:Value)(nodes:vM):Prop where
 cubes:jbA W0
 rd:RdS W0 v nodes
 lo:W0.heap.size<=wb
 few:nodes.length<=1000000
theorem PrR.at'{W0 W:vW}{wb:Nat}{v:vV}{nodes:vM}(h:PrR W0 wb v nodes)(hz:W0.heap.size<=W.heap.size)(hb:∀ b,b < W0.heap.size->W.heap[b]?=W0.heap[b]?):PrC { W with heap:=W0.heap } W wb v nodes:=
 ⟨h.cubes,h.rd,⟨rfl,rfl,rfl,hz,fun b e _=>hb b e⟩,h.lo,h.few⟩
def jnz(wb:Nat)(root:vB)(v:vV)(_:Nat)(O:BSet)(W:vW):Prop:=(∀ b,O b->b < W.heap.size)/\O wb/\jcQ W wb root v 1 .nilIface
theorem jnz.supp(v:vV)(k:Nat):Supp (jnz wb root v k):=
 ⟨fun D W h b hb=>h.1 b hb,fun D W J ⟨q,e,A⟩ H hb=>⟨fun b h=>bC (q b h) H,e,(hb _ e).trans A⟩⟩
structure juq(w w':World)(wb:Nat)(root:vB)(v:Value):Prop where
 kp:jac (fun b=>b=wb) w w'
 way:jcQ w' wb root v 1 .nilIface
structure jw2(W w':World)(wb:Nat)(root:vB)(v:Value)(L:Nat)(m:jae):Prop where
 kp:jac (fun b=>b=wb) W w'
 new:W.heap.size<=L
 var:Blk w' L (.cells m.cells.toArray 206)
 way:jcQ w' wb root v 1 .nilIface
theorem jwF(v:vV)(nodes:vM)(u:Nat)(ev:vV)(t:vB)(m:jae)(hB:PrC W0 W wb v nodes)(hW:jcQ W wb root v u ev)(hu:nodes[u]?=some t)(hm:m.refs.length=16)(hG:∀ w,Ext W0 w->vR 108 #[.string t] w (.tuple #[m.V,.int .i64 0])) :
  vQ 188 #[.pointer (some ⟨wb,0,none⟩),.string (shaB t)] W (jy4 W wb root v u ev (some m)):=by
 have a2:u < nodes.length:=(bH.1 hu).1;have b1:=hB.few
 obtain⟨b,o,c,hv,b2,b3,J⟩:∃ b o c,v=.slice (some ⟨b,o,none⟩) nodes.length c/\b < W0.heap.size/\nodes.length<=c/\∀ (j:Nat) x,nodes[j]?=some x->W0.cell? ⟨b,o+j,none⟩=some (.string x):=by
  rcases hB.rd with⟨a,c,q,h2⟩ | h
  ·rw[h2]at a2;cases a2
  ·exact h
 unfold jcQ at hW;have qt:=jaa (J u t hu) hB.ext;have q1:=hW.cell (i:=1) (v:=v) vF;have q2:=hW.cell (i:=2) (v:=.int .i64 (u:Int)) vF;have b4:=Hd hW.lt;have HW:=Hd hW;have HB:=Hd hB
 obtain⟨n,hn⟩:=vE nodes.length
 rw[<-hn]at hv a2 b3 b1;have c1:¬(n:Int)<=(u:Int):=vO
 have c2:(u:Int) < (n:Int):=vO
 have c3:(0:Int)<=(u:Int):=vO
 have c4:decide (n<=u)=false:=decide_eq_false vO;have c5:(u:Int)<=1000000:=vO
 have HV:=Hd hv;have HG:=Hd hG;have HM:=Hd hm;have e2:=Hd (show u<=1000000 by omega);have d4:=Hd qt;have d5:=Hd (show b < W.heap.size/\b≠wb from⟨bC b2 hB.ext.size,by have:=hB.lo;omega⟩)
 obtain⟨sh,a4⟩:=vE (shaB t)
 have d6:=Hd a4;rw[<-a4];clear hB hW hu hn hv a2 b1 b2 b3 J hG hm a4;have e3:(sh.toList == sh.toList)=true:=by simp
 go_enter Tryz.func188,Tryz.ntmps188;go_wp2_with (refine jah Tryz.allocNode rfl rfl ?_;intro W1 b5 O)
 have Q1:=Hd (jaa q1 O);have Q2:=Hd (jaa q2 O);have QT:=Hd (jaa qt O);have b6:=Hd b5;have b7:=Hd O;clear b5 O q1 q2 qt;rw[HV.o]at Q1;refine jaj [0,1,2,3,4,5,6,7,8,9,10,11,12,13,14,15,16,17,18,19,20,23,21,22,24,25] Ext ExtR ExtT vY vY vY ?_
 refine vK ?_
 refine qKV _ (.pointer (some ⟨wb,0,none⟩)) rfl (fun w1 _=>by kernel_rfl) ?_;refine vS ?_
 refine vK ?_
 refine qKL ⟨wb,2,none⟩ (.int .i64 (u:Int)) rfl (fun w1 q=>jab Tryz.underlying3 rfl (jaa (by exact Q2.o) q)) ?_;refine vS ?_
 refine vK ?_
 refine qKV _ (.pointer (some ⟨wb,0,none⟩)) rfl (fun w1 _=>by kernel_rfl) ?_;refine vS ?_
 refine vK ?_
 refine qKL ⟨wb,1,none⟩ (.slice (some ⟨b,o,none⟩) n c) rfl (fun w1 q=>jab Tryz.underlying34 rfl (jaa (by exact Q1.o) q)) ?_;refine vS ?_;iterate 4 refine vK ?_
 refine qKV _ (.pointer (some ⟨wb,0,none⟩)) rfl (fun w1 _=>by kernel_rfl) ?_;refine vS ?_
 refine vK ?_
 refine qKL ⟨wb,1,none⟩ (.slice (some ⟨b,o,none⟩) n c) rfl (fun w1 q=>jab Tryz.underlying34 rfl (jaa (by exact Q1.o) q)) ?_;refine vS ?_
 refine vK ?_
 refine qKV _ (.pointer (some ⟨wb,0,none⟩)) rfl (fun w1 _=>by kernel_rfl) ?_;refine vS ?_
 refine vK ?_
 refine qKL ⟨wb,2,none⟩ (.int .i64 (u:Int)) rfl (fun w1 q=>jab Tryz.underlying3 rfl (jaa (by exact Q2.o) q)) ?_;refine vS ?_
 refine vK ?_
 refine qKL ⟨b,o+u,none⟩ (.string t) rfl (fun w1 q=>jab Tryz.underlying9 rfl (jaa (by exact QT.o) q)) ?_;refine vS ?_
 refine vK ?_
 refine jcH _ rfl vY rfl (fun w2 h2 K hK=>?_);have b8:=Hd (show Ext W1 w2 from(jak W1).trans h2);have b9:=Hd (jeD w2 [t] 9);clear h2;go_simp;refine hK _ _ ((ExtR w2).alloc _) ?_;clear hK K;have X:=Hd (show Ext W1 (w2.alloc (.cells #[.string t] 9))from b8.o.trans ((ExtR w2).alloc _));refine qKC _ 43 _ (.string (shaB (catB [t]))) rfl (fun w1=>jal (vX 43) vY) (fun w4 h4=>of_t w4 _ [t] (by simp) (b9.o.ext (by exact h4)) (HB.o.cubes.ext (HB.o.ext.trans (b7.o.trans (X.o.trans h4))))) ?_;rw[jdS, <-d6.o];refine vS ?_;iterate 2 refine vK ?_
 refine qKE (fun w3 h3=>?_);have a5:=X.o.trans h3;have a7:=Hd (b6.o.keeps a5 (fun h=>h));have A:=Hd (b7.o.trans a5);have Z:Hid (jcQ w3 wb root v u ev):=Blk.keeps HW.o A.o (fun h=>h);clear h3 a5 b6 Q1 Q2 QT b8 X b9;go_wp2_with fail
 have q2:=Z.o.cell (i:=2) (v:=.int .i64 (u:Int)) vF;have q1:=Z.o.cell (i:=1) (v:=v) vF;rw[HV.o]at q1;have Q1:=Hd q1;have Q2:=Hd q2;have QT:=Hd (jaa d4.o A.o);have NA:=Hd (show ¬ w3.heap.size<=wb by have:=Z.o.lt;omega);have NB:=Hd (show ¬ w3.heap.size<=b by have:=d5.o.1;have:=A.o.size;omega);clear q1 q2;refine jau [0,1,2,3,4,5,6,7,8,9,10,11,12,13,14,15,16] [14,15] Ext (jac (fun b=>w3.heap.size<=b)) ExtR ExtT (fun x y z h k=>jac.trans h k) (fun x y h=>h.mono (fun _ _ h=>h.elim)) vY vY vY ?_
 refine vD ?_
 refine qDV _ (.pointer (some ⟨wb,0,none⟩)) rfl (fun w1 _=>by kernel_rfl) ?_;refine vS ?_
 refine vD ?_
 refine qDL ⟨wb,1,none⟩ (.slice (some ⟨b,o,none⟩) n c) rfl (fun w1 q=>jab Tryz.underlying34 rfl (jai (by exact Q1.o) q NA.o)) ?_;refine vS ?_
 refine vD ?_
 refine qDV _ (.pointer (some ⟨wb,0,none⟩)) rfl (fun w1 _=>by kernel_rfl) ?_;refine vS ?_
 refine vD ?_
 refine qDL ⟨wb,2,none⟩ (.int .i64 (u:Int)) rfl (fun w1 q=>jab Tryz.underlying3 rfl (jai (by exact Q2.o) q NA.o)) ?_;refine vS ?_
 refine vD ?_
 refine qDL ⟨b,o+u,none⟩ (.string t) rfl (fun w1 q=>jab Tryz.underlying9 rfl (jai (by exact QT.o) q NB.o)) ?_;refine vS ?_;refine jdK _ 108 _ (.tuple #[m.V,.int .i64 0]) rfl vY rfl (fun w1=>jal (vX 108) vY) (fun w1 q=>HG.o w1 (((HB.o.ext.trans A.o).trans (jak w3)).trans' q (fun x hx hw=>by have:=(HB.o.ext.trans A.o).size;omega))) ?_;refine vS ?_;iterate 3 refine vD ?_
 refine qDH _ rfl (fun w4 h4 K hK=>?_);have a0:=(jak w3).trans h4;refine jlW Tryz.allocNode rfl ?_;intro W5 c0 a8;refine hK _ _ (ExtK a8) ?_;clear hK K h4;refine vS ?_;refine qDH _ rfl (fun w6 h6 K hK=>?_);refine jdl (vs:=m.cells) rfl rfl rfl (c0.keeps h6 (fun h=>h)) (by rw[m.cells_len HM.o];rfl) (by rw[m.cells_len HM.o];exact Tryz.szNode) m.one ?_;intro W7 c7 a9;have c8:=(a0.trans a8).trans h6;have c9:=c8.trans' a9 (fun x hx e=>by have e:x=w4.heap.size:=e;have:=a0.size;omega);refine hK _ _ (a9.mono (fun x hx e=>by have e:x=w4.heap.size:=e;have:=a0.size;show w3.heap.size<=x;omega)) ?_;clear hK K h6 a9;refine vS ?_
 refine vD ?_
 refine qDE (fun w8 h8=>?_);have a3:=Hd (c9.trans h8);have d7:=Hd (A.o.trans a3.o);have d0:=Hd (c7.keeps h8 (fun h=>h));have d8:=Hd (a7.o.keeps a3.o (fun h=>h));have d1:Hid (jcQ w8 wb root v u ev):=Blk.keeps Z.o a3.o (fun h=>h);have d2:=Hd (show W.heap.size < w4.heap.size/\wb < w4.heap.size by have:=a0.size;have:=a7.o.lt;have:=Z.o.lt;omega);clear a0 c0 a8 c7 c8 c9 h8 Q1 Q2 QT NA NB a7 a3
 obtain⟨mb,d3⟩:=vE w4.heap.size
 rw[<-d3]at d0 d2 ⊢;clear d3;have H:jcQ w8 wb root v u ev:=d1.o;unfold jcQ at H;have q2:=H.cell (i:=2) (v:=.int .i64 (u:Int)) vF;have f2:w8.frozen? ⟨wb,2,none⟩=false:=H.frozen;have d9:=d0.o.set_other (p:=⟨wb,2,none⟩) (by have:=d2.o;show mb≠wb;omega) (.int .i64 ((u:Int)+1));have e0:=d8.o.set_other (p:=⟨wb,2,none⟩) (by have:=b4.o;show W.heap.size≠wb;omega) (.int .i64 ((u:Int)+1));clear H;go_wp2_with (first |(refine jaf 206 (.tmp 6) rfl rfl _ _ rfl (jap _ _ m HM.o d9) ?_) |(refine jad (vs:=m.cells) rfl rfl rfl rfl e0 (by rw[m.cells_len HM.o];rfl) (by rw[m.cells_len HM.o];exact Tryz.szNode) m.one ?_;intro e1 b0 a1))
 refine bodyPost_ret (jan rfl rfl rfl (jat e1 _ m HM.o b0)) rfl ?_;have H:jcQ w8 wb root v u ev:=d1.o
 refine⟨((ExtK d7.o:jac (fun b=>b=wb) W w8).trans (jac.oneSet w8 ⟨wb,2,none⟩ _)).trans' a1 (fun x hx e=>by have e:x=W.heap.size:=e;omega),rfl,?_,HM.o⟩
 have h9:=Blk.set_same (i:=2) H (.int .i64 ((u:Int)+1));exact Blk.keeps h9 a1 (fun e=>by have e:wb=W.heap.size:=e;have:=b4.o;omega)
theorem jvX(pc:Nat)(t:vB)(v:vV)(p0:vB)(m:jae)(hm:m.refs.length=16)(hG:∀ w,vR 108 #[.string t] w (.tuple #[m.V,.int .i64 0]))(hST:∀ w,vR 189 #[m.V,.string p0] w (.tuple #[.string ⟨#[]⟩,.string p0]))(hS:PrR W0 wb v [t])(hne:W0.heap.size<=b1/\W0.heap.size<=pc/\b1≠wb/\b1≠pc/\wb≠pc) :
  jr6 Tryz.prog 187 #[] #[.pointer (some ⟨b1,0,none⟩),.pointer (some ⟨pc,0,none⟩)] 1 (meV [(m,p0)]) (fun b=>b=wb\/b=pc) (MetS W0 b1 wb pc (shaB t) v p0) (jnz wb (shaB t) v):=by
 intro y C Cx hC d3 D O W hY h0 A a0;have d4:=Hd (show ∀ w,jac (fun b=>D b\/b=wb\/b=pc) W w->PrC { w with heap:=W0.heap } w wb v [t]from fun w k=>hS.at' (bE A.size k.size) fun b hb=>(k.block b (bC hb A.size) (fun e=>by
  rcases e with e | e | e
  ·exact a0 b e ((A.is b).2 (.inl hb))
  ·have:=hS.lo;omega
  ·omega)).trans (A.old b hb))
 have a7:=Hd (show ¬ D b1/\¬ D wb/\¬ D pc from⟨fun h=>a0 _ h ((A.is _).2 (.inr (.inl rfl))),fun h=>a0 _ h ((A.is _).2 (.inr (.inr (.inl rfl)))),fun h=>a0 _ h ((A.is _).2 (.inr (.inr (.inr rfl))))⟩);have X:=Hd (show b1 < W.heap.size/\wb < W.heap.size/\pc < W.heap.size from⟨A.cap.lt,Blk.lt A.way,A.path.lt⟩);have f4:=Hd (show O wb from(A.is _).2 (.inr (.inr (.inl rfl))));have Q1:=Hd (A.cap.cell (i:=0) (v:=.pointer (some ⟨wb,0,none⟩)) vF);have c2:=Hd (fun w hB hW=>jwF { w with heap:=W0.heap } w wb (shaB t) v [t] 0 .nilIface t m hB hW rfl hm (fun w _=>hG w));have HM:=Hd hm;have f5:=Hd hST
 obtain⟨H,d5⟩:=vE (shaB t)
 rw[<-d5]at c2 A ⊢;have QR:=Hd (jcQ.root' A.way);have HY:=Hd hY;have HC:=Hd hC;have f6:=Hd d3;have H0:=Hd h0;have HS:=Hd A;have b7:=Hd hne;clear hY hC d3 h0 A a0 hS hne hm hG hST d5;have d6:=Hd (show ¬(b1=wb\/W.heap.size<=b1)from fun e=>by have:=b7.o;have:=X.o;omega);refine callsIn_of_wp Tryz.func187 rfl trivial ?_ rfl;simp only[Tryz.ntmps187,cT,bU,dA,Nat.reduceAdd,Nat.reduceSub,cV,cU,dE,cZ,cN,cY];gi_wp2_with fail
 refine wpIn_wide.2 (wp_mono (Q:=fun e a' w'=>e=.normal/\∃ L:Nat,a'=juI y b1 pc wb H L m true/\jw2 W w' wb H v L m) (jia [5,9,10] Ext (DrW wb W.heap.size) ExtR ExtT (DrW.trans wb W.heap.size) (DrW.ext wb W.heap.size) vY vY 12 vY ?_) ?_);refine jhE (k:=0) ⟨b1,0,none⟩ (.pointer (some ⟨wb,0,none⟩)) rfl vY rfl rfl (fun w1 h1=>jab Tryz.underlying336 rfl (jai (by exact Q1.o) h1.1 d6.o)) ?_;refine vS ?_;refine jhE (k:=1) ⟨b1,0,none⟩ (.pointer (some ⟨wb,0,none⟩)) rfl vY rfl rfl (fun w1 h1=>jab Tryz.underlying336 rfl (jai (by exact Q1.o) h1.1 d6.o)) ?_;refine vS ?_;refine jmX (k:=2) _ (.pointer (some ⟨wb,0,none⟩)) rfl vY rfl (fun w1 _=>by kernel_rfl) ?_;refine vS ?_;refine jco (k:=3) _ rfl vY rfl rfl (fun K q=>?_);go_big_quiet_op;refine q _ ?_;clear q K;refine jhE (k:=4) ⟨wb,0,none⟩ (.string H) rfl vY rfl rfl (fun w1 h1=>jab Tryz.underlying9 rfl (h1.2 _ (by exact QR.o))) ?_;refine vS ?_;refine jtA 5 9 _ _ vY rfl rfl rfl rfl (fun w2 h2 K q=>?_) (fun w2 h2 K q=>?_)
 ·-- take first
  have Z:=(jak W).trans h2;refine jaT (jal (vX 188) vY) ((c2.o w2 (d4.o w2 (ExtK Z)) (Blk.keeps HS.o.way Z (fun h=>h))).mono ?_);rintro e w3 ⟨c3,rfl,c4, -⟩;have J:juq w2 w3 wb H v:=⟨c3,c4⟩
  refine⟨_,rfl,q _ _ ⟨J.kp.mono (fun _ _ h=>.inl h),fun rt e=>?_⟩ ?_⟩
  ·have hr:=jcQ.root' (Blk.keeps HS.o.way Z (fun h=>h))
   rw[hr]at e;rw[jcQ.root' J.way];exact e
  clear q K;have HF:=Hd J;have HX:=Hd Z;clear J Z h2;refine vS ?_;refine jco (k:=6) _ rfl vY rfl rfl (fun K q=>?_);go_big_quiet_op;refine q _ ?_;clear q K;refine jco (k:=7) _ rfl vY rfl rfl (fun K q=>?_);go_big_quiet_op;refine q _ ?_;clear q K;refine jco (k:=8) _ rfl vY rfl rfl (fun K q=>?_);go_big_quiet_op;refine q _ ?_;clear q K;refine jfG (k:=9) _ rfl vY rfl (fun w4 h4 K q=>?_);refine jlW Tryz.allocNode rfl ?_;intro W5 b0 a9;refine q _ _ (DrW.ext _ _ _ _ a9) ?_;clear q K;refine vS ?_;refine jfG (k:=10) _ rfl vY rfl (fun w6 h6 K q=>?_);refine jdl (vs:=m.cells) rfl rfl rfl (b0.keeps h6 (fun h=>h)) (by rw[m.cells_len HM.o];rfl) (by rw[m.cells_len HM.o];exact Tryz.szNode) m.one ?_;intro W7 c5 a4;have d7:Ext w3 w4:=h4;have g7:W.heap.size<=w3.heap.size:=bE HX.o.size HF.o.kp.size;have f7:=d7.size;refine q _ _ ⟨a4.mono (fun x hx e=>by have e:x=w4.heap.size:=e;exact .inr vO),fun rt e=>jai e a4 (fun e=>by have e:wb=w4.heap.size:=e;have:=X.o;omega)⟩ ?_;clear q K;refine vS ?_;refine jco (k:=11) _ rfl vY rfl rfl (fun K q=>?_);go_big_quiet_op;refine q _ ?_;clear q K;refine jmW vY (fun w8 h8=>?_);have f8:Ext w3 W7:=((d7.trans a9).trans h6).trans' a4 (fun x hx e=>by have e:x=w4.heap.size:=e;omega);have d8:=f8.trans h8;have a3:=c5.keeps h8 (fun h=>h)
  obtain⟨L,hL⟩:=vE w4.heap.size
  rw[<-hL]at a3 f7 ⊢
  refine⟨trivial,L,rfl,⟨((ExtK HX.o:jac (fun b=>b=wb) W w2).trans HF.o.kp).trans (ExtK d8),by omega,a3,?_⟩⟩
  have b8:=HX.o.size;exact Blk.keeps HF.o.way d8 (fun h=>h)
 ·-- the variable first
  have Z:=(jak W).trans h2;refine jlW Tryz.allocNode rfl ?_;intro W5 b0 a9;refine q _ _ (DrW.ext _ _ _ _ a9) ?_;clear q K;refine vS ?_;refine jfG (k:=5) _ rfl vY rfl (fun b2 b9 K q=>?_);have a1:=(Z.trans a9).trans b9;have d9:w2.heap.size < b2.heap.size:=bC b0.lt b9.size;have b8:=Z.size;have a2:=b0.keeps b9 (fun h=>h)
  obtain⟨L,hL⟩:=vE w2.heap.size
  rw[<-hL]at a2 d9 b8 ⊢;clear hL b0 a9 h2 b9 Z W5;refine jaT (jal (vX 188) vY) ((c2.o b2 (d4.o b2 (ExtK a1)) (Blk.keeps HS.o.way a1 (fun h=>h))).mono ?_);rintro e w3 ⟨c3,rfl,c4, -⟩;have J:juq b2 w3 wb H v:=⟨c3,c4⟩
  refine⟨_,rfl,q _ _ ⟨J.kp.mono (fun _ _ h=>.inl h),fun rt e=>?_⟩ ?_⟩
  ·have hr:=jcQ.root' (Blk.keeps HS.o.way a1 (fun h=>h))
   rw[hr]at e;rw[jcQ.root' J.way];exact e
  clear q K;have HF:=Hd J;have HX:=Hd a1;have g8:=Hd (bA d9 b8);have b5:=a2.keeps J.kp (fun e=>by have e:L=wb:=e;have:=X.o;omega);clear J a1 a2;refine vS ?_;refine jco (k:=6) _ rfl vY rfl rfl (fun K q=>?_);go_big_quiet_op;refine q _ ?_;clear q K;refine jco (k:=7) _ rfl vY rfl rfl (fun K q=>?_);go_big_quiet_op;refine q _ ?_;clear q K;refine jco (k:=8) _ rfl vY rfl rfl (fun K q=>?_);go_big_quiet_op;refine q _ ?_;clear q K;refine jfG (k:=10) _ rfl vY rfl (fun w6 h6 K q=>?_);refine jdl (vs:=m.cells) rfl rfl rfl (b5.keeps h6 (fun h=>h)) (by rw[m.cells_len HM.o];rfl) (by rw[m.cells_len HM.o];exact Tryz.szNode) m.one ?_;intro W7 c5 a4;refine q _ _ ⟨a4.mono (fun x hx e=>by have e:x=L:=e;exact .inr vO),fun rt e=>jai e a4 (fun e=>by have e:wb=L:=e;have:=X.o;omega)⟩ ?_;clear q K;refine vS ?_;refine jco (k:=11) _ rfl vY rfl rfl (fun K q=>?_);go_big_quiet_op;refine q _ ?_;clear q K;refine jmW vY (fun w8 h8=>?_);have a3:=c5.keeps h8 (fun h=>h);have f9:Ext w3 w6:=h6;have e0:jac (fun b=>b=L) w3 w8:=((ExtK f9:jac (fun b=>b=L) w3 w6).trans a4).trans (ExtK h8);have g9:=X.o
  refine⟨trivial,L,rfl,⟨((ExtK HX.o:jac (fun b=>b=wb) W b2).trans HF.o.kp).trans' e0 (fun x hx e=>by have e:x=L:=e;omega),b8,a3,?_⟩⟩
  exact Blk.keeps HF.o.way e0 vO
 rintro e a8 w8 ⟨rfl,L,rfl,J⟩;have HF:=Hd J;have HL:=Hd (m.cells_len HM.o);clear J;unfold juI;gi_wp2_with fail
 gi_loopw [5] (fun e1 wr=>e1=.bool true/\∃ Dk,MtR W wb b1 pc L C D 0 Dk p0 m wr/\jcQ wr wb H v 1 .nilIface) (fun e1 wr=>0)
 case atStart =>
  have J:=HF.o;have d1:=(HC.o 0).lt _ _ H0.o
  exact⟨rfl,D,⟨(HC.o 0).keeps H0.o J.kp (fun b hb e=>a7.o.2.1 (e ▸ hb)),fun b h=>.inl h,J.kp.mono (fun b _ e=>.inr (.inl e)),HS.o.path.keeps J.kp (fun e=>b7.o.2.2.2.2 e.symm),J.var,fun h=>by have:=d1 L h;have:=J.new;omega,HM.o⟩,J.way⟩
 case round =>
  obtain⟨rfl,Dk,hR,e2⟩:=hrel
  have g0:=Hd e2;have HR:=Hd hR;have e3:¬ Dk wb:=fun h=>by
   rcases hR.sub wb h with h | h
   ·exact a7.o.2.1 h
   ·have:=X.o;omega
  have e4:¬ Dk pc:=fun h=>by
   rcases hR.sub pc h with h | h
   ·exact a7.o.2.2 h
   ·have:=X.o;omega
  have e5:¬ Dk b1:=fun h=>by
   rcases hR.sub b1 h with h | h
   ·exact a7.o.1 h
   ·have:=X.o;omega
  have c7:=Hd (bA e3 (bA e4 e5))
  obtain⟨fn,tm,h3,bd,c0,e6⟩:=HY.o 0 Dk wr vI hR.at' hR.kp
  have e7:atV [(m,p0)] 0=(m,p0):=rfl;unfold meV at c0;rw[e7]at c0;dsimp only at c0;clear e7;have g2:=Hd e6;have g3:=hR.path.cell (i:=0) (v:=.string p0) vF;clear e6 hR e3 e4 e5 e2;gi_wp2_with (refine jeK 206 (.tmp 4) rfl rfl _ _ rfl (jap _ _ m HR.o.len HR.o.var) ?_)
  refine⟨rfl,g2.o.mono ?_⟩
  rintro e w5 ⟨D5,k5,s5,b6⟩;rcases b6 with⟨rfl,C5⟩ |⟨rfl,C5⟩
  case inr=>exact (f6.o _ _ _ C5).elim
  have c8:=HR.o.var.keeps k5 HR.o.nL;have c9:=HR.o.path.keeps k5 c7.o.2.1;have e8:jcQ w5 wb H v 1 .nilIface:=Blk.keeps g0.o k5 c7.o.1;have e9:=(HS.o.cap.keeps HR.o.kp (fun e=>by
   rcases e with e | e | e
   ·exact a7.o.1 e
   ·exact b7.o.2.2.1 e
   ·exact b7.o.2.2.2.1 e)).keeps k5 c7.o.2.2
  have p5:=c9.cell (i:=0) (v:=.string p0) vF;have f0:=Hd (bA k5 s5);have g4:=Hd C5;have g5:=Hd c9;have b3:=Hd e8;have g6:=Hd e9;have b4:=c8;have h5:=Hd b4;clear k5 s5 C5 g3 c0 c9 e8 e9 b4;gi_wp2_with (refine jaI rfl 206 (.tmp 4) rfl _ _ rfl (jap _ _ m HR.o.len c8) ?_)
  refine⟨trivial,rfl,CallsIn.mono (callsIn_wide.2 (f5.o w5)) ?_⟩
  rintro e w6 ⟨rfl,f1⟩;have c1:=Hd f1;clear f1 c8;have f2:jac (fun b=>D b\/b=wb\/b=pc) W w6:=(HR.o.kp.trans' f0.o.1 (fun b hb h=>by
   rcases HR.o.sub b h with h | h
   ·exact .inl h
   ·omega)).trans' c1.o (fun _ _ h=>h.elim)
  have a5:∀ b,D5 b->D b\/W.heap.size<=b:=fun b hb=>by
   rcases f0.o.2 b hb with h | h
   ·exact HR.o.sub b h
   ·have:=HR.o.kp.size;exact .inr vO
  have f3:∀ b,b < W.heap.size->¬ D b->¬ D5 b:=fun b hb hD h=>by
   rcases a5 b h with h | h
   ·exact hD h
   ·omega
  have d0:=Hd (bA f2 (bA a5 f3));clear f2 a5 f3;have h7:(⟨#[]⟩:vB).toList.isEmpty=true:=by rw[bR];rfl
  have d2:Hid (ji0 W (fun b=>b=wb\/b=pc) D O 1 C Cx (jnz wb H v) (.returned (.tuple #[])) w6):=
   Hd ⟨⟨_,rfl⟩,D5,fun b=>b=wb,d0.o.1,d0.o.2.1,fun b h=>by subst h;exact .inl f4.o,fun b hb h=>by subst h;exact d0.o.2.2 _ X.o.2.1 a7.o.2.1 hb,
    .inl ⟨(HC.o 1).keeps g4.o c1.o (fun _ _ h=>h),fun b h=>by subst h;exact bC (Blk.lt b3.o) c1.o.size,rfl,Blk.keeps b3.o c1.o (fun h=>h)⟩⟩
  gi_wp2;refine bodyPost_ret (results_none rfl _ _ _) rfl ?_;exact d2.o
theorem jtU(hc:jbA W)(t key:vB)(hk:key.size<=1000)(v:vV)(hv:RdS W v [t])(m:jae)(hm:m.refs.length=16)(va:vB)(hGt:∀ w,vR 108 #[.string t] w (.tuple #[m.V,.int .i64 0]))(hST:∀ w,vR 189 #[m.V,.string (jaJ key)] w (.tuple #[.string ⟨#[]⟩,.string (jaJ key)]))(hCL:∀ w,vR 147 #[m.V,.string (jaJ key)] w (clmV (some va)))(hcl:jdc m (jaJ key)=some va) :
  vQ 104 #[.string (shaB t),.string key,v] W (fun e w'=>Ext W w'/\e=.returned (.tuple #[clmV (some va),.nilIface])):=by
 obtain⟨a,c,b5⟩:=juN hv
 have HV:=Hd hv;have HC:=Hd hc;have J:=Hd (bA hm (bA hGt (bA hST (bA hCL hcl))));have HK:=Hd hk
 obtain⟨n,c7⟩:∃ n,n=1:=⟨_,rfl⟩
 replace b5:v=.slice a n c:=by rw[c7];exact b5
 have f9:=Hd c7;have c1:¬(40:Int) < (n:Int):=vO
 obtain⟨A,c8⟩:=vE (shaB t)
 have g0:=Hd c8;rw[<-c8]
 obtain⟨vs,e1⟩:=vE ([(m,jaJ key)])
 have a0:=Hd e1;have i0:=Hd b5;clear hv hc hGt hST hCL hcl hm e1 hk c7 c8;subst b5;refine (callsIn_wide (n:=0)).1 ?_;refine callsIn_of_wp_marks Tryz.func104 rfl trivial ?_ rfl;simp only[Tryz.ntmps104,cT,bU,dA,Nat.reduceAdd,Nat.reduceSub,cV,cU,dE,cZ,cN,cY];gi_wp2_with (first |(refine jd7 Tryz.allocClaim rfl rfl ?_;have d4:=X;intro W4 a1 b6) |(refine jd7 Tryz.allocClaim rfl rfl ?_;intro W1 a2 c9) |(refine jd7 Tryz.allocWay rfl rfl ?_;intro W2 e2 e3) |(refine jh9 (vs:=[.string A,.slice a n c,.int .i64 0,.nilIface]) rfl rfl rfl rfl e2 rfl Tryz.szWay (by intro v hv;simp at hv;rcases hv with rfl | rfl | rfl | rfl <;> rfl) ?_;intro W3 X e4))
 have b7:Ext W1 W3:=e3.trans' e4 (fun x hx e=>by have e:x=W1.heap.size:=e;omega);have e5:=(c9.trans b7).trans b6;have g2:=c9.size;have d5:=b7.size;have d6:=a2.lt;have d7:=X.lt;have b2:=(a2.keeps b7 (fun h=>h)).keeps b6 (fun h=>h);have b3:=X.keeps b6 (fun h=>h)
 refine⟨trivial,rfl,CallsIn.mono (callsIn_wide.2 (je3 W4 key (by have:=HK.o;omega))) ?_⟩
 rintro e W5 ⟨rfl,a3⟩;have e6:=e5.trans a3;have b8:=Hd (b2.keeps a3 (fun h=>h));have d0:=Hd (b3.keeps a3 (fun h=>h));have d1:=Hd (a1.keeps a3 (fun h=>h));have g3:=Hd e6;have b4:W3.heap.size < W5.heap.size:=bC a1.lt a3.size;have HZ:=Hd (show W.heap.size < W1.heap.size/\W1.heap.size < W3.heap.size/\W3.heap.size < W5.heap.size from⟨by omega,by omega,b4⟩)
 obtain⟨Z,b9⟩:=vE W1.heap.size
 obtain⟨cb,q⟩:=vE W3.heap.size
 rw[<-b9, <-q]at HZ;rw[<-b9]at d0;rw[<-q]at d1;rw[<-b9, <-q];clear a2 c9 e2 e3 X e4 d4 a1 b6 b7 e5 g2 d5 d6 d7 b2 b3 a3 e6 b4 b9 q;gi_wp2_with fail
 refine⟨trivial,rfl,CallsIn.mono (callsIn_wide.2 (jzm W5 Z (jaJ key))) ?_⟩
 rintro e W6 ⟨rfl,a5⟩;have a7:Ext W5 W6:=by rw[a5];exact ((ExtR W5).alloc _).trans ((ExtR _).alloc _)
 have d2:Blk W6 W5.heap.size (.cells #[.pointer (some ⟨Z,0,none⟩)] 336):=by rw[a5];exact (Blk.new W5 _).alloc _
 have d3:Blk W6 (W5.heap.size+1) (.cells #[.string (jaJ key)] 9):=by
  rw[a5];have:=Blk.new (W5.alloc (.cells #[.pointer (some ⟨Z,0,none⟩)] 336)) (.cells #[.string (jaJ key)] 9);rwa [bF]at this
 have g4:W6.heap.size=W5.heap.size+2:=by rw[a5];simp
 clear a5
 obtain⟨b1,a8⟩:=vE W5.heap.size
 obtain⟨pc,c0⟩:=vE (W5.heap.size+1)
 have a9:=Hd (show b1=W5.heap.size/\pc=b1+1/\W6.heap.size=b1+2 from⟨a8,by omega,by omega⟩);rw[<-a8]at d2;rw[<-c0]at d3;rw[<-a8];rw[<-a8]at c0;rw[<-c0];have a4:=Hd (g3.o.trans a7);have d8:=Hd (b8.o.keeps a7 (fun h=>h));have X:=d0.o.keeps a7 (fun h=>h);have a1:=d1.o.keeps a7 (fun h=>h);clear b8 d0 d1 a8 c0 g4 a7;gi_wp2_with fail
 have e7:PrR W Z (.slice a n c) [t]:=⟨HC.o,HV.o,by have:=HZ.o;omega,by simp⟩;have g5:vs.length=1:=by rw[a0.o];rfl
 have e8:MetS W b1 Z pc A (.slice a n c) (jaJ key) (fun b=>b < W.heap.size\/b=b1\/b=Z\/b=pc) W6:=
  ⟨fun b=>Iff.rfl,a4.o.size,fun b hb=>a4.o.block b hb (fun h=>h),X,d2,d3⟩
 refine jk9 (N:=1) (gf:=187) (lb:=#[.pointer (some ⟨b1,0,none⟩),.pointer (some ⟨pc,0,none⟩)]) rfl (vX 187)
  (show jr6 Tryz.prog 187 #[] #[.pointer (some ⟨b1,0,none⟩),.pointer (some ⟨pc,0,none⟩)] 1 (meV vs) (fun b=>b=Z\/b=pc) (MetS W b1 Z pc A (.slice a n c) (jaJ key)) (jnz Z A (.slice a n c))from by rw[g0.o,a0.o];exact jvX W b1 Z pc t (.slice a n c) (jaJ key) m J.o.1 J.o.2.1 J.o.2.2.1 e7 (by have:=HZ.o;have:=a9.o;omega))
  (MetS.supp W b1 Z pc A (.slice a n c) (jaJ key)) (fun k=>rfl) (ClC cb vs) (ClC.supp cb vs)
  (fun b=>b=cb) (fun b=>b < W.heap.size\/b=b1\/b=Z\/b=pc) ⟨fun b=>Iff.rfl,a1⟩ e8
  (fun b hb ho=>by have hb:b=cb:=hb;have:=HZ.o;have:=a9.o;omega)
  ?hround ?hdone (jnz.supp Z A (.slice a n c))
 case hround =>
  intro y k D W8 K hk H hz hK;unfold meV;rw[jkm];have e9:(atV vs k).1.refs.length=16:=by(obtain rfl:k=0:=vO);rw[a0.o];exact J.o.1
  have f0:=Hd ((atV vs k).1.cells_len e9);clear H;gi_wp2_with (first |(refine jgH Tryz.allocNode rfl rfl ?_;intro Wa f1 f2) |(refine jd6 (vs:=(atV vs k).1.cells) rfl rfl rfl rfl f1 (by rw[f0.o];rfl) (by rw[f0.o];exact Tryz.szNode) (atV vs k).1.one ?_;intro Wb c2 c3))
  refine hK _ _ (f2.trans' c3 (fun x hx e=>by have e:x=W8.heap.size:=e;omega)) fun W9 H f3 b0=>?_;have hB:=c2.keeps f3 vO
  obtain⟨g,hg⟩:=vE W8.heap.size
  rw[<-hg]at hB ⊢;clear f1 f2 c2 c3 f3 hg hK;have f4:=Hd H;have g6:=Hd (jqw (vs:=vs) (k:=k) (by rw[g5];exact hk));have g7:=Hd (show ∀ w,vQ 147 #[(atV vs k).1.V,.string (atV vs k).2] w fun e w'=>e=.returned (clmV (jdc (atV vs k).1 (atV vs k).2))/\Ext w w' from fun w=>by
   obtain rfl:k=0:=vO
   rw[a0.o];show Calls _ _ #[m.V,.string (jaJ key)] w fun e w'=>e=.returned (clmV (jdc m (jaJ key)))/\_;rw[J.o.2.2.2.2];exact J.o.2.2.2.1 w)
  have q:=H.blk;clear H b0 hk;gi_wp2_with (refine jaI rfl 206 (.tmp 10) rfl _ _ rfl (jap W9 g (atV vs k).1 e9 hB) ?_)
  refine⟨trivial,rfl,CallsIn.mono (CallsIn.inRound _ (callsIn_wide.2 (g7.o W9))) ?_⟩
  rintro e w' ⟨rfl,hE⟩;have d9:=q.keeps hE (fun h=>h);unfold clmV;gi_wp2_with (refine jd6 (vs:=clmL (jdc (atV vs k).1 (atV vs k).2)) rfl rfl rfl rfl d9 (by rw[jcx,jcx]) (by rw[jcx];exact Tryz.szClaim) (jhf _) ?_;intro Wb c2 c3)
  refine⟨D,(ExtK hE:jac D W9 w').trans (c3.mono (fun b _ e=>(f4.o.is b).2 e)),fun b h=>.inl h,⟨f4.o.is,?_⟩⟩
  rw[g6.o];exact c2
 case hdone =>
  intro D O W9 b0 H g8 f5
  obtain⟨g9,h0,c4⟩:=g8
  have q:=H.blk;rw[show vs.take 1=vs from by rw[a0.o];rfl]at q;have h2:=Hd q;have h3:=Hd c4;have h4:=Hd f5;have e0:=a4.o.size;clear e0;have a2:=d8.o.keeps b0 (fun e=>by have:=HZ.o;have:=a9.o;rcases e with e | e | e <;>(try have e:W.heap.size=cb:=e) <;> omega);have b8:=Hd a2;have h5:Hid (Ext W W9):=(a4.o.trans' b0 (fun b hb e=>by have:=HZ.o;have:=a9.o;rcases e with e | e | e <;>(try have e:b=cb:=e) <;> omega));have c5:=Hd (show (¬ cb=W.heap.size)/\(¬ Z=W.heap.size)/\¬ W6.heap.size=W.heap.size from by have:=HZ.o;have:=a9.o;have:=a4.o.size;omega);have i1:∀ w,(binOp .eql 88 .nilIface .nilIface).run Tryz.prog w=.ok (.bool true) w:=fun w=>by kernel_rfl
  have q3:=c4.errc;have q2:=Blk.cell (i:=2) (v:=.int .i64 ((1:Nat):Int)) c4 vF;clear q c4 a2 b0 H f5 g9 h0 e8 e7 X a1 d2 d3;have i2:¬((1:Nat):Int) < (n:Int):=by have:=f9.o;omega
  gi_wp2_with fail
  refine wpIn_wide.2 (jau [0,1,2,3,4] [3] Ext (jac (fun b=>b=W.heap.size)) ExtR ExtT (fun x y z h k=>jac.trans h k) (fun x y h=>ExtK h) vY vY vY ?_);refine qDL ⟨cb,0,none⟩ (clmV (jiB vs)) rfl (fun w1 h1=>jeG (Blk.keeps (by exact h2.o) h1 c5.o.1)) ?_;refine vS ?_;refine vD ?_;refine qDL ⟨Z,3,none⟩ (.nilIface) rfl (fun w1 h1=>jab Tryz.underlying88 rfl (jai (by exact h3.o.errc) h1 c5.o.2.1)) ?_;refine vS ?_;refine qDH _ rfl (fun wa ha K hK=>?_);have f6:Ext W9 wa:=(jak W9).trans ha;refine jdl (old:=clmL none) (vs:=clmL (jiB vs)) rfl rfl rfl (b8.o.keeps f6 (fun h=>h)) (by rw[jcx,jcx]) (by rw[jcx];exact Tryz.szClaim) (jhf _) ?_;intro i3 h6 f7;refine hK _ _ f7 ?_;clear hK K;refine vS ?_;refine vD ?_;refine qDE (fun wc hc=>?_);have f8:jac (fun b=>b=W.heap.size) W9 wc:=((ExtK f6:jac (fun b=>b=W.heap.size) W9 wa).trans f7).trans (ExtK hc);have h7:=h4.o.keeps f8 c5.o.2.2;have h8:=(h6.keeps hc (fun h=>h)).put_other (show W.heap.size≠W6.heap.size from fun e=>c5.o.2.2 e.symm) (.deferred none);have h9:Ext W wc:=h5.o.trans' f8 (fun b hb e=>by have e:b=W.heap.size:=e;omega);gi_wp2
  refine⟨by simp,.inl ⟨_,_,rfl,run_takeDeferred h7,?_⟩⟩
  refine⟨_,jan rfl rfl rfl (jdi h8),h9.trans' (jac.onePut wc W6.heap.size _) (fun b hb e=>by have e:b=W6.heap.size:=e;have:=a4.o.size;omega),?_⟩
  rw[show jiB vs=some va from by rw[a0.o];exact J.o.2.2.2.2];rfl
theorem jrT(hc:jbA W)(t key:vB)(hk:key.size<=1000)(v:vV)(hv:RdS W v [t])(m:jae)(hm:m.refs.length=16)(va:vB)(hGt:∀ w,vR 108 #[.string t] w (.tuple #[m.V,.int .i64 0]))(hST:∀ w,vR 189 #[m.V,.string (jaJ key)] w (.tuple #[.string ⟨#[]⟩,.string (jaJ key)]))(hCL:∀ w,vR 147 #[m.V,.string (jaJ key)] w (clmV (some va)))(hcl:jdc m (jaJ key)=some va) :
  vR 51 #[.string (shaB t),.string key,v] W (.tuple #[clmV (some va),.int .i64 0]):=by
 obtain⟨a,c,a2⟩:=juN hv
 have HP:=Hd (fun w (h:Ext W w)=>jtU w (hc.ext h) t key hk v (hv.ext h) m hm va hGt hST hCL hcl)
 obtain⟨b0,H⟩:=vE (shaB t)
 rw[<-H]at HP ⊢
 obtain⟨o,ho⟩:=vE (some va)
 rw[<-ho]at HP ⊢;clear hc hk hv hGt hST hCL hcl hm H ho;subst a2;unfold vR vQ;go_in;go_wp2_with (refine jah Tryz.allocClaim rfl rfl ?_;intro W1 J q)
 refine (HP.o W1 q).mono ?_;rintro e w2 ⟨hE,rfl⟩;have a3:=Hd (J.keeps hE (fun h=>h));have a4:=Hd (q.trans hE);clear J q hE;unfold clmV;go_wp2_with (first |(refine jah Tryz.allocClaim rfl rfl ?_;intro W3 K O) |(refine jad (old:=clmL none) (vs:=clmL o) rfl rfl rfl rfl K ((jcx none).trans (jcx o).symm) (by rw[jcx];exact Tryz.szClaim) (jhf _) ?_;intro W4 X Z))
 have A:Ext w2 W4:=O.trans' Z (fun x hx e=>by have e:x=w2.heap.size:=e;omega);have a5:=Hd (a4.o.trans A);have a0:=Hd (a3.o.keeps A (fun h=>h));have a7:=Hd X;clear K O X Z A;refine (show vQ 34 #[.nilIface,.iface 27 (.int .i64 10)] W4 fun e w'=>e=.returned (.bool false)/\W4=w' from jvL W4).mono ?_;rintro e w5 ⟨rfl,rfl⟩;have a1:=a0.o;go_wp2_with (first |(refine jaf 112 (.tmp 8) rfl rfl _ _ rfl (jeG a7.o) ?_) |(refine jad (old:=clmL none) (vs:=clmL o) rfl rfl rfl rfl a1 ((jcx none).trans (jcx o).symm) (by rw[jcx];exact Tryz.szClaim) (jhf _) ?_;intro W8 a8 a9))
 refine bodyPost_ret (jan rfl rfl rfl (jdi a8)) rfl ?_
 exact⟨rfl,a5.o.trans' a9 (fun x hx e=>by have e:x=W.heap.size:=e;omega)⟩
theorem jwA(va p:vB)(rs:vM)(hr:rs.length=16) :
  vR 189 #[(jae.mk 1 pa va rs).V,.string p] W (.tuple #[.string ⟨#[]⟩,.string p]):=by
 have q:=Hd hr;clear hr;unfold jae.V;have e:(⟨#[]⟩:vB).toList.isEmpty=true:=by rw[bR];rfl
 have A:(jae.cells ⟨1,pa,va,rs⟩)[0]?=some (.int .i64 1):=rfl;have H:(jae.cells ⟨1,pa,va,rs⟩)[1]?=some (.string pa):=rfl;go_enter Tryz.func189,Tryz.ntmps189;go_wp2_with fail
 go_ret2
 exact⟨rfl,(ExtR W).alloc _⟩
theorem jqd(hs:jax w0 s bm room S)(hE0:Ext w0 W)(g:Nat)(v:vV)(h:jfY w0.heap.size g v [] W)(t:vB)(hH:HasS S t)(pa va:vB)(rs:vM)(hgood:jaW (InlD 12) ⟨1,pa,va,rs⟩)(ht:t=jaV ⟨1,pa,va,rs⟩)(key:vB)(hk:key.size<=1000)(hp:jaJ key=pa) :
  vQ 71 #[.pointer (some ⟨s,0,none⟩),.string (shaB t),.string key,.func (.func 138) #[] #[.pointer (some ⟨g,0,none⟩)]] W (jw3 w0.heap.size g v W [t] (some va)):=by
 have q:=jza w0 W s bm room S hs hE0 g v [] h (by simp) t hH 12 _ hgood ht;have A:=Hd q;have H:rs.length=16:=(hgood.one (inlP 12)).refs;have HL:=Hd (jae.cells_len ⟨1,pa,va,rs⟩ H);have HK:=Hd (bA hk hp)
 obtain⟨k0,J⟩:∃ k,k=shaB t:=⟨_,rfl⟩
 rw[<-J]at A ⊢;clear hs hE0 h hgood q hH hk J ht hp H;go_enter Tryz.func71,Tryz.ntmps71;go_wp2_with fail
 refine A.o.mono ?_;rintro e w1 ⟨rfl,v1,K⟩;have a4:=Hd K;clear K;unfold jae.V;go_wp2_with (first |(refine jah Tryz.allocNode rfl rfl ?_;intro W5 O X;refine jad (vs:=jae.cells ⟨1,pa,va,rs⟩) rfl rfl rfl rfl O (by rw[HL.o];rfl) (by rw[HL.o];exact Tryz.szNode) (jae.one _) ?_;intro W6 Z a0))
 refine vC (je3 _ key (by have:=HK.o.1;omega)) fun w7 hE=>?_;rw[HK.o.2];have a1:Ext w1 W6:=X.trans' a0 (fun x hx e=>by have e:x=w1.heap.size:=e;omega);have a5:=Hd ((a4.o.ext a1).ext hE);have a2:=Hd (Z.keeps hE (fun h=>h))
 obtain⟨L,hL⟩:=vE w1.heap.size
 rw[<-hL]at a2 ⊢;clear hL hE a1 O X Z a0;go_wp2_with fail
 go_loopw [11,12] (fun a3 pv wr=>a3=.bool true/\pv=.string pa/\wr=w7) (fun a3 pv _=>0)
 case atStart=>exact⟨rfl,rfl,rfl⟩
 case round =>
  obtain⟨rfl,rfl,rfl⟩:=hrel
  have h6:=a2.o;have q0:wr.cell? ⟨L,0,none⟩=some (.int .i64 1):=h6.cellL (i:=0) vF;have q1:=h6.cellL (i:=1) (v:=.string pa) vF;have q2:=h6.cellL (i:=2) (v:=.string va) vF;clear h6;go_wp2_with fail
  go_ret2
  exact⟨rfl,v1,a5.o⟩
theorem jv9(hs:jax W s bm room S)(t:vB)(hH:HasS S t)(pa va:vB)(rs:vM)(hgood:jaW (InlD 12) ⟨1,pa,va,rs⟩)(ht:t=jaV ⟨1,pa,va,rs⟩)(key:vB)(hk:key.size<=1000)(hp:jaJ key=pa) :
  vQ 90 #[.pointer (some ⟨s,0,none⟩),.string (shaB t),.string key] W (jr7 [t] W):=by
 obtain⟨k0,K⟩:∃ k,k=shaB t:=⟨_,rfl⟩
 have HF:=Hd (fun w e g v h=>jqd W w s bm room S hs e g v h t hH pa va rs hgood ht key hk hp);rw[<-K]at HF ⊢;clear K hs hH hgood ht hk hp;go_enter Tryz.func90,Tryz.ntmps90;go_wp2_with fail
 have Z:Ext W (W.alloc (.cells #[.slice none 0 0] 34)):=(ExtR W).alloc _;have hB:=Blk.new W (.cells #[.slice none 0 0] 34);have H:jfY W.heap.size W.heap.size (.slice none 0 0) [] (W.alloc (.cells #[.slice none 0 0] 34)):=⟨bL _,hB,⟨0,rfl,.inl ⟨rfl,rfl⟩⟩,fun b hb=>by cases hb⟩;have hF:=HF.o _ Z W.heap.size (.slice none 0 0) H;have a0:=Hd H;have HE:=Hd Z;clear hB H Z;refine hF.mono ?_;rintro e w2 ⟨rfl,v',J⟩;have HT:=Hd J
 obtain⟨n,X⟩:=J.at'.row
 have a1:n=1:=by have:=X.1;simpa using this.symm
 subst a1
 obtain⟨a,c,O⟩:=jaD X
 have q:=J.at'.var.cell (i:=0) (v:=v') vF;have A:SRow W w2 v' 1 [t]:=⟨⟨a,c,O⟩,X,J.ext0 a0.o HE.o (bL _),fun b hb=>(J.at'.own b hb).1⟩;have a2:=Hd A;subst O;clear hF J X A HT;unfold folV;go_wp2_with fail
 go_ret2
 exact⟨_,_,rfl,a2.o⟩
theorem jsx(hs:jax W s bm room S)(t:vB)(hH:HasS S t)(pa va:vB)(rs:vM)(hgood:jaW (InlD 12) ⟨1,pa,va,rs⟩)(ht:t=jaV ⟨1,pa,va,rs⟩)(key:vB)(hk:key.size<=1000)(hp:jaJ key=pa) :
  vQ 44 #[.pointer (some ⟨s,0,none⟩),.string (shaB t),.string key] W (jr7 [t] W):=by
 obtain⟨y,H,K⟩:=hH
 have q:=jfR W s bm room S (shaB t) hs;have A:atL S (shaB t).data.toList=some y:=H;rw[A]at q;simp only[fM,optV]at q;have O:=Hd q;have X:=Hd (fun w (e:Ext W w)=>jv9 w s bm room S (hs.ext e) t ⟨y,H,K⟩ pa va rs hgood ht key hk hp)
 obtain⟨k0,J⟩:∃ k,k=shaB t:=⟨_,rfl⟩
 rw[<-J]at X;rw[<-J]at O ⊢;clear J hs hk q H K A hgood ht hp;go_enter Tryz.func44,Tryz.ntmps44;go_wp2_with fail
 refine O.o.mono ?_;rintro e w1 ⟨rfl,Z⟩;have HE:=Hd Z;clear Z;go_wp2_with fail
 refine (X.o w1 HE.o).mono ?_;rintro e w2 ⟨a,c,rfl,hR⟩;have HR:=Hd hR;clear hR;go_wp2_with fail
 go_ret2
 exact⟨_,_,rfl,HR.o.since HE.o⟩
end
section
open Go Go.RowKit
theorem js1:HasS (S2L z y) t15:=⟨_,jjb z y,rfl⟩
theorem jp4(hs:jax W s bm 100 (S2L z y)):vQ 44 #[.pointer (some ⟨s,0,none⟩),.string (shaB t15),.string kA] W (jr7 [t15] W):=
 jsx W s bm 100 (S2L z y) hs t15 (js1 z y) (jaJ kA) v1B _ jfy rfl kA vI rfl
theorem js0(hs:jax W s bm 100 (S2L z y))(hN:jfn (S2L z y)):vR 36 #[.pointer (some ⟨s,0,none⟩),.string (shaB t15),.string kA] W (folV (some v1B)):=by
 have e:folN (S2L z y) ((jaJ kA).size+1) (nodeOf t15) (jaJ kA)=some v1B:=by
  rw[jeV W (jcc jmt) jmt];exact jmw rfl
 refine (jmA W s bm 100 (S2L z y) hs hN (shaB t15) _ (jjb z y) kA vI).mono ?_;rintro A w' ⟨rfl,q⟩
 refine⟨?_,q⟩
 show Ending.returned (folV (folN (S2L z y) ((jaJ kA).size+1) (nodeOf t15) (jaJ kA)))=_;rw[e]
theorem juD:v1B.toList.isEmpty=false:=by decide +kernel
theorem jp9(hs:jax W s bm 100 (S2L z y)):vQ 52 #[.pointer (some ⟨s,0,none⟩),.string (shaB t15),.string kA,.string kB,.int .i64 1] W fun e w'=>(∃ la lc,e=.returned (.tuple #[.slice la 1 lc,.bool false,.int .i64 0]))/\Ext W w':=
 jtV W s kA kB (shaB t15) (jaJ kA) v1B (fun w e=>jwv w s bm 100 (S2L z y) kA (shaB t15) (jaJ kA) v1B _ vI (hs.ext e) _ (jjb z y) 12 n15 jfy rfl rfl juD (by decide +kernel) (jm3 kA) (by decide +kernel)) juD (jm3 kA) (by decide +kernel) (by decide +kernel)
theorem jki:Op.bytesLess kA.toList kB.toList=true:=by decide +kernel
theorem jxR:WkE n15 t15 kA kB kA:=
 ⟨⟨12,jfy⟩,rfl,rfl,by decide +kernel,by decide +kernel,by decide +kernel,by decide +kernel,by decide +kernel,by decide +kernel,by
  have h:n15.path=jaJ kA:=rfl;rw[h];rfl⟩
def pap0:PapN:=⟨0,shaB t15,kA,⟨#[]⟩,[t15]⟩
def pap1:PapN:=⟨1,shaB t15,kA,kB,[t15]⟩
theorem jjv:jfo pap0:=⟨.inl ⟨rfl,rfl⟩,jbg _,by decide +kernel,by decide +kernel,by show ([t15]:vM).length<=200;simp,fun b hb=>by
 have hb:b∈[t15]:=hb;rw[bM.1 hb];exact jmu⟩
theorem jrb:jfo pap1:=⟨.inr rfl,jbg _,by decide +kernel,by decide +kernel,by show ([t15]:vM).length<=200;simp,fun b hb=>by
 have hb:b∈[t15]:=hb;rw[bM.1 hb];exact jmu⟩
theorem jpX(h:k=0\/k=1):(jaK k).size<=1:=by
 rcases h with rfl | rfl
 ·decide +kernel
 ·decide +kernel
theorem jrc{p:PapN}(h:jfo p)(hn:p.nodes.length<=50):(papB p).size<=65536:=by
 have e:(jaK p.kind).size<=1:=jpX _ (h.kind.imp (·.1) id);have q:=jcD (jaK p.kind);have A:=jcD p.root;have H:=jcD p.key;have J:=jcD p.to;have K:=jjk (p.nodes.map jam);have O:=jeY p.nodes h.short;have X:=h.root;have Z:=h.key;have h9:=h.to;unfold papB;refine bE (jjk _) ?_;rw[jgT];simp only[bN,fT,iS,List.sum_nil];omega
theorem juM:(papB pap0).size<=65536:=jrc jjv (by show ([t15]:vM).length<=50;simp)
theorem jyl:(papB pap1).size<=65536:=jrc jrb (by show ([t15]:vM).length<=50;simp)
theorem jym(p:PapN)(hr:p.root.size=32):papB p≠⟨#[]⟩:=fun e=>by
 have A:(papB p).size=0:=by rw[e];rfl
 have q:=jg2 [jam (jaK p.kind),jam p.root,jam p.key,jam p.to,ja6 (p.nodes.map jam)];rw[jgT]at q;simp only[bN,fT,iS,List.sum_nil]at q;have H:(jam p.root).size ≥ 1:=by
  unfold jam;split
  ·rename_i h
   have:=h.1
   omega
  ·rw[cD];omega
 unfold papB at A;omega
theorem jxO:vR 108 #[.string t15] w (.tuple #[n15.V,.int .i64 0]):=jer (inlP 12) w n15 jfy
theorem jp6(hc:jbA w)(nv:vV)(hn:RdS w nv [t15]):vQ 18 #[.agg (pap0.cells nv).toArray] w fun e w'=>∃ a c,e=.returned (.tuple #[.slice a 1 c,.int .i64 0])/\Ext w w':=
 jrU w pap0 nv hn jjv rfl v1B fun W e=>jrT W (hc.ext e) t15 kA vI nv (hn.ext e) n15 rfl v1B jxO (fun W=>jwA W _ _ _ _ rfl) (fun W=>jsB W (jaJ kA) v1B ⟨#[]⟩ _ rfl) rfl
end
section
open Go Go.RowKit
attribute [local go_sem] Oper.semAt_some
theorem ChI.past{w0 W:vW}{D:Nat->Prop}{b:Nat}{M:MdN}{c:Nat}{es:List (Ent Int)}{bm:Nat}{room:Int}{S:vT}{n:Nat}(h:ChI w0 D W b M a c rm sb cb es ck bm room S n)(k:jac F W W')(h1:¬ F b)(h2:¬ F rm)(h3:¬ F sb)(h4:¬ F bm)(h5:∀ x∈S,¬ F x.2.1)(h6:∀ z,D z->¬ F z)(h7:jdx W F):ChI w0 D W' b M a c rm sb cb es ck bm room S n:=
 ⟨h.m.keeps k h1 h2 h6,h.s.keeps k h3 h4 h5 h7,h.sep,h.rb,h.db,fun z e=>⟨(h.dr z e).1,bC (h.dr z e).2 k.size⟩,h.ok,h.st,h.kn,h.lt,h.val⟩
theorem jqZ{w:vW}{x:Array vV}{T:TypeId}{y:Array MapEntry}(h:Blk w cb (.cells x T fz))(hT:T≠9)(hm:Blk w mb (.map y ck)):jdx w (fun z=>z=cb\/z=mb):=fun z q A e hb=>by
 rcases e with e | e
 ·exact jjo h hT z q A e hb
 ·exact jhG hm z q A e hb
theorem Tryz.allocPap:(Instr.alloc 55 true (.tuple #[])).run Tryz.prog w=.ok (.pointer (some ⟨w.heap.size,0,none⟩)) (w.alloc (.cells [Value.int .i64 0,.string ⟨#[]⟩,.string ⟨#[]⟩,.string ⟨#[]⟩,.slice none 0 0].toArray 55)):=vY
theorem Tryz.allocNot:(Instr.alloc 65 true (.tuple #[])).run Tryz.prog w=.ok (.pointer (some ⟨w.heap.size,0,none⟩)) (w.alloc (.cells [Value.int .i64 0,.int .i64 0,.int .i64 0,.string ⟨#[]⟩,.slice none 0 0].toArray 65)):=vY
theorem jrV(hc:jbA w)(he:ErrT w):vR 4 #[] w (.bool true):=by
 have HC:=Hd hc;have i8:=Hd he;clear hc he;unfold vR vQ;go_in;go_wp2_with fail
 refine (jpx w HC.o i8.o 2 100 4 vI vI vI).mono ?_;rintro e w1 ⟨D,b,a,c,K,H,A,J,X,z,rfl,hI,Z,b4,q,g3,a4,d0⟩;have H1:=Hd (bA hI (bA Z (bA b4 (bA q (bA g3 (bA a4 d0))))));clear hI Z b4 q g3 a4 d0;go_wp2_with fail
 have c7:=(ExtR w1).alloc (.cells (jb5 w15C).toArray 49);have d1:=jtW w1 w15C 49;change Calls _ _ _ (w1.alloc (.cells (jb5 w15C).toArray 49)) _;have g8:=Blk.new w1 (.cells (jb5 w15C).toArray 49)
 obtain⟨ub,i2⟩:=vE w1.heap.size
 rw[<-i2]at d1 g8 ⊢;generalize w1.alloc (.cells (jb5 w15C).toArray 49)=w2 at c7 d1 g8 ⊢
 obtain⟨d2,Z,b4,q,g3,a4,d0⟩:=H1.o
 have i9:=d2.ext c7;have l4:=d2.m.blk.lt;have b6:=Z.trans c7;have g4:=jip w2 w D b (newN 2) a c K H A es1 1 X 100 (S1L z) 1 i9 vI vI jsY (.slice (some ⟨ub,0,none⟩) 1 1) w15C d1 vI (fun c hc=>by
  have hc:c∈[(⟨kA,v1B,false⟩:Chg)]:=hc;rw[bM.1 hc];decide) (fun _=>False) (fun t S'=>t=shaB t15/\∃ y,S'=S2L z y) (fun W k hS=>by
   rw[js3];have g9:Ext w W:=b6.trans' k fun x O e=>by have e:x=b:=e;omega
   exact jpr w W (HC.o.ext g9) (i8.o.ext g9) H X z hS g9.size _ (d1.keeps k (fun x O e=>by have O:some ub=some x:=O;have e:x=b:=e;cases O;omega)))
 unfold CmP at g4;rw[jvA]at g4;refine g4.mono ?_;rintro e w3 (⟨k,hk,hN,_⟩ |⟨_,t,S1,S',D',a',c',⟨rfl,y,rfl⟩,rfl,g5,h0,d3,b1,j0⟩)
 ·rcases hN with h |⟨_,h⟩
  ·exact absurd h.symm hk
  ·exact h.elim
 obtain rfl:S'=S2L z y:=b1 (by rw[jp5];exact jgY);have hf:(jgN es1 (newN 2) (shaB t15) 1).filter (fun x=>hasB M15.all x.1)=es2:=by rw[jp5];exact fA.2 jgY
 simp only at g5;rw[hf]at g5;have j1:jfX w3 A J 4:=(show jfX w2 A J 4 from b4.keeps c7 (fun h=>h) (fun h=>h)).keeps h0 (q A (.inl rfl)).1 (q J (.inr rfl)).1;have j2:=b4.1.lt;have j3:=b4.2.lt;have i3:=c7.size;have b7:∀ x,x < w1.heap.size->¬ ChF b K X (S1L z) x->x≠H->x≠b/\x≠K/\x≠H/\x≠X/\(∀ y'∈S2L z y,y'.2.1≠x)/\∀ z',D' z'->z'≠x:=fun x h1 h2 h3 =>
  ⟨fun e=>h2 (.inl e),fun e=>h2 (.inr (.inl e)),h3,fun e=>h2 (.inr (.inr (.inl e))),fun y' hy e=>by
   rcases d3 y' hy with h | h
   ·exact h2 (.inr (.inr (.inr (by rw[<-e];exact h))))
   ·omega,fun z' hz e=>by have:=j0 z' hz;omega⟩
 have oc:=b7 A j2 (q A (.inl rfl)).1 (q A (.inl rfl)).2.2.2;have om:=b7 J j3 (q J (.inr rfl)).1 (q J (.inr rfl)).2.2.2;have i4:w.heap.size<=X:=d2.s.bnew;have d9:Ext w w3:=b6.trans' h0 fun x O e=>by
  have hz:w.heap.size<=z:=d2.s.new (ky noT,z,⟨noT,[],0,1⟩) (by unfold S1L;exact bM.2 rfl);have e:x=b\/x=K\/x=X\/x∈[z]:=e;rw[bM]at e;rcases e with e | e | e | e <;> omega
 have H3:=Hd (bA g5 (bA d9 (bA j1 (bA oc (bA om (bA d0 (bA (show w.heap.size<=A from(q A (.inl rfl)).2.1) (show w.heap.size<=J from(q J (.inr rfl)).2.1))))))));clear g5 d9 j1 oc om b7 j2 j3 i3 g4 hf h0 d3 b1 j0 d2 Z b4 q g3 a4 d0 i9 b6 c7 d1 g8 i4 l4;go_wp2_with fail
 have h4:=(ExtR w3).alloc (.cells (jch w15L).toArray 52);refine vH (jrv _ _ w15L (HC.o.ext (H3.o.2.1.trans h4)) (jtX w3 w15L 52) jjc) fun w4 l5=>?_;rw[js4];have j4:=Hd (h4.trans l5);clear h4;go_wp2_with fail
 refine vH (jmd w4 D' b M15 a' c' K H A es2 2 (H3.o.1.m.ext j4.o) vI 1 1 _ (shaB t15) jdF rfl jeU) fun w5 l6=>?_;have d4:=Hd (j4.o.trans l6);go_wp2_with fail
 have h5:=H3.o.1.ext d4.o;have g6:jfX w5 A J 4:=H3.o.2.2.1.keeps d4.o (fun h=>h) (fun h=>h)
 obtain⟨th,j5⟩:=vE (shaB t15++⟨#[32]⟩++kA)
 have hF:∀ W,jac (fun z=>z=A\/z=J) w5 W->ChI w D' W b M15 a' c' K H A es2 2 X 100 (S2L z y) 1001:=fun W k=>by
  obtain⟨c1,c2,c3,c4,c5,c6⟩:=H3.o.2.2.2.1
  obtain⟨m1,m2,m3,m4,m5,m6⟩:=H3.o.2.2.2.2.1
  refine h5.past k ?_ ?_ ?_ ?_ ?_ ?_ (jqZ g6.1 vI g6.2)
  ·rintro (e | e)
   ·exact c1 e.symm
   ·exact m1 e.symm
  ·rintro (e | e)
   ·exact c2 e.symm
   ·exact m2 e.symm
  ·rintro (e | e)
   ·exact c3 e.symm
   ·exact m3 e.symm
  ·rintro (e | e)
   ·exact c4 e.symm
   ·exact m4 e.symm
  ·rintro x O (e | e)
   ·exact c5 x O e
   ·exact m5 x O e
  ·rintro x O (e | e)
   ·exact c6 x O e
   ·exact m6 x O e
 have HF:=Hd hF;have j6:=Hd g6;have h7:=H3.o.2.2.2.2.2.1;refine (jpw w5 D' b M15 a' c' K H A es2 2 h5.m vI 1 1 _ (shaB t15) jdF rfl jeU (by rw[jbg];decide) kA v1B vI 0
  (fun W=>jac (fun z=>z=A\/z=J) w5 W/\Cac1 W A J th) (fun W=>jac (fun z=>z=A\/z=J) w5 W/\Cac1 W A J th) (fun W=>jac (fun z=>z=A\/z=J) w5 W/\∃ tg tc,Cac2 W A J tg tc th v1B/\w5.heap.size<=tg)
  (fun W k=>by
   rw[<-j5];refine (jvj W A J h7 (j6.o.keeps k (fun h=>h) (fun h=>h)) th).mono ?_;rintro e w' ⟨rfl,h1,h2⟩
   exact⟨rfl,(k.mono fun _ _ e=>e.elim).trans h1,h2⟩)
  (fun W k=>(HF.o W k.1).m.blk)
  (fun W k=>by
   have h:=js0 W H X z y (HF.o W k.1).s.st (HF.o W k.1).s.all;refine h.mono ?_;rintro e w' ⟨rfl,hE⟩
   exact⟨rfl,k.1.trans (hE.mono fun _ _ e=>e.elim),k.2.1.keeps hE (fun h=>h),k.2.2.keeps hE (fun h=>h)⟩)
  (fun W k=>(HF.o W k.1).m.blk)
  (fun _ W k=>by
   rw[<-j5];refine (jpG W A J h7 th v1B k.2).mono ?_;rintro e w' ⟨rfl,h1,tg,tc,h2,h3⟩
   exact⟨true,rfl,k.1.trans (h1.mono fun _ _ e=>.inl e),tg,tc,h2,bE k.1.size h3⟩)).mono ?_
 intro e w6 h6
 obtain⟨_,rfl,h8,tg,tc,j7,l7⟩:=(show _\/_ from h6).resolve_right fun h=>h.1 rfl
 clear h6;have i5:=d4.o.size;have b8:=H3.o.2.2.2.2.2.2;have e0:Ext w w6:=(H3.o.2.1.trans d4.o).trans' h8 fun x O e=>by
  rcases e with e | e
  ·have:=b8.1;omega
  ·have:=b8.2;omega
 have H6:=Hd (bA (hF w6 h8) (bA e0 (bA j7 (show D' tg\/tg=b\/tg=K\/tg=X\/(∃ x∈S2L z y,x.2.1=tg)->False from fun e=>by
  have hl:=H3.o.1.ext d4.o;have l8:=hl.lt';rcases e with e | e | e | e |⟨x,O,e⟩
  ·have:=(hl.dr tg e).2;omega
  ·omega
  ·omega
  ·omega
  ·have:=l8.2.2.2.2 x.2.1 (List.mem_map_of_mem O);omega))))
 clear h5 g6 hF h7 h8 j7 l7 i5 b8 e0 HF j6;go_wp2_with fail
 have b5:=(jpz w6 D' b M15 a' c' K H A es2 2 H6.o.1.m vI 1 1 _ (shaB t15) jdF rfl jeU kA [t15] (fun W k=>jp4 W H X z y (H6.o.1.ext k).s.st) jjv juM);change Calls _ _ _ _ (fun e w'=>e=.returned (.tuple #[.string (papB pap0),.int .i64 0])/\Ext w6 w')at b5;refine b5.mono ?_;rintro e w7 ⟨rfl,j8⟩;have l9:=Hd j8;clear j8 b5;go_wp2_with fail
 refine (jyL w7 pap0 jjv juM).mono ?_;rintro e w8 ⟨nv,rfl,g7⟩
 obtain⟨na,nn,nc,rfl⟩:∃ a n c,nv=.slice a n c:=by
  rcases g7.rd with⟨a,c,e, -⟩ |⟨b,o,c,e, -⟩
  ·exact⟨a,0,c,e⟩
  ·exact⟨_,_,c,e⟩
 have H8:=Hd (bA (l9.o.trans g7.ext) g7.rd);clear g7;unfold PapN.cells pap0;go_wp2_with (first |(refine jah Tryz.allocPap rfl rfl ?_;intro W9 j9 k0) |(refine jad (vs:=[.int .i64 0,.string (shaB t15),.string kA,.string ⟨#[]⟩,.slice na nn nc]) rfl rfl rfl rfl j9 rfl Tryz.szPap (by simp[Value.oneCell']) ?_;intro k1 e3 e4) |(refine jaf 55 (.tmp 13) rfl rfl (.agg (pap0.cells (.slice na nn nc)).toArray) ⟨w8.heap.size,0,none⟩ rfl (jgG _ _ _ rfl e3) ?_))
 have b9:Ext w8 k1:=k0.trans' e4 fun x O e=>by have e:x=w8.heap.size:=e;omega
 have e5:=Hd (H8.o.1.trans b9);refine (jp6 k1 (HC.o.ext (H6.o.2.1.trans e5.o)) _ (H8.o.2.ext b9)).mono ?_;rintro e h9 ⟨ja,jc,rfl,hE⟩;have a0:=Hd (e5.o.trans hE);clear hE b9 j9 k0 e3 e4;go_wp2_with fail
 have hR:∀ W,Ext h9 W->vQ 52 #[.pointer (some ⟨H,0,none⟩),.string (shaB t15),.string kA,.string kB,.int .i64 1] W fun e w'=>(∃ la lc,e=.returned (.tuple #[.slice la 1 lc,.bool false,.int .i64 0]))/\Ext W w':=fun W k=>jp9 W H X z y (H6.o.1.ext (a0.o.trans k)).s.st;have HR:=Hd hR;have b5:=(jnQ h9 D' b M15 a' c' K H A es2 2 (H6.o.1.ext a0.o).m vI 1 1 _ (shaB t15) jdF rfl jeU kA kB t15 1 jki (fun W k=>(hR W k).mono fun e w' ⟨⟨la,lc,e1⟩,e2⟩=>⟨⟨la,1,lc,e1⟩,e2⟩) (fun W k=>jsw W H kA kB (shaB t15) t15 kA n15 jxR jki fun V kV=>by
  have h:=jfR V H X 100 (S2L z y) (shaB t15) (H6.o.1.ext (a0.o.trans (k.trans kV))).s.st;rw[jjb]at h;exact h) jrb jyl)
 change Calls _ _ _ _ (fun e w'=>e=.returned (.tuple #[.string (papB pap1),.bool false,.int .i64 0])/\Ext h9 w')at b5;refine b5.mono ?_;rintro e m0 ⟨rfl,hE⟩;have c0:=Hd hE;clear hE b5 hR;go_wp2_with fail
 refine (jpA m0 D' b M15 a' c' K H A es2 2 (H6.o.1.ext (a0.o.trans c0.o)).m vI 1 1 _ (shaB t15) jdF rfl jeU kA kB 1 (fun W e w'=>(∃ la lc,e=.returned (.tuple #[.slice la 1 lc,.bool false,.int .i64 0]))/\Ext W w') (fun W e w' h=>by obtain⟨⟨la,lc,h⟩, -⟩:=h;exact⟨_,_,_,h⟩) (fun W k=>HR.o W (c0.o.trans k))).mono ?_;rintro e m7 ⟨W,Z,⟨la,lc,rfl⟩,k2⟩;have e6:=Hd (a0.o.trans (c0.o.trans (Z.trans k2)));clear Z k2;go_wp2_with fail
 refine (jnP m7 D' b M15 a' c' K H A es2 2 (H6.o.1.ext e6.o).m vI 1 1 _ (shaB t15) jdF rfl jeU vI).mono ?_;rintro e c8 ⟨cv,rfl,hE,k3⟩
 obtain⟨va,vn,vc,rfl⟩:∃ a n c,cv=.slice a n c:=by
  rcases k3 with⟨a,c,e, -⟩ |⟨b,o,c,e, -⟩
  ·exact⟨a,0,c,e⟩
  ·exact⟨_,_,c,e⟩
 have e7:=Hd (e6.o.trans hE);clear hE k3;go_wp2_with (first |(refine jah Tryz.allocNot rfl rfl ?_;intro n6 e8 e9) |(refine jad (vs:=[.int .i64 0,.int .i64 0,.int .i64 1,.string (shaB t15),.slice va vn vc]) rfl rfl rfl rfl e8 rfl Tryz.szNot (by simp[Value.oneCell']) ?_;intro k4 f0 f1))
 have f2:Ext c8 k4:=e9.trans' f1 fun x O e=>by have e:x=c8.heap.size:=e;omega
 have f3:=Hd (e7.o.trans f2);have i6:=Hd f0;clear e8 e9 f0 f1 f2;refine vH (jmb k4 D' b M15 a' c' K H A es2 2 (H6.o.1.ext f3.o).m 5 jsZ ⟨#[97]⟩) fun m8 f4=>?_;have i7:=Hd (f3.o.trans f4);go_wp2_with fail
 refine vH (jmc m8 2 0 4 vI) fun k5 f5=>?_;have a5:=Hd (i7.o.trans f5);go_wp2_with fail
 have i0:=jpy k5 w D' b M15 a' c' K H A es2 2 X 100 (S2L z y) 1001 (H6.o.1.ext a5.o) vI (-1);rw[jvB]at i0;refine i0.mono ?_;rintro e c9 ⟨rfl,a7,D2,a2,c2,a8⟩;have a8:ChI w D2 c9 b M15p a2 c2 K H A es2 2 X 100 (S2L z y) 1001:=a8
 obtain⟨n7,m9⟩:=H1.o.2.2.2.2
 have b2:Ext w k5:=H6.o.2.1.trans a5.o;have b3:Ext w c9:=b2.trans' a7 fun x O e=>by have e:x=b:=e;omega
 obtain⟨k6,d5⟩:=H6.o.2.2
 have f6:Cac2 c9 A J tg tc th v1B:=by
  obtain⟨p1,p2,a1,p3⟩:=k6
  have c1:=H3.o.2.2.2.1.1
  exact⟨(p1.keeps a5.o (fun h=>h)).keeps a7 c1,p2,a1,(p3.keeps a5.o (fun h=>h)).keeps a7 fun e=>d5 (.inr (.inl e))⟩
 have f7:Blk c9 c8.heap.size (.cells [.int .i64 0,.int .i64 0,.int .i64 1,.string (shaB t15),.slice va vn vc].toArray 65):=((i6.o.keeps (f4.o.trans f5.o) fun h=>h)).keeps a7 fun e=>by
  have h1:=H6.o.1.lt'.1;have h2:=e7.o.size;have e:c8.heap.size=b:=e;omega
 have q3:c9.cell? ⟨c8.heap.size,3,none⟩=some (.string (shaB t15)):=f7.cell (i:=3) rfl
 obtain⟨nb,k7⟩:=vE c8.heap.size
 rw[<-k7]at q3 ⊢;have d6:=Hd (bA a8 (bA b3 f6));clear a8 b3 b2 f6 f7 k6 k7;have k8:(newN 2).next=1:=rfl;have k9:v1B=⟨#[49]⟩:=rfl;have l0:¬(papB pap1).toList=[]:=fun e=>jym pap1 (jbg _) (by
  rw[bR]at e;exact ByteArray.ext (Array.ext' e))
 obtain⟨pb,l1⟩:=vE (papB pap1)
 rw[<-l1]at l0 ⊢;rw[k8,k9]
 obtain⟨rt,l2⟩:=vE (shaB t15)
 rw[<-l2]at q3 ⊢;clear l1 l2 k8 k9;go_wp2_with fail
 have hU:=jj7 c9 w D2 b M15p a2 c2 K H A es2 2 X 100 (S2L z y) 1001 d6.o.1 vI vI 1;rw[jqa]at hU;refine hU.mono ?_;rintro e i1 ⟨rfl,a9,D3,a3,c3,n0,S3,f8, -,l3, -,d3⟩;obtain rfl:S3=S2L z y:=d3 jgY;obtain rfl:n0=es2:=by rw[l3 rfl];exact fA.2 jgY
 have f9:Ext w i1:=d6.o.2.1.trans' a9 fun x O e=>by
  have h1:=m9.1;have h2:=d6.o.1.s.bnew;rcases e with e | e | e | e
  ·omega
  ·omega
  ·omega
  ·obtain⟨x',d7,e⟩:=bD.1 e
   have:=d6.o.1.s.new x' d7
   omega
 have g0:Cac2 i1 A J tg tc th v1B:=by
  obtain⟨p1,p2,a1,p3⟩:=d6.o.2.2
  obtain⟨c1,c2,c3,c4,c5,c6⟩:=H3.o.2.2.2.1
  refine⟨p1.keeps a9 ?_,p2,a1,p3.keeps a9 ?_⟩
  ·rintro (e | e | e | e)
   ·exact c1 e
   ·exact c2 e
   ·exact c4 e
   ·obtain⟨x',d7,e⟩:=bD.1 e
    exact c5 x' d7 e
  ·rintro (e | e | e | e)
   ·exact d5 (.inr (.inl e))
   ·exact d5 (.inr (.inr (.inl e)))
   ·exact d5 (.inr (.inr (.inr (.inl e))))
   ·obtain⟨x',d7,e⟩:=bD.1 e
    exact d5 (.inr (.inr (.inr (.inr ⟨x',d7,e⟩))))
 have d8:=Hd (bA f8 (bA f9 g0));clear hU a9 f8 f9 g0 l3 d3 i0;go_wp2_with fail
 refine (jio i1 w D3 b M15 a3 c3 K H A es2 2 X 100 (S2L z y) 1001 d8.o.1 vI).mono ?_;rintro e n1 ⟨bv,rfl,hR⟩
 obtain⟨ba,bc,rfl⟩:=hR.sl
 have g2:=Hd hR.ext;clear hR;have n2:M15.all.length=2:=rfl;rw[n2];go_wp2_with fail
 refine (jj6 n1 w D3 b M15 a3 c3 K H A es2 2 X 100 (S2L z y) 1001 (d8.o.1.ext g2.o) (by show 2<=100000;decide)).mono ?_;rintro e n3 ⟨nv,rfl,hR⟩
 obtain⟨n8,n9,rfl⟩:=hR.sl
 have b0:=Hd (g2.o.trans hR.ext);clear hR;have n4:(S2L z y).length=2:=rfl;rw[n4];go_wp2_with fail
 refine vC (jnO n3 D3 b M15 a3 c3 K H A J tg tc es2 2 (d8.o.1.ext b0.o).m th v1B (by
  obtain⟨p1,p2,a1,p3⟩:=d8.o.2.2
  exact⟨p1.keeps b0.o (fun h=>h),p2,a1,p3.keeps b0.o (fun h=>h)⟩)) fun o0 hE=>?_;have HE:=Hd (d8.o.2.1.trans (b0.o.trans hE));clear hE;go_wp2_with fail
 go_ret
 refine⟨?_,HE.o⟩
 have n5:pb.toList.isEmpty=false:=by
  cases h:pb.toList with
  | nil=>exact absurd h l0
  | cons _ _=>rfl
 show Ending.returned (.bool (!pb.toList.isEmpty))=_;rw[n5];rfl
end
section
open Go Go.RowKit
structure ActC where
 k:Int
 v:vV
 cs:List Chg
 n:Int
def jfp(w:vW)(v:vV)(xs:List ActC):Prop:=
 (∃ a c,v=.slice a 0 c/\xs=[])\/∃ b o c,v=.slice (some ⟨b,o,none⟩) xs.length c/\b < w.heap.size/\xs.length<=c/\∀ (j:Nat) x,xs[j]?=some x->w.cell? ⟨b,o+j * 3,none⟩=some (.int .i64 x.k)/\w.cell? ⟨b,o+j * 3+1,none⟩=some x.v/\w.cell? ⟨b,o+j * 3+2,none⟩=some (.int .i64 x.n)/\RdC w x.v x.cs
theorem jfp.ext{w:vW}{v:vV}{xs:List ActC}(h:jfp w v xs)(k:Ext w w'):jfp w' v xs:=by
 rcases h with h |⟨b,o,c,h1,h2,h3,h4⟩
 ·exact .inl h
 ·exact .inr ⟨b,o,c,h1,bC h2 k.size,h3,fun j x e=>⟨jaa (h4 j x e).1 k,jaa (h4 j x e).2.1 k,jaa (h4 j x e).2.2.1 k,(h4 j x e).2.2.2.ext k⟩⟩
theorem jfp.sl{w:vW}{v:vV}{xs:List ActC}(h:jfp w v xs):∃ a c,v=.slice a xs.length c:=by
 rcases h with⟨a,c,rfl,rfl⟩ |⟨b,o,c,rfl,_⟩
 ·exact⟨a,c,rfl⟩
 ·exact⟨_,c,rfl⟩
def jfq(l:List ActC):Prop:=∀ p∈l,p.cs.length<=9223372036854775807/\∀ c∈p.cs,c.key.size<=9223372036854775807/\c.value.size<=9223372036854775807
end
section
open Go Go.RowKit
theorem jqj(l:List VerN)(bk:Int):hasB l bk=(l.map fun v=>(v.block:Int)).any fun x=>decide (x=bk):=by
 unfold hasB jbG;rw[List.findIdx?_isSome,List.any_map];rfl
theorem jiM{M:MdN}{x:Int}:(pinN M x).1.all.map (fun v=>(v.block:Int))=M.all.map fun v=>(v.block:Int):=by
 unfold pinN;split
 ·rfl
 split
 ·rfl
 split
 ·rfl
 rename_i v hv hp
 have h:=jiV (p:=v.pins+1) hv;show (jcs M _ v (v.pins+1)).map (fun v=>(v.block:Int))=_;have e:∀ l:List VerN,l.map (fun v=>(v.block:Int))=(l.map VerN.block).map fun n:Nat=>(n:Int):=fun l=>by rw[cW];rfl
 rw[e,e,h]
theorem jwa{M:MdN}{x k:Int}:hasB (pinN M x).1.all k=hasB M.all k:=by rw[jqj,jqj,jiM]
theorem jwb{M:MdN}{x:Int}:(pinN M x).1.all.length=M.all.length:=by
 have:=congrArg List.length (jiM (M:=M) (x:=x))
 simpa using this
theorem jkr{l:List VerN}{bk:Int}(h:hasB l bk=true):∃ i v,jbG l bk=some i/\l[i]?=some v:=by
 unfold hasB at h
 obtain⟨i,hi⟩:=dD.1 h
 obtain⟨v,e,_⟩:=jeW hi
 exact⟨i,v,hi,e⟩
theorem jiw{es:List (Ent Int)}{k:Int}{v:vV}(h:jay es k=some v):∃ x∈es,x.1=k/\x.2.1=v:=by
 unfold jay at h;rw[cM]at h
 obtain⟨x,q,e⟩:=h
 have A:=List.find?_some q
 exact⟨x,List.mem_of_find?_eq_some q,(of_decide_eq_true A).symm,e⟩
structure LwI(w0 W:World)(b rm sb cb mb bm:Nat)(room:Int)(M:MdN)(es:List (Ent Int))(S:vT)(i:Nat):Prop where
 inv:∃ D a c ck n,ChI w0 D W b M a c rm sb cb es ck bm room S n/\n<=1+1000 * i
 all:∀ x∈es,hasB M.all x.1=true
 rts:∀ x∈es,∃ r,x.2.1=.string r/\r.size<=1000
 cac:jfX W cb mb 0
 off:∀ x,x=cb\/x=mb->¬ ChF b rm bm S x
 len:M.all.length<=i+1
 ext:Ext w0 W
 lo:w0.heap.size<=b/\w0.heap.size<=rm
section
variable {w0 W W':vW} {b rm sb cb mb bm:Nat} {room:Int} {M:MdN} {es:List (Ent Int)} {S:vT} {i:Nat}
theorem LwI.grow(h:LwI w0 W b rm sb cb mb bm room M es S i)(e:Ext W W'):LwI w0 W' b rm sb cb mb bm room M es S i:=by
 obtain⟨D,a,c,q,n,A,H⟩:=h.inv
 exact⟨⟨D,a,c,q,n,A.ext e,H⟩,h.all,h.rts,h.cac.keeps e (fun h=>h) (fun h=>h),h.off,h.len,h.ext.trans e,h.lo⟩
theorem LwI.low(h:LwI w0 W b rm sb cb mb bm room M es S i):∀ x,ChF b rm bm S x->w0.heap.size<=x/\x < W.heap.size:=by
 obtain⟨D,a,c,K,n,q,O⟩:=h.inv
 have A:=q.lt';have H:=h.lo;rintro x (e | e | e | e)
 ·omega
 ·omega
 ·have:=q.s.bnew;omega
 ·obtain⟨y,J,rfl⟩:=bD.1 e
  exact⟨q.s.new y J,A.2.2.2.2 _ e⟩
theorem LwI.far(h:LwI w0 W b rm sb cb mb bm room M es S i)(k:jac (ChF b rm bm S) W W'):Ext w0 W':=h.ext.trans' k fun x q e=>by have:=(h.low x e).1;omega
end
def DoP(w0 w:vW)(b rm sb cb mb bm:Nat)(room:Int)(M:MdN)(es:List (Ent Int))(S:vT)(i:Nat)(g:Int)(w':vW):Prop:=
 ∃ M' es' S',jac (ChF b rm bm S) w w'/\LwI w0 w' b rm sb cb mb bm room M' es' S' (i+1)/\(g≠0->M'=M/\es'=es/\S'=S)
theorem jvO(w0 w:vW)(X:jbA w0)(he:ErrT w0)(b rm sb cb mb bm:Nat)(room:Int)(M:MdN)(es:List (Ent Int))(S:vT)(i:Nat)(h:LwI w0 w b rm sb cb mb bm room M es S i)(hi:i<=15)(hr:0<=room/\room<=9223372036854775807)(u:vV)(cs:List Chg)(hu:RdC w0 u cs)(hnc:cs.length<=1000)(hsc:∀ c∈cs,c.key.size<=1000/\c.value.size<=1000) :
  vQ 14 #[.pointer (some ⟨b,0,none⟩),u] w fun e w'=>∃ (x g:Int),e=.returned (.tuple #[.int .i64 x,.int .i64 g])/\DoP w0 w b rm sb cb mb bm room M es S i g w':=by
 obtain⟨D,a,c,Z,n,hI,hn⟩:=h.inv
 have a1:=h.len;refine (jip w w0 D b M a c rm sb cb es Z bm room S n hI vO vO h.all u cs (hu.ext h.ext) hnc hsc (CmN room S (jfh es M) cs) (CmR S (jfh es M) cs) (fun W k hS=>by
  have K:Ext w0 W:=h.far (k.mono fun x _ e=>.inl e);exact jj3 w0 W (X.ext K) (he.ext K) sb bm room S n hS K.size vO hr _ u cs (hu.ext K) vO (fun c X=>by have:=hsc c X;omega))).mono ?_
 rintro e w' (⟨k,hk, -,rfl,A,J⟩ |⟨h0,t,S1,S',D',a',c',hR,rfl,A,J,a0, -, -⟩)
 ·have H:jac (ChF b rm bm S) w w':=J.mono fun x _ e=>.inl e
  exact⟨0,k,rfl,M,es,S,H,⟨⟨D,a,c,Z,n,A,by omega⟩,h.all,h.rts,h.cac.keeps H (h.off cb (.inl rfl)) (h.off mb (.inr rfl)),h.off,by omega,h.far H,h.lo⟩,fun _=>⟨rfl,rfl,rfl⟩⟩
 ·refine⟨_,0,rfl,(jaU M cs).1,_,S',J,⟨⟨D',a',c',Z+1,n+1000,A,by omega⟩,fun x q=>(cI.1 q).2,fun x q=>?_,h.cac.keeps J (h.off cb (.inl rfl)) (h.off mb (.inr rfl)),fun x q=>?_,by have:=jiq (M:=M) (cs:=cs);omega,h.far J,h.lo⟩,fun h=>absurd rfl h⟩
  ·have q:=(cI.1 q).1
   unfold jgN at q;rcases bQ.1 q with q | q
   ·exact h.rts x q
   ·rw[bM.1 q]
    obtain⟨P,k0,G,N, -,rfl, -⟩:=hR
    exact⟨_,rfl,by rw[jbg];decide⟩
  ·have O:=h.off x q
   have hl:x < w.heap.size:=by
    rcases q with rfl | rfl
    ·exact h.cac.1.lt
    ·exact h.cac.2.lt
   rintro (e | e | e | e)
   ·exact O (.inl e)
   ·exact O (.inr (.inl e))
   ·exact O (.inr (.inr (.inl e)))
   ·obtain⟨y,hy,rfl⟩:=bD.1 e
    rcases a0 y hy with e | e
    ·exact O (.inr (.inr (.inr e)))
    ·omega
theorem lpin(w0 w:vW)(b rm sb cb mb bm:Nat)(room:Int)(M:MdN)(es:List (Ent Int))(S:vT)(i:Nat)(h:LwI w0 w b rm sb cb mb bm room M es S i)(hi:i<=15)(x:Int) :
  vQ 22 #[.pointer (some ⟨b,0,none⟩),.int .i64 x] w fun e w'=>∃ (x g:Int),e=.returned (.tuple #[.int .i64 x,.int .i64 g])/\DoP w0 w b rm sb cb mb bm room M es S i g w':=by
 obtain⟨D,a,c,H,n,K,hn⟩:=h.inv
 have J:=h.len;refine (jpy w w0 D b M a c rm sb cb es H bm room S n K vO x).mono ?_;rintro e w' ⟨rfl,O,X,Z,c',A⟩;have q:jac (ChF b rm bm S) w w':=O.mono fun x _ e=>.inl e
 refine⟨_,_,rfl,(pinN M x).1,es,S,q,⟨⟨X,Z,c',H,n,A,by omega⟩,fun y hy=>?_,h.rts,h.cac.keeps q (h.off cb (.inl rfl)) (h.off mb (.inr rfl)),h.off,by rw[jwb];omega,h.far q,h.lo⟩,fun hg=>⟨(jrf hg).1,rfl,rfl⟩⟩
 rw[jwa];exact h.all y hy
theorem jx8(w0 w:vW)(b rm sb cb mb bm:Nat)(room:Int)(M:MdN)(es:List (Ent Int))(S:vT)(i:Nat)(h:LwI w0 w b rm sb cb mb bm room M es S i)(hi:i<=15)(x:Int) :
  vQ 23 #[.pointer (some ⟨b,0,none⟩),.int .i64 x] w fun e w'=>∃ g:Int,e=.returned (.int .i64 g)/\DoP w0 w b rm sb cb mb bm room M es S i g w':=by
 obtain⟨D,a,c,Z,n,hI,hn⟩:=h.inv
 have a0:=h.len;refine (jj7 w w0 D b M a c rm sb cb es Z bm room S n hI vO vO x).mono ?_;rintro e w' ⟨rfl,hK,D',a',c',K,S',O,X,h2,h3, -⟩;have H:jac (ChF b rm bm S) w w':=hK.mono fun x _ e=>e.elim .inl fun e=>.inr e
 refine⟨_,rfl,(jbI M x).1,K,S',H,⟨⟨D',a',c',Z,n,O,by omega⟩,fun y q=>?_,fun y q=>?_,h.cac.keeps H (h.off cb (.inl rfl)) (h.off mb (.inr rfl)),fun y q=>?_,by have:=jk4 (M:=M) (x:=x);omega,h.far H,h.lo⟩,fun A=>⟨jhX A,X A⟩⟩
 ·by_cases A:(jbI M x).2=0
  ·rw[h2 A]at q
   exact (cI.1 q).2
  ·rw[(X A).1]at q
   rw[jhX A];exact h.all y q
 ·by_cases A:(jbI M x).2=0
  ·rw[h2 A]at q
   exact h.rts y (cI.1 q).1
  ·rw[(X A).1]at q
   exact h.rts y q
 ·have J:=h.off y q
  rintro (e | e | e | e)
  ·exact J (.inl e)
  ·exact J (.inr (.inl e))
  ·exact J (.inr (.inr (.inl e)))
  ·obtain⟨z,hz,rfl⟩:=bD.1 e
   obtain⟨u,hu,e⟩:=h3 z hz
   exact J (.inr (.inr (.inr (by rw[e];exact List.mem_map_of_mem hu))))
theorem do_c(w0 w:vW)(hc:jbA w0)(he:ErrT w0)(b rm sb cb mb bm:Nat)(room:Int)(M:MdN)(es:List (Ent Int))(S:vT)(i:Nat)(h:LwI w0 w b rm sb cb mb bm room M es S i)(hi:i<=15)(hr:0<=room/\room<=9223372036854775807)(p:ActC)(hu:RdC w0 p.v p.cs)(hnc:p.cs.length<=1000)(hsc:∀ c∈p.cs,c.key.size<=1000/\c.value.size<=1000) :
  vQ 11 #[.pointer (some ⟨b,0,none⟩),.agg #[.int .i64 p.k,p.v,.int .i64 p.n]] w fun e w'=>∃ (x g:Int),e=.returned (.tuple #[.int .i64 x,.int .i64 g])/\DoP w0 w b rm sb cb mb bm room M es S i g w':=by
 obtain⟨k,v,cs,n⟩:=p
 simp only at hu hnc hsc ⊢;have q:=(ExtR w).alloc (.cells #[.int .i64 k,v,.int .i64 n] 43);have A:=Blk.new w (.cells #[.int .i64 k,v,.int .i64 n] 43)
 obtain⟨K,O,rfl⟩:=hu.sl
 have q0:(w.alloc (.cells #[.int .i64 k,.slice K cs.length O,.int .i64 n] 43)).cell? ⟨w.heap.size,0,none⟩=some (.int .i64 k):=A.cell (i:=0) rfl;have q1:(w.alloc (.cells #[.int .i64 k,.slice K cs.length O,.int .i64 n] 43)).cell? ⟨w.heap.size,1,none⟩=some (.slice K cs.length O):=A.cell (i:=1) rfl;have q2:(w.alloc (.cells #[.int .i64 k,.slice K cs.length O,.int .i64 n] 43)).cell? ⟨w.heap.size,2,none⟩=some (.int .i64 n):=A.cell (i:=2) rfl;have up:∀ {g:Int} {w':vW},DoP w0 (w.alloc (.cells #[.int .i64 k,.slice K cs.length O,.int .i64 n] 43)) b rm sb cb mb bm room M es S i g w'->DoP w0 w b rm sb cb mb bm room M es S i g w':=fun ⟨M',Z,S',h1,h2⟩=>⟨M',Z,S',(q.mono fun _ _ e=>e.elim).trans h1,h2⟩;have HK:=Hd (bA (jvO w0 _ hc he b rm sb cb mb bm room M es S i (h.grow q) hi hr _ cs hu hnc hsc) (bA (lpin w0 _ b rm sb cb mb bm room M es S i (h.grow q) hi n) (jx8 w0 _ b rm sb cb mb bm room M es S i (h.grow q) hi n)));have J:=Hd (fun g w'=>up (g:=g) (w':=w'));clear up A q h hc he hu hnc hsc hi hr;go_enter Tryz.func11,Tryz.ntmps11
 by_cases h0:k=0
 ·subst h0
  go_wp2_with fail
  refine HK.o.1.mono ?_;rintro e w' ⟨x,g,rfl,H⟩;have X:=Hd (J.o g w' H);clear H;go_wp2_with fail
  go_ret2
  exact⟨_,_,rfl,X.o⟩
 ·by_cases h1:k=1
  ·subst h1
   go_wp2_with fail
   refine HK.o.2.1.mono ?_;rintro e w' ⟨x,g,rfl,H⟩;have X:=Hd (J.o g w' H);clear H;go_wp2_with fail
   go_ret2
   exact⟨_,_,rfl,X.o⟩
  ·go_wp2_with fail
   refine HK.o.2.2.mono ?_;rintro e w' ⟨g,rfl,H⟩;have X:=Hd (J.o g w' H);clear H;go_wp2_with fail
   go_ret2
   exact⟨_,_,rfl,X.o⟩
end
section
open Go Go.RowKit
def jeb(c:Chg):Bool:=decide (c.key.size<=20) && decide (c.value.size<=100)
def fewC(l:List Chg):Bool:=l.all jeb && decide (l.length<=45)
def jw5(w:vW)(l:List Chg)(i:vV)(wr:vW):Prop:=∃ k:Nat,k<=l.length/\k<=46/\i=.int .i64 k/\Ext w wr/\(l.take k).all jeb=true
theorem joV{k:Nat}{p:Chg}(h:l[k]?=some p):(l.take (k+1)).all jeb=((l.take k).all jeb && jeb p):=by
 rw[bX,h,List.all_append];simp
theorem jlZ{k:Nat}{p:Chg}(h:l[k]?=some p)(hb:jeb p=false):fewC l=false:=by
 unfold fewC
 have:l.all jeb=false:=by
  rw[dM];intro e
  have:=dI.1 e p (bG h)
  rw[hb]at this;cases this
 rw[this];rfl
theorem jxS(l:List Chg)(hv:RdC w v l)(hn:l.length<=9223372036854775807)(hs:∀ p∈l,p.key.size<=9223372036854775807/\p.value.size<=9223372036854775807) :
  vR 62 #[v] w (.bool (fewC l)):=by
 have HV:=Hd hv;have HS:=Hd hs
 obtain⟨a,c,rfl⟩:=hv.sl;clear hv hs
 obtain⟨R,X⟩:=vE (fewC l)
 rw[<-X];have K:=Hd X;clear X;go_enter Tryz.func62,Tryz.ntmps62;go_wp2_with fail
 go_loopw [3] (fun i wr=>jw5 w l i wr) (fun i _=>l.length - (intOf i).toNat)
 case atStart=>exact⟨0,by omega,by omega,rfl,ExtR w,rfl⟩
 case round =>
  obtain⟨k,hk,a1,rfl,hE,e⟩:=hrel
  have q:=Hd hE;have H:=Hd e;clear hE e
  by_cases hlt:k < l.length
  ·have b1:(k:Int) < (l.length:Int):=vO
   by_cases h45:k<=45
   ·have Z:(k:Int)<=45:=vO
    obtain⟨p,O⟩:∃ p,l[k]?=some p:=⟨_,bB hlt⟩
    rcases HV.o with⟨_,_,_,h0⟩ |⟨b,o,c1,hh,hb,hc,hcell⟩
    ·rw[h0]at hlt;cases hlt
    cases hh
    obtain⟨q1,q2,q3⟩:=hcell k p O
    have q1:=jaa q1 q.o;have q2:=jaa q2 q.o;have q3:=jaa q3 q.o;have a0:=HS.o p (bG O);have HP:=Hd O
    obtain⟨x,y,gn⟩:=p
    simp only at q1 q2 q3 a0;clear hcell hb hc O
    by_cases hx:20 < x.size
    ·have b3:(20:Int) < (x.size:Int):=vO
     have A:=Hd (show R=false by rw[K.o];exact jlZ HP.o (by unfold jeb;simp;omega));clear hx;go_wp2_with fail
     go_ret
     exact⟨by rw[A.o];rfl,q.o⟩
    ·have b3:¬(20:Int) < (x.size:Int):=vO
     by_cases hy:100 < y.size
     ·have b4:(100:Int) < (y.size:Int):=vO
      have A:=Hd (show R=false by rw[K.o];exact jlZ HP.o (by unfold jeb;simp;omega));clear hx hy;go_wp2_with fail
      go_ret
      exact⟨by rw[A.o];rfl,q.o⟩
     ·have b4:¬(100:Int) < (y.size:Int):=vO
      have HG:=Hd (show (l.take (k+1)).all jeb=true by rw[joV HP.o,H.o];unfold jeb;simp;omega);clear hx hy;go_wp2_with fail
      go_roundw
      case rel=>exact⟨k+1,by omega,by omega,by go_num,q.o,HG.o⟩
      case measure=>exact vJ
   ·have Z:¬(k:Int)<=45:=vO
    have b3:¬(l.length:Int)<=45:=vO
    have A:=Hd (show R=false by rw[K.o];unfold fewC;simp;omega);clear h45;go_wp2_with fail
    go_ret
    exact⟨by rw[A.o];rfl,q.o⟩
  ·have J:k=l.length:=vO
   have b1:¬(k:Int) < (l.length:Int):=vO
   have e:=H.o;rw[J,cG]at e
   by_cases h45:l.length<=45
   ·have Z:(l.length:Int)<=45:=vO
    have A:=Hd (show R=true by rw[K.o];unfold fewC;rw[e];simp;omega);clear J e h45;go_wp2_with fail
    go_ret
    exact⟨by rw[A.o];rfl,q.o⟩
   ·have Z:¬(l.length:Int)<=45:=vO
    have A:=Hd (show R=false by rw[K.o];unfold fewC;simp;omega);clear J e h45;go_wp2_with fail
    go_ret
    exact⟨by rw[A.o];rfl,q.o⟩
end
section
open Go Go.RowKit
attribute [local go_sem] Oper.semAt_some
def jxm(w:vW)(n:Nat)(iv:vV)(W:vW)(l m:vM):Prop:=∃ i:Nat,i<=n/\iv=.int .i64 i/\l.take i=m.take i/\Ext w W
theorem jwu(u:vV)(l m:vM)(hv:RdS w v l)(hu:RdS w u m)(hn:l.length<=1000000)(hn2:m.length<=1000000):vR 13 #[v,u] w (.bool (decide (l=m))):=by
 obtain⟨a,c,rfl,_⟩:=hv.slice
 obtain⟨a2,c2,rfl,_⟩:=hu.slice
 have HV:=Hd hv;have HU:=Hd hu;clear hv hu
 by_cases hl:l.length=m.length
 ·have a7:(l.length:Int)=(m.length:Int):=vO
  obtain⟨n,A⟩:=vE l.length
  have Z:m.length=n:=vO
  have a0:=Hd Z;have a1:=Hd A;rw[Z, <-A];rw[<-A]at hn;clear a7 hl Z A hn2;unfold vR vQ;go_in;go_wp2_with fail
  go_loopw [5] (fun iv wr=>jxm w n iv wr l m) (fun iv _=>n - (intOf iv).toNat)
  case atStart=>exact⟨0,cB _,rfl,rfl,ExtR w⟩
  case round =>
   obtain⟨i,hi,rfl,a3,hE⟩:=hrel
   have HE:=Hd hE;have a4:=Hd a3;clear hE a3
   by_cases hlt:i < n
   ·have b1:(i:Int) < (n:Int):=vO
    have H:i < l.length:=by have:=a1.o;omega
    have J:i < m.length:=by have:=a0.o;omega
    obtain⟨x,hx⟩:∃ x,l[i]?=some x:=⟨_,bB H⟩
    obtain⟨y,hy⟩:∃ y,m[i]?=some y:=⟨_,bB J⟩
    have a8:RdS w (.slice a n c) l:=by have:=HV.o;rwa [<-a1.o]at this
    have a9:RdS w (.slice a2 n c2) m:=by have:=HU.o;rwa [a0.o]at this
    have K:∃ ba oa,a=some ⟨ba,oa,none⟩/\wr.cell? ⟨ba,oa+i,none⟩=some (.string x):=by
     rcases HV.o with⟨_,_,_,h0⟩ |⟨bq,oq,cq,hh,_,_,hcell⟩
     ·rw[h0]at H;cases H
     ·exact⟨bq,oq,(dC hh).1,jaa (hcell i x hx) HE.o⟩
    have O:∃ ba oa,a2=some ⟨ba,oa,none⟩/\wr.cell? ⟨ba,oa+i,none⟩=some (.string y):=by
     rcases HU.o with⟨_,_,_,h0⟩ |⟨bq,oq,cq,hh,_,_,hcell⟩
     ·rw[h0]at J;cases J
     ·exact⟨bq,oq,(dC hh).1,jaa (hcell i y hy) HE.o⟩
    obtain⟨ba,oa,rfl,K⟩:=K
    obtain⟨b0,b2,rfl,O⟩:=O
    have HX:=Hd hx;have HY:=Hd hy;have Q1:=Hd K;have Q2:=Hd O;clear a8 a9 H J hx hy K O;go_wp2_with fail
    refine jaj [0,1,2,3,4,5,6,7,8] Ext ExtR ExtT vY vY vY ?_;iterate 3 refine vK ?_
    refine qKL ⟨ba,oa+i,none⟩ _ rfl (fun w1 X=>jab Tryz.underlying9 rfl (jaa Q1.o ((jak wr).trans X))) ?_;refine vS ?_;iterate 3 refine vK ?_
    refine qKL ⟨b0,b2+i,none⟩ _ rfl (fun w1 X=>jab Tryz.underlying9 rfl (jaa Q2.o ((jak wr).trans X))) ?_;refine vS ?_
    refine vK ?_
    refine qKE (fun w3 he=>?_);have a5:=Hd (HE.o.trans ((jak wr).trans he));clear he HE Q1 Q2
    by_cases hxy:x=y
    ·subst hxy
     have q:(!x.toList == x.toList)=false:=by simp
     rw[q];clear q;have HT:=Hd (show l.take (i+1)=m.take (i+1) by rw[bX,bX,HX.o,HY.o,a4.o]);go_wp2_with fail
     go_roundw
     case rel=>exact⟨i+1,by omega,by go_num,HT.o,a5.o⟩
     case measure=>exact vJ
    ·have q:(!x.toList == y.toList)=true:=by
      have:¬ x.toList=y.toList:=fun e=>hxy (jiY e)
      simpa using this
     rw[q];clear q;have HN:=Hd (show decide (l=m)=false from decide_eq_false (fun e=>by
      have X:=HX.o;rw[e,HY.o]at X;exact hxy (bP X).symm))
     go_wp2_with fail
     go_ret
     exact⟨by rw[HN.o];rfl,a5.o⟩
   ·have b3:i=n:=vO
    have HD:=Hd (show decide (l=m)=true from decide_eq_true (by
     have X:=a4.o;rw[b3,cF (by rw[<-a1.o];exact bL _),cF (by rw[a0.o];exact bL _)]at X;exact X))
    go_wp2_with fail
    go_ret
    exact⟨by rw[HD.o];rfl,HE.o⟩
 ·have HL:Hid (decide (l=m)=false):=(decide_eq_false (fun e=>hl (by rw[e])))
  have hb:((l.length:Int) ==(m.length:Int))=false:=by simp;omega
  have b4:¬(l.length:Int)=(m.length:Int):=vO
  rw[HL.o];unfold vR vQ;go_in;go_wp2_with fail
  go_ret
  exact⟨rfl,ExtR w⟩
end
section
open Go Go.RowKit
attribute [local go_sem] Oper.semAt_some
noncomputable def rootA(es:List (Ent Int))(bk:Int):vB × Int:=match jay es bk with
 | some (.string r)=>(r,0)
 | _=>(⟨#[]⟩,4)
noncomputable def trieA(S:vT)(r key:vB):vB × Int:=match atL S r.data.toList with
 | none=>(⟨#[]⟩,4)
 | some y=>match folN S ((jaJ key).size+1) (nodeOf y.2.2.text) (jaJ key)with
  | some u=>(u,0)
  | none=>(⟨#[]⟩,9)
noncomputable def getA(es:List (Ent Int))(S:vT)(bk:Int)(key:vB):vB × Int:=match jay es bk with
 | some (.string r)=>trieA S r key
 | _=>(⟨#[]⟩,4)
theorem juk{S:vT}{r key:vB}:(trieA S r key).2≠0->(trieA S r key).1=⟨#[]⟩:=by
 unfold trieA;split
 ·exact fun _=>rfl
 ·split
  ·exact fun h=>absurd rfl h
  ·exact fun _=>rfl
theorem jrQ(W:vW)(s bm:Nat)(room:Int)(S:vT)(hs:jax W s bm room S)(hN:jfn S)(r key:vB)(hk:key.size<=1000) :
  vR 36 #[.pointer (some ⟨s,0,none⟩),.string r,.string key] W (.tuple #[.string (trieA S r key).1,.int .i64 (trieA S r key).2]):=by
 unfold trieA;cases hy:atL S r.data.toList with
 | none=>exact jvF W s bm room S hs r key hy
 | some y =>
  refine (jmA W s bm room S hs hN r y hy key hk).mono ?_;rintro e w' ⟨rfl,q⟩
  refine⟨?_,q⟩
  dsimp only;cases folN S ((jaJ key).size+1) (nodeOf y.2.2.text) (jaJ key) <;> rfl
section
variable (w0 w:vW) (b rm sb cb mb bm:Nat) (room:Int) (M:MdN) (es:List (Ent Int)) (S:vT) (i:Nat)
theorem jx7(h:LwI w0 w b rm sb cb mb bm room M es S i)(hi:i<=15)(bk:Int) :
  vR 9 #[.pointer (some ⟨b,0,none⟩),.int .i64 bk] w (.tuple #[.string (rootA es bk).1,.int .i64 (rootA es bk).2]):=by
 obtain⟨D,a,c,e,n,q,hn⟩:=h.inv
 have A:=h.len;unfold rootA;cases hg:jay es bk with
 | none=>exact jpB w D b M a c rm sb cb es e q.m bk hg
 | some v =>
  obtain⟨x,H,K,O⟩:=jiw hg
  obtain⟨r,J,h4⟩:=h.rts x H
  rw[O]at J;subst J;have hb:=h.all x H;rw[K]at hb
  obtain⟨j,X,Z,hv⟩:=jkr hb
  exact jmd w D b M a c rm sb cb es e q.m vO bk j X r Z hv hg
theorem lget(h:LwI w0 w b rm sb cb mb bm room M es S i)(hi:i<=15)(bk:Int)(key:vB)(hk:key.size<=1000) :
  vR 10 #[.pointer (some ⟨b,0,none⟩),.int .i64 bk,.string key] w (.tuple #[.string (getA es S bk key).1,.int .i64 (getA es S bk key).2]):=by
 obtain⟨D,a,c,K,n,q,hn⟩:=h.inv
 have O:=h.len;unfold getA;cases hg:jay es bk with
 | none=>exact jmb w D b M a c rm sb cb es K q.m bk hg key
 | some v =>
  obtain⟨x,X,A,h2⟩:=jiw hg
  obtain⟨r,Z,h4⟩:=h.rts x X
  rw[h2]at Z;subst Z;have hb:=h.all x X;rw[A]at hb
  obtain⟨j,vv,hp,hv⟩:=jkr hb
  have hC:=h.cac;refine (jpw w D b M a c rm sb cb es K q.m vO bk j vv r hp hv hg h4 key (trieA S r key).1 hk (trieA S r key).2 (fun W=>Ext w W) (fun W=>Ext w W) (fun W=>Ext w W)
   (fun W k=>(jvi W cb mb (hC.keeps k (fun h=>h) (fun h=>h)) _).mono fun e W' ⟨H,J⟩=>⟨H,k.trans J⟩)
   (fun W k=>(q.ext k).m.blk)
   (fun W k=>(jrQ W sb bm room S (q.ext k).s.st (q.ext k).s.all r key hk).mono fun e W' ⟨H,J⟩=>⟨H,k.trans J⟩)
   (fun W k=>(q.ext k).m.blk)
   (fun _ W k=>(jpF W cb mb (hC.keeps k (fun h=>h) (fun h=>h)) _ _).mono fun e W' ⟨H,J⟩=>⟨false,H,k.trans J⟩)).mono ?_
  intro e w' hq;show e=.returned (.tuple #[.string (trieA S r key).1,.int .i64 (trieA S r key).2])/\Ext w w';rcases (show _\/_ from hq)with⟨A,rfl,hE⟩ |⟨A,rfl,hE⟩
  ·rw[A];exact⟨rfl,hE⟩
  ·rw[juk A];exact⟨rfl,hE⟩
def bkI(l:List VerN):List Int:=l.map fun v=>(v.block:Int)
theorem jqx(h:LwI w0 w b rm sb cb mb bm room M es S i)(hi:i<=15) :
  vQ 7 #[.pointer (some ⟨b,0,none⟩)] w fun e w'=>∃ v,e=.returned v/\ORow 3 1 w w' v (bkI M.all).length ((bkI M.all).map (Value.int .i64)):=by
 obtain⟨D,a,c,A,n,H,X⟩:=h.inv
 have q:=h.len;refine (jio w w0 D b M a c rm sb cb es A bm room S n H vO).mono ?_;rintro e w' ⟨v,rfl,J⟩
 refine⟨v,rfl,?_⟩
 have K:(bkI M.all).length=M.all.length:=by unfold bkI;simp
 have O:(bkI M.all).map (Value.int .i64)=bkV M.all:=by unfold bkI bkV;rw[cW];rfl
 rw[K,O];exact J
theorem LwI.slen(h:LwI w0 w b rm sb cb mb bm room M es S i)(hi:i<=15):S.length<=100000/\(S.length:Int)<=room:=by
 obtain⟨D,a,c,q,n,e,A⟩:=h.inv
 have:=e.s.len
 exact⟨by omega,e.s.fit⟩
theorem jqD(h:LwI w0 w b rm sb cb mb bm room M es S i)(hi:i<=15) :
  vQ 8 #[.pointer (some ⟨b,0,none⟩)] w fun e w'=>∃ v,e=.returned v/\SRow w w' v S.length (baL (jdo (S.map (·.1)))):=by
 have q:=h.slen (hi:=hi)
 obtain⟨D,a,c,A,n,H,J⟩:=h.inv
 exact jj6 w w0 D b M a c rm sb cb es A bm room S n H q.1
end
def RdN(w:vW)(v:vV)(xs:List Int):Prop:=(∃ a c,v=.slice a 0 c/\xs=[])\/∃ b c,v=.slice (some ⟨b,0,none⟩) xs.length c/\∀ (j:Nat) x,xs[j]?=some x->w.cell? ⟨b,0+j,none⟩=some (.int .i64 x)
theorem ORow.rdN{w0 w:vW}{v:vV}{xs:List Int}(h:ORow 3 1 w0 w v xs.length (xs.map (Value.int .i64))):RdN w v xs:=by
 obtain⟨_,⟨rfl,H⟩ |⟨g,e,A,rfl,J,K,O,X,Z⟩⟩:=h.own
 ·exact .inl ⟨none,0,rfl,bO vO⟩
 ·refine .inr ⟨g,e,rfl,fun j x q=>?_⟩
  have hj:=(bH.1 q).1
  have:=h.own.cellAt j vO
  rw[bT,this,bV,q];rfl
theorem RdN.ext{w w':vW}{v:vV}{xs:List Int}(h:RdN w v xs)(k:Ext w w'):RdN w' v xs:=by
 rcases h with h |⟨b,c,h1,h4⟩
 ·exact .inl h
 ·exact .inr ⟨b,c,h1,fun j x e=>jaa (h4 j x e) k⟩
theorem RdN.sl{w:vW}{v:vV}{xs:List Int}(h:RdN w v xs):∃ a c,v=.slice a xs.length c:=by
 rcases h with⟨a,c,h1,h2⟩ |⟨b,c,h1,_⟩
 ·exact⟨a,c,by rw[h1,h2];rfl⟩
 ·exact⟨_,c,h1⟩
def jy1(w:vW)(n:Nat)(iv:vV)(W:vW):Prop:=∃ i:Nat,i<=n/\iv=.int .i64 i/\Ext w W
theorem jow(w:vW)(v u:vV)(l:List Int)(hv:RdN w v l)(hu:RdN w u l)(hn:l.length<=1000000):vR 12 #[v,u] w (.bool true):=by
 obtain⟨a,c,rfl⟩:=hv.sl
 obtain⟨a2,c2,rfl⟩:=hu.sl
 have HV:=Hd hv;have HU:=Hd hu;clear hv hu
 obtain⟨n,H⟩:=vE l.length
 have X:=Hd H;rw[<-H]at hn ⊢;clear H;unfold vR vQ;go_in;go_wp2_with fail
 go_loopw [5] (fun Z wr=>jy1 w n Z wr) (fun Z _=>n - (intOf Z).toNat)
 case atStart=>exact⟨0,cB _,rfl,ExtR w⟩
 case round =>
  obtain⟨i,hi,rfl,hE⟩:=hrel
  have O:=Hd hE;clear hE
  by_cases hlt:i < n
  ·have b1:(i:Int) < (n:Int):=vO
   have e:i < l.length:=by have:=X.o;omega
   obtain⟨x,hx⟩:∃ x,l[i]?=some x:=⟨_,bB e⟩
   have q:∃ J K,a=some ⟨J,K,none⟩/\wr.cell? ⟨J,K+i,none⟩=some (.int .i64 x):=by
    rcases HV.o with⟨_,_,_,h0⟩ |⟨bq,cq,hh,hcell⟩
    ·rw[h0]at e;cases e
    ·exact⟨bq,0,(dC hh).1,jaa (hcell i x hx) O.o⟩
   have A:∃ J K,a2=some ⟨J,K,none⟩/\wr.cell? ⟨J,K+i,none⟩=some (.int .i64 x):=by
    rcases HU.o with⟨_,_,_,h0⟩ |⟨bq,cq,hh,hcell⟩
    ·rw[h0]at e;cases e
    ·exact⟨bq,0,(dC hh).1,jaa (hcell i x hx) O.o⟩
   obtain⟨J,K,rfl,q⟩:=q
   obtain⟨a0,a1,rfl,A⟩:=A
   have Q1:=Hd q;have Q2:=Hd A;clear e hx q A;go_wp2_with fail
   refine jaj [0,1,2,3,4,5,6,7,8] Ext ExtR ExtT vY vY vY ?_;iterate 3 refine vK ?_
   refine qKL ⟨J,K+i,none⟩ _ rfl (fun w1 h1=>jab Tryz.underlying3 rfl (jaa Q1.o ((jak wr).trans h1))) ?_;refine vS ?_;iterate 3 refine vK ?_
   refine qKL ⟨a0,a1+i,none⟩ _ rfl (fun w1 h1=>jab Tryz.underlying3 rfl (jaa Q2.o ((jak wr).trans h1))) ?_;refine vS ?_
   refine vK ?_
   refine qKE (fun w3 he=>?_);have a3:=Hd (O.o.trans ((jak wr).trans he));clear he O Q1 Q2;go_wp2_with fail
   go_roundw
   case rel=>exact⟨i+1,by omega,by go_num,a3.o⟩
   case measure=>exact vJ
  ·have a4:i=n:=vO
   go_wp2_with fail
   go_ret
   exact⟨rfl,O.o⟩
def FewP(w:vW)(P:Prop)(e:Ending)(w':vW):Prop:=(∃ r:Bool,e=.returned (.bool r)/\(r=true->P))/\Ext w w'
def jw1(w:vW)(l:List ActC)(i:vV)(wr:vW):Prop:=∃ k:Nat,k<=l.length/\k<=31/\i=.int .i64 k/\Ext w wr/\∀ p∈l.take k,fewC p.cs=true
theorem jvC(w:vW)(v:vV)(l:List ActC)(hv:jfp w v l)(hn:l.length<=9223372036854775807)(hs:jfq l) :
  vQ 30 #[v] w (FewP w (∀ p∈l,fewC p.cs=true)):=by
 have HV:=Hd hv;have HS:=Hd hs
 obtain⟨a,c,rfl⟩:=hv.sl;clear hv hs;go_enter Tryz.func30,Tryz.ntmps30;go_wp2_with fail
 go_loopw [3] (fun i wr=>jw1 w l i wr) (fun i _=>l.length - (intOf i).toNat)
 case atStart=>exact⟨0,by omega,by omega,rfl,ExtR w,fun p J=>by simp at J⟩
 case round =>
  obtain⟨k,hk,a2,rfl,hE,e⟩:=hrel
  have K:=Hd hE;have A:=Hd e;clear hE e
  by_cases hlt:k < l.length
  ·have b1:(k:Int) < (l.length:Int):=vO
   by_cases h45:k<=30
   ·have b2:(k:Int)<=30:=vO
    obtain⟨p,J⟩:∃ p,l[k]?=some p:=⟨_,bB hlt⟩
    rcases HV.o with⟨_,_,_,h0⟩ |⟨b,o,c1,hh,hb,hc,hcell⟩
    ·rw[h0]at hlt;cases hlt
    cases hh
    obtain⟨q1,q2,q3,q4⟩:=hcell k p J
    have q2:=jaa q2 K.o;have HP:=Hd (bA J (q4.ext K.o));have O:=Hd (HS.o p (bG J))
    obtain⟨pa,pc,X⟩:=q4.sl
    rw[X]at q2;clear hcell hb hc J q1 q3 q4;go_wp2_with fail
    refine vH (jxS wr _ p.cs (by rw[<-X];exact HP.o.2) O.o.1 O.o.2) fun w2 a1=>?_;have Z:=Hd (K.o.trans a1);clear q2;cases hf:fewC p.cs with
    | false =>
     go_wp2_with fail
     go_ret
     exact⟨⟨false,rfl,fun h=>by cases h⟩,Z.o⟩
    | true =>
     have HF:=Hd hf;clear hf;go_wp2_with fail
     go_roundw
     case rel=>exact⟨k+1,by omega,by omega,by go_num,Z.o,fun q H=>by
      rw[bX,HP.o.1]at H;rcases bQ.1 H with H | H
      ·exact A.o q H
      ·have H:q=p:=by simpa using H
       rw[H];exact HF.o⟩
     case measure=>exact vJ
   ·have b2:¬(k:Int)<=30:=vO
    have b3:¬(l.length:Int)<=30:=vO
    clear h45;go_wp2_with fail
    go_ret
    exact⟨⟨false,rfl,fun h=>by cases h⟩,K.o⟩
  ·have a0:k=l.length:=vO
   have b1:¬(k:Int) < (l.length:Int):=vO
   have e:=A.o;rw[a0,cG]at e;have HA:=Hd e;clear e a0;go_wp2_with fail
   go_ret
   exact⟨⟨_,rfl,fun _=>HA.o⟩,K.o⟩
def jyS(w:vW)(k t:vB)(i:vV)(wr:vW):Prop:=(i=.int .i64 0\/(i=.int .i64 1/\k.size<=50/\t.size<=50))/\Ext w wr
theorem jmv(w:vW)(v:vV)(l:List ActC)(hv:jfp w v l)(hn:l.length<=9223372036854775807)(hs:jfq l)(g:Nat)(bk lm:Int)(k t:vB)(hk:k.size<=9223372036854775807)(ht:t.size<=9223372036854775807)(hg:Blk w g (.cells #[.int .i64 bk,.string k,.string t,.int .i64 lm] 24)) :
  vQ 6 #[v,.slice (some ⟨g,0,none⟩) 1 1] w (FewP w ((∀ p∈l,fewC p.cs=true)/\l.length<=10/\k.size<=50)):=by
 have HF:=Hd (fun W (e:Ext w W)=>jvC W v l (hv.ext e) hn hs);have HG:=Hd hg
 obtain⟨a,c,rfl⟩:=hv.sl;clear hv hs hg;go_enter Tryz.func6,Tryz.ntmps6;go_wp2_with fail
 go_loopw [5] (fun i wr=>jyS w k t i wr) (fun i _=>1 - (intOf i).toNat)
 case atStart=>exact⟨.inl rfl,ExtR w⟩
 case round =>
  obtain⟨hi,J⟩:=hrel
  have K:=Hd J;rcases hi with rfl |⟨rfl,q,A⟩
  ·have q1:wr.cell? ⟨g,1,none⟩=some (.string k):=(HG.o.keeps J fun h=>h).cell (i:=1) rfl
   have q2:wr.cell? ⟨g,2,none⟩=some (.string t):=(HG.o.keeps J fun h=>h).cell (i:=2) rfl;clear J
   by_cases h1:50 < k.size
   ·have b1:(50:Int) < (k.size:Int):=vO
    clear h1;go_wp2_with fail
    go_ret
    exact⟨⟨false,rfl,fun h=>by cases h⟩,K.o⟩
   ·have b1:¬(50:Int) < (k.size:Int):=vO
    by_cases h2:50 < t.size
    ·have b2:(50:Int) < (t.size:Int):=vO
     clear h1 h2;go_wp2_with fail
     go_ret
     exact⟨⟨false,rfl,fun h=>by cases h⟩,K.o⟩
    ·have b2:¬(50:Int) < (t.size:Int):=vO
     have q:=Hd h1;have A:=Hd h2;clear h1 h2;go_wp2_with fail
     go_roundw
     case rel=>exact⟨.inr ⟨by go_num,by have:=q.o;omega,by have:=A.o;omega⟩,K.o⟩
     case measure=>simp[intOf]
  ·have X:=Hd q
   clear J q A;go_wp2_with fail
   refine (HF.o wr K.o).mono ?_;rintro e w2 ⟨⟨r,rfl,hr⟩,O⟩;have H:=Hd (K.o.trans O);have HR:=Hd hr;clear O hr;cases r with
   | false =>
    go_wp2_with fail
    go_ret
    exact⟨⟨_,rfl,fun h=>by cases h⟩,H.o⟩
   | true =>
    by_cases h10:l.length<=10
    ·have b3:(l.length:Int)<=10:=vO
     have Z:=Hd h10;clear h10;go_wp2_with fail
     go_ret
     exact⟨⟨_,rfl,fun _=>⟨HR.o (by first | rfl | trivial),Z.o,X.o⟩⟩,H.o⟩
    ·have b3:¬(l.length:Int)<=10:=vO
     clear h10;go_wp2_with fail
     go_ret
     exact⟨⟨false,rfl,fun h=>by cases h⟩,H.o⟩
end
section
open Go Go.RowKit
attribute [local go_sem] Oper.semAt_some
theorem RdN.keeps{w:vW}{v:vV}{xs:List Int}(h:RdN w v xs)(k:jac F w w')(hF:∀ b,v.ownBlock=some b->¬ F b):RdN w' v xs:=by
 rcases h with h |⟨b,c,rfl,h4⟩
 ·exact .inl h
 ·have hb:=hF b rfl
  exact .inr ⟨b,c,rfl,fun j x e=>jai (h4 j x e) k hb⟩
theorem Tryz.isAsk:jb2 (Tryz.prog.underlying 24)=true:=vY
theorem Tryz.szAsk:(Tryz.prog.info? 24).map (·.size)=some 4:=vY
theorem jgF(hl:vs.length=4){T:TypeId}(hB:Blk W b (.cells vs.toArray T fz)):(Instr.loadAt 24 (.pointer (some ⟨b,0,none⟩))).run Tryz.prog W=.ok (.agg vs.toArray) W:=by
 obtain⟨A,e⟩:=jbv Tryz.isAsk
 exact ja2 e (by rw[hl];exact Tryz.szAsk) (fun j v q=>by rw[Go.WideShapes.add_plain,bT];exact hB.cellL q)
theorem Tryz.isAct14:jb2 (Tryz.prog.underlying 43)=true:=vY
theorem Tryz.szAct14:(Tryz.prog.info? 43).map (·.size)=some 3:=vY
theorem jh6(x y z:vV)(h0:W.cell? ⟨b,o,none⟩=some x)(h1:W.cell? ⟨b,o+1,none⟩=some y)(h2:W.cell? ⟨b,o+2,none⟩=some z):(Instr.loadAt 43 (.pointer (some ⟨b,o,none⟩))).run Tryz.prog W=.ok (.agg #[x,y,z]) W:=by
 obtain⟨A,q⟩:=jbv Tryz.isAct14
 refine ja2 (xs:=[x,y,z]) q Tryz.szAct14 (fun j v e=>?_);rw[Go.WideShapes.add_plain]
 match j,e with
 | 0,e=>cases e;exact h0
 | 1,e=>cases e;exact h1
 | 2,e=>cases e;exact h2
theorem jn4(h:fewC l=true):l.length<=1000/\∀ c∈l,c.key.size<=1000/\c.value.size<=1000:=by
 unfold fewC jeb at h;simp only[cC,dI,decide_eq_true_eq]at h
 exact⟨by omega,fun c e=>by have:=h.1 c e;omega⟩
theorem LwI.first{w W:vW}{D:Nat->Prop}{b:Nat}{c bm z:Nat}{room:Int}(h1:ChI w D W b (newN 3) a c rm sb cb es1 1 bm room (S1L z) 1)(h2:Ext w W)(h3:jfX W cb mb 0)(h4:∀ x,x=cb\/x=mb->¬ ChF b rm bm (S1L z) x/\w.heap.size<=x/\¬ D x/\x≠sb)(h5:w.heap.size<=b)(h6:w.heap.size<=rm):LwI w W b rm sb cb mb bm room (newN 3) es1 (S1L z) 0:=
 ⟨⟨D,a,c,1,1,h1,by omega⟩,fun x e=>by
  have e:x∈[((0:Int),Value.string (shaB noT),0)]:=e;rw[bM.1 e];rfl,fun x e=>by
  have e:x∈[((0:Int),Value.string (shaB noT),0)]:=e;rw[bM.1 e]
  exact⟨_,rfl,by rw[jbg];decide⟩,h3,fun x e=>(h4 x e).1,by show 1<=0+1;omega,h2,h5,h6⟩
def jyW(w0:vW)(n:Nat)(b rm sb cb mb bm:Nat)(room:Int)(iv:vV)(W:vW):Prop:=∃ k:Nat,k<=n/\iv=.int .i64 k/\∃ M es S,LwI w0 W b rm sb cb mb bm room M es S k
theorem ji4(hc:jbA w)(he:ErrT w)(room:Int)(hr : -9223372036854775808<=room/\room<=9223372036854775807)(v:vV)(l:List ActC)(hv:jfp w v l)(hn:l.length<=9223372036854775807)(hs:jfq l)(bk lm:Int)(key to:vB)(hk:key.size<=9223372036854775807)(ht:to.size<=9223372036854775807) :
  vR 3 #[.int .i64 room,v,.agg #[.int .i64 bk,.string key,.string to,.int .i64 lm]] w (.bool true):=by
 have HC:=Hd (bA hc he);have HV:=Hd hv;have HS:=Hd (bA hn (bA hs (bA hk ht)));have HR:=Hd hr
 obtain⟨a0,c0,rfl⟩:=hv.sl
 obtain⟨ln,c9⟩:=vE l.length
 have b0:=Hd c9;rw[<-c9];have f7:=(ExtR w).alloc (.cells #[.int .i64 bk,.string key,.string to,.int .i64 lm] 24);have d0:=Blk.new w (.cells #[.int .i64 bk,.string key,.string to,.int .i64 lm] 24)
 obtain⟨ga,d1⟩:=vE w.heap.size
 rw[<-d1]at d0;have H0:=Hd (bA f7 d0);have h6:=Hd d1;clear hc he hv hn hs hk ht hr c9 f7 d0 d1;go_enter Tryz.func3,Tryz.ntmps3;go_wp2_with fail
 refine vC (jrV _ (HC.o.1.ext H0.o.1) (HC.o.2.ext H0.o.1)) fun w1 d2=>?_;rw[<-h6.o];have J:=Hd (bA (H0.o.1.trans d2) (H0.o.2.keeps d2 fun h=>h));clear d2 H0;go_wp2_with fail
 by_cases hr1:room < 1
 ·refine vC (jmc w1 3 room 0 hr1) fun w2 K=>?_;have H2:=Hd (bA (J.o.1.trans K) (J.o.2.keeps K fun h=>h));clear K;go_wp2_with (refine jaf 24 (.tmp 5) rfl rfl (.agg #[.int .i64 bk,.string key,.string to,.int .i64 lm]) ⟨ga,0,none⟩ rfl (jgF _ _ [.int .i64 bk,.string key,.string to,.int .i64 lm] rfl H2.o.2) ?_)
  have q:=(ExtR w2).alloc (.cells #[.int .i64 bk,.string key,.string to,.int .i64 lm] 24);have O:=Blk.new w2 (.cells #[.int .i64 bk,.string key,.string to,.int .i64 lm] 24);generalize w2.alloc (.cells #[.int .i64 bk,.string key,.string to,.int .i64 lm] 24)=w3 at q O ⊢;have hf:=jmv w3 _ l (HV.o.ext (H2.o.1.trans q)) HS.o.1 HS.o.2.1 w2.heap.size bk lm key to HS.o.2.2.1 HS.o.2.2.2 O;rw[<-b0.o]at hf;refine hf.mono ?_;rintro e w4 ⟨⟨r,rfl,hr⟩,A⟩;have HF:=Hd hr;have H4:=Hd (H2.o.1.trans (q.trans A));clear q O hf hr A;cases r with
  | false =>
   go_wp2_with fail
   go_ret
   exact⟨rfl,H4.o⟩
  | true =>
   go_wp2_with fail
   go_ret
   exact⟨rfl,H4.o⟩
 ·refine (jpx w1 (HC.o.1.ext J.o.1) (HC.o.2.ext J.o.1) 3 room 0 vO HR.o.2 vI).mono ?_
  rintro e w2 ⟨D,b,a,c,rm,sb,cb,mb,bm,z,rfl,hI,K,hC,b7,f8,b8, -⟩;have HL:=Hd (LwI.first hI K hC b7 f8 b8);have H2:=Hd (bA (J.o.1.trans K) (J.o.2.keeps K fun h=>h));clear hI K hC b7 f8 b8;go_wp2_with (refine jaf 24 (.tmp 5) rfl rfl (.agg #[.int .i64 bk,.string key,.string to,.int .i64 lm]) ⟨ga,0,none⟩ rfl (jgF _ _ [.int .i64 bk,.string key,.string to,.int .i64 lm] rfl H2.o.2) ?_)
  have q:=(ExtR w2).alloc (.cells #[.int .i64 bk,.string key,.string to,.int .i64 lm] 24);have O:=Blk.new w2 (.cells #[.int .i64 bk,.string key,.string to,.int .i64 lm] 24);generalize w2.alloc (.cells #[.int .i64 bk,.string key,.string to,.int .i64 lm] 24)=w3 at q O ⊢;have hf:=jmv w3 _ l (HV.o.ext (H2.o.1.trans q)) HS.o.1 HS.o.2.1 w2.heap.size bk lm key to HS.o.2.2.1 HS.o.2.2.2 O;rw[<-b0.o]at hf;refine hf.mono ?_;rintro e w4 ⟨⟨r,rfl,hr⟩,A⟩;have HF:=Hd hr;have H4:=Hd (bA (H2.o.1.trans (q.trans A)) (bA (HL.o.grow (q.trans A)) (H2.o.2.keeps (q.trans A) fun h=>h)));clear q O hf hr A HL;cases r with
  | false =>
   go_wp2_with fail
   go_ret
   exact⟨rfl,H4.o.1⟩
  | true =>
   have c4:=Hd (HF.o rfl);clear HF;go_wp2_with fail
   go_loopw [11] (fun iv wr=>jyW w1 ln b rm sb cb mb bm room iv wr) (fun i _=>ln - (intOf i).toNat)
   case atStart=>exact⟨0,cB _,rfl,_,_,_,H4.o.2.1⟩
   case round =>
    obtain⟨k,hk,rfl,M,es,S,f9⟩:=hrel
    have H:=Hd f9;have b9:k<=10:=by have:=c4.o.2.1;have:=b0.o;omega
    have X:=Hd b9;clear f9 b9
    by_cases hlt:k < ln
    ·have b1:(k:Int) < (ln:Int):=vO
     obtain⟨p,hp⟩:∃ p,l[k]?=some p:=⟨_,bB (by rw[<-b0.o];exact hlt)⟩
     rcases HV.o with⟨_,_,_,h0⟩ |⟨vb,vo,vc,hh,hvb,hvc,hcell⟩
     ·rw[b0.o,h0]at hlt;cases hlt
     obtain⟨rfl, -,rfl⟩:=dC hh
     have HP:=Hd (bA hp (hcell k p hp));clear hcell hh hp hvb hvc;go_wp2_with fail
     refine (jqx w1 wr b rm sb cb mb bm room M es S k H.o (by have:=X.o;omega)).mono ?_;rintro e u1 ⟨v1,rfl,d3⟩;have b2:=Hd d3
     obtain⟨h7,h8,rfl⟩:=d3.sl
     clear d3;go_wp2_with fail
     refine (jqD w1 u1 b rm sb cb mb bm room M es S k (H.o.grow b2.o.ext) (by have:=X.o;omega)).mono ?_;rintro e u2 ⟨v2,rfl,c5⟩;have d4:=Hd c5
     obtain⟨g2,g3,rfl⟩:=c5.sl
     have d5:=Hd (b2.o.ext.trans c5.ext);have g0:u2.cell? ⟨ga,0,none⟩=some (.int .i64 bk):=(J.o.2.keeps (H.o.ext.trans d5.o) fun h=>h).cell (i:=0) rfl;clear c5;go_wp2_with fail
     obtain⟨ra,d6⟩:∃ x,x=(rootA es bk).1:=⟨_,rfl⟩
     obtain⟨rk,d7⟩:∃ x,x=(rootA es bk).2:=⟨_,rfl⟩
     have Z:=jx7 w1 u2 b rm sb cb mb bm room M es S k (H.o.grow d5.o) (by have:=X.o;omega) bk;rw[<-d6, <-d7]at Z;refine Z.mono ?_;rintro e u3 ⟨rfl,q⟩;have b3:=Hd (bA (d5.o.trans q) q);have d8:u3.cell? ⟨ga,0,none⟩=some (.int .i64 bk):=(J.o.2.keeps (H.o.ext.trans b3.o.1) fun h=>h).cell (i:=0) rfl;have d9:u3.cell? ⟨ga,1,none⟩=some (.string key):=(J.o.2.keeps (H.o.ext.trans b3.o.1) fun h=>h).cell (i:=1) rfl;have g4:=Hd (bA d6 d7);clear g0 Z q d6 d7;go_wp2_with fail
     obtain⟨va,e0⟩:∃ x,x=(getA es S bk key).1:=⟨_,rfl⟩
     obtain⟨vk,e1⟩:∃ x,x=(getA es S bk key).2:=⟨_,rfl⟩
     have a5:=lget w1 u3 b rm sb cb mb bm room M es S k (H.o.grow b3.o.1) (by have:=X.o;omega) bk key (by have:=c4.o.2.2;omega);rw[<-e0, <-e1]at a5;refine a5.mono ?_;rintro e u4 ⟨rfl,A⟩;have e2:=Hd (bA (b3.o.1.trans A) (b3.o.2.trans A));have g6:=Hd (bA e0 e1);have g7:=Hd (H.o.grow e2.o.1);have a1:Ext w u4:=J.o.1.trans g7.o.ext;have p0:=jaa HP.o.2.1 a1;have p1:=jaa HP.o.2.2.1 a1;have p2:=jaa HP.o.2.2.2.1 a1;have P0:=Hd (bA p0 (bA p1 p2));clear d8 d9 a5 A e0 e1 a1 p0 p1 p2;go_wp2_with (refine jaf 43 (.tmp 85) rfl rfl (.agg #[.int .i64 p.k,p.v,.int .i64 p.n]) ⟨vb,vo+k * 3,none⟩ rfl (jh6 _ _ _ _ _ _ P0.o.1 P0.o.2.1 P0.o.2.2) ?_)
     have e3:=jn4 (c4.o.1 p (bG HP.o.1));refine (do_c w1 u4 (HC.o.1.ext J.o.1) (HC.o.2.ext J.o.1) b rm sb cb mb bm room M es S k g7.o (by have:=X.o;omega) ⟨by omega,HR.o.2⟩ p (HP.o.2.2.2.2.ext J.o.1) e3.1 e3.2).mono ?_;rintro e u5 ⟨x5,g5,rfl,M',b4,S',g8,g9,h3⟩;have c7:=Hd g9;have e4:=Hd (bA g8 h3);clear e3 g8 g9 h3;go_wp2_with fail
     have h4:=c7.o.slen (hi:=by have:=X.o;omega);refine (jqD w1 u5 b rm sb cb mb bm room M' b4 S' (k+1) c7.o (by have:=X.o;omega)).mono ?_;rintro e u6 ⟨v6,rfl,e5⟩
     obtain⟨i4,i5,rfl⟩:=e5.sl
     have e6:=Hd e5.ext
     obtain⟨sl,c1⟩:=vE S'.length
     rw[<-c1]at h4 ⊢;have b5:¬ room < (sl:Int):=vO
     clear e5 h4 c1
     by_cases hg:g5=0
     ·subst hg
      have f3:=X.o;go_wp2_with fail
      go_roundw
      case rel=>exact⟨k+1,by omega,by go_num,_,_,_,c7.o.grow e6.o⟩
      case measure=>exact vJ
     ·obtain⟨rfl,rfl,rfl⟩:=e4.o.2 hg
      have e7:=Hd (c7.o.grow e6.o);have i6:(g5 == 0)=false:=by simpa using hg
      have g0:u6.cell? ⟨ga,0,none⟩=some (.int .i64 bk):=(J.o.2.keeps e7.o.ext fun h=>h).cell (i:=0) rfl;go_wp2_with fail
      have Z:=jx7 w1 u6 b rm sb cb mb bm room M' b4 S' (k+1) e7.o (by have:=X.o;omega) bk;rw[<-g4.o.1, <-g4.o.2]at Z;refine Z.mono ?_;rintro e u7 ⟨rfl,e8⟩;have b6:=Hd (bA (e7.o.grow e8) (e6.o.trans e8));have d8:u7.cell? ⟨ga,0,none⟩=some (.int .i64 bk):=(J.o.2.keeps b6.o.1.ext fun h=>h).cell (i:=0) rfl;have d9:u7.cell? ⟨ga,1,none⟩=some (.string key):=(J.o.2.keeps b6.o.1.ext fun h=>h).cell (i:=1) rfl;clear g0 Z e8;go_wp2_with fail
      have a5:=lget w1 u7 b rm sb cb mb bm room M' b4 S' (k+1) b6.o.1 (by have:=X.o;omega) bk key (by have:=c4.o.2.2;omega);rw[<-g6.o.1, <-g6.o.2]at a5;refine a5.mono ?_;rintro e u8 ⟨rfl,e9⟩;have c8:=Hd (bA (b6.o.1.grow e9) (b6.o.2.trans e9));clear d8 d9 a5 e9;go_wp2_with fail
      refine (jqx w1 u8 b rm sb cb mb bm room M' b4 S' (k+1) c8.o.1 (by have:=X.o;omega)).mono ?_;rintro e u9 ⟨v9,rfl,f0⟩;have f1:=Hd f0
      obtain⟨i7,i8,rfl⟩:=f0.sl
      clear f0;go_wp2_with fail
      have a7:∀ {o:Option Addr} {n c:Nat},(∀ z,(Value.slice o n c).ownBlock=some z->wr.heap.size<=z)->∀ z,(Value.slice o n c).ownBlock=some z->¬ ChF b rm bm S' z:=fun h z hz e=>by
       have h1:=h z hz;have h2:=(H.o.low z e).2;omega
      have c2:(bkI M'.all).length<=1000000:=by
       have:=H.o.len
       have:=X.o
       unfold bkI;rw[bS];omega
      have a3:RdN u9 (.slice h7 (bkI M'.all).length h8) (bkI M'.all):=(((b2.o.rdN.ext (d4.o.ext.trans e2.o.2)).keeps e4.o.1 (a7 b2.o.new)).ext c8.o.2).ext f1.o.ext;refine vH (jow u9 _ _ (bkI M'.all) f1.o.rdN a3 c2) fun h9 f4=>?_;have c3:=Hd (f1.o.ext.trans f4);have a8:=Hd (c8.o.1.grow c3.o);have i0:=Hd (a7 (o:=g2) (n:=S'.length) (c:=g3) (fun z hz=>bE b2.o.ext.size (d4.o.new z hz)));clear a3 c2 a7;go_wp2_with fail
      refine (jqD w1 h9 b rm sb cb mb bm room M' b4 S' (k+1) a8.o (by have:=X.o;omega)).mono ?_;rintro e h5 ⟨i1,rfl,a9⟩;have a2:=Hd a9
      obtain⟨i2,i3,rfl⟩:=a9.sl
      clear a9;go_wp2_with fail
      have a4:RdS h5 (.slice g2 S'.length g3) (baL (jdo (S'.map (·.1)))):=((((d4.o.rd.ext e2.o.2).keeps' e4.o.1 i0.o).ext c8.o.2).ext c3.o).ext a2.o.ext;have f2:(baL (jdo (S'.map (·.1)))).length<=1000000:=by
       have h1:=a2.o.len;have h2:=(a8.o.slen (hi:=by have:=X.o;omega)).1;rw[bS]at h1;omega
      refine vH (jwu h5 _ _ _ _ a2.o.rd a4 f2 f2) fun i9 f5=>?_;have f6:=Hd (a8.o.grow (a2.o.ext.trans f5));have f3:=X.o;rw[decide_eq_true rfl];clear a4 f2;go_wp2_with fail
      go_roundw
      case rel=>exact⟨k+1,by omega,by go_num,_,_,_,f6.o⟩
      case measure=>exact vJ
    ·have b1:¬(k:Int) < (ln:Int):=vO
     go_wp2_with fail
     go_ret
     exact⟨rfl,J.o.1.trans H.o.ext⟩
end
section
open Go Go.ChangeShapes Go.WideShapes Go.ChangeAt Go.RowKit Go.Deep
theorem Tryz.ownK:ownKnob Tryz.prog.godebug=none:=vY
theorem Tryz.laidOutK:laidOutB Tryz.prog=true:=vY
theorem Tryz.cellsStr:Tryz.prog.cellsOf 9=1:=vY
theorem Tryz.cellsBool:Tryz.prog.cellsOf 4=1:=vY
theorem jc6:maxLen<=9223372036854775807:=by unfold maxLen;omega
section
variable {H:Type} {enc:TypeId × vV->H} {w:vW} {base:Nat} {spare:Nat->Bool} {held:Bool}
theorem jqC{α:Type}(n:Nat)(d:α)(P:Nat->α->Prop)(h:∀ i,i < n->∃ x,P i x):∃ l:List α,l.length=n/\∀ i x,l[i]?=some x->P i x:=by
 induction n with
 | zero=>exact⟨[],rfl,fun i x q=>by simp at q⟩
 | succ n ih =>
  obtain⟨l,A,H⟩:=ih fun i hi=>h i vO
  obtain⟨x,q⟩:=h n vO
  refine⟨l++[x],by simp[A],fun i y e=>?_⟩
  by_cases hi:i < n
  ·rw[cR vO]at e;exact H i y e
  ·rw[cO vO]at e
   have:i - l.length=0:=by
    have:=(bH.1 e).1
    simp at this;omega
   rw[this]at e;simp at e;subst e;rw[show i=n by omega];exact q
end
end
section
open Go Go.ChangeShapes Go.WideShapes Go.ChangeAt Go.RowKit Go.Deep
theorem Tryz.cellsChg:Tryz.prog.cellsOf 49=3:=vY
section
variable {H:Type} {enc:TypeId × vV->H} {w:vW} {base:Nat} {spare:Nat->Bool} {held:Bool}
theorem jtN{n:Nat}{a:Addr}{cs:List vV}{x:DataW H × List MemPlace}(hc:w.cells? base a 3=some cs)(h:DataW.trod enc Tryz.prog w base spare held n 49 cs=some x) :
  ∃ p:Chg,w.cell? (a.add 0)=some (.string p.key)/\w.cell? (a.add 1)=some (.string p.value)/\w.cell? (a.add 2)=some (.bool p.gone)/\p.key.size<=9223372036854775807/\p.value.size<=9223372036854775807:=by
 obtain⟨_,hl,J⟩:=World.cells?_some hc
 obtain⟨xs,m,_,_,_,K,O⟩:=DataW.trod_struct Tryz.underlying49 h
 match cs,hl with
 | [c0,c1,c2],_ =>
  have e:DataW.trod enc Tryz.prog w base spare held m 9 (([c0,c1,c2].drop 0).take (Tryz.prog.cellsOf 9))=xs[0]?:=O 0 _ rfl;have q:DataW.trod enc Tryz.prog w base spare held m 9 (([c0,c1,c2].drop 1).take (Tryz.prog.cellsOf 9))=xs[1]?:=O 1 _ rfl;have A:DataW.trod enc Tryz.prog w base spare held m 4 (([c0,c1,c2].drop 2).take (Tryz.prog.cellsOf 4))=xs[2]?:=O 2 _ rfl;rw[Tryz.cellsStr]at e q;rw[Tryz.cellsBool]at A;dsimp only[List.drop,List.take]at e q A;have X:∀ i,i < 3->∃ y,xs[i]?=some y:=fun i hi=>⟨_,bB (by rw[K];exact hi)⟩
  obtain⟨y0,e0⟩:=X 0 vO
  obtain⟨y1,e1⟩:=X 1 vO
  obtain⟨y2,e2⟩:=X 2 vO
  rw[e0]at e;rw[e1]at q;rw[e2]at A
  obtain⟨r,Z,_,w0⟩:=DataW.trod_string Tryz.underlying9 e
  obtain⟨s,q1,_,w1⟩:=DataW.trod_string Tryz.underlying9 q
  obtain⟨b,q2,_⟩:=DataW.trod_bool Tryz.underlying4 A
  simp only[List.cons.injEq,and_true]at Z q1 q2;subst Z q1 q2
  exact⟨⟨r,s,b⟩,J 0 vO,J 1 vO,J 2 vO,bE w0 jc6,bE w1 jc6⟩
theorem jkF{v:vV}{d:DataW H}{p:List MemPlace}(hv:∃ a n c,v=.slice a n c)(h:DataW.Trod enc Tryz.prog w 0 spare held 41 v d p) :
  ∃ l:List Chg,RdC w v l/\l.length<=9223372036854775807/\∀ p∈l,p.key.size<=9223372036854775807/\p.value.size<=9223372036854775807:=by
 obtain⟨Z,n0,c0,rfl⟩:=hv
 obtain⟨a1,hf⟩:=h
 rcases open_slice Tryz.underlying41 hf with⟨hcs,_⟩ |⟨a,len,cap,m,n,D,Pl,hcs,_,hl,hm,hmm,_,hi⟩
 ·simp only[Value.cells]at hcs
  have e:Value.slice Z n0 c0=.slice none 0 0:=by simpa using hcs
  rw[e]
  exact⟨[],.inl ⟨none,0,rfl,rfl⟩,by simp,by simp⟩
 ·have e:Value.slice Z n0 c0=.slice (some a) len cap:=by simpa [Value.cells]using hcs
  rw[e];have a2:len<=m:=by rw[hmm];split <;> omega
  obtain⟨l,J,A⟩:=jqC len (⟨⟨#[]⟩,⟨#[]⟩,false⟩:Chg) (fun i p=>w.cell? ((a.add (i * 3)).add 0)=some (.string p.key)/\w.cell? ((a.add (i * 3)).add 1)=some (.string p.value)/\w.cell? ((a.add (i * 3)).add 2)=some (.bool p.gone)/\p.key.size<=9223372036854775807/\p.value.size<=9223372036854775807) (fun i a3=>by
   obtain⟨a4,h1,h2⟩:=hi i vO
   rw[Tryz.cellsChg]at h1;exact jtN h1 h2)
  have X:∀ p∈l,p.key.size<=9223372036854775807/\p.value.size<=9223372036854775807:=fun p hp=>by
   obtain⟨i,hi⟩:=fO hp
   exact (A i p hi).2.2.2
  have K:l.length<=9223372036854775807:=by have:=jc6;omega
  refine⟨l,?_,K,X⟩
  by_cases h0:len=0
  ·subst h0
   exact .inl ⟨some a,cap,rfl,bO J⟩
  ·obtain⟨p0,O⟩:∃ p,l[0]?=some p:=⟨_,bB vO⟩
   have q:a.spot=none:=by simpa [Addr.add]using World.cell?_spot (A 0 p0 O).1
   obtain⟨b,o,sp⟩:=a
   dsimp only at q;subst q;refine .inr ⟨b,o,cap,by rw[J],dN w _ (A 0 p0 O).1,by omega,fun j x hx=>?_⟩
   obtain⟨q1,q2,q3,_⟩:=A j x hx
   rw[Go.Deep.add_add,Go.WideShapes.add_plain]at q1 q2 q3
   exact⟨q1,q2,q3⟩
end
end
section
open Go Go.ChangeShapes Go.WideShapes Go.ChangeAt Go.RowKit Go.Deep
theorem Tryz.cellsAct14:Tryz.prog.cellsOf 43=3:=vY
theorem Tryz.cellsInt14:Tryz.prog.cellsOf 3=1:=vY
theorem Tryz.cellsRow14:Tryz.prog.cellsOf 41=1:=vY
section
variable {H:Type} {enc:TypeId × vV->H} {w:vW} {spare:Nat->Bool} {held:Bool}
theorem jol{n:Nat}{a:Addr}{cs:List vV}{x:DataW H × List MemPlace}(hc:w.cells? 0 a 3=some cs)(h:DataW.trod enc Tryz.prog w 0 spare held n 43 cs=some x) :
  ∃ p:ActC,w.cell? (a.add 0)=some (.int .i64 p.k)/\w.cell? (a.add 1)=some p.v/\w.cell? (a.add 2)=some (.int .i64 p.n)/\RdC w p.v p.cs/\p.cs.length<=9223372036854775807/\∀ c∈p.cs,c.key.size<=9223372036854775807/\c.value.size<=9223372036854775807:=by
 obtain⟨_,hl,J⟩:=World.cells?_some hc
 obtain⟨xs,m,_,_,_,K,O⟩:=DataW.trod_struct Tryz.underlying43 h
 match cs,hl with
 | [c0,c1,c2],_ =>
  have q:DataW.trod enc Tryz.prog w 0 spare held m 3 (([c0,c1,c2].drop 0).take (Tryz.prog.cellsOf 3))=xs[0]?:=O 0 _ rfl;have e:DataW.trod enc Tryz.prog w 0 spare held m 41 (([c0,c1,c2].drop 1).take (Tryz.prog.cellsOf 41))=xs[1]?:=O 1 _ rfl;have A:DataW.trod enc Tryz.prog w 0 spare held m 3 (([c0,c1,c2].drop 2).take (Tryz.prog.cellsOf 3))=xs[2]?:=O 2 _ rfl;rw[Tryz.cellsInt14]at q A;rw[Tryz.cellsRow14]at e;dsimp only[List.drop,List.take]at q e A;have X:∀ i,i < 3->∃ y,xs[i]?=some y:=fun i hi=>⟨_,bB (by rw[K];exact hi)⟩
  obtain⟨y0,e0⟩:=X 0 vO
  obtain⟨Z,e1⟩:=X 1 vO
  obtain⟨y2,e2⟩:=X 2 vO
  rw[e0]at q;rw[e1]at e;rw[e2]at A
  obtain⟨k,q0,_,_⟩:=DataW.trod_int Tryz.underlying3 q
  obtain⟨r,q2,_,_⟩:=DataW.trod_int Tryz.underlying3 A
  simp only[List.cons.injEq,and_true]at q0 q2;subst q0 q2;have hs:∃ a n c,c1=.slice a n c:=by
   rcases open_slice Tryz.underlying41 e with⟨hcs,_⟩ |⟨b,len,cap,_,_,_,_,hcs,_⟩
   ·exact⟨none,0,0,by simpa [Value.cells]using hcs⟩
   ·exact⟨some b,len,cap,by simpa [Value.cells]using hcs⟩
  obtain⟨l,r1,r2,r3⟩:=jkF (v:=c1) (d:=Z.1) (p:=Z.2) hs ⟨m,by obtain⟨a1,n1,a0,rfl⟩:=hs;exact e⟩
  exact⟨⟨k,c1,l,r⟩,J 0 vO,J 1 vO,J 2 vO,r1,r2,r3⟩
theorem jlB{v:vV}{d:DataW H}{p:List MemPlace}(hv:∃ a n c,v=.slice a n c)(h:DataW.Trod enc Tryz.prog w 0 spare held 22 v d p) :
  ∃ l:List ActC,jfp w v l/\l.length<=9223372036854775807/\jfq l:=by
 obtain⟨a0,n0,c0,rfl⟩:=hv
 obtain⟨a1,hf⟩:=h
 rcases open_slice Tryz.underlying22 hf with⟨hcs,_⟩ |⟨a,len,cap,m,n,D,Pl,hcs,_,hl,hm,hmm,_,hi⟩
 ·simp only[Value.cells]at hcs
  have e:Value.slice a0 n0 c0=.slice none 0 0:=by simpa using hcs
  rw[e]
  exact⟨[],.inl ⟨none,0,rfl,rfl⟩,by simp,fun p X=>by cases X⟩
 ·have e:Value.slice a0 n0 c0=.slice (some a) len cap:=by simpa [Value.cells]using hcs
  rw[e];have a2:len<=m:=by rw[hmm];split <;> omega
  obtain⟨l,J,A⟩:=jqC len (⟨0,.bool false,[],0⟩:ActC) (fun i p=>w.cell? ((a.add (i * 3)).add 0)=some (.int .i64 p.k)/\w.cell? ((a.add (i * 3)).add 1)=some p.v/\w.cell? ((a.add (i * 3)).add 2)=some (.int .i64 p.n)/\RdC w p.v p.cs/\p.cs.length<=9223372036854775807/\∀ c∈p.cs,c.key.size<=9223372036854775807/\c.value.size<=9223372036854775807) (fun i a3=>by
   obtain⟨a4,h1,h2⟩:=hi i vO
   rw[Tryz.cellsAct14]at h1;exact jol h1 h2)
  have Z:jfq l:=fun p X=>by
   obtain⟨i,hi⟩:=fO X
   exact (A i p hi).2.2.2.2
  have K:l.length<=9223372036854775807:=by have:=jc6;omega
  refine⟨l,?_,K,Z⟩
  by_cases h0:len=0
  ·subst h0
   exact .inl ⟨some a,cap,rfl,bO J⟩
  ·obtain⟨p0,O⟩:∃ p,l[0]?=some p:=⟨_,bB vO⟩
   have q:a.spot=none:=by simpa [Addr.add]using World.cell?_spot (A 0 p0 O).1
   obtain⟨b,o,sp⟩:=a
   dsimp only at q;subst q;refine .inr ⟨b,o,cap,by rw[J],dN w _ (A 0 p0 O).1,by omega,fun j x hx=>?_⟩
   obtain⟨q1,q2,q3,q4,_⟩:=A j x hx
   rw[Go.Deep.add_add,Go.WideShapes.add_plain]at q1 q2 q3
   exact⟨q1,q2,q3,q4⟩
end
end
section
open Go Go.RowKit
def jpM:List Int:=jhj.map fun x=>(x.toNat:Int)
theorem jpN:(Rows.laid_guilloche_sha_cubes:DataW Unit)=Lib.tabData .u32 jpM:=vY
theorem Tryz.gCubes:Tryz.prog.globalNamed "guilloche/sha.cubes"=some 1:=vY
theorem Tryz.gCubesType:(Tryz.prog.globals[1]?).map (·.type)=some 316:=vY
theorem Tryz.uCubes:Tryz.prog.underlying 316=some (.array 64 257):=vY
theorem Tryz.cellsU32:Tryz.prog.cellsOf 257=1:=vY
theorem Tryz.cellsCubes:Tryz.prog.cellsOf 316=64:=vY
theorem jsE{W:vW}(h:laidMetH Tryz.prog [("errors.errorType",Rows.laid_errors_errorType),("guilloche/sha.cubes",Rows.laid_guilloche_sha_cubes)] W):jbA W:=by
 have e:laidMet Tryz.prog [("guilloche/sha.cubes",Rows.laid_guilloche_sha_cubes)] W:=(laidMetH_iff.1 h).1;rw[jpN]at e;have q:=Lib.tabIs_of_head Tryz.gCubes Tryz.gCubesType Tryz.uCubes Tryz.uU32 Tryz.cellsU32 Tryz.cellsCubes e;intro i hi
 have:=q.cell Tryz.gCubes i (by unfold jpM;rw[bS];exact hi)
 rw[this];unfold jpM wv;simp only[bJ,bV];cases jhj[i]? <;> rfl
theorem Tryz.gErr:Tryz.prog.globalNamed "errors.errorType"=some 0:=vY
theorem Tryz.rtypeCut:(Tryz.prog.cutTypes.find? (·.1 == "internal/reflectlite.rtype")).map (·.2)=some 216:=vY
theorem Tryz.errRow:(List.range Tryz.prog.types.size).all (fun t => !(Tryz.prog.rowNamed t [101,114,114,111,114]) || t == 88)=true:=vY
theorem Tryz.errHandle:typeHandle Tryz.prog 88=.pointer (some ⟨3,88,none⟩):=vY
theorem jxM{W:vW}(h:laidMetH Tryz.prog [("errors.errorType",Rows.laid_errors_errorType),("guilloche/sha.cubes",Rows.laid_guilloche_sha_cubes)] W):ErrT W:=by
 have H:=(laidMetH_iff.1 h).2 ("errors.errorType",Rows.laid_errors_errorType) (by simp[Rows.laid_errors_errorType,DataW.handleName?]);have J:∃ e u ty,(Rows.laid_errors_errorType:DataW Unit).handleName?=some e/\(Tryz.prog.cutTypes.find? (·.1 == "internal/reflectlite.rtype")).map (·.2)=some u/\ty < Tryz.prog.types.size/\Tryz.prog.rowNamed ty e=true/\W.var? Tryz.prog "errors.errorType"=some #[.iface u (.agg #[typeHandle Tryz.prog ty])]:=H
 obtain⟨e,u,ty,K,O,X,Z,q⟩:=J
 obtain rfl:u=216:=bP (O.symm.trans Tryz.rtypeCut);obtain rfl:e=[101,114,114,111,114]:=(bP (show some [101,114,114,111,114]=some e from K)).symm;have A:=dI.1 Tryz.errRow ty (fZ.2 X);rw[Z]at A;obtain rfl:ty=88:=by simpa using A
 rw[Tryz.errHandle]at q
 have:=World.var?_cell Tryz.gErr q 0
 exact this
end
section
open Go Go.ChangeShapes Go.WideShapes Go.ChangeAt Go.RowKit
def jua:Obj->Obj
 | .cells _ t frozen=>.cells (jhj.map wv).toArray t frozen
 | o=>o
def jyC:Obj->Obj
 | .cells _ t frozen=>.cells #[.iface 216 (.agg #[.pointer (some ⟨3,88,none⟩)])] t frozen
 | o=>o
noncomputable def laidWorld(os:Os):vW:=
 { World.holding Tryz.prog os ⟨#[],#[],[]⟩with heap:=((World.holding Tryz.prog os ⟨#[],#[],[]⟩).heap.modify 1 jua).modify 0 jyC }
theorem jtr(os:Os)(args:Array vV):laidMetH Tryz.prog [("errors.errorType",Rows.laid_errors_errorType),("guilloche/sha.cubes",Rows.laid_guilloche_sha_cubes)] ((laidWorld os).forCall (fun _ _=>0) ⟨#[],args,[]⟩).memory:=
 laidMetH_of_parts (laidMet_of_run' 8 vY vY) vY
end
section
open Go Go.ChangeShapes Go.WideShapes Go.ChangeAt Go.RowKit Go.ChangeMaps
theorem joy:laidOutB Tryz.pinned.checked.prog=true:=vY
theorem jkX:mapsRowed Tryz.pinned.checked.prog=true:=vY
theorem jud:(Tryz.pinned.checked.prog.stops == [])=true:=vY
theorem jkZ:(Tryz.pinned.checked.prog.stopKnobs == [])=true:=vY
theorem jkY:(Rows.chainAtomicRow.plainKeys == Tryz.pinned.checked.prog.plainKeys)=true:=vY
theorem jjI:Tryz.pinned.checked.prog.stopsHeard=true:=vY
theorem jlN:Tryz.pinned.checked.prog.mayEnter=true:=vY
theorem jrC:(Rows.chainAtomicRow.lifted == Tryz.pinned.checked.prog.liftsFinal)=true:=vY
theorem jwx:(Tryz.pinned.checked.prog.make == some Rows.chainAtomicRow.make)=true:=vY
theorem jww:Tryz.pinned.checked.prog.mainIs=some (true, "f8bdce133b660c8258a8d65e7e27189f9f78eecac1aa82824c6e2daaae1159e2".toList):=vY
theorem jub:true=Tryz.pinned.checked.prog.looks []:=vY
end
