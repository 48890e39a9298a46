/- Parts of the proof, one behind the other: CanonU, ShelfS, SortS, CanonV, CanonW. Each is under no condition but those that it states. -/
import Derived.Test.YtegloohdmjadoaaGreatDoorPu22
import Derived.Shelf.Sort.Plain
import Derived.Shelf.Slices.In.SortNone
import Derived.Sort.OwnSorted
namespace Go.Proofs.YtegloohdmjadoaaGreatDoor
set_option linter.unusedSimpArgs false
set_option linter.unusedVariables false
set_option maxRecDepth 100000
set_option maxHeartbeats 16000000
section
open Go Go.RowKit
attribute [local go_sem] Oper.semAt_some
def keyB(x:EntS):ByteArray:=⟨x.1.toArray⟩
theorem jpc(x:EntS):str x.1=.string (keyB x):=rfl
theorem Tryz.enterKeys1:∀ args w,(callFunc 115 args).run Tryz.prog w=.ok (.enter 115 args) w:=fun _ _=>by kernel_rfl
def InvS(es s:List EntS):Prop:=(s.map (·.2.2)).Nodup∧∀ x∈s,x∈es
theorem InvS.step{es s s':List EntS}{v:Array vV}(h:InvS es s)(k:jyr es s v s'):InvS es s':=by
 obtain⟨x,A,_,rfl⟩:=k
 obtain⟨E,o⟩:=cU.1 A
 have o:x.2.2 ∉ s.map (·.2.2):=by simpa [jfR]using o
 refine⟨?_,fun z m=>?_⟩
 ·rw[bZ,fS]
  exact⟨h.1,by simp,fun a H b hb e=>by simp at hb;subst hb;subst e;exact o H⟩
 ·rcases bW.1 m with m | m
  ·exact h.2 z m
  ·simp at m;exact m ▸ E
theorem InvS.len{es s:List EntS}(h:InvS es s):s.length≤es.length:=by
 have:=iB h.1 (l₂:=es.map (·.2.2)) (fun k m=>by
  obtain⟨z,o,e⟩:=bI.1 m;exact bI.2 ⟨z,h.2 z o,e⟩)
 simpa using this
theorem InvS.perm{es s:List EntS}(h:InvS es s)(hd:jpu es s)(hst:(es.map (·.2.2)).Nodup)(hkn:(es.map (·.1)).Nodup):(s.map (·.1)).Perm (es.map (·.1)):=by
 have m:∀ x∈es,x∈s:=by
  intro x A
  by_cases hc:x.2.2∈s.map (·.2.2)
  ·obtain⟨z,o,e⟩:=bI.1 hc
   have:=jbq hst (h.2 z o) A e
   exact this ▸ o
  ·have:x∈ja1 es (jfR s):=by
    refine cU.2 ⟨A,?_⟩;simpa [jfR]using hc
   rw[hd]at this;cases this
 have E:(s.map (·.1)).Nodup:=by
  have H:=h.1;have J:=h.2;clear h hd m;induction s with
  | nil=>simp
  | cons z r ih =>
   rw[bT,fI]at H ⊢
   refine⟨fun Q=>?_,ih H.2 (fun x A=>J x (bH _ A))⟩
   obtain⟨y,O,e⟩:=bI.1 Q
   have:=jbq hkn (J y (bH _ O)) (J z (bK ..)) e
   exact H.1 (bI.2 ⟨y,O,by rw[this]⟩)
 refine jiS E hkn fun k=>?_;constructor
 ·intro K;obtain⟨z,o,e⟩:=bI.1 K;exact bI.2 ⟨z,h.2 z o,e⟩
 ·intro K;obtain⟨z,o,e⟩:=bI.1 K;exact bI.2 ⟨z,m z o,e⟩
structure AppS(w:World)(es s:List EntS)(W:World):Prop where
 ext:Ext w W
 inv:InvS es s
 var:∃ v,Blk W w.heap.size (.cells #[v] 30)∧W.ownsRow 0 9 1 v s.length ((s.map keyB).map Value.string)∧∀ b,v.ownBlock=some b→w.heap.size+4≤b
theorem AppS.st{w:vW}{es s:List EntS}{W W':vW}(h:AppS w es s W)(k:jae (fun b=>b=w.heap.size+1∨b=w.heap.size+1+1∨b=w.heap.size+1+2) W W'):AppS w es s W':=by
 obtain⟨v,o,A,m⟩:=h.var
 exact⟨h.ext.trans' k (fun x E e=>by omega),h.inv,v,o.keeps k (by omega),ja2 A k (fun b hb e=>by have:=m b hb;omega),m⟩
theorem jtW(w:vW)(bx bm ck:Nat)(es:List EntS)(hk:KyS bx bm ck es w)(hnd:(es.map (·.2.2)).Nodup)(m:∀ x∈es,x.2.2 < ck)(hlen:es.length≤1000000) :
  Calls Tryz.prog 150 #[.slice none 0 0,.func (.func 115) #[] #[.pointer (some ⟨bx,0,none⟩)]] w fun e w'=>∃ u s,e=.returned u∧InvS es s∧jpu es s∧SRow w w' u s.length (s.map keyB):=by
 have a5:=Hd (jxc bx bm ck es hnd m);have HK:=Hd hk;clear hk hnd m;rw[←callsIn_wide (n:=0)];refine callsIn_of_wp_marks Tryz.func150 rfl trivial ?_ rfl;simp only[Tryz.ntmps150,dN,bP,dD,Nat.reduceAdd,Nat.reduceSub,dL,dK,dX,dP,cM,cZ];gi_wp2_with fail
 obtain⟨w1,E⟩:∃ w1,w1=w.alloc (.cells #[.slice none 0 0] 30):=⟨_,rfl⟩
 rw[←E];have A:w1.heap.size=w.heap.size+1:=by rw[E];simp
 have S0:AppS w es [] w1:=by
  rw[E]
  exact⟨(ExtR w).alloc _,⟨by simp,fun x hx=>by cases hx⟩,_,Blk.new w _,fR _ _ _ _,fun b hb=>by cases hb⟩
 have Q:=Hd S0;clear S0 E;refine jtD (gf:=115) (lb:=#[.pointer (some ⟨bx,0,none⟩)]) rfl Tryz.enterKeys1 a5.o
  (fun s v s' h=>by obtain⟨x,_,rfl,_⟩:=h;rfl) (AppS w es) (fun s W W' h k=>h.st (by rw[A]at k;exact k)) (fun s W h=>⟨HK.o.1.keeps h.ext (fun h=>h),HK.o.2.keeps h.ext (fun h=>h)⟩) Q.o
  (fun v=>{ tmps:=#[.slice none 0 0,.func (.func 115) #[] #[.pointer (some ⟨bx,0,none⟩)],.pointer (some ⟨w.heap.size,0,none⟩),undef,.slice none 0 0,v.getD 0 undef,.func (.func 115) #[] #[.pointer (some ⟨bx,0,none⟩)],v.getD 0 undef,undef,undef,undef,undef,undef],defers:=[] })
  ?hassign ?hbody ?hdone
 case hassign =>
  intro l2 v s s' W K H hK
  obtain⟨x,_,rfl,_⟩:=H
  rw[jpc]at hK ⊢;rw[jzb];simp only[dJ,dB];gi_wp2;exact hK
 case hbody =>
  intro l2 v s s' W H h m;have hinv:=h.inv.step H
  obtain⟨x,hx,rfl,rfl⟩:=H
  obtain⟨v,J,O,h3⟩:=h.var
  obtain⟨X,Z,rfl⟩:=jaR O
  rw[jpc]
  obtain⟨q,hq⟩:∃ q,q=keyB x:=⟨_,rfl⟩
  rw[←hq];have a6:s.length≤1000000:=bG h.inv.len hlen;have hV:=J.cell (i:=0) (v:=.slice X s.length Z) (by rfl);have b2:W.frozen? ⟨w.heap.size,0,none⟩=false:=J.frozen
  obtain⟨n,hn⟩:∃ n,n=s.length:=⟨_,rfl⟩
  rw[←hn]at O a6 hV J h3;have m:w.heap.size+3 < W.heap.size:=by rw[A]at m;omega
  have HN:=Hd hn;have HQ:=Hd hq;have HV:=Hd J;have HO:=Hd O;have H3:=Hd h3;have HE:=Hd h.ext;have HI:=Hd hinv;rw[show (#[Value.string q]:Array vV).getD 0 undef=.string q from rfl];clear h J O h3 hinv hx hn hq Q
  obtain⟨i0,hi,a7,a8,a9⟩:=info_parts Tryz.infoStr
  gi_wp2_with (gi_at_builtin;refine jb1 _ rfl (.tmp 8) (.tmp 10) 30 rfl 9 i0 _ 1 16 Tryz.uStrs hi a7 a8 a9 rfl (by decide) (.slice X n Z) n _ rfl (jbl HO.o ((ExtR W).alloc _)) ⟨W.heap.size,0,none⟩ 1 1 [.string q] rfl rfl (jaH (Blk.new W _)) (by simp[Value.oneCell']) (by unfold maxLen;omega) (by omega) ?_;intro v' w6 r1 r2 r3;obtain⟨a0,a1,rfl⟩:=jaR r1;have a2:=(HV.o.alloc _).keeps r2 (fun e=>by have:=H3.o _ e;omega);have b3:w6.cell? ⟨w.heap.size,0,none⟩=some (.slice X n Z):=a2.cell (i:=0) (by rfl);have b4:w6.frozen? ⟨w.heap.size,0,none⟩=false:=a2.frozen)
  have b0:w6.ownsRow 0 9 1 (.slice a0 (n+1) a1) (s++[x]).length (((s++[x]).map keyB).map Value.string):=by
   rw[bF, ←HN.o,bZ,bZ]
   have:=r1;rw[HQ.o]at this;exact this
  have K6:jae (fun b=>(Value.slice X n Z).ownBlock=some b) W w6:=((jae.refl _ W).alloc _).trans r2;have a3:∀ b,(Value.slice a0 (n+1) a1).ownBlock=some b→w.heap.size+4≤b:=fun b hb=>by
   rcases r3 with r3 | r3
   ·exact H3.o b (r3 ▸ hb)
   ·have h9:=r3 b hb;rw[bR]at h9;omega
  have K7:jae (fun b=>b=w.heap.size) w6 (w6.setCell ⟨w.heap.size,0,none⟩ (.slice a0 (n+1) a1)):=jae.oneSet w6 ⟨w.heap.size,0,none⟩ _
  refine⟨(K6.mono (fun y _ e=>?_)).trans (K7.mono (fun y _ e=>?_)),?_⟩
  ·have:=H3.o y e;rw[A];omega
  ·have e:y=_:=e;rw[A];omega
  ·exact⟨(HE.o.trans' K6 (fun y hy e=>by have:=H3.o y e;omega)).trans' K7 (fun y hy e=>by have e:y=_:=e;omega),HI.o,
    _,a2.set_same (i:=0) _,ja2 b0 K7 (fun b hb e=>by have:=a3 b hb;omega),a3⟩
 case hdone =>
  intro s W a4 h hd
  obtain⟨v,J,O,h3⟩:=h.var
  obtain⟨X,Z,rfl⟩:=jaR O
  have q5:W.cell? ⟨w.heap.size,0,none⟩=some (.slice X s.length Z):=J.cell (i:=0) (by rfl);have H2:=Hd O;have H3:=Hd h3;have HX:=Hd h.ext;have HI:=Hd h.inv;have b1:=Hd a4;have HD:=Hd hd;clear h J O h3 hd a4 Q;gi_wp2_with fail
  refine⟨by simp,.inl ⟨_,_,rfl,run_takeDeferred HD.o,?_⟩⟩
  refine⟨_,results_tmp rfl _ _ _,?_⟩
  have hK:=jae.onePut W w1.heap.size (.deferred none)
  exact⟨.slice X s.length Z,s,rfl,HI.o,b1.o,⟨_,_,rfl⟩,ja2 H2.o hK (fun b hb e=>by have:=H3.o b hb;rw[A]at e;omega),HX.o.putObj (.inr (by omega)) _,fun b hb=>by have:=H3.o b hb;omega⟩
end
end Go.Proofs.YtegloohdmjadoaaGreatDoor
namespace Go.Proofs
set_option linter.unusedSimpArgs false
set_option linter.unusedVariables false
set_option maxRecDepth 100000
set_option maxHeartbeats 16000000
section
open Go.Shelf
def Tryz.lays190_ren:Go.Shelf.Ren:=⟨fun | 190=>36 | 125=>72 | 258=>71 | 128=>106 | 129=>107 | 302=>97 | 303=>98 | 304=>99 | 305=>100 | 306=>101 | 307=>102 | 308=>103 | 309=>104 | 310=>105 | 333=>136 | 329=>137 | 330=>138 | 334=>139 | 335=>140 | 336=>141 | 344=>163 | n=>n,fun | 31=>30 | 9=>9 | 3=>3 | 46=>128 | 0=>0 | 51=>145 | 53=>156 | 4=>4 | 183=>162 | 182=>161 | 131=>166 | 5=>5 | 218=>187 | 222=>191 | 228=>222 | 229=>223 | n=>n,fun | n=>n⟩
theorem Tryz.lays190:Go.Proofs.Lays.n190 Tryz.prog Tryz.lays190_ren:={
 mixed:=by kernel_rfl
 f125:=Tryz.func72.trans (congrArg some (by kernel_rfl))
 f128:=Tryz.func106.trans (congrArg some (by kernel_rfl))
 f129:=Tryz.func107.trans (congrArg some (by kernel_rfl))
 f190:=Tryz.func36.trans (congrArg some (by kernel_rfl))
 f258:=Tryz.func71.trans (congrArg some (by kernel_rfl))
 f302:=Tryz.func97.trans (congrArg some (by kernel_rfl))
 f303:=Tryz.func98.trans (congrArg some (by kernel_rfl))
 f304:=Tryz.func99.trans (congrArg some (by kernel_rfl))
 f305:=Tryz.func100.trans (congrArg some (by kernel_rfl))
 f306:=Tryz.func101.trans (congrArg some (by kernel_rfl))
 f307:=Tryz.func102.trans (congrArg some (by kernel_rfl))
 f308:=Tryz.func103.trans (congrArg some (by kernel_rfl))
 f309:=Tryz.func104.trans (congrArg some (by kernel_rfl))
 f310:=Tryz.func105.trans (congrArg some (by kernel_rfl))
 f329:=Tryz.func137.trans (congrArg some (by kernel_rfl))
 f330:=Tryz.func138.trans (congrArg some (by kernel_rfl))
 f333:=Tryz.func136.trans (congrArg some (by kernel_rfl))
 f334:=Tryz.func139.trans (congrArg some (by kernel_rfl))
 f335:=Tryz.func140.trans (congrArg some (by kernel_rfl))
 f336:=Tryz.func141.trans (congrArg some (by kernel_rfl))
 f344:=Tryz.func163.trans (congrArg some (by kernel_rfl))
 t0:=Tryz.underlying0
 a0:=Tryz.isAgg0
 z0:=Tryz.sizeOf0
 v0:=Tryz.zeroValue0
 t3:=Tryz.underlying3
 a3:=Tryz.isAgg3
 z3:=Tryz.sizeOf3
 v3:=Tryz.zeroValue3
 t4:=Tryz.underlying4
 a4:=Tryz.isAgg4
 z4:=Tryz.sizeOf4
 v4:=Tryz.zeroValue4
 t5:=Tryz.underlying5
 a5:=Tryz.isAgg5
 z5:=Tryz.sizeOf5
 v5:=Tryz.zeroValue5
 t9:=Tryz.underlying9
 a9:=Tryz.isAgg9
 z9:=Tryz.sizeOf9
 v9:=Tryz.zeroValue9
 t31:=Tryz.underlying30
 a31:=Tryz.isAgg30
 z31:=Tryz.sizeOf30
 v31:=Tryz.zeroValue30
 t46:=Tryz.underlying128
 a46:=Tryz.isAgg128
 z46:=Tryz.sizeOf128
 v46:=Tryz.zeroValue128
 t51:=Tryz.underlying145
 a51:=Tryz.isAgg145
 z51:=Tryz.sizeOf145
 v51:=Tryz.zeroValue145
 t53:=Tryz.underlying156
 a53:=Tryz.isAgg156
 z53:=Tryz.sizeOf156
 v53:=Tryz.zeroValue156
 t131:=Tryz.underlying166
 a131:=Tryz.isAgg166
 z131:=Tryz.sizeOf166
 v131:=Tryz.zeroValue166
 t182:=Tryz.underlying161
 a182:=Tryz.isAgg161
 z182:=Tryz.sizeOf161
 v182:=Tryz.zeroValue161
 t183:=Tryz.underlying162
 a183:=Tryz.isAgg162
 z183:=Tryz.sizeOf162
 v183:=Tryz.zeroValue162
 t218:=Tryz.underlying187
 a218:=Tryz.isAgg187
 z218:=Tryz.sizeOf187
 v218:=Tryz.zeroValue187
 t222:=Tryz.underlying191
 a222:=Tryz.isAgg191
 z222:=Tryz.sizeOf191
 v222:=Tryz.zeroValue191
 t228:=Tryz.underlying222
 a228:=Tryz.isAgg222
 z228:=Tryz.sizeOf222
 v228:=Tryz.zeroValue222
 t229:=Tryz.underlying223
 a229:=Tryz.isAgg223
 z229:=Tryz.sizeOf223
 v229:=Tryz.zeroValue223 }
open Go.Sort Go.RowKit in
theorem Tryz.slices_Sort_string(blk off cap:Nat)(ss:List (List UInt8))(w:World)(hH:Holds encStr w blk off ss.toArray)(hblk:blk < w.heap.size)(hsz:ss.length < 4611686018427387904) :
  Calls Tryz.prog 36 #[.slice (some ⟨blk,off,none⟩) ss.length cap] w fun e w' =>
   e=.returned (.tuple #[])∧∃ n os,w'=grow (putRow encStr (Sort.ahead w n) blk off (ss.mergeSort fun x y=>decide (x≤y)).toArray) os:=Any.slices_Sort_string Tryz.lays190 blk off cap ss w hH hblk hsz
open Go.RowKit Go.Sort in
theorem Tryz.slices_Sort_string_none(p:Option Addr)(cap:Nat)(w:World) :
  Calls Tryz.prog 36 #[.slice p 0 cap] w fun e w'=>e=.returned (.tuple #[])∧w'=w:=Any.slices_Sort_string_none Tryz.lays190 p cap w
end
end Go.Proofs
namespace Go.Proofs.YtegloohdmjadoaaGreatDoor
set_option linter.unusedSimpArgs false
set_option linter.unusedVariables false
set_option maxRecDepth 100000
set_option maxHeartbeats 16000000
section
open Go Go.RowKit
attribute [local go_sem] Oper.semAt_some
def jea(l:List (vN)):List (vN):=l.mergeSort fun x y=>decide (x≤y)
def baL(l:List (vN)):List ByteArray:=l.map fun x=>⟨x.toArray⟩
theorem jfp(l:List (vN)):(jea l).length=l.length:=by simp[jea]
theorem jjZ{a b:List (vN)}(h:a.Perm b):jea a=jea b:=by
 have o:∀ a b c:vN,decide (a≤b)=true→decide (b≤c)=true→decide (a≤c)=true:=fun a b c e m=>by simp only[decide_eq_true_eq]at *;exact List.le_trans e m
 have to:∀ a b:vN,(decide (a≤b) || decide (b≤a))=true:=fun a b=>by simp only[Bool.or_eq_true,decide_eq_true_eq];exact List.le_total a b
 refine List.Perm.eq_of_pairwise (le:=fun x y=>decide (x≤y)=true) (fun x y _ _ e m=>by simp only[decide_eq_true_eq]at e m;exact List.le_antisymm e m) (List.pairwise_mergeSort o to a) (List.pairwise_mergeSort o to b) ?_;exact (gE a _).trans (h.trans (gE b _).symm)
theorem jq4(l:List (vN)):(baL l).map Value.string=l.map encStr:=by
 unfold baL;rw[dO];rfl
theorem jwg{w0 w:vW}{v:vV}{n:Nat}{ks:List (vN)}(h:ORow 9 1 w0 w v n (ks.map encStr))(hn:n≤1000000) :
  Calls Tryz.prog 36 #[v] w fun e w'=>e=.returned (.tuple #[])∧ORow 9 1 w0 w' v n ((jea ks).map encStr):=by
 have m:ks.length=n:=by have:=h.len;simpa using this
 rcases h.own.2 with⟨e0,_⟩ |⟨g,cap,cur,e0,h3,h4,h5,h6,h7,h8⟩
 ·subst e0
  obtain⟨a,c,e⟩:=h.sl
  injection e with e1 e2 e3;subst e2
  have:ks=[]:=bD m
  subst this;refine (Tryz.slices_Sort_string_none none 0 w).mono ?_;rintro e w' ⟨rfl,rfl⟩
  exact⟨rfl,by simpa [jea]using h⟩
 ·subst e0
  subst m;refine (Tryz.slices_Sort_string g 0 cap ks w (holds_of_block h4 (by simpa using h8)) (dH.1 h4).1 (by omega)).mono ?_;rintro e w' ⟨rfl,q,A,rfl⟩
  refine⟨rfl,⟨_,_,rfl⟩,ownsRow_sorted (jfp ks) (cD _) h4 h5 h6 h7,?_,h.new⟩
  exact h.ext.trans' (jae.of_grown (F:=fun b=>b=g) (grownBy_sorted _) (fun r o _=>by cases o;rfl)) (fun x E e=>by have:=h.new g rfl;omega)
theorem juM(s:List EntS):(s.map keyB).map Value.string=(s.map (·.1)).map encStr:=by
 rw[dO,dO];rfl
theorem jrp(w:vW)(bx bm ck:Nat)(es:List EntS)(hk:KyS bx bm ck es w)(hnd:(es.map (·.2.2)).Nodup)(hlt:∀ x∈es,x.2.2 < ck)(hlen:es.length≤1000000) :
  Calls Tryz.prog 114 #[.func (.func 115) #[] #[.pointer (some ⟨bx,0,none⟩)]] w fun e w'=>∃ u s,e=.returned u∧InvS es s∧jpu es s∧SRow w w' u s.length (s.map keyB):=by
 have A:=Hd (jtW w bx bm ck es hk hnd hlt hlen);clear hk hnd hlt hlen;go_enter Tryz.func114,Tryz.ntmps114;go_wp2_with fail
 refine A.o.mono ?_;rintro e w1 ⟨u,s,rfl,E,J,m⟩
 obtain⟨a,c,rfl⟩:=m.sl
 have H:=Hd (bB E (bB J m));clear E J m A;go_wp2_with fail
 go_ret
 exact⟨_,s,rfl,H.o⟩
theorem jvC(w:vW)(bx bm ck:Nat)(es:List EntS)(hk:KyS bx bm ck es w)(hnd:(es.map (·.2.2)).Nodup)(hkn:(es.map (·.1)).Nodup)(hlt:∀ x∈es,x.2.2 < ck)(hlen:es.length≤1000000) :
  Calls Tryz.prog 82 #[.func (.func 115) #[] #[.pointer (some ⟨bx,0,none⟩)]] w fun e w'=>∃ u,e=.returned u∧SRow w w' u es.length (baL (jea (es.map (·.1)))):=by
 have Z:=Hd (jrp w bx bm ck es hk hnd hlt hlen);have HP:=Hd (fun s (J:InvS es s) (K:jpu es s)=>J.perm K hnd hkn);have HL:=Hd hlen;clear hk hnd hlt hlen hkn;go_enter Tryz.func82,Tryz.ntmps82;go_wp2_with fail
 refine Z.o.mono ?_;rintro e w1 ⟨u,s,rfl,J,K,Q⟩
 obtain⟨a,c,rfl⟩:=Q.sl
 have X:=HP.o s J K;have A:s.length=es.length:=by simpa using X.length_eq
 have E:ORow 9 1 w w1 (.slice a s.length c) s.length ((s.map (·.1)).map encStr):=by
  have m:=Q;unfold SRow at m;rw[juM]at m;exact m
 have O:=Hd (jwg E (by have:=HL.o;omega));rw[jjZ X]at O;rw[A]at O ⊢;clear J K Q E Z HP X A;go_wp2_with fail
 refine O.o.mono ?_;rintro e w2 ⟨rfl,m⟩;have H:=Hd m;clear m O;go_wp2_with fail
 go_ret
 refine⟨_,rfl,?_⟩
 unfold SRow;rw[jq4];exact H.o
theorem jsg(w:vW)(bm:Nat):Calls Tryz.prog 83 #[.map (some bm)] w fun e w'=>e=.returned (.func (.func 115) #[] #[.pointer (some ⟨w.heap.size,0,none⟩)])∧Blk w' w.heap.size (.cells #[.map (some bm)] 137)∧Ext w w':=by
 go_enter Tryz.func83,Tryz.ntmps83;go_wp2_with fail
 go_ret
 exact⟨rfl,Blk.new w _,(ExtR w).alloc _⟩
end
section
open Go Go.RowKit
def putM:vL→Pair→vL
 | [],p=>[p]
 | q :: r,p=>if p.k=q.k then p :: r else q :: putM r p
def delM:vL→ByteArray→vL
 | [],_=>[]
 | q :: r,k=>if k.data.toList=q.k then r else q :: delM r k
def valM(m:vL)(k:vN):ByteArray:=((m.find? (fun p=>decide (k=p.k))).map (·.2)).getD ⟨#[]⟩
def jb2(m:vL):vL:=(jea (m.map Pair.k)).map fun k=>(⟨k.toArray⟩,valM m k)
def eKV(x:EntS):vN × vV:=(x.1,x.2.1)
def pKV(p:Pair):vN × vV:=(p.k,Pair.V p)
structure MapR(es:List EntS)(ck:Nat)(m:vL):Prop where
 same:es.map eKV=m.map pKV
 born:(es.map (·.2.2)).Nodup
 lt:∀ x∈es,x.2.2 < ck
 keys:(es.map (·.1)).Nodup
theorem MapR.nil(ck:Nat):MapR [] ck []:=⟨rfl,by simp,by simp,by simp⟩
theorem MapR.keysEq{es:List EntS}{ck:Nat}{m:vL}(h:MapR es ck m):es.map (·.1)=m.map Pair.k:=by
 have:=congrArg (List.map Prod.fst) h.same
 rw[dO,dO]at this;exact this
theorem MapR.len{es:List EntS}{ck:Nat}{m:vL}(h:MapR es ck m):es.length=m.length:=by
 have:=congrArg List.length h.same;simpa using this
theorem put_same(p:Pair)(n:Nat):∀ (es:List EntS) (m:vL),es.map eKV=m.map pKV→(jbt es p.k (Pair.V p) n).map eKV=(putM m p).map pKV
 | [],[],_=>rfl
 | [],_ :: _,h=>by cases h
 | _ :: _,[],h=>by cases h
 | x :: r,q :: s,h=>by
  rw[bT,bT]at h;injection h with h1 h2;have e:x.1=q.k:=congrArg Prod.fst h1;unfold jbt putM;rw[←e]
  by_cases hp:p.k=x.1
  ·rw[if_pos hp,if_pos hp,bT,bT,h2];rfl
  ·rw[if_neg hp,if_neg hp,bT,bT,put_same p n r s h2,h1]
theorem joc(k:ByteArray):∀ (es:List EntS) (m:vL),es.map eKV=m.map pKV→(jdY es k.data.toList).map eKV=(delM m k).map pKV
 | [],[],_=>rfl
 | [],_ :: _,h=>by cases h
 | _ :: _,[],h=>by cases h
 | x :: r,q :: s,h=>by
  rw[bT,bT]at h;injection h with h1 h2;have e:x.1=q.k:=congrArg Prod.fst h1;unfold jdY delM;rw[←e]
  by_cases hp:k.data.toList=x.1
  ·rw[if_pos hp,if_pos hp,h2]
  ·rw[if_neg hp,if_neg hp,bT,bT,joc k r s h2,h1]
theorem jhP(x:EntS)(r:List EntS)(k:vN):ja3 (x :: r) k=if k=x.1 then some x.2.1 else ja3 r k:=by
 by_cases h:k=x.1 <;> simp[ja3,h]
theorem joW(k:vN)(v:vV)(n:Nat):∀ es:List EntS,(jbt es k v n).map (·.2.2)=if (ja3 es k).isSome then es.map (·.2.2)else es.map (·.2.2)++[n]
 | []=>rfl
 | x :: r=>by
  unfold jbt;rw[jhP]
  by_cases h:k=x.1
  ·rw[if_pos h,if_pos h];simp
  ·rw[if_neg h,if_neg h,bT,joW k v n r]
   cases (ja3 r k).isSome <;> simp
theorem joX(k:vN)(v:vV)(n:Nat):∀ es:List EntS,(jbt es k v n).map (·.1)=if (ja3 es k).isSome then es.map (·.1)else es.map (·.1)++[k]
 | []=>rfl
 | x :: r=>by
  unfold jbt;rw[jhP]
  by_cases h:k=x.1
  ·rw[if_pos h,if_pos h];simp[h]
  ·rw[if_neg h,if_neg h,bT,joX k v n r]
   cases (ja3 r k).isSome <;> simp
theorem joq(k:vN):∀ es:List EntS,(ja3 es k).isSome=false→k ∉ es.map (·.1)
 | [],_=>by simp
 | x :: r,h=>by
  rw[jhP]at h
  by_cases hk:k=x.1
  ·rw[if_pos hk]at h;cases h
  ·rw[if_neg hk]at h
   have:=joq k r h
   simp only[bT,bX,not_or]
   exact⟨hk,this⟩
theorem MapR.put{es:List EntS}{ck:Nat}{m:vL}(h:MapR es ck m)(p:Pair):MapR (jbt es p.k (Pair.V p) ck) (if (ja3 es p.k).isSome then ck else ck+1) (putM m p):=by
 have hb:=joW p.k (Pair.V p) ck es;have J:=joX p.k (Pair.V p) ck es
 refine⟨put_same p ck es m h.same,?_,?_,?_⟩
 ·rw[hb]
  split
  ·exact h.born
  ·rw[fS]
   refine⟨h.born,by simp,fun a A b hb e=>?_⟩
   obtain⟨x,E,O⟩:=bI.1 A
   have:=h.lt x E
   simp at hb;omega
 ·intro x E
  have o:x.2.2∈(jbt es p.k (Pair.V p) ck).map (·.2.2):=bI.2 ⟨x,E,rfl⟩;rw[hb]at o;split at o
  ·rename_i hs
   rw[if_pos hs]
   obtain⟨y,H,e⟩:=bI.1 o
   rw[←e];exact h.lt y H
  ·rename_i hs
   rw[if_neg hs];rcases bW.1 o with o | o
   ·obtain⟨y,H,e⟩:=bI.1 o
    have:=h.lt y H;omega
   ·simp at o;omega
 ·rw[J]
  split
  ·exact h.keys
  ·rename_i hs
   have K:=joq p.k es (by simpa using hs);rw[fS]
   exact⟨h.keys,by simp,fun a A b hb e=>by simp at hb;subst hb;subst e;exact K A⟩
theorem jrE(k:vN):∀ es:List EntS,(jdY es k).Sublist es
 | []=>List.Sublist.refl _
 | x :: r=>by
  unfold jdY;split
  ·exact List.sublist_cons_self _ _
  ·exact (jrE k r).cons_cons _
theorem MapR.del{es:List EntS}{ck:Nat}{m:vL}(h:MapR es ck m)(k:ByteArray):MapR (jdY es k.data.toList) ck (delM m k):=by
 have e:=jrE k.data.toList es
 exact⟨joc k es m h.same,h.born.sublist (e.map _),fun x o=>h.lt x (e.subset o),h.keys.sublist (e.map _)⟩
theorem jop(k:vN):∀ (es:List EntS) (m:vL),es.map eKV=m.map pKV→ja3 es k=(m.find? (fun p=>decide (k=p.k))).map Pair.V
 | [],[],_=>rfl
 | [],_ :: _,h=>by cases h
 | _ :: _,[],h=>by cases h
 | x :: r,q :: s,h=>by
  rw[bT,bT]at h;injection h with h1 h2;have e:x.1=q.k:=congrArg Prod.fst h1;have o:x.2.1=Pair.V q:=congrArg Prod.snd h1;rw[jhP,fU,e]
  by_cases hp:k=q.k
  ·rw[if_pos hp];simp[hp,o]
  ·rw[if_neg hp,jop k r s h2];simp[hp]
theorem MapR.get{es:List EntS}{ck:Nat}{m:vL}(h:MapR es ck m){k:vN}(hk:k∈m.map Pair.k):ja3 es k=some (Pair.V (⟨k.toArray⟩,valM m k)):=by
 rw[jop k es m h.same]
 obtain⟨p,o,e⟩:=bI.1 hk
 cases hf:m.find? (fun p=>decide (k=p.k))with
 | none=>exact absurd e.symm (by have:=List.find?_eq_none.1 hf p o;simpa using this)
 | some q =>
  have A:k=q.k:=by simpa using List.find?_some hf
  unfold valM;rw[hf]
  have:(⟨k.toArray⟩:ByteArray)=q.1:=by rw[A]
  simp only[gB,Option.getD_some];rw[this]
structure Chg where
 key:ByteArray
 value:ByteArray
 gone:Bool
def Chg.bad(c:Chg):Bool := !jcg c.key ||(c.gone && decide (c.value.size≠0)) ||(!c.gone && !jbR c.value)
def doM(m:vL)(c:Chg):vL:=if c.gone then delM m c.key else putM m (c.key,c.value)
def jbX(l:vL)(cs:List Chg):vL:=cs.foldl doM (l.foldl putM [])
def jaY(l:vL)(cs:List Chg):Int:=
 if jaD l≠0 then jaD l else if cs.any Chg.bad=true then 1 else if (jbX l cs).length > 40 then 12 else 0
end
end Go.Proofs.YtegloohdmjadoaaGreatDoor
