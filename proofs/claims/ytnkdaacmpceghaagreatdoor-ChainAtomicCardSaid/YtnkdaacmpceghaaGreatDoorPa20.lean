/- Lemmas; each is under no condition but those that it states. -/
import Derived.Test.YtnkdaacmpceghaaGreatDoorPa19
namespace Go.Proofs.YtnkdaacmpceghaaGreatDoor
set_option linter.unusedSimpArgs false
set_option linter.unusedVariables false
set_option maxRecDepth 100000
set_option maxHeartbeats 16000000
open Go Go.RowKit
variable (R:jae->Nat->Option (PA × Nat))(G:vB->Option jae)(f:Nat){z g b d:Nat}{m n:jae}{r:vB}{T T':vM}{v v' v'':vV}{W W' W'' W0:vW}
section
attribute [local go_sem] Oper.semAt_some
structure jfY(z g:Nat)(v:Value)(T:vM)(W:World):Prop where
 lo:z<=g
 var:Blk W g (.cells #[v] 34)
 row:∃ n,W.ownsRow 0 9 1 v n (T.map Value.string)
 own:∀ b,v.ownBlock=some b->z<=b/\b≠g/\b < W.heap.size
theorem jfY.ext(h:jfY z g v T W)(e:Ext W W'):jfY z g v T W':=by
 obtain⟨n,q⟩:=h.row
 exact⟨h.lo,h.var.keeps e (fun g=>g),⟨n,jaZ q e⟩,fun b hb=>⟨(h.own b hb).1,(h.own b hb).2.1,bC (h.own b hb).2.2 e.size⟩⟩
theorem jfY.off{F:BSet}(h:jfY z g v T W)(e:jac F W W')(h1:¬ F g)(h2:∀ b,v.ownBlock=some b->¬ F b):jfY z g v T W':=by
 obtain⟨n,q⟩:=h.row
 exact⟨h.lo,h.var.keeps e h1,⟨n,jaL q e h2⟩,fun b hb=>⟨(h.own b hb).1,(h.own b hb).2.1,bC (h.own b hb).2.2 e.size⟩⟩
structure jeh(z g:Nat)(v:Value)(W W':World)(v':Value)(T':vM):Prop where
 at':jfY z g v' T' W'
 kp:jac (fun b=>b=g\/v.ownBlock=some b) W W'
 sub:∀ b,v'.ownBlock=some b->v.ownBlock=some b\/W.heap.size<=b
theorem jeh.refl(h:jfY z g v T W)(e:Ext W W'):jeh z g v W W' v T:=⟨h.ext e,e.mono (fun _ _ h=>h.elim),fun b hb=>.inl hb⟩
theorem jeh.trans(h:jeh z g v W W' v' T)(k:jeh z g v' W' W'' v'' T'):jeh z g v W W'' v'' T':=
 ⟨k.at',h.kp.trans' k.kp (fun x q e=>by
  rcases e with e | e
  ·exact .inl e
  ·rcases h.sub x e with e | e
   ·exact .inr e
   ·omega),fun b hb=>by
  rcases k.sub b hb with e | e
  ·exact h.sub b e
  ·exact .inr (bE h.kp.size e)⟩
theorem jeh.ext(h:jeh z g v W W' v' T)(e:Ext W' W''):jeh z g v W W'' v' T:=h.trans (jeh.refl h.at' e)
theorem jeh.blk(h:jeh z g v W W' v' T){o:Obj}(hB:Blk W b o)(h1:b≠g)(h2:v.ownBlock≠some b):Blk W' b o:=hB.keeps h.kp (fun e=>e.elim h1 h2)
theorem jeh.ext0(h:jeh z g v W W' v' T')(k:jfY z g v T W)(e:Ext W0 W)(hz:W0.heap.size<=z):Ext W0 W':=
 e.trans' h.kp (fun x q e=>by
  rcases e with e | e
  ·have:=k.lo;omega
  ·have:=(k.own x e).1;omega)
theorem jvW(z g:Nat)(v:vV)(T:vM)(W:vW)(h:jfY z g v T W)(hz:z<=W.heap.size)(hT:T.length<=1000000)(x:vB) :
  vQ 138 #[.string x,.pointer (some ⟨g,0,none⟩)] W fun e w'=>e=.returned (.tuple #[])/\∃ v',jeh z g v W w' v' (T++[x]):=by
 obtain⟨n,hR⟩:=h.row
 have hn:n=T.length:=by
  have:=hR.1;simpa using this.symm
 obtain⟨ad,K,rfl⟩:=jaD hR
 have q:=h.var.cell (i:=0) (v:=.slice ad n K) vF;have a1:n+1<=maxLen:=by unfold maxLen;omega
 have a2:(n+1) * 16<=140737488355328:=vO
 have HV:=Hd h.var;have HR:=Hd hR;have HO:=Hd h.own;have a3:=Hd h.lo;have HZ:=Hd hz;have HN:=Hd hn;have HT:=Hd hT;clear h hR hn hz hT;go_enter Tryz.func138,Tryz.ntmps138
 obtain⟨i0,hi,a4,a5,a7⟩:=info_parts Tryz.infoStr
 go_wp2_with (at_builtin;refine jbn _ rfl (.tmp 3) (.tmp 5) 34 rfl 9 i0 _ 1 16 Tryz.uStrs hi a4 a5 a7 rfl vI (.slice ad n K) n _ rfl (jaZ HR.o ((ExtR W).alloc _)) ⟨W.heap.size,0,none⟩ 1 1 [.string x] rfl rfl (jaN (Blk.new W _)) (by simp[Value.oneCell']) a1 a2 ?_;intro v' X r1 r2 Z;obtain⟨A,H,rfl⟩:=jaD r1;have a8:=HV.o.lt;have O:=(HV.o.alloc _).keeps r2 (fun e=>(HO.o g e).2.1 rfl);have a9:X.cell? ⟨g,0,none⟩=some (.slice ad n K):=O.cell (i:=0) vF;have b0:X.frozen? ⟨g,0,none⟩=false:=O.frozen)
 refine bodyPost_end (results_none rfl _ _ _) rfl ?_;have a8:=HV.o.lt;have K7:=jac.oneSet X ⟨g,0,none⟩ (.slice A (n+1) H);have hK:jac (fun b=>b=g\/(Value.slice ad n K).ownBlock=some b) W (X.setCell ⟨g,0,none⟩ (.slice A (n+1) H)):=
  ((((ExtR W).alloc _).mono (fun _ _ h=>h.elim):jac (fun b=>b=g\/(Value.slice ad n K).ownBlock=some b) W _).trans' (r2.mono (fun _ _ e=>.inr e):jac (fun b=>b=g\/(Value.slice ad n K).ownBlock=some b) _ X) (fun x hx e=>e)).trans' K7 (fun x hx e=>.inl e)
 have J:∀ b,(Value.slice A (n+1) H).ownBlock=some b->(Value.slice ad n K).ownBlock=some b\/W.heap.size<=b:=fun b hb=>by
  rcases Z with Z | Z
  ·exact .inl (Z ▸ hb)
  ·have h9:=Z b hb;rw[bF]at h9;exact .inr vO
 have a0:∀ b,(Value.slice A (n+1) H).ownBlock=some b->b≠g:=fun b hb=>by
  rcases J b hb with e | e
  ·exact (HO.o b e).2.1
  ·omega
 refine⟨rfl,.slice A (n+1) H,⟨a3.o,O.set_same (i:=0) _,⟨n+1,?_⟩,fun b hb=>⟨?_,a0 b hb,?_⟩⟩,hK,J⟩
 ·rw[bY]
  exact jaL r1 K7 (fun b hb e=>a0 b hb e)
 ·rcases J b hb with e | e
  ·exact (HO.o b e).1
  ·exact bE HZ.o e
 ·exact bC (juL r1 hb) K7.size
def jwR(z g:Nat)(v:vV)(T:vM)(W:vW)(n:jae)(e:Ending)(w':vW):Prop:=e=.returned (.tuple #[n.V,.bool true])/\∃ v',jeh z g v W w' v' T
theorem jza(w0 W:vW)(s bm:Nat)(room:Int)(S:vT)(hs:jax w0 s bm room S)(hE0:Ext w0 W)(g:Nat)(v:vV)(T:vM)(h:jfY w0.heap.size g v T W)(hT:T.length<=1000000)(t:vB)(hH:HasS S t)(f:Nat)(n:jae)(hg:jaW (InlD f) n)(ht:t=jaV n) :
  vQ 116 #[.pointer (some ⟨s,0,none⟩),.string (shaB t),.func (.func 138) #[] #[.pointer (some ⟨g,0,none⟩)]] W (jwR w0.heap.size g v (T++[t]) W n):=by
 have HS:=Hd hs;have a1:=Hd hE0;have HM:=Hd h;have HT:=Hd ht;have HG:=Hd hg;have hn:=(hg.one (inlP f)).refs;have HN:=Hd hn;have HL:=Hd (n.cells_len hn);have b4:=Hd hT
 obtain⟨y,q,a2⟩:=hH
 have A:=fun w (h:jax w s bm room S)=>jfR w s bm room S (shaB t) h;have q:atL S (shaB t).data.toList=some y:=q;rw[q]at A;have a3:(some y).map (fun z:Nd5=>z.2.2.text)=some t:=by rw[<-a2];rfl
 simp only[a3]at A;have a4:=Hd A
 obtain⟨k,hk⟩:=vE (shaB t)
 rw[<-hk]at a4 ⊢;clear h hs hE0 ht hg hn q a2 A a3 hk hT;go_enter Tryz.func116,Tryz.ntmps116;go_wp2_with (refine jah Tryz.allocNode rfl rfl ?_;intro W1 a5 X)
 refine vC (a4.o W1 (HS.o.ext (a1.o.trans X))) fun w3 Z=>?_;unfold optV;have a7:=Hd (a5.keeps Z (fun h=>h));have H:=Hd (X.trans Z);have b5:=Hd (HM.o.ext H.o);clear Z a5 X;go_wp2_with fail
 refine (jvW w0.heap.size g v T w3 b5.o (a1.o.trans H.o).size b4.o t).mono ?_;rintro e w4 ⟨rfl,v',a0⟩;have a8:=HM.o.var.lt;have a9:=Hd (a0.blk a7.o vO (fun e=>by have:=(HM.o.own _ e).2.2;omega));have b6:=Hd a0;clear a0 a8;go_wp2_with fail
 rw[HT.o];refine vC (jer (inlP f) w4 n HG.o) fun w5 Z=>?_;rw[<-HT.o];have K:=a9.o.keeps Z (fun h=>h);have b0:=Hd Z;clear Z a9;unfold jae.V;go_wp2_with (first |(refine jah Tryz.allocNode rfl rfl ?_;intro W5 b7 b1;refine jad (vs:=n.cells) rfl rfl rfl rfl b7 (by rw[HL.o];rfl) (by rw[HL.o];exact Tryz.szNode) n.one ?_;intro W6 b8 b2;have O:=(K.keeps b1 (fun h=>h)).keeps b2 (by have:=K.lt;omega)) |(refine jaf 206 (.tmp 10) rfl rfl _ _ rfl (jap _ _ n HN.o b8) ?_) |(refine jad (vs:=n.cells) rfl rfl rfl rfl O (by rw[HL.o];rfl) (by rw[HL.o];exact Tryz.szNode) n.one ?_;intro W8 b9 b3))
 refine bodyPost_ret (jan rfl rfl rfl (jat W8 _ n HN.o b9)) rfl ?_;have c0:Ext w4 W6:=(b0.o.trans b1).trans' b2 (fun x hx e=>by have e:x=w5.heap.size:=e;have:=b0.o.size;omega);have J:=b6.o.ext c0;have c1:W.heap.size < W6.heap.size:=O.lt;have k8:jac (fun b=>b=g\/v.ownBlock=some b) W W8:=((H.o.mono (fun _ _ h=>h.elim):jac (fun b=>b=g\/v.ownBlock=some b) W w3).trans' J.kp (fun x hx e=>e)).trans' b3 (fun x hx e=>by have e:x=W.heap.size:=e;omega);have a8:=HM.o.var.lt
 refine⟨rfl,v',⟨J.at'.off b3 (fun e=>by have e:g=W.heap.size:=e;omega) (fun b hb e=>?_),k8,fun b hb=>(J.sub b hb).imp id (fun k=>bE H.o.size k)⟩⟩
 have e:b=W.heap.size:=e;rcases J.sub b hb with k | k
 ·have:=(HM.o.own b k).2.2;omega
 ·have:=a7.o.lt;omega
theorem jo5(W:vW)(s bm:Nat)(room:Int)(S:vT)(hs:jax W s bm room S)(u:vV)(k:vB)(hH:atL S k.data.toList=none) :
  vR 116 #[.pointer (some ⟨s,0,none⟩),.string k,u] W (.tuple #[jas.V,.bool false]):=by
 have q:=fun w (h:jax w s bm room S)=>jfR w s bm room S k h;rw[hH]at q;simp only[Option.map_none,optV]at q;have J:=Hd q;have HS:=Hd hs;clear q hs hH;go_enter Tryz.func116,Tryz.ntmps116;go_wp2_with (refine jah Tryz.allocNode rfl rfl ?_;intro W1 H A)
 refine vC (J.o W1 (HS.o.ext A)) fun w3 K=>?_;have O:=H.keeps K (fun h=>h);have X:=Hd (A.trans K);clear K H A;go_wp2_with (refine jad (vs:=jas.cells) rfl rfl rfl rfl O rfl Tryz.szNode jas.one ?_;intro W8 Z a0)
 refine bodyPost_ret (jan rfl rfl rfl (jat W8 _ jas rfl Z)) rfl ?_
 exact⟨rfl,X.o.trans' a0 (fun x hx e=>by have e:x=W.heap.size:=e;omega)⟩
end
noncomputable def inlOf(r:vB):jae:=@dite _ (∃ m d,InlD d r m) (Classical.propDecidable _) (fun h=>h.choose) (fun _=>jas)
theorem jtk(w:vW)(h:InlD d r m)(k:InlD g r n):m=n:=by
 cases d with
 | zero=>exact h.elim
 | succ d =>
  cases g with
  | zero=>exact k.elim
  | succ g=>exact jkD w h.1 k.1 (h.2.1.symm.trans k.2.1)
theorem jmH(w:vW)(h:InlD d r m):inlOf r=m:=by
 have e:∃ m d,InlD d r m:=⟨m,d,h⟩;unfold inlOf;rw[dif_pos e]
 obtain⟨g,q⟩:=e.choose_spec
 exact jtk w q h
noncomputable def gRef(S:vT)(r:vB):Option jae:=match jcM r with
 | some h=>(atL S h.data.toList).map fun x=>nodeOf x.2.2.text
 | none=>some (inlOf r)
def je1(R:jae->Nat->Option (PA × Nat))(G:vB->Option jae)(rs:vM):Nat->Nat->Option ((Nat->PA) × Nat)
 | 0,left=>some (fun _=>.nil,left)
 | k+1,left=>(je1 R G rs k left).bind fun x=>if (rs.getD k ⟨#[]⟩).size=0 then some x else (G (rs.getD k ⟨#[]⟩)).bind fun m=>(R m x.2).map fun y=>(setK x.1 k y.1,y.2)
def jbY(G:vB->Option jae):Nat->jae->Nat->Option (PA × Nat)
 | 0,_,_=>none
 | f+1,n,left=>if left=0 then none
  else if n.kind=1 then some (.leaf n.path n.value,left - 1)
  else if n.kind=2 then (G (n.refs.getD 0 ⟨#[]⟩)).bind fun m=>(jbY G f m (left - 1)).map fun x=>(.ext n.path x.1,x.2)
  else if n.kind=3 then (je1 (jbY G f) G n.refs 16 (left - 1)).map fun x=>(.br n.value x.1,x.2)
  else some (.no,left - 1)
theorem jiP(n:jae):jbY G f n 0=none:=by
 cases f with
 | zero=>rfl
 | succ f=>rfl
theorem jdM(rs:vM)(k left:Nat):je1 R G rs (k+1) left=(je1 R G rs k left).bind fun x=>if (rs.getD k ⟨#[]⟩).size=0 then some x else (G (rs.getD k ⟨#[]⟩)).bind fun m=>(R m x.2).map fun y=>(setK x.1 k y.1,y.2):=rfl
theorem jgr(n:jae)(left:Nat):jbY G (f+1) n left=if left=0 then none
  else if n.kind=1 then some (.leaf n.path n.value,left - 1)
  else if n.kind=2 then (G (n.refs.getD 0 ⟨#[]⟩)).bind fun m=>(jbY G f m (left - 1)).map fun x=>(.ext n.path x.1,x.2)
  else if n.kind=3 then (je1 (jbY G f) G n.refs 16 (left - 1)).map fun x=>(.br n.value x.1,x.2)
  else some (.no,left - 1):=rfl
theorem jjA{R:jae->Nat->Option (PA × Nat)}{G:vB->Option jae}{rs:vM}(hR:∀ m l y,R m l=some y->y.2<=l):∀ (k left:Nat) (x:(Nat->PA) × Nat),je1 R G rs k left=some x->x.2<=left
 | 0,left,x,h=>by
  have h:some ((fun _=>PA.nil),left)=some x:=h;rw[<-bP h];exact bL _
 | k+1,left,x,h=>by
  rw[jdM,dO]at h
  obtain⟨y,A,h⟩:=h
  have q:=jjA hR k left y A
  by_cases h0:(rs.getD k ⟨#[]⟩).size=0
  ·rw[if_pos h0]at h
   rw[<-bP h];exact q
  ·rw[if_neg h0,dO]at h
   obtain⟨m,_,h⟩:=h
   rw[cM]at h
   obtain⟨z,H,e⟩:=h
   have:=hR m y.2 z H
   rw[<-e];exact bE this q
theorem jjB(G:vB->Option jae):∀ (f:Nat) (n:jae) (left:Nat) (y:PA × Nat),jbY G f n left=some y->y.2<=left - 1
 | 0,_,_,_,h=>by cases h
 | f+1,n,left,y,h=>by
  rw[jgr]at h
  by_cases h0:left=0
  ·rw[if_pos h0]at h;cases h
  rw[if_neg h0]at h
  by_cases h1:n.kind=1
  ·rw[if_pos h1]at h
   rw[<-bP h];exact bL _
  rw[if_neg h1]at h
  by_cases h2:n.kind=2
  ·rw[if_pos h2,dO]at h
   obtain⟨m,_,h⟩:=h
   rw[cM]at h
   obtain⟨z,q,e⟩:=h
   have:=jjB G f m _ z q
   rw[<-e];show z.2<=left - 1;omega
  rw[if_neg h2]at h
  by_cases h3:n.kind=3
  ·rw[if_pos h3,cM]at h
   obtain⟨z,q,e⟩:=h
   have:=jjA (fun m l y h=>bE (jjB G f m l y h) (Nat.sub_le _ _)) 16 _ z q
   rw[<-e];exact this
  rw[if_neg h3]at h;rw[<-bP h];exact bL _
def RdAt(W:vW)(rb s left:Nat):Prop:=Blk W rb (.cells #[.pointer (some ⟨s,0,none⟩),.int .i64 (left:Int)] 313)
def jjT(W W':vW):Nat->Prop:=fun z=>W.heap.size<=z/\z < W'.heap.size
def RdO(W:vW)(rb s:Nat)(o:Option (PA × Nat))(e:Ending)(w':vW):Prop:=jac (fun z=>z=rb) W w'/\match o with
 | some (P,l)=>∃ T x,e=.returned (.tuple #[.iface T x,.bool true])/\PaAt P (.iface T x) (jjT W w') w'/\RdAt w' rb s l
 | none=>∃ v l,e=.returned (.tuple #[v,.bool false])/\(v=.nilIface\/∃ T x,v=.iface T x)/\RdAt w' rb s l
def jfn(S:vT):Prop:=∀ x∈S,∃ n,jbd x.2.2.text n
