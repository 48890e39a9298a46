/- Lemmas; each is under no condition but those that it states. -/
import Derived.Test.YtepbencaoiompaaGreatDoorPa24
import Derived.Test.YtepbencaoiompaaGreatDoorPa25
namespace Go.Proofs.YtepbencaoiompaaGreatDoor
set_option linter.unusedSimpArgs false
set_option linter.unusedVariables false
set_option maxRecDepth 100000
set_option maxHeartbeats 16000000
open Go Go.RowKit
section
attribute [local go_sem] Oper.semAt_some
structure jfd(z g:Nat)(v:Value)(T:vM)(W:World):Prop where
 lo:z<=g
 var:Blk W g (.cells #[v] 22)
 row:∃ n,W.ownsRow 0 9 1 v n (T.map Value.string)
 own:∀ b,v.ownBlock=some b->z<=b/\b≠g/\b < W.heap.size
theorem jfd.ext{z g:Nat}{v:vV}{T:vM}{W W':vW}(h:jfd z g v T W)(e:Ext W W'):jfd z g v T W':=by
 obtain⟨n,o⟩:=h.row
 exact⟨h.lo,h.var.keeps e (fun g=>g),⟨n,jbm o e⟩,fun b hb=>⟨(h.own b hb).1,(h.own b hb).2.1,bR (h.own b hb).2.2 e.size⟩⟩
theorem jfd.off{z g:Nat}{v:vV}{T:vM}{W W':vW}{F:BSet}(h:jfd z g v T W)(e:jag F W W')(h1:¬ F g)(h2:∀ b,v.ownBlock=some b->¬ F b):jfd z g v T W':=by
 obtain⟨n,o⟩:=h.row
 exact⟨h.lo,h.var.keeps e h1,⟨n,jaY o e h2⟩,fun b hb=>⟨(h.own b hb).1,(h.own b hb).2.1,bR (h.own b hb).2.2 e.size⟩⟩
structure jdY(z g:Nat)(v:Value)(W W':World)(v':Value)(T':vM):Prop where
 at':jfd z g v' T' W'
 kp:jag (fun b=>b=g\/v.ownBlock=some b) W W'
 sub:∀ b,v'.ownBlock=some b->v.ownBlock=some b\/W.heap.size<=b
theorem jdY.refl{z g:Nat}{v:vV}{T:vM}{W W':vW}(h:jfd z g v T W)(e:Ext W W'):jdY z g v W W' v T:=⟨h.ext e,e.mono (fun _ _ h=>h.elim),fun b hb=>.inl hb⟩
theorem jdY.trans{z g:Nat}{v v' v'':vV}{T T':vM}{W W' W'':vW}(h:jdY z g v W W' v' T)(k:jdY z g v' W' W'' v'' T'):jdY z g v W W'' v'' T':=
 ⟨k.at',h.kp.trans' k.kp (fun x o e=>by
  rcases e with e | e
  ·exact .inl e
  ·rcases h.sub x e with e | e
   ·exact .inr e
   ·omega),fun b hb=>by
  rcases k.sub b hb with e | e
  ·exact h.sub b e
  ·exact .inr (bH h.kp.size e)⟩
theorem jdY.ext{z g:Nat}{v v':vV}{T:vM}{W W' W'':vW}(h:jdY z g v W W' v' T)(e:Ext W' W''):jdY z g v W W'' v' T:=h.trans (jdY.refl h.at' e)
theorem jdY.blk{z g:Nat}{v v':vV}{T:vM}{W W':vW}(h:jdY z g v W W' v' T){b:Nat}{o:Obj}(hB:Blk W b o)(h1:b≠g)(h2:v.ownBlock≠some b):Blk W' b o:=hB.keeps h.kp (fun e=>e.elim h1 h2)
theorem jdY.ext0{z g:Nat}{v v':vV}{T T':vM}{W0 W W':vW}(h:jdY z g v W W' v' T')(k:jfd z g v T W)(e:Ext W0 W)(hz:W0.heap.size<=z):Ext W0 W':=
 e.trans' h.kp (fun x o e=>by
  rcases e with e | e
  ·have:=k.lo;omega
  ·have:=(k.own x e).1;omega)
theorem jdY.fill{z g:Nat}{v v':vV}{T:vM}{W W' W'':vW}(h:jdY z g v W W' v' T){L:Nat}(e:jag (fun b=>b=L) W' W'')(h1:L≠g)(h2:v'.ownBlock≠some L)(h3:W.heap.size<=L):jdY z g v W W'' v' T:=
 ⟨h.at'.off e (fun x=>h1 x.symm) (fun b hb x=>h2 (by rw[hb,x])),h.kp.trans' e (fun x o y=>by have y:x=L:=y;omega),h.sub⟩
theorem jti(z g:Nat)(v:vV)(T:vM)(W:vW)(h:jfd z g v T W)(hz:z<=W.heap.size)(hT:T.length<=1000000)(x:vB) :
  vQ 30 #[.string x,.pointer (some ⟨g,0,none⟩)] W fun e w'=>e=.returned (.tuple #[])/\∃ v',jdY z g v W w' v' (T++[x]):=by
 obtain⟨n,hR⟩:=h.row
 have hn:n=T.length:=by
  have:=hR.1;simpa using this.symm
 obtain⟨J,K,rfl⟩:=jaL hR
 have q:=h.var.cell (i:=0) (v:=.slice J n K) vF;have a0:n+1<=maxLen:=by unfold maxLen;omega
 have a1:(n+1) * 16<=140737488355328:=vO
 have HV:=Hd h.var;have HR:=Hd hR;have HO:=Hd h.own;have a2:=Hd h.lo;have HZ:=Hd hz;have HN:=Hd hn;have HT:=Hd hT;clear h hR hn hz hT;go_enter Tryz.func30,Tryz.ntmps30
 obtain⟨i0,hi,a3,a4,a5⟩:=info_parts Tryz.infoStr
 go_wp2_with (at_builtin;refine jcC _ rfl (.tmp 3) (.tmp 5) 22 rfl 9 i0 _ 1 16 Tryz.uStrs hi a3 a4 a5 rfl vI (.slice J n K) n _ rfl (jbm HR.o ((ExtR W).alloc _)) ⟨W.heap.size,0,none⟩ 1 1 [.string x] rfl rfl (ja3 (Blk.new W _)) (by simp[Value.oneCell']) a0 a1 ?_;intro v' Q r1 r2 X;obtain⟨A,E,rfl⟩:=jaL r1;have a6:=HV.o.lt;have O:=(HV.o.alloc _).keeps r2 (fun e=>(HO.o g e).2.1 rfl);have a7:Q.cell? ⟨g,0,none⟩=some (.slice J n K):=O.cell (i:=0) vF;have a8:Q.frozen? ⟨g,0,none⟩=false:=O.frozen)
 refine bodyPost_end (results_none rfl _ _ _) rfl ?_;have a6:=HV.o.lt;have K7:=jag.oneSet Q ⟨g,0,none⟩ (.slice A (n+1) E);have hK:jag (fun b=>b=g\/(Value.slice J n K).ownBlock=some b) W (Q.setCell ⟨g,0,none⟩ (.slice A (n+1) E)):=
  ((((ExtR W).alloc _).mono (fun _ _ h=>h.elim):jag (fun b=>b=g\/(Value.slice J n K).ownBlock=some b) W _).trans' (r2.mono (fun _ _ e=>.inr e):jag (fun b=>b=g\/(Value.slice J n K).ownBlock=some b) _ Q) (fun x hx e=>e)).trans' K7 (fun x hx e=>.inl e)
 have H:∀ b,(Value.slice A (n+1) E).ownBlock=some b->(Value.slice J n K).ownBlock=some b\/W.heap.size<=b:=fun b hb=>by
  rcases X with X | X
  ·exact .inl (X ▸ hb)
  ·have h9:=X b hb;rw[bK]at h9;exact .inr vO
 have Z:∀ b,(Value.slice A (n+1) E).ownBlock=some b->b≠g:=fun b hb=>by
  rcases H b hb with e | e
  ·exact (HO.o b e).2.1
  ·omega
 refine⟨rfl,.slice A (n+1) E,⟨a2.o,O.set_same (i:=0) _,⟨n+1,?_⟩,fun b hb=>⟨?_,Z b hb,?_⟩⟩,hK,H⟩
 ·rw[bZ]
  exact jaY r1 K7 (fun b hb e=>Z b hb e)
 ·rcases H b hb with e | e
  ·exact (HO.o b e).1
  ·exact bH HZ.o e
 ·exact bR (jxw r1 hb) K7.size
def jw1(z g:Nat)(v:vV)(T:vM)(W:vW)(n:jad)(e:Ending)(w':vW):Prop:=e=.returned (.tuple #[n.V,.bool true])/\∃ v',jdY z g v W w' v' T
theorem jxX(w0 W:vW)(s bm:Nat)(room:Int)(S:vT)(hs:jax w0 s bm room S)(hE0:Ext w0 W)(g:Nat)(v:vV)(T:vM)(h:jfd w0.heap.size g v T W)(hT:T.length<=1000000)(t:vB)(hH:HasS S t)(f:Nat)(n:jad)(hg:jbd (InlD f) n)(ht:t=jaR n) :
  vQ 49 #[.pointer (some ⟨s,0,none⟩),.string (shaB t),.func (.func 30) #[] #[.pointer (some ⟨g,0,none⟩)]] W (jw1 w0.heap.size g v (T++[t]) W n):=by
 have HS:=Hd hs;have Z:=Hd hE0;have HM:=Hd h;have HT:=Hd ht;have HG:=Hd hg;have hn:=(hg.one (inlP f)).refs;have HN:=Hd hn;have HL:=Hd (n.cells_len hn);have b1:=Hd hT
 obtain⟨y,q,a0⟩:=hH
 have A:=fun w (h:jax w s bm room S)=>jdF w s bm room S (shaB t) h;have q:atL S (shaB t).data.toList=some y:=q;rw[q]at A;have a1:(some y).map (fun z:Nd5=>z.2.2.text)=some t:=by rw[<-a0];rfl
 simp only[a1]at A;have a2:=Hd A
 obtain⟨k,hk⟩:=vE (shaB t)
 rw[<-hk]at a2 ⊢;clear h hs hE0 ht hg hn q a0 A a1 hk hT;go_enter Tryz.func49,Tryz.ntmps49;go_wp2_with (refine jah Tryz.allocNode rfl rfl ?_;intro W1 a3 O)
 refine vC (a2.o W1 (HS.o.ext (Z.o.trans O))) fun w3 Q=>?_;unfold optV;have a4:=Hd (a3.keeps Q (fun h=>h));have E:=Hd (O.trans Q);have b2:=Hd (HM.o.ext E.o);clear Q a3 O;go_wp2_with fail
 refine (jti w0.heap.size g v T w3 b2.o (Z.o.trans E.o).size b1.o t).mono ?_;rintro e w4 ⟨rfl,v',X⟩;have a5:=HM.o.var.lt;have a6:=Hd (X.blk a4.o vO (fun e=>by have:=(HM.o.own _ e).2.2;omega));have b3:=Hd X;clear X a5;go_wp2_with fail
 rw[HT.o];refine vC (jf3 (inlP f) w4 n HG.o) fun w5 Q=>?_;rw[<-HT.o];have J:=a6.o.keeps Q (fun h=>h);have a7:=Hd Q;clear Q a6;unfold jad.V;go_wp2_with (first |(refine jah Tryz.allocNode rfl rfl ?_;intro W5 b4 a8;refine jae (vs:=n.cells) rfl rfl rfl rfl b4 (by rw[HL.o];rfl) (by rw[HL.o];exact Tryz.szNode) n.one ?_;intro W6 b5 a9;have K:=(J.keeps a8 (fun h=>h)).keeps a9 (by have:=J.lt;omega)) |(refine jaf 99 (.tmp 10) rfl rfl _ _ rfl (jas _ _ n HN.o b5) ?_) |(refine jae (vs:=n.cells) rfl rfl rfl rfl K (by rw[HL.o];rfl) (by rw[HL.o];exact Tryz.szNode) n.one ?_;intro W8 b6 b0))
 refine bodyPost_ret (jaj rfl rfl rfl (jai W8 _ n HN.o b6)) rfl ?_;have b7:Ext w4 W6:=(a7.o.trans a8).trans' a9 (fun x hx e=>by have e:x=w5.heap.size:=e;have:=a7.o.size;omega);have H:=b3.o.ext b7;have b8:W.heap.size < W6.heap.size:=K.lt;have k8:jag (fun b=>b=g\/v.ownBlock=some b) W W8:=((E.o.mono (fun _ _ h=>h.elim):jag (fun b=>b=g\/v.ownBlock=some b) W w3).trans' H.kp (fun x hx e=>e)).trans' b0 (fun x hx e=>by have e:x=W.heap.size:=e;omega);have a5:=HM.o.var.lt
 refine⟨rfl,v',⟨H.at'.off b0 (fun e=>by have e:g=W.heap.size:=e;omega) (fun b hb e=>?_),k8,fun b hb=>(H.sub b hb).imp id (fun k=>bH E.o.size k)⟩⟩
 have e:b=W.heap.size:=e;rcases H.sub b hb with k | k
 ·have:=(HM.o.own b k).2.2;omega
 ·have:=a4.o.lt;omega
theorem joN(W:vW)(s bm:Nat)(room:Int)(S:vT)(hs:jax W s bm room S)(u:vV)(k:vB)(hH:atL S k.data.toList=none) :
  vR 49 #[.pointer (some ⟨s,0,none⟩),.string k,u] W (.tuple #[jak.V,.bool false]):=by
 have q:=fun w (h:jax w s bm room S)=>jdF w s bm room S k h;rw[hH]at q;simp only[Option.map_none,optV]at q;have E:=Hd q;have X:=Hd hs;clear q hs hH;go_enter Tryz.func49,Tryz.ntmps49;go_wp2_with (refine jah Tryz.allocNode rfl rfl ?_;intro Z A z)
 refine vC (E.o Z (X.o.ext z)) fun w3 H=>?_;have J:=A.keeps H (fun h=>h);have K:=Hd (z.trans H);clear H A z;go_wp2_with (refine jae (vs:=jak.cells) rfl rfl rfl rfl J rfl Tryz.szNode jak.one ?_;intro W8 O Q)
 refine bodyPost_ret (jaj rfl rfl rfl (jai W8 _ jak rfl O)) rfl ?_
 exact⟨rfl,K.o.trans' Q (fun x hx e=>by have e:x=W.heap.size:=e;omega)⟩
end
noncomputable def inlOf(r:vB):jad:=@dite _ (∃ m d,InlD d r m) (Classical.propDecidable _) (fun h=>h.choose) (fun _=>jak)
theorem jvP(w:vW){d g:Nat}{r:vB}{m n:jad}(h:InlD d r m)(k:InlD g r n):m=n:=by
 cases d with
 | zero=>exact h.elim
 | succ d =>
  cases g with
  | zero=>exact k.elim
  | succ g=>exact jdu w h.1 k.1 (h.2.1.symm.trans k.2.1)
theorem jk2(w:vW){d:Nat}{r:vB}{m:jad}(h:InlD d r m):inlOf r=m:=by
 have e:∃ m d,InlD d r m:=⟨m,d,h⟩;unfold inlOf;rw[dif_pos e]
 obtain⟨g,o⟩:=e.choose_spec
 exact jvP w o h
noncomputable def gRef(S:vT)(r:vB):Option jad:=match jcH r with
 | some h=>(atL S h.data.toList).map fun x=>nodeOf x.2.2.text
 | none=>some (inlOf r)
def je4(R:jad->Nat->Option (PA × Nat))(G:vB->Option jad)(rs:vM):Nat->Nat->Option ((Nat->PA) × Nat)
 | 0,left=>some (fun _=>.nil,left)
 | k+1,left=>(je4 R G rs k left).bind fun x=>if (rs.getD k ⟨#[]⟩).size=0 then some x else (G (rs.getD k ⟨#[]⟩)).bind fun m=>(R m x.2).map fun y=>(setK x.1 k y.1,y.2)
def jcb(G:vB->Option jad):Nat->jad->Nat->Option (PA × Nat)
 | 0,_,_=>none
 | f+1,n,left=>if left=0 then none
  else if n.kind=1 then some (.leaf n.path n.value,left - 1)
  else if n.kind=2 then (G (n.refs.getD 0 ⟨#[]⟩)).bind fun m=>(jcb G f m (left - 1)).map fun x=>(.ext n.path x.1,x.2)
  else if n.kind=3 then (je4 (jcb G f) G n.refs 16 (left - 1)).map fun x=>(.br n.value x.1,x.2)
  else some (.no,left - 1)
theorem jkj(G:vB->Option jad)(f:Nat)(n:jad):jcb G f n 0=none:=by
 cases f with
 | zero=>rfl
 | succ f=>rfl
theorem jdU(R:jad->Nat->Option (PA × Nat))(G:vB->Option jad)(rs:vM)(k left:Nat):je4 R G rs (k+1) left=(je4 R G rs k left).bind fun x=>if (rs.getD k ⟨#[]⟩).size=0 then some x else (G (rs.getD k ⟨#[]⟩)).bind fun m=>(R m x.2).map fun y=>(setK x.1 k y.1,y.2):=rfl
theorem jdV(G:vB->Option jad)(f:Nat)(n:jad)(left:Nat):jcb G (f+1) n left=if left=0 then none
  else if n.kind=1 then some (.leaf n.path n.value,left - 1)
  else if n.kind=2 then (G (n.refs.getD 0 ⟨#[]⟩)).bind fun m=>(jcb G f m (left - 1)).map fun x=>(.ext n.path x.1,x.2)
  else if n.kind=3 then (je4 (jcb G f) G n.refs 16 (left - 1)).map fun x=>(.br n.value x.1,x.2)
  else some (.no,left - 1):=rfl
theorem jls{R:jad->Nat->Option (PA × Nat)}{G:vB->Option jad}{rs:vM}(hR:∀ m l y,R m l=some y->y.2<=l):∀ (k left:Nat) (x:(Nat->PA) × Nat),je4 R G rs k left=some x->x.2<=left
 | 0,left,x,h=>by
  have h:some ((fun _=>PA.nil),left)=some x:=h;rw[<-bQ h];exact bL _
 | k+1,left,x,h=>by
  rw[jdU,fH]at h
  obtain⟨y,q,h⟩:=h
  have o:=jls hR k left y q
  by_cases h0:(rs.getD k ⟨#[]⟩).size=0
  ·rw[if_pos h0]at h
   rw[<-bQ h];exact o
  ·rw[if_neg h0,fH]at h
   obtain⟨m,_,h⟩:=h
   rw[cV]at h
   obtain⟨z,A,e⟩:=h
   have:=hR m y.2 z A
   rw[<-e];exact bH this o
theorem jlt(G:vB->Option jad):∀ (f:Nat) (n:jad) (left:Nat) (y:PA × Nat),jcb G f n left=some y->y.2<=left - 1
 | 0,_,_,_,h=>by cases h
 | f+1,n,left,y,h=>by
  rw[jdV]at h
  by_cases h0:left=0
  ·rw[if_pos h0]at h;cases h
  rw[if_neg h0]at h
  by_cases h1:n.kind=1
  ·rw[if_pos h1]at h
   rw[<-bQ h];exact bL _
  rw[if_neg h1]at h
  by_cases h2:n.kind=2
  ·rw[if_pos h2,fH]at h
   obtain⟨m,_,h⟩:=h
   rw[cV]at h
   obtain⟨z,o,e⟩:=h
   have:=jlt G f m _ z o
   rw[<-e];show z.2<=left - 1;omega
  rw[if_neg h2]at h
  by_cases h3:n.kind=3
  ·rw[if_pos h3,cV]at h
   obtain⟨z,o,e⟩:=h
   have:=jls (fun m l y h=>bH (jlt G f m l y h) (Nat.sub_le _ _)) 16 _ z o
   rw[<-e];exact this
  rw[if_neg h3]at h;rw[<-bQ h];exact bL _
def RdAt(W:vW)(rb s left:Nat):Prop:=Blk W rb (.cells #[.pointer (some ⟨s,0,none⟩),.int .i64 (left:Int)] 113)
def jha(W W':vW):Nat->Prop:=fun z=>W.heap.size<=z/\z < W'.heap.size
def RdO(W:vW)(rb s:Nat)(o:Option (PA × Nat))(e:Ending)(w':vW):Prop:=jag (fun z=>z=rb) W w'/\match o with
 | some (P,l)=>∃ T x,e=.returned (.tuple #[.iface T x,.bool true])/\PaAt P (.iface T x) (jha W w') w'/\RdAt w' rb s l
 | none=>∃ v l,e=.returned (.tuple #[v,.bool false])/\(v=.nilIface\/∃ T x,v=.iface T x)/\RdAt w' rb s l
def jdn(S:vT):Prop:=∀ x∈S,∃ n,jbc x.2.2.text n
end Go.Proofs.YtepbencaoiompaaGreatDoor
