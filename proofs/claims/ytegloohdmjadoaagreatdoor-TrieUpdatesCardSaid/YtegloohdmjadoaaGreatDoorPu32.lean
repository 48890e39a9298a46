/- Lemmas; each is under no condition but those that it states. -/
import Derived.Test.YtegloohdmjadoaaGreatDoorPu31
namespace Go.Proofs.YtegloohdmjadoaaGreatDoor
set_option linter.unusedSimpArgs false
set_option linter.unusedVariables false
set_option maxRecDepth 100000
set_option maxHeartbeats 16000000
open Go Go.RowKit
section
attribute [local go_sem] Oper.semAt_some
structure jgM(z g:Nat)(v:Value)(T:vM)(W:World):Prop where
 lo:z<=g
 var:Blk W g (.cells #[v] 30)
 row:∃ n,W.ownsRow 0 9 1 v n (T.map Value.string)
 own:∀ b,v.ownBlock=some b->z<=b/\b≠g/\b < W.heap.size
theorem jgM.ext{z g:Nat}{v:vV}{T:vM}{W W':vW}(h:jgM z g v T W)(e:Ext W W'):jgM z g v T W':=by
 obtain⟨n,m⟩:=h.row
 exact⟨h.lo,h.var.keeps e (fun g=>g),⟨n,jbl m e⟩,fun b hb=>⟨(h.own b hb).1,(h.own b hb).2.1,bJ (h.own b hb).2.2 e.size⟩⟩
theorem jgM.off{z g:Nat}{v:vV}{T:vM}{W W':vW}{F:BSet}(h:jgM z g v T W)(e:jae F W W')(h1:¬ F g)(h2:∀ b,v.ownBlock=some b->¬ F b):jgM z g v T W':=by
 obtain⟨n,m⟩:=h.row
 exact⟨h.lo,h.var.keeps e h1,⟨n,ja2 m e h2⟩,fun b hb=>⟨(h.own b hb).1,(h.own b hb).2.1,bJ (h.own b hb).2.2 e.size⟩⟩
structure jd2(z g:Nat)(v:Value)(W W':World)(v':Value)(T':vM):Prop where
 at':jgM z g v' T' W'
 kp:jae (fun b=>b=g\/v.ownBlock=some b) W W'
 sub:∀ b,v'.ownBlock=some b->v.ownBlock=some b\/W.heap.size<=b
theorem jd2.refl{z g:Nat}{v:vV}{T:vM}{W W':vW}(h:jgM z g v T W)(e:Ext W W'):jd2 z g v W W' v T:=⟨h.ext e,e.mono (fun _ _ h=>h.elim),fun b hb=>.inl hb⟩
theorem jd2.trans{z g:Nat}{v v' v'':vV}{T T':vM}{W W' W'':vW}(h:jd2 z g v W W' v' T)(k:jd2 z g v' W' W'' v'' T'):jd2 z g v W W'' v'' T':=
 ⟨k.at',h.kp.trans' k.kp (fun x m e=>by
  rcases e with e | e
  ·exact .inl e
  ·rcases h.sub x e with e | e
   ·exact .inr e
   ·omega),fun b hb=>by
  rcases k.sub b hb with e | e
  ·exact h.sub b e
  ·exact .inr (bG h.kp.size e)⟩
theorem jd2.ext{z g:Nat}{v v':vV}{T:vM}{W W' W'':vW}(h:jd2 z g v W W' v' T)(e:Ext W' W''):jd2 z g v W W'' v' T:=h.trans (jd2.refl h.at' e)
theorem jd2.blk{z g:Nat}{v v':vV}{T:vM}{W W':vW}(h:jd2 z g v W W' v' T){b:Nat}{o:Obj}(hB:Blk W b o)(h1:b≠g)(h2:v.ownBlock≠some b):Blk W' b o:=hB.keeps h.kp (fun e=>e.elim h1 h2)
theorem jd2.ext0{z g:Nat}{v v':vV}{T T':vM}{W0 W W':vW}(h:jd2 z g v W W' v' T')(k:jgM z g v T W)(e:Ext W0 W)(hz:W0.heap.size<=z):Ext W0 W':=
 e.trans' h.kp (fun x m e=>by
  rcases e with e | e
  ·have:=k.lo;omega
  ·have:=(k.own x e).1;omega)
theorem jd2.fill{z g:Nat}{v v':vV}{T:vM}{W W' W'':vW}(h:jd2 z g v W W' v' T){L:Nat}(e:jae (fun b=>b=L) W' W'')(h1:L≠g)(h2:v'.ownBlock≠some L)(h3:W.heap.size<=L):jd2 z g v W W'' v' T:=
 ⟨h.at'.off e (fun x=>h1 x.symm) (fun b hb x=>h2 (by rw[hb,x])),h.kp.trans' e (fun x m y=>by have y:x=L:=y;omega),h.sub⟩
theorem jxl(z g:Nat)(v:vV)(T:vM)(W:vW)(h:jgM z g v T W)(hz:z<=W.heap.size)(hT:T.length<=1000000)(x:vB) :
  vQ 54 #[.string x,.pointer (some ⟨g,0,none⟩)] W fun e w'=>e=.returned (.tuple #[])/\∃ v',jd2 z g v W w' v' (T++[x]):=by
 obtain⟨n,Z⟩:=h.row
 have hn:n=T.length:=by
  have:=Z.1;simpa using this.symm
 obtain⟨H,J,rfl⟩:=jaR Z
 have q:=h.var.cell (i:=0) (v:=.slice H n J) vF;have a0:n+1<=maxLen:=by unfold maxLen;omega
 have a1:(n+1) * 16<=140737488355328:=vO
 have HV:=Hd h.var;have HR:=Hd Z;have HO:=Hd h.own;have a2:=Hd h.lo;have HZ:=Hd hz;have HN:=Hd hn;have HT:=Hd hT;clear h Z hn hz hT;go_enter Tryz.func54,Tryz.ntmps54
 obtain⟨i0,hi,a3,a4,a5⟩:=info_parts Tryz.infoStr
 go_wp2_with (at_builtin;refine jbV _ rfl (.tmp 3) (.tmp 5) 30 rfl 9 i0 _ 1 16 Tryz.uStrs hi a3 a4 a5 rfl vI (.slice H n J) n _ rfl (jbl HR.o ((ExtR W).alloc _)) ⟨W.heap.size,0,none⟩ 1 1 [.string x] rfl rfl (jaH (Blk.new W _)) (by simp[Value.oneCell']) a0 a1 ?_;intro v' O r1 r2 Q;obtain⟨m,A,rfl⟩:=jaR r1;have a6:=HV.o.lt;have K:=(HV.o.alloc _).keeps r2 (fun e=>(HO.o g e).2.1 rfl);have a7:O.cell? ⟨g,0,none⟩=some (.slice H n J):=K.cell (i:=0) vF;have a8:O.frozen? ⟨g,0,none⟩=false:=K.frozen)
 refine bodyPost_end (results_none rfl _ _ _) rfl ?_;have a6:=HV.o.lt;have K7:=jae.oneSet O ⟨g,0,none⟩ (.slice m (n+1) A);have hK:jae (fun b=>b=g\/(Value.slice H n J).ownBlock=some b) W (O.setCell ⟨g,0,none⟩ (.slice m (n+1) A)):=
  ((((ExtR W).alloc _).mono (fun _ _ h=>h.elim):jae (fun b=>b=g\/(Value.slice H n J).ownBlock=some b) W _).trans' (r2.mono (fun _ _ e=>.inr e):jae (fun b=>b=g\/(Value.slice H n J).ownBlock=some b) _ O) (fun x hx e=>e)).trans' K7 (fun x hx e=>.inl e)
 have E:∀ b,(Value.slice m (n+1) A).ownBlock=some b->(Value.slice H n J).ownBlock=some b\/W.heap.size<=b:=fun b hb=>by
  rcases Q with Q | Q
  ·exact .inl (Q ▸ hb)
  ·have h9:=Q b hb;rw[bR]at h9;exact .inr vO
 have X:∀ b,(Value.slice m (n+1) A).ownBlock=some b->b≠g:=fun b hb=>by
  rcases E b hb with e | e
  ·exact (HO.o b e).2.1
  ·omega
 refine⟨rfl,.slice m (n+1) A,⟨a2.o,K.set_same (i:=0) _,⟨n+1,?_⟩,fun b hb=>⟨?_,X b hb,?_⟩⟩,hK,E⟩
 ·rw[bZ]
  exact ja2 r1 K7 (fun b hb e=>X b hb e)
 ·rcases E b hb with e | e
  ·exact (HO.o b e).1
  ·exact bG HZ.o e
 ·exact bJ (jwb r1 hb) K7.size
def jye(z g:Nat)(v:vV)(T:vM)(W:vW)(n:jad)(e:Ending)(w':vW):Prop:=e=.returned (.tuple #[n.V,.bool true])/\∃ v',jd2 z g v W w' v' T
theorem jwH(w0 W:vW)(s bm:Nat)(room:Int)(S:vT)(hs:jaT w0 s bm room S)(hE0:Ext w0 W)(g:Nat)(v:vV)(T:vM)(h:jgM w0.heap.size g v T W)(hT:T.length<=1000000)(t:vB)(hH:HasS S t)(f:Nat)(n:jad)(hg:jbI (InlD f) n)(ht:t=jaO n) :
  vQ 87 #[.pointer (some ⟨s,0,none⟩),.string (shaB t),.func (.func 54) #[] #[.pointer (some ⟨g,0,none⟩)]] W (jye w0.heap.size g v (T++[t]) W n):=by
 have HS:=Hd hs;have Z:=Hd hE0;have HM:=Hd h;have HT:=Hd ht;have HG:=Hd hg;have hn:=(hg.one (inlP f)).refs;have HN:=Hd hn;have HL:=Hd (n.cells_len hn);have b1:=Hd hT
 obtain⟨y,m,a0⟩:=hH
 have A:=fun w (h:jaT w s bm room S)=>ji8 w s bm room S (shaB t) h;have m:atL S (shaB t).data.toList=some y:=m;rw[m]at A;have a1:(some y).map (fun z:Nd5=>z.2.2.text)=some t:=by rw[<-a0];rfl
 simp only[a1]at A;have a2:=Hd A
 obtain⟨k,hk⟩:=vE (shaB t)
 rw[<-hk]at a2 ⊢;clear h hs hE0 ht hg hn m a0 A a1 hk hT;go_enter Tryz.func87,Tryz.ntmps87;go_wp2_with (refine jaj Tryz.allocNode rfl rfl ?_;intro W1 a3 O)
 refine vC (a2.o W1 (HS.o.ext (Z.o.trans O))) fun w3 Q=>?_;unfold optV;have a4:=Hd (a3.keeps Q (fun h=>h));have E:=Hd (O.trans Q);have b2:=Hd (HM.o.ext E.o);clear Q a3 O;go_wp2_with fail
 refine (jxl w0.heap.size g v T w3 b2.o (Z.o.trans E.o).size b1.o t).mono ?_;rintro e w4 ⟨rfl,v',X⟩;have a5:=HM.o.var.lt;have a6:=Hd (X.blk a4.o vO (fun e=>by have:=(HM.o.own _ e).2.2;omega));have b3:=Hd X;clear X a5;go_wp2_with fail
 rw[HT.o];refine vC (jiz (inlP f) w4 n HG.o) fun w5 Q=>?_;rw[<-HT.o];have J:=a6.o.keeps Q (fun h=>h);have a7:=Hd Q;clear Q a6;unfold jad.V;go_wp2_with (first |(refine jaj Tryz.allocNode rfl rfl ?_;intro W5 b4 a8;refine jag (vs:=n.cells) rfl rfl rfl rfl b4 (by rw[HL.o];rfl) (by rw[HL.o];exact Tryz.szNode) n.one ?_;intro W6 b5 a9;have K:=(J.keeps a8 (fun h=>h)).keeps a9 (by have:=J.lt;omega)) |(refine jaf 110 (.tmp 10) rfl rfl _ _ rfl (jaq _ _ n HN.o b5) ?_) |(refine jag (vs:=n.cells) rfl rfl rfl rfl K (by rw[HL.o];rfl) (by rw[HL.o];exact Tryz.szNode) n.one ?_;intro W8 b6 b0))
 refine bodyPost_ret (jaC rfl rfl rfl (jas W8 _ n HN.o b6)) rfl ?_;have b7:Ext w4 W6:=(a7.o.trans a8).trans' a9 (fun x hx e=>by have e:x=w5.heap.size:=e;have:=a7.o.size;omega);have H:=b3.o.ext b7;have b8:W.heap.size < W6.heap.size:=K.lt;have k8:jae (fun b=>b=g\/v.ownBlock=some b) W W8:=((E.o.mono (fun _ _ h=>h.elim):jae (fun b=>b=g\/v.ownBlock=some b) W w3).trans' H.kp (fun x hx e=>e)).trans' b0 (fun x hx e=>by have e:x=W.heap.size:=e;omega);have a5:=HM.o.var.lt
 refine⟨rfl,v',⟨H.at'.off b0 (fun e=>by have e:g=W.heap.size:=e;omega) (fun b hb e=>?_),k8,fun b hb=>(H.sub b hb).imp id (fun k=>bG E.o.size k)⟩⟩
 have e:b=W.heap.size:=e;rcases H.sub b hb with k | k
 ·have:=(HM.o.own b k).2.2;omega
 ·have:=a4.o.lt;omega
theorem jq2(W:vW)(s bm:Nat)(room:Int)(S:vT)(hs:jaT W s bm room S)(u:vV)(k:vB)(hH:atL S k.data.toList=none) :
  vR 87 #[.pointer (some ⟨s,0,none⟩),.string k,u] W (.tuple #[jav.V,.bool false]):=by
 have m:=fun w (h:jaT w s bm room S)=>ji8 w s bm room S k h;rw[hH]at m;simp only[Option.map_none,optV]at m;have H:=Hd m;have Z:=Hd hs;clear m hs hH;go_enter Tryz.func87,Tryz.ntmps87;go_wp2_with (refine jaj Tryz.allocNode rfl rfl ?_;intro W1 E A)
 refine vC (H.o W1 (Z.o.ext A)) fun w3 J=>?_;have K:=E.keeps J (fun h=>h);have O:=Hd (A.trans J);clear J E A;go_wp2_with (refine jag (vs:=jav.cells) rfl rfl rfl rfl K rfl Tryz.szNode jav.one ?_;intro W8 Q X)
 refine bodyPost_ret (jaC rfl rfl rfl (jas W8 _ jav rfl Q)) rfl ?_
 exact⟨rfl,O.o.trans' X (fun x hx e=>by have e:x=W.heap.size:=e;omega)⟩
end
noncomputable def inlOf(r:vB):jad:=@dite _ (∃ m d,InlD d r m) (Classical.propDecidable _) (fun h=>h.choose) (fun _=>jav)
theorem juK(w:vW){d g:Nat}{r:vB}{m n:jad}(h:InlD d r m)(k:InlD g r n):m=n:=by
 cases d with
 | zero=>exact h.elim
 | succ d =>
  cases g with
  | zero=>exact k.elim
  | succ g=>exact jgw w h.1 k.1 (h.2.1.symm.trans k.2.1)
theorem jkw(w:vW){d:Nat}{r:vB}{m:jad}(h:InlD d r m):inlOf r=m:=by
 have e:∃ m d,InlD d r m:=⟨m,d,h⟩;unfold inlOf;rw[dif_pos e]
 obtain⟨g,o⟩:=e.choose_spec
 exact juK w o h
noncomputable def gRef(S:vT)(r:vB):Option jad:=match jcL r with
 | some h=>(atL S h.data.toList).map fun x=>nodeOf x.2.2.text
 | none=>some (inlOf r)
def jfh(R:jad->Nat->Option (PA × Nat))(G:vB->Option jad)(rs:vM):Nat->Nat->Option ((Nat->PA) × Nat)
 | 0,left=>some (fun _=>.nil,left)
 | k+1,left=>(jfh R G rs k left).bind fun x=>if (rs.getD k ⟨#[]⟩).size=0 then some x else (G (rs.getD k ⟨#[]⟩)).bind fun m=>(R m x.2).map fun y=>(setK x.1 k y.1,y.2)
def jbT(G:vB->Option jad):Nat->jad->Nat->Option (PA × Nat)
 | 0,_,_=>none
 | f+1,n,left=>if left=0 then none
  else if n.kind=1 then some (.leaf n.path n.value,left - 1)
  else if n.kind=2 then (G (n.refs.getD 0 ⟨#[]⟩)).bind fun m=>(jbT G f m (left - 1)).map fun x=>(.ext n.path x.1,x.2)
  else if n.kind=3 then (jfh (jbT G f) G n.refs 16 (left - 1)).map fun x=>(.br n.value x.1,x.2)
  else some (.no,left - 1)
theorem jjT(G:vB->Option jad)(f:Nat)(n:jad):jbT G f n 0=none:=by
 cases f with
 | zero=>rfl
 | succ f=>rfl
theorem jfD(R:jad->Nat->Option (PA × Nat))(G:vB->Option jad)(rs:vM)(k left:Nat):jfh R G rs (k+1) left=(jfh R G rs k left).bind fun x=>if (rs.getD k ⟨#[]⟩).size=0 then some x else (G (rs.getD k ⟨#[]⟩)).bind fun m=>(R m x.2).map fun y=>(setK x.1 k y.1,y.2):=rfl
theorem jes(G:vB->Option jad)(f:Nat)(n:jad)(left:Nat):jbT G (f+1) n left=if left=0 then none
  else if n.kind=1 then some (.leaf n.path n.value,left - 1)
  else if n.kind=2 then (G (n.refs.getD 0 ⟨#[]⟩)).bind fun m=>(jbT G f m (left - 1)).map fun x=>(.ext n.path x.1,x.2)
  else if n.kind=3 then (jfh (jbT G f) G n.refs 16 (left - 1)).map fun x=>(.br n.value x.1,x.2)
  else some (.no,left - 1):=rfl
theorem jkQ{R:jad->Nat->Option (PA × Nat)}{G:vB->Option jad}{rs:vM}(hR:∀ m l y,R m l=some y->y.2<=l):∀ (k left:Nat) (x:(Nat->PA) × Nat),jfh R G rs k left=some x->x.2<=left
 | 0,left,x,h=>by
  have h:some ((fun _=>PA.nil),left)=some x:=h;rw[<-bN h];exact bM _
 | k+1,left,x,h=>by
  rw[jfD,Option.bind_eq_some_iff]at h
  obtain⟨y,A,h⟩:=h
  have o:=jkQ hR k left y A
  by_cases h0:(rs.getD k ⟨#[]⟩).size=0
  ·rw[if_pos h0]at h
   rw[<-bN h];exact o
  ·rw[if_neg h0,Option.bind_eq_some_iff]at h
   obtain⟨m,_,h⟩:=h
   rw[dR]at h
   obtain⟨z,E,e⟩:=h
   have:=hR m y.2 z E
   rw[<-e];exact bG this o
theorem jkR(G:vB->Option jad):∀ (f:Nat) (n:jad) (left:Nat) (y:PA × Nat),jbT G f n left=some y->y.2<=left - 1
 | 0,_,_,_,h=>by cases h
 | f+1,n,left,y,h=>by
  rw[jes]at h
  by_cases h0:left=0
  ·rw[if_pos h0]at h;cases h
  rw[if_neg h0]at h
  by_cases h1:n.kind=1
  ·rw[if_pos h1]at h
   rw[<-bN h];exact bM _
  rw[if_neg h1]at h
  by_cases h2:n.kind=2
  ·rw[if_pos h2,Option.bind_eq_some_iff]at h
   obtain⟨m,_,h⟩:=h
   rw[dR]at h
   obtain⟨z,o,e⟩:=h
   have:=jkR G f m _ z o
   rw[<-e];show z.2<=left - 1;omega
  rw[if_neg h2]at h
  by_cases h3:n.kind=3
  ·rw[if_pos h3,dR]at h
   obtain⟨z,o,e⟩:=h
   have:=jkQ (fun m l y h=>bG (jkR G f m l y h) (Nat.sub_le _ _)) 16 _ z o
   rw[<-e];exact this
  rw[if_neg h3]at h;rw[<-bN h];exact bM _
def RdAt(W:vW)(rb s left:Nat):Prop:=Blk W rb (.cells #[.pointer (some ⟨s,0,none⟩),.int .i64 (left:Int)] 135)
def jlg(W W':vW):Nat->Prop:=fun z=>W.heap.size<=z/\z < W'.heap.size
def RdO(W:vW)(rb s:Nat)(o:Option (PA × Nat))(e:Ending)(w':vW):Prop:=jae (fun z=>z=rb) W w'/\match o with
 | some (P,l)=>∃ T x,e=.returned (.tuple #[.iface T x,.bool true])/\PaAt P (.iface T x) (jlg W w') w'/\RdAt w' rb s l
 | none=>∃ v l,e=.returned (.tuple #[v,.bool false])/\(v=.nilIface\/∃ T x,v=.iface T x)/\RdAt w' rb s l
def jec(S:vT):Prop:=∀ x∈S,∃ n,jbC x.2.2.text n
end Go.Proofs.YtegloohdmjadoaaGreatDoor
