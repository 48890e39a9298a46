/- Lemmas; each is under no condition but those that it states. -/
import Derived.Test.YtmobgkphhbmhbaaGreatDoorPe28
namespace Go.Proofs.YtmobgkphhbmhbaaGreatDoor
set_option linter.unusedSimpArgs false
set_option linter.unusedVariables false
set_option maxRecDepth 100000
set_option maxHeartbeats 16000000
open Go Go.RowKit
section
attribute [local go_sem] Oper.semAt_some
structure WrAt(z g:Nat)(v:Value)(T:vM)(W:World):Prop where
 lo:z<=g
 var:Blk W g (.cells #[v] 96)
 row:W.ownsRow 0 9 1 v T.length (T.map Value.string)
 own:∀ b,v.ownBlock=some b->z<=b/\b≠g/\b < W.heap.size
 nil:T=[]->v=.slice none 0 0
theorem WrAt.ext{z g:Nat}{v:vV}{T:vM}{W W':vW}(h:WrAt z g v T W)(e:Ext W W'):WrAt z g v T W':=
 ⟨h.lo,h.var.keeps e (fun g=>g),jbh h.row e,fun b hb=>⟨(h.own b hb).1,(h.own b hb).2.1,bP (h.own b hb).2.2 e.size⟩,h.nil⟩
theorem WrAt.off{z g:Nat}{v:vV}{T:vM}{W W':vW}{F:BSet}(h:WrAt z g v T W)(e:jad F W W')(h1:¬ F g)(h2:∀ b,v.ownBlock=some b->¬ F b):WrAt z g v T W':=
 ⟨h.lo,h.var.keeps e h1,jaY h.row e h2,fun b hb=>⟨(h.own b hb).1,(h.own b hb).2.1,bP (h.own b hb).2.2 e.size⟩,h.nil⟩
structure WrTo(z g:Nat)(v:Value)(W W':World)(v':Value)(T':vM):Prop where
 at':WrAt z g v' T' W'
 kp:jad (fun b=>b=g\/v.ownBlock=some b) W W'
 sub:∀ b,v'.ownBlock=some b->v.ownBlock=some b\/W.heap.size<=b
theorem WrTo.refl{z g:Nat}{v:vV}{T:vM}{W W':vW}(h:WrAt z g v T W)(e:Ext W W'):WrTo z g v W W' v T:=⟨h.ext e,e.mono (fun _ _ h=>h.elim),fun b hb=>.inl hb⟩
theorem WrTo.trans{z g:Nat}{v v' v'':vV}{T T':vM}{W W' W'':vW}(h:WrTo z g v W W' v' T)(k:WrTo z g v' W' W'' v'' T'):WrTo z g v W W'' v'' T':=
 ⟨k.at',h.kp.trans' k.kp (fun x o e=>by
  rcases e with e | e
  ·exact .inl e
  ·rcases h.sub x e with e | e
   ·exact .inr e
   ·omega),fun b hb=>by
  rcases k.sub b hb with e | e
  ·exact h.sub b e
  ·exact .inr (bL h.kp.size e)⟩
theorem WrTo.ext{z g:Nat}{v v':vV}{T:vM}{W W' W'':vW}(h:WrTo z g v W W' v' T)(e:Ext W' W''):WrTo z g v W W'' v' T:=h.trans (WrTo.refl h.at' e)
theorem WrTo.blk{z g:Nat}{v v':vV}{T:vM}{W W':vW}(h:WrTo z g v W W' v' T){b:Nat}{o:Obj}(hB:Blk W b o)(h1:b≠g)(h2:v.ownBlock≠some b):Blk W' b o:=hB.keeps h.kp (fun e=>e.elim h1 h2)
theorem WrTo.ext0{z g:Nat}{v v':vV}{T T':vM}{W0 W W':vW}(h:WrTo z g v W W' v' T')(k:WrAt z g v T W)(e:Ext W0 W)(hz:W0.heap.size<=z):Ext W0 W':=
 e.trans' h.kp (fun x o e=>by
  rcases e with e | e
  ·have:=k.lo;omega
  ·have:=(k.own x e).1;omega)
theorem WrTo.fill{z g:Nat}{v v':vV}{T:vM}{W W' W'':vW}(h:WrTo z g v W W' v' T){L:Nat}(e:jad (fun b=>b=L) W' W'')(h1:L≠g)(h2:v'.ownBlock≠some L)(h3:W.heap.size<=L):WrTo z g v W W'' v' T:=
 ⟨h.at'.off e (fun x=>h1 x.symm) (fun b hb x=>h2 (by rw[hb,x])),h.kp.trans' e (fun x o y=>by have y:x=L:=y;omega),h.sub⟩
theorem WrTo.ahead{z g:Nat}{v v':vV}{T:vM}{W0 W W':vW}(e:Ext W0 W)(h:WrTo z g v W W' v' T):WrTo z g v W0 W' v' T:=
 ⟨h.at',(e.mono (fun _ _ h=>h.elim)).trans' h.kp (fun x o e=>e),fun b hb=>(h.sub b hb).imp id (fun k=>bL e.size k)⟩
def FoP(z g:Nat)(v:vV)(W:vW)(r:vV)(T:vM)(e:Ending)(w':vW):Prop:=e=.returned r/\∃ v',WrTo z g v W w' v' T
structure jo0(n:jae):Prop where
 refs:n.refs.length=16
 call:∀ w,jbS w->ErrT w->vQ 90 #[n.V] w fun e w'=>(∃ k:Int,e=.returned (.tuple #[.string (putN n),.int .i64 k]))/\Ext w w'
theorem jlY{d:Nat}{n:jae}(h:jcg (InlD d) n):jo0 n:=⟨(h.one (inlP d)).refs,fun w _ _=>by
 rw[jlU h];exact (jjq (inlP d) w n h).mono fun e w' h=>⟨⟨0,h.1⟩,h.2⟩⟩
def PutP:PA->Prop
 | .nil=>True
 | .no=>jo0 jaV
 | .leaf q v=>jo0 ⟨1,q,v,jav 16⟩
 | .ext q n=>jo0 (nodeP (.ext q n))/\PutP n
 | .br v ks=>jo0 (nodeP (.br v ks))/\∀ i,PutP (ks i)
theorem PutP.node{P:PA}(h:PutP P)(hn:P.isNil=false):jo0 (nodeP P):=by
 cases P with
 | nil=>cases hn
 | no=>exact h
 | leaf q v=>exact h
 | ext q n=>exact h.1
 | br v ks=>exact h.1
theorem jem:∀ (P:PA),P.isNil=false->(underP P).length+1<=cntP P
 | .nil,h=>by cases h
 | .no,_=>bM _
 | .leaf _ _,_=>bM _
 | .ext q n,_=>by
  show (bigs (textP n)++underP n).length+1<=1+cntP n;rw[bG];have e:=jjO (textP n);cases hn:n.isNil with
  | true=>rw[jbu hn];exact bM _
  | false =>
   have:=jem n hn
   omega
 | .br v ks,_=>by
  show ((List.range 16).flatMap fun i=>if (ks i).isNil then []else bigs (textP (ks i))++underP (ks i)).length+1<=1+sumF (fun i=>cntP (ks i)) 16
  have:=jgm (fun i=>if (ks i).isNil then []else bigs (textP (ks i))++underP (ks i)) (fun i=>cntP (ks i)) (fun i=>by
   show (if (ks i).isNil=true then ([]:vM)else bigs (textP (ks i))++underP (ks i)).length<=cntP (ks i);cases hn:(ks i).isNil with
   | true=>rw[if_pos rfl];exact cC _
   | false =>
    rw[if_neg ff,bG];have e:=jjO (textP (ks i))
    have:=jem (ks i) hn
    omega) 16
  omega
def jxj(P:PA):Prop:=∀ (w0 W:vW) (T:TypeId) (x:vV) (D:Nat->Prop) (g:Nat) (v:vV) (Tx:vM),jbS w0->ErrT w0->PaO P (.iface T x) D w0->Ext w0 W->WrAt w0.heap.size g v Tx W->Tx.length+cntP P<=100000 ->
 vQ (jlN P) #[x,.pointer (some ⟨g,0,none⟩)] W (FoP w0.heap.size g v W (nodeP P).V (Tx++underP P))
def TopC(P:PA):Prop:=∀ (w0 W:vW) (T:TypeId) (x:vV) (D:Nat->Prop) (g:Nat) (v:vV) (Tx:vM),jbS w0->ErrT w0->PaO P (.iface T x) D w0->Ext w0 W->WrAt w0.heap.size g v Tx W->Tx.length+cntP P<=100000 ->
 vQ 52 #[.pointer (some ⟨g,0,none⟩),.iface T x] W (FoP w0.heap.size g v W (.string (textP P)) (Tx++underP P))
def jvG(P:PA):Prop:=∀ (w0 W:vW) (T:TypeId) (x:vV) (D:Nat->Prop) (g:Nat) (v:vV) (Tx:vM),jbS w0->ErrT w0->PaO P (.iface T x) D w0->Ext w0 W->WrAt w0.heap.size g v Tx W->Tx.length+cntP P<=100000 ->
 vQ 248 #[.pointer (some ⟨g,0,none⟩),.iface T x] W (FoP w0.heap.size g v W (.string (refB (textP P))) (Tx++(bigs (textP P)++underP P)))
theorem juj(z g:Nat)(v:vV)(Tx:vM)(W:vW)(h:WrAt z g v Tx W):vQ 278 #[.agg #[],.pointer (some ⟨g,0,none⟩)] W (FoP z g v W jaV.V Tx):=by
 have H:=Hd h;clear h;go_enter Tryz.func278,Tryz.ntmps278;go_wp2_with (first |(refine jal Tryz.allocNode rfl rfl ?_;intro X q E;simp only[bN]at q) |(refine jah (vs:=jaV.cells) rfl rfl rfl rfl q rfl Tryz.szNode jaV.one ?_;intro Q J K))
 have O:Ext W (W.alloc (.cells #[] 244)):=(ExtR W).alloc _;refine bodyPost_ret (jcE rfl rfl (jaH Q _ jaV rfl J)) rfl ?_
 exact⟨rfl,v,WrTo.refl H.o ((O.trans E).trans' K (fun x Z e=>by have e:x=W.heap.size+1:=e;omega))⟩
def jzo(q u:vB):List vV:=jb5 1 q u ⟨#[]⟩
theorem jwo(w0:vW)(z g:Nat)(v:vV)(Tx:vM)(W:vW)(hE:Ext w0 W)(q u:vB)(b:Nat)(hB:Blk w0 b (.cells #[.string q,.string u] 235))(h:WrAt z g v Tx W):vQ 262 #[.pointer (some ⟨b,0,none⟩),.pointer (some ⟨g,0,none⟩)] W (FoP z g v W (jae.V ⟨1,q,u,jav 16⟩) Tx):=by
 have H:=Hd h;have Q0:=Hd (jaa (hB.cell (i:=0) (v:=.string q) vF) hE);have Q1:=Hd (jaa (hB.cell (i:=1) (v:=.string u) vF) hE);have a1:=hB.lt;have O:=Hd (show ¬ b=W.heap.size by have:=hE.size;omega);clear h hB hE a1;go_enter Tryz.func262,Tryz.ntmps262;go_wp2_with (refine jal Tryz.allocNode rfl rfl ?_;intro W4 Q X)
 have a2:=Hd Q;have E:=Hd X;clear Q X;refine vS ?_;refine ja4 [0,1,2,3,4,5,6,7,8,9] [9] Ext (jad (fun z=>z=W.heap.size)) ExtR ExtT (fun x y z h k=>jad.trans h k) (fun x y h=>h.mono (fun _ _ h=>h.elim)) vY vY vY ?_
 refine vD ?_
 refine qDV _ ((.pointer (some ⟨b,0,none⟩))) rfl (fun w1 _=>by kernel_rfl) ?_;refine vS ?_
 refine vD ?_
 refine qDL ⟨b,0,none⟩ _ rfl (fun w1 h1=>jas (fun w=>by kernel_rfl) (jaD (jaa Q0.o E.o) (((jad.refl (fun z=>z=W.heap.size) W4).drew).trans h1) (by exact O.o))) ?_;refine vS ?_
 refine vD ?_
 refine qDV _ ((.pointer (some ⟨b,0,none⟩))) rfl (fun w1 _=>by kernel_rfl) ?_;refine vS ?_
 refine vD ?_
 refine qDL ⟨b,1,none⟩ _ rfl (fun w1 h1=>jas (fun w=>by kernel_rfl) (jaD (jaa Q1.o E.o) (((jad.refl (fun z=>z=W.heap.size) W4).drew).trans h1) (by exact O.o))) ?_;refine vS ?_
 refine vD ?_
 refine qDH _ rfl (fun w5 Z K hK=>?_);have hX:=(jaj W4).trans Z;refine jkJ (vs:=jzo q u) rfl rfl rfl (a2.o.keeps hX (fun h=>h)) rfl Tryz.szNode (jb6 _ _ _ _) ?_;intro W6 a0 J;have H6:=Hd (bB a0 ((E.o.trans hX).trans' J (fun x hx e=>by have e:x=W.heap.size:=e;omega)));refine vS ?_;refine hK _ _ J ?_;clear hK K Z hX a0 J;refine jck vY (fun w7 Z=>?_);have a3:=H6.o.1.keeps Z (fun h=>h);have a4:=H6.o.2.trans Z;go_wp2_with fail
 refine bodyPost_ret (jcE rfl rfl (jaH w7 _ ⟨1,q,u,jav 16⟩ rfl a3)) rfl ?_
 exact⟨rfl,v,WrTo.refl H.o a4⟩
theorem jsY(P:PA)(hn:P.isNil=false)(hp:PutP P)(hF:jxj P):TopC P:=by
 intro w0 W T x D g v Tx H J K O Q hl;have hf:=hF w0 W T x D g v Tx H J K O Q hl;have hm:=K.at'.meth.form;have hm:∀ w,(Go.method (437+1) T x "guilloche/trie.form").run Tryz.prog w=.ok (jlN P,x) w:=hm;have a2:=jpk P;have q:=hp.node hn;rw[jmb hn];have HN:Hid (∀ w,Ext w0 w->vQ 90 #[(nodeP P).V] w fun e w'=>(∃ k:Int,e=.returned (.tuple #[.string (putN (nodeP P)),.int .i64 k]))/\Ext w w'):=fun w e=>q.call w (H.ext e) (J.ext e);have X:=Hd hf;have HW:=Hd (bB Q O)
 obtain⟨U,hU⟩:=vE (Tx++underP P)
 rw[<-hU]at X ⊢
 obtain⟨n,z⟩:=vE (nodeP P)
 rw[<-z]at X HN ⊢;clear hf H J K O Q hl q hn hp hF hU z;go_enter Tryz.func52,Tryz.ntmps52;go_wp2_with fail
 refine X.o.mono ?_;rintro e w1 ⟨rfl,v1,Z⟩;have HT:=Hd Z;have a0:=Hd (Z.ext0 HW.o.1 HW.o.2 (bM _));clear Z;go_wp2_with fail
 refine (HN.o w1 a0.o).mono ?_;rintro e w2 ⟨⟨k,rfl⟩,E⟩;have a1:=Hd E;clear E;go_wp2_with fail
 go_ret
 exact⟨rfl,v1,HT.o.ext a1.o⟩
end
section
attribute [local go_sem] Oper.semAt_some
end
section
attribute [local go_sem] Oper.semAt_some
end
section
attribute [local go_sem] Oper.semAt_some
theorem jwf{y h:vB}(z:jjZ y=some h):jfH y:=by
 unfold jjZ at z;cases q:cutN y with
 | none=>rw[q]at z;cases z
 | some r =>
  rw[q]at z;have z:jeX y r=some h:=z;unfold jeX at z;rw[Option.filter_eq_some_iff]at z
  obtain⟨E,H⟩:=z
  have H:h.size=32:=by simpa using H
  unfold je5 at E
  by_cases hr:r.1=false/\r.2.1+r.2.2=y.size
  case neg=>rw[if_neg hr]at E;cases E
  rw[if_pos hr]at E;have E:=bV E
  obtain⟨b,o,n⟩:=r
  obtain⟨hb,J⟩:=hr
  have hb:b=false:=hb;have J:o+n=y.size:=J;subst hb
  refine⟨h,H,?_⟩
  have Q:n=32:=by
   have e:=congrArg ByteArray.size E;rw[dC]at e;simp only at e;omega
  obtain⟨⟨l⟩⟩:=y
  cases l with
  | nil=>exact absurd (jjV q).1 vI
  | cons a t =>
   have q:cutN ⟨(a :: t).toArray⟩=some (false,o,n):=q;rw[jgh]at q
   obtain⟨m,K⟩:=vE (if a.toNat < 192 then a.toNat - 128 else a.toNat - 192)
   rw[<-K]at q
   by_cases h4:a.toNat < 128
   ·rw[if_pos h4]at q
    have:=(Prod.mk.inj (Prod.mk.inj (bV q)).2).2;omega
   rw[if_neg h4]at q
   by_cases h5:m<=55
   ·rw[if_pos h5]at q
    split at q
    ·have O:=(Prod.mk.inj (bV q)).1
     have X:=(Prod.mk.inj (Prod.mk.inj (bV q)).2).1;have Z:=(Prod.mk.inj (Prod.mk.inj (bV q)).2).2;have O:¬ 192<=a.toNat:=of_decide_eq_false O;rw[if_pos vO]at K;have ha:a=160:=dP.1 (by show a.toNat=160;omega);have ht:h=⟨t.toArray⟩:=by
      rw[<-E, <-X,Q];apply ByteArray.ext;apply Array.ext';have a0:o+n=t.length+1:=J;rw[fD,fW,fE];show ((a :: t).drop 1).take (1+32 - 1)=t;rw[List.drop_succ_cons,List.drop_zero,cD vO]
     unfold jaC;rw[if_neg vO,H,ht,ha];apply ByteArray.ext;apply Array.ext';rw[dJ,fR];rfl
    ·cases q
   ·rw[if_neg h5]at q
    split at q
    ·rename_i n' hl
     split at q
     ·have Z:=(Prod.mk.inj (Prod.mk.inj (bV q)).2).2
      have:=(jeb hl).2.2.2.1
      omega
     ·cases q
    ·cases q
def GetE(s:vB):Prop:=∀ w,ErrT w->vQ 79 #[.string s] w (jxk w)
theorem WrAt.push{z g:Nat}{v v':vV}{Tx New:vM}{W w6:vW}(h:WrAt z g v Tx W){n:Nat}(hn:n=(Tx++New).length)(r1:w6.ownsRow 0 9 1 v' n ((Tx++New).map Value.string))(r2:jad (fun b=>v.ownBlock=some b) W w6)(r3:v'.ownBlock=v.ownBlock\/∀ b,v'.ownBlock=some b->W.heap.size<=b)(hz:z<=W.heap.size)(h0:New≠[]) :
  WrTo z g v W (w6.setCell ⟨g,0,none⟩ v') v' (Tx++New):=by
 subst hn;have E:=h.var.keeps r2 (fun e=>(h.own g e).2.1 rfl);have H:=jad.oneSet w6 ⟨g,0,none⟩ v';have J:=h.var.lt;have o:∀ b,v'.ownBlock=some b->v.ownBlock=some b\/W.heap.size<=b:=fun b hb=>by
  rcases r3 with r3 | r3
  ·exact .inl (r3 ▸ hb)
  ·exact .inr (r3 b hb)
 have q:∀ b,v'.ownBlock=some b->b≠g:=fun b hb=>by
  rcases o b hb with e | e
  ·exact (h.own b e).2.1
  ·omega
 refine⟨⟨h.lo,E.set_same (i:=0) _,jaY r1 H (fun b hb e=>q b hb e),fun b hb=>⟨?_,q b hb,bP (jyt r1 hb) H.size⟩,fun e=>?_⟩,?_,o⟩
 ·rcases o b hb with e | e
  ·exact (h.own b e).1
  ·omega
 ·exact absurd (List.append_eq_nil_iff.1 e).2 h0
 ·exact ((r2.mono (fun x _ e=>.inr e):jad (fun b=>b=g\/v.ownBlock=some b) W w6)).trans' H (fun x K e=>.inl e)
theorem WrAt.sameTo{z g:Nat}{v:vV}{Tx:vM}{W:vW}(h:WrAt z g v Tx W):WrTo z g v W (W.setCell ⟨g,0,none⟩ v) v Tx:=by
 have K:=jad.oneSet W ⟨g,0,none⟩ v;have o:=h.var.set_same (i:=0) v
 exact⟨⟨h.lo,o,jaY h.row K (fun b hb e=>(h.own b hb).2.1 e),fun b hb=>⟨(h.own b hb).1,(h.own b hb).2.1,bP (h.own b hb).2.2 K.size⟩,h.nil⟩,K.mono (fun x _ e=>.inl e),fun b hb=>.inl hb⟩
theorem WrAt.same{z g:Nat}{v:vV}{Tx:vM}{W:vW}(h:WrAt z g v Tx W):WrAt z g v Tx (W.setCell ⟨g,0,none⟩ v):=h.sameTo.at'
theorem jm0{W:vW}{T:TypeId}{sz:Nat}{a:Option Addr}{n c:Nat}{xs:List vV}(h:W.ownsRow 0 T sz (.slice a n c) n xs)(h0:n≠0):∃ b,a=some ⟨b,0,none⟩:=by
 obtain⟨_,⟨o,e⟩ |⟨g,q,z,e,_⟩⟩:=h
 ·injection o with _ o _
  exact absurd o h0
 ·injection e with e _ _
  exact⟨g,e⟩
theorem jef{W:vW}{T:TypeId}{b n c:Nat}{xs:List vV}(h:W.ownsRow 0 T 1 (.slice (some ⟨b,0,none⟩) n c) n xs){j:Nat}{u:vV}(hj:xs[j]?=some u):W.cell? ⟨b,j,none⟩=some u:=by
 have e:=(bU.1 hj).1;have o:=h.1;rw[h.cellAt j vO,hj]
theorem jtX(t:vB)(h:¬ t.size < 32):jjZ (refB t)=some (shaB t):=by
 rw[jmP];unfold refB;rw[if_neg h];exact jd8 (jbi _)
theorem jmQ(t:vB)(h:t.size < 32):jjZ (refB t)=none:=by
 unfold refB;rw[if_pos h];cases e:jjZ t with
 | none=>rfl
 | some x =>
  have:=(jwf (y:=t) (h:=x) e).size
  omega
theorem jsp(t:vB):(refB t).size<=33:=by
 unfold refB;split
 ·omega
 ·exact Nat.le_of_eq (jfH.size ⟨_,jbi t,rfl⟩)
theorem jsa{W:vW}{T:TypeId}{sz:Nat}{a:Option Addr}{n c:Nat}{xs:List vV}(h:W.ownsRow 0 T sz (.slice a n c) n xs):n<=c:=by
 obtain⟨_,⟨z,e⟩ |⟨g,o,q,e,E,H,J,K⟩⟩:=h
 ·omega
 ·injection e with _ _ e
  omega
theorem jpW(P:PA)(hT:TopC P)(hz:(textP P).size < 32)(w0 W:vW)(T:TypeId)(x:vV)(D:Nat->Prop)(g:Nat)(v:vV)(Tx:vM)(hc:jbS w0)(J:ErrT w0)(hP:PaO P (.iface T x) D w0)(hE:Ext w0 W)(hW:WrAt w0.heap.size g v Tx W)(hl:Tx.length+cntP P<=100000) :
  vQ 248 #[.pointer (some ⟨g,0,none⟩),.iface T x] W (FoP w0.heap.size g v W (.string (refB (textP P))) (Tx++underP P)):=by
 obtain⟨W1,b1⟩:=vE (W.alloc (.cells #[.slice none 0 0] 96))
 have b4:Ext W W1:=by rw[b1];exact (ExtR W).alloc _
 have b5:WrAt w0.heap.size W.heap.size (.slice none 0 0) [] W1:=⟨hE.size,by rw[b1];exact Blk.new W _,fH _ _ _ _,fun b hb=>(by cases hb),fun _=>rfl⟩;have a0:=hT w0 W1 T x D W.heap.size (.slice none 0 0) [] hc J hP (hE.trans b4) b5 (by have:([]:vM).length=0:=rfl;omega);rw[cP]at a0;have a8:=Hd a0;clear a0;have c3:=Hd b1;have d7:=c3;have HG:=Hd hW;have O:=Hd (bB b5 (bB b4 hE));have d8:=hc;have a9:=Hd (fun w (e:Ext w0 w)=>jwG w (textP P) (hc.ext e));have a3:=Hd (fun w=>jhD w (refB (textP P)) (by have:=jsp (textP P);omega));rw[jmQ _ hz]at a3;have c4:Tx.length+(underP P).length<=100000:=by
  cases hn:P.isNil with
  | true=>rw[jbu hn];show Tx.length+0<=_;omega
  | false=>have:=jem P hn;omega
 have c5:=Hd c4
 obtain⟨U,hU⟩:=vE (underP P)
 obtain⟨t,ht⟩:=vE (textP P)
 rw[<-ht, <-hU]at a8;rw[<-ht]at a9 a3 ⊢;rw[<-hU]at c5 ⊢;clear hT hz hc J hP hE hW hl b4 b5 c4 hU ht b1 d7 d8;go_enter Tryz.func248,Tryz.ntmps248;go_wp2_with fail
 rw[<-c3.o];refine a8.o.mono ?_;rintro e w2 ⟨rfl,v2,Q⟩;have b6:g≠W.heap.size:=by have:=HG.o.var.lt;omega
 have b0:=Q.ext0 O.o.1 (O.o.2.2.trans O.o.2.1) (bM _);have c6:WrAt w0.heap.size g v Tx w2:=(HG.o.ext O.o.2.1).off Q.kp (fun e=>e.elim b6 (fun e=>by cases e)) (fun b hb e=>e.elim (fun e=>by have:=(HG.o.own b hb).2.2;omega) (fun e=>by cases e));have c7:Ext W w2:=O.o.2.1.trans' Q.kp (fun x hx e=>e.elim (fun e=>by omega) (fun e=>by cases e));have e5:Hid (∀ b,v2.ownBlock=some b->W.heap.size<=b):=(fun b hb=>(Q.sub b hb).elim (fun e=>by cases e) (fun e=>bL O.o.2.1.size e));have a5:=Hd (bB Q.at' (bB c6 (bB c7 b0)));clear Q c6 c7 b0
 obtain⟨h,hh⟩:=vE W.heap.size
 have e6:=Hd (bB b6 hh);rw[<-hh]at a5 ⊢;clear b6 hh;go_wp2_with fail
 refine vH (a9.o w2 a5.o.2.2.2) fun w3 d9=>?_;go_wp2_with fail
 refine vC (a3.o w3) fun w4 X=>?_;have X:=d9.o.trans X;have q:=Hd (bB (a5.o.1.ext X) (bB (a5.o.2.1.ext X) (a5.o.2.2.1.trans X)));clear X;unfold optV;go_wp2_with fail
 obtain⟨i0,c8,e0,e1,e2⟩:=info_parts Tryz.infoStr
 obtain⟨a1,c1,c9⟩:=jaK q.o.2.1.row
 obtain⟨Z,b3⟩:∃ n,n=List.length Tx:=⟨_,rfl⟩
 rw[<-b3]at c9;subst c9;have d0:=Hd b3;have d1:=Hd (show World.ownsRow w4 0 9 1 (.slice a1 Z c1) Z (List.map Value.string Tx) by have h9:=q.o.2.1.row;rw[<-b3]at h9;exact h9);have c0:=Hd (jsa d1.o);have QG:=Hd (q.o.2.1.var.cell (i:=0) (v:=.slice a1 Z c1) vF);clear b3
 by_cases hU0:U=[]
 ·have a6:=q.o.1.nil hU0
  subst a6;have QH:=Hd (q.o.1.var.cell (i:=0) (v:=.slice none 0 0) vF);have b7:=Hd hU0;clear hU0;refine jar [0,1,2,3,4,5,6,7,8,9,10,11,12] [9,12] (Ext) ExtR ExtT vY vY vY ?_;iterate 2 refine vP ?_
  refine qA _ ((.pointer (some ⟨g,0,none⟩))) rfl (fun w1=>by kernel_rfl) ?_;refine vS ?_
  refine vP ?_
  refine qL ⟨g,0,none⟩ _ rfl (fun w1 h1=>jas (fun w=>by kernel_rfl) (jaa QG.o ((jaj _).trans h1))) ?_;refine vS ?_
  refine vP ?_
  refine qA _ ((.pointer (some ⟨h,0,none⟩))) rfl (fun w1=>by kernel_rfl) ?_;refine vS ?_
  refine vP ?_
  refine qL ⟨h,0,none⟩ _ rfl (fun w1 h1=>jas (fun w=>by kernel_rfl) (jaa QH.o ((jaj _).trans h1))) ?_;refine vS ?_;refine qH _ rfl (fun w5 J K hK=>?_);refine jco (v:=.slice a1 Z c1) (w':=w5) (jdF (jcb (i:=i0) Tryz.uStrs c8 a1 Z c1 c0.o 0 w5) vY) (hK _ _ ?_);have d2:=Hd ((jaj _).trans J);clear hK K J;refine vS ?_;refine qA _ ((.pointer (some ⟨g,0,none⟩))) rfl (fun w1=>by kernel_rfl) ?_;refine vS ?_
  refine vP ?_
  refine qH _ rfl (fun w8 E K hK=>?_);have z:=q.o.2.1.ext (d2.o.trans E);have q8:w8.cell? ⟨g,0,none⟩=some (.slice a1 Z c1):=z.var.cell (i:=0) vF;have f8:w8.frozen? ⟨g,0,none⟩=false:=z.var.frozen;have d3:WrAt w0.heap.size g (.slice a1 Z c1) Tx (w8.setCell ⟨g,0,none⟩ (.slice a1 Z c1)):=z.same;have H8:=Hd (bB d3 (bB (d2.o.trans E) z));clear z d3 E;go_simp;refine hK _ _ ?_;clear hK K q8 f8;refine qE (fun w7 J=>?_);have H9:=Hd (H8.o.1.ext J);have b8:=Hd J;clear J;go_wp2_with fail
  go_ret;rw[b7.o,bR]
  exact⟨rfl,_,(WrTo.refl HG.o (q.o.2.2.trans H8.o.2.1)).trans ((H8.o.2.2.sameTo).ext b8.o)⟩
 ·obtain⟨a2,c2,a6⟩:=jaK q.o.1.row
  have a7:=q.o.1.row
  obtain⟨n2,b9⟩:∃ n,n=List.length U:=⟨_,rfl⟩
  rw[<-b9]at a6 a7;rw[a6]at a7
  obtain⟨b2,rfl⟩:=jm0 a7 (fun e=>hU0 (bE vO))
  subst a6;have e3:=Hd a7;have d4:=Hd b9.symm;have b7:=Hd hU0;have d5:=Hd (show Z+n2<=200000 by have:=c5.o;have:=d0.o;omega);have QH:=Hd (q.o.1.var.cell (i:=0) (v:=.slice (some ⟨b2,0,none⟩) n2 c2) vF);clear hU0 a7 b9;refine jar [0,1,2,3,4,5,6,7,8,9,10,11,12] [9,12] (Ext) ExtR ExtT vY vY vY ?_;iterate 2 refine vP ?_
  refine qA _ ((.pointer (some ⟨g,0,none⟩))) rfl (fun w1=>by kernel_rfl) ?_;refine vS ?_
  refine vP ?_
  refine qL ⟨g,0,none⟩ _ rfl (fun w1 h1=>jas (fun w=>by kernel_rfl) (jaa QG.o ((jaj _).trans h1))) ?_;refine vS ?_
  refine vP ?_
  refine qA _ ((.pointer (some ⟨h,0,none⟩))) rfl (fun w1=>by kernel_rfl) ?_;refine vS ?_
  refine vP ?_
  refine qL ⟨h,0,none⟩ _ rfl (fun w1 h1=>jas (fun w=>by kernel_rfl) (jaa QH.o ((jaj _).trans h1))) ?_;refine vS ?_;refine qH _ rfl (fun w5 J K hK=>?_);have H:=(jaj _).trans J;refine jdv w5 (.tmp 37) (.tmp 41) 22 rfl 9 i0 _ 1 16 Tryz.uStrs c8 e0 e1 e2 rfl vI (.slice a1 Z c1) Z _ rfl (jbh d1.o H) ⟨b2,0,none⟩ n2 c2 (U.map Value.string) rfl (by rw[bZ,d4.o,iZ]) (fun j u hj=>by rw[Addr.add_lit,cL];exact (jef (jbh e3.o H) hj)) (by intro u hu;obtain⟨y,_,rfl⟩:=bC.1 hu;rfl) (by have:=d5.o;unfold maxLen;omega) (by have:=d5.o;omega) ?_;intro v' w6 r1 r2 r3;have HA:=Hd (bB H (bB r1 (bB r2 r3)))
  obtain⟨a',c',e4⟩:=jaK r1
  subst e4;refine hK _ _ ?_;clear hK K J H r1 r2 r3;refine vS ?_;refine qA _ ((.pointer (some ⟨g,0,none⟩))) rfl (fun w1=>by kernel_rfl) ?_;refine vS ?_
  refine vP ?_
  refine qH _ rfl (fun w8 E K hK=>?_)
  obtain⟨H,r1,r2,r3⟩:=HA.o
  have a4:=q.o.2.1.ext H;have d6:w0.heap.size<=w5.heap.size:=bL a4.lo (Nat.le_of_lt a4.var.lt);have hp:=a4.push (n:=Z+n2) (by rw[bG, <-d0.o,d4.o]) (by rw[bY];exact jbh r1 E) (r2.trans (E.mono (fun _ _ e=>e.elim))) r3 d6 b7.o;have z:=(a4.var.keeps r2 (fun e=>(a4.own g e).2.1 rfl)).keeps E (fun e=>e);have q8:w8.cell? ⟨g,0,none⟩=some (.slice a1 Z c1):=z.cell (i:=0) vF;have f8:w8.frozen? ⟨g,0,none⟩=false:=z.frozen;have H8:=Hd (bB hp H);clear H r1 r2 r3 a4 d6 hp z E;go_simp;refine hK _ _ ?_;clear hK K q8 f8;refine qE (fun w7 J=>?_);have b8:=Hd J;clear J;go_wp2_with fail
  go_ret
  exact⟨rfl,_,((WrTo.refl HG.o (q.o.2.2.trans H8.o.2)).trans H8.o.1).ext b8.o⟩
theorem juZ(P:PA)(hT:TopC P)(hz:¬(textP P).size < 32)(w0 W:vW)(T:TypeId)(x:vV)(D:Nat->Prop)(g:Nat)(v:vV)(Tx:vM)(hc:jbS w0)(J:ErrT w0)(hP:PaO P (.iface T x) D w0)(hE:Ext w0 W)(hW:WrAt w0.heap.size g v Tx W)(hl:Tx.length+cntP P<=100000) :
  vQ 248 #[.pointer (some ⟨g,0,none⟩),.iface T x] W (FoP w0.heap.size g v W (.string (refB (textP P))) (Tx++(textP P :: underP P))):=by
 obtain⟨W1,b8⟩:=vE (W.alloc (.cells #[.slice none 0 0] 96))
 have c7:Ext W W1:=by rw[b8];exact (ExtR W).alloc _
 have c8:WrAt w0.heap.size W.heap.size (.slice none 0 0) [] W1:=⟨hE.size,by rw[b8];exact Blk.new W _,fH _ _ _ _,fun b hb=>(by cases hb),fun _=>rfl⟩;have a3:=hT w0 W1 T x D W.heap.size (.slice none 0 0) [] hc J hP (hE.trans c7) c8 (by have:([]:vM).length=0:=rfl;omega);rw[cP]at a3;have b3:=Hd a3;clear a3;have d7:=Hd b8;have f5:=d7;have HG:=Hd hW;have O:=Hd (bB c8 (bB c7 hE));have f6:=hc;have b4:=Hd (fun w (e:Ext w0 w)=>jwG w (textP P) (hc.ext e));have a4:=Hd (fun w=>jhD w (refB (textP P)) (by have:=jsp (textP P);omega));rw[jtX _ hz]at a4;have d8:Tx.length+(underP P).length<=100000:=by
  cases hn:P.isNil with
  | true=>rw[jbu hn];show Tx.length+0<=_;omega
  | false=>have:=jem P hn;omega
 have c9:=Hd d8
 obtain⟨U,hU⟩:=vE (underP P)
 obtain⟨t,ht⟩:=vE (textP P)
 rw[<-ht, <-hU]at b3;rw[<-ht]at b4 a4 ⊢;rw[<-hU]at c9 ⊢;clear hT hz hc J hP hE hW hl c7 c8 d8 hU ht b8 f5 f6;go_enter Tryz.func248,Tryz.ntmps248;go_wp2_with fail
 rw[<-d7.o];refine b3.o.mono ?_;rintro e w2 ⟨rfl,v2,Q⟩;have d0:g≠W.heap.size:=by have:=HG.o.var.lt;omega
 have b5:=Q.ext0 O.o.1 (O.o.2.2.trans O.o.2.1) (bM _);have d9:WrAt w0.heap.size g v Tx w2:=(HG.o.ext O.o.2.1).off Q.kp (fun e=>e.elim d0 (fun e=>by cases e)) (fun b hb e=>e.elim (fun e=>by have:=(HG.o.own b hb).2.2;omega) (fun e=>by cases e));have e0:Ext W w2:=O.o.2.1.trans' Q.kp (fun x hx e=>e.elim (fun e=>by omega) (fun e=>by cases e));have d5:Hid (∀ b,v2.ownBlock=some b->W.heap.size<=b):=(fun b hb=>(Q.sub b hb).elim (fun e=>by cases e) (fun e=>bL O.o.2.1.size e));have a6:=Hd (bB Q.at' (bB d9 (bB e0 b5)));clear Q d9 e0 b5
 obtain⟨h,hh⟩:=vE W.heap.size
 have e1:=Hd (bB d0 hh);rw[<-hh]at a6 ⊢;clear d0 hh;go_wp2_with fail
 refine vH (b4.o w2 a6.o.2.2.2) fun w3 f7=>?_;go_wp2_with fail
 refine vC (a4.o w3) fun w4 X=>?_;have X:=f7.o.trans X;have q:=Hd (bB (a6.o.1.ext X) (bB (a6.o.2.1.ext X) (a6.o.2.2.1.trans X)));clear X;unfold optV
 obtain⟨i0,a7,b9,c3,c4⟩:=info_parts Tryz.infoStr
 have a8:=q.o.2.1
 obtain⟨a0,c0,f9⟩:=jaK a8.row
 have q4:=a8.var.cell (i:=0) (v:=v) vF;have e2:=Hd (show Tx.length<=100000 by have:=c9.o;omega);have g0:=Hd a8.row;have a9:=Hd a8;clear a8;subst f9;go_wp2_with (at_builtin;refine jcn _ rfl (.tmp 27) (.tmp 29) 22 rfl 9 i0 _ 1 16 Tryz.uStrs a7 b9 c3 c4 rfl vI (.slice a0 Tx.length c0) Tx.length _ rfl (jbh g0.o ((ExtR w4).alloc _)) ⟨w4.heap.size,0,none⟩ 1 1 [.string t] rfl rfl (ja3 (Blk.new w4 _)) (by simp[Value.oneCell']) (by have:=e2.o;unfold maxLen;omega) (by have:=e2.o;omega) ?_;intro v' w6 r1 r2 r3;obtain⟨e3,e4,rfl⟩:=jaK r1;have g1:=a9.o.var.lt;have d1:=(a9.o.var.alloc (.cells #[.string t] 9)).keeps r2 (fun e=>(a9.o.own g e).2.1 rfl);have g2:w6.cell? ⟨g,0,none⟩=some (.slice a0 Tx.length c0):=d1.cell (i:=0) vF;have g3:w6.frozen? ⟨g,0,none⟩=false:=d1.frozen)
 obtain⟨wS,e5⟩:=vE (w6.setCell ⟨g,0,none⟩ (.slice e3 (Tx.length+1) e4))
 have b6:=a9.o.ext ((ExtR w4).alloc (.cells #[.string t] 9));have hp:=b6.push (n:=Tx.length+1) (New:=[t]) (by simp) (by rw[bY];exact r1) r2 r3 (by have:=a9.o.lo;rw[bN];omega) (by simp);rw[<-e5]at hp ⊢;have hp:=WrTo.ahead ((ExtR w4).alloc (.cells #[.string t] 9)) hp;have e6:=q.o.1.off hp.kp (fun e=>e.elim (fun e=>by have:=HG.o.var.lt;have:=e1.o.2;omega) (fun e=>by have:=(HG.o.own h e).2.2;have:=e1.o.2;omega)) (fun b hb e=>by
  have h1:=d5.o b hb;rcases e with e | e
  ·have:=HG.o.var.lt;omega
  ·have:=(HG.o.own b e).2.2;omega)
 have b7:WrTo w0.heap.size g (.slice a0 Tx.length c0) W wS (.slice e3 (Tx.length+1) e4) (Tx++[t]):=(WrTo.refl HG.o q.o.2.2).trans hp;have c5:∃ v1,WrAt w0.heap.size h v2 U wS/\WrAt w0.heap.size g v1 (Tx++[t]) wS/\WrTo w0.heap.size g (.slice a0 Tx.length c0) W wS v1 (Tx++[t]):=⟨_,e6,hp.at',b7⟩
 obtain⟨v1,c5⟩:=c5
 clear q hp b6 e5 e6 b7 g2 g3 d1 r1 r2 r3 g1 q4;have q:=Hd c5;clear c5 a7 b9 c3 c4
 obtain⟨i0,a7,b9,c3,c4⟩:=info_parts Tryz.infoStr
 obtain⟨a1,c1,e7⟩:=jaK q.o.2.1.row
 obtain⟨Z,c6⟩:∃ n,n=List.length (Tx++[t]):=⟨_,rfl⟩
 rw[<-c6]at e7;subst e7;have e8:=Hd c6;have e9:=Hd (show World.ownsRow wS 0 9 1 (.slice a1 Z c1) Z (List.map Value.string (Tx++[t])) by have h9:=q.o.2.1.row;rw[<-c6]at h9;exact h9);have d6:=Hd (jsa e9.o);have QG:=Hd (q.o.2.1.var.cell (i:=0) (v:=.slice a1 Z c1) vF);clear c6
 by_cases hU0:U=[]
 ·have b0:=q.o.1.nil hU0
  subst b0;have QH:=Hd (q.o.1.var.cell (i:=0) (v:=.slice none 0 0) vF);have d2:=Hd hU0;clear hU0;refine jar [0,1,2,3,4,5,6,7,8,9,10,11,12] [9,12] (Ext) ExtR ExtT vY vY vY ?_;iterate 2 refine vP ?_
  refine qA _ ((.pointer (some ⟨g,0,none⟩))) rfl (fun w1=>by kernel_rfl) ?_;refine vS ?_
  refine vP ?_
  refine qL ⟨g,0,none⟩ _ rfl (fun w1 h1=>jas (fun w=>by kernel_rfl) (jaa QG.o ((jaj _).trans h1))) ?_;refine vS ?_
  refine vP ?_
  refine qA _ ((.pointer (some ⟨h,0,none⟩))) rfl (fun w1=>by kernel_rfl) ?_;refine vS ?_
  refine vP ?_
  refine qL ⟨h,0,none⟩ _ rfl (fun w1 h1=>jas (fun w=>by kernel_rfl) (jaa QH.o ((jaj _).trans h1))) ?_;refine vS ?_;refine qH _ rfl (fun w5 J K hK=>?_);refine jco (v:=.slice a1 Z c1) (w':=w5) (jdF (jcb (i:=i0) Tryz.uStrs a7 a1 Z c1 d6.o 0 w5) vY) (hK _ _ ?_);have f0:=Hd ((jaj _).trans J);clear hK K J;refine vS ?_;refine qA _ ((.pointer (some ⟨g,0,none⟩))) rfl (fun w1=>by kernel_rfl) ?_;refine vS ?_
  refine vP ?_
  refine qH _ rfl (fun w8 E K hK=>?_);have z:=q.o.2.1.ext (f0.o.trans E);have q8:w8.cell? ⟨g,0,none⟩=some (.slice a1 Z c1):=z.var.cell (i:=0) vF;have f8:w8.frozen? ⟨g,0,none⟩=false:=z.var.frozen;have f1:WrAt w0.heap.size g (.slice a1 Z c1) (Tx++[t]) (w8.setCell ⟨g,0,none⟩ (.slice a1 Z c1)):=z.same;have H8:=Hd (bB f1 (bB (f0.o.trans E) z));clear z f1 E;go_simp;refine hK _ _ ?_;clear hK K q8 f8;refine qE (fun w7 J=>?_);have H9:=Hd (H8.o.1.ext J);have d3:=Hd J;clear J;go_wp2_with fail
  go_ret;rw[d2.o]
  exact⟨rfl,_,(q.o.2.2.ext H8.o.2.1).trans ((H8.o.2.2.sameTo).ext d3.o)⟩
 ·obtain⟨a2,c2,b0⟩:=jaK q.o.1.row
  have b1:=q.o.1.row
  obtain⟨n2,d4⟩:∃ n,n=List.length U:=⟨_,rfl⟩
  rw[<-d4]at b0 b1;rw[b0]at b1
  obtain⟨b2,rfl⟩:=jm0 b1 (fun e=>hU0 (bE vO))
  subst b0;have g4:=Hd b1;have f2:=Hd d4.symm;have d2:=Hd hU0;have f3:=Hd (show Z+n2<=200000 by have:=c9.o;have h9:=e8.o;rw[bG,iX]at h9;omega);have QH:=Hd (q.o.1.var.cell (i:=0) (v:=.slice (some ⟨b2,0,none⟩) n2 c2) vF);clear hU0 b1 d4;refine jar [0,1,2,3,4,5,6,7,8,9,10,11,12] [9,12] (Ext) ExtR ExtT vY vY vY ?_;iterate 2 refine vP ?_
  refine qA _ ((.pointer (some ⟨g,0,none⟩))) rfl (fun w1=>by kernel_rfl) ?_;refine vS ?_
  refine vP ?_
  refine qL ⟨g,0,none⟩ _ rfl (fun w1 h1=>jas (fun w=>by kernel_rfl) (jaa QG.o ((jaj _).trans h1))) ?_;refine vS ?_
  refine vP ?_
  refine qA _ ((.pointer (some ⟨h,0,none⟩))) rfl (fun w1=>by kernel_rfl) ?_;refine vS ?_
  refine vP ?_
  refine qL ⟨h,0,none⟩ _ rfl (fun w1 h1=>jas (fun w=>by kernel_rfl) (jaa QH.o ((jaj _).trans h1))) ?_;refine vS ?_;refine qH _ rfl (fun w5 J K hK=>?_);have H:=(jaj _).trans J;refine jdv w5 (.tmp 37) (.tmp 41) 22 rfl 9 i0 _ 1 16 Tryz.uStrs a7 b9 c3 c4 rfl vI (.slice a1 Z c1) Z _ rfl (jbh e9.o H) ⟨b2,0,none⟩ n2 c2 (U.map Value.string) rfl (by rw[bZ,f2.o,iZ]) (fun j u hj=>by rw[Addr.add_lit,cL];exact (jef (jbh g4.o H) hj)) (by intro u hu;obtain⟨y,_,rfl⟩:=bC.1 hu;rfl) (by have:=f3.o;unfold maxLen;omega) (by have:=f3.o;omega) ?_;intro v' w6 r1 r2 r3;have HA:=Hd (bB H (bB r1 (bB r2 r3)))
  obtain⟨a',c',g5⟩:=jaK r1
  subst g5;refine hK _ _ ?_;clear hK K J H r1 r2 r3;refine vS ?_;refine qA _ ((.pointer (some ⟨g,0,none⟩))) rfl (fun w1=>by kernel_rfl) ?_;refine vS ?_
  refine vP ?_
  refine qH _ rfl (fun w8 E K hK=>?_)
  obtain⟨H,r1,r2,r3⟩:=HA.o
  have a5:=q.o.2.1.ext H;have f4:w0.heap.size<=w5.heap.size:=bL a5.lo (Nat.le_of_lt a5.var.lt);have hp:=a5.push (n:=Z+n2) (by rw[bG, <-e8.o,f2.o]) (by rw[bY];exact jbh r1 E) (r2.trans (E.mono (fun _ _ e=>e.elim))) r3 f4 d2.o;have z:=(a5.var.keeps r2 (fun e=>(a5.own g e).2.1 rfl)).keeps E (fun e=>e);have q8:w8.cell? ⟨g,0,none⟩=some (.slice a1 Z c1):=z.cell (i:=0) vF;have f8:w8.frozen? ⟨g,0,none⟩=false:=z.frozen;have H8:=Hd (bB hp H);clear H r1 r2 r3 a5 f4 hp z E;go_simp;refine hK _ _ ?_;clear hK K q8 f8;refine qE (fun w7 J=>?_);have d3:=Hd J;clear J;go_wp2_with fail
  go_ret;rw[show Tx++t :: U=Tx++[t]++U by rw[bX];rfl]
  exact⟨rfl,_,((q.o.2.2.ext H8.o.2).trans H8.o.1).ext d3.o⟩
theorem jvp(P:PA)(hT:TopC P):jvG P:=by
 intro e W T x D g v o q z E H J K;unfold bigs
 by_cases hz:(textP P).size < 32
 ·rw[if_pos hz]
  exact jpW P hT hz e W T x D g v o q z E H J K
 ·rw[if_neg hz]
  exact juZ P hT hz e W T x D g v o q z E H J K
theorem jmC(k:Int)(p v r r':vB):(jb5 k p v r).toArray.setIfInBounds 3 (.string r')=(jb5 k p v r').toArray:=by simp[jb5]
theorem jv4(w0 W:vW)(q:vB)(n:PA)(T:TypeId)(x:vV)(Dn:Nat->Prop)(b:Nat)(hB:Blk w0 b (.cells #[.string q,.iface T x] 238))(hv:PaO n (.iface T x) Dn w0)(hR:jvG n)(g:Nat)(v:vV)(Tx:vM)(hc:jbS w0)(he:ErrT w0)(hE:Ext w0 W)(hW:WrAt w0.heap.size g v Tx W)(hl:Tx.length+cntP n<=100000) :
  vQ 268 #[.pointer (some ⟨b,0,none⟩),.pointer (some ⟨g,0,none⟩)] W (FoP w0.heap.size g v W (jae.V ⟨2,q,⟨#[]⟩,refB (textP n) :: jav 15⟩) (Tx++(bigs (textP n)++underP n))):=by
 have Q0:=Hd (hB.cell (i:=0) (v:=.string q) vF);have Q1:=Hd (hB.cell (i:=1) (v:=.iface T x) vF);have Z:=Hd (bB hW hE);have a0:=Hd (fun w (e:Ext w0 w) (k:WrAt w0.heap.size g v Tx w)=>hR w0 w T x Dn g v Tx hc he hv e k hl)
 obtain⟨t,ht⟩:=vE (refB (textP n))
 obtain⟨U,hU⟩:=vE (Tx++(bigs (textP n)++underP n))
 rw[<-ht, <-hU]at a0;rw[<-ht, <-hU];clear hB hv hR hc he hE hW hl ht hU;have c5:∀ w,(Instr.build 132 #[(0,.int .i64 2),(1,.string q)]).run Tryz.prog w=.ok (.agg (jb5 2 q ⟨#[]⟩ ⟨#[]⟩).toArray) w:=fun w=>by kernel_rfl
 go_enter Tryz.func268,Tryz.ntmps268;go_wp2_with (first |(refine jal (w:=W) Tryz.allocNode rfl rfl ?_;intro E b2 a4;have b3:=Hd b2;have b4:=Hd a4;have q0:=jaa Q0.o (Z.o.2.trans a4);clear b2 a4) |(refine jal (w:=E) Tryz.allocNode rfl rfl ?_;intro W2 b5 a5) |(refine jah (vs:=jb5 2 q ⟨#[]⟩ ⟨#[]⟩) rfl rfl rfl rfl b5 rfl Tryz.szNode (jb6 _ _ _ _) ?_;intro W3 a6 a7;have q1:=jaa (jaa Q1.o (Z.o.2.trans b4.o)) (a5.trans' a7 (fun x hx e=>by have e:x=E.heap.size:=e;omega))))
 have J:Ext E W3:=a5.trans' a7 (fun x hx e=>by have e:x=E.heap.size:=e;omega);have K:=Hd (bB a6 (bB (b3.o.keeps J (fun e=>e)) (b4.o.trans J)));have b6:=b3.o.lt;have HN:=Hd (show W.heap.size < E.heap.size/\E.heap.size < W3.heap.size from⟨b6,a6.lt⟩);clear b5 a5 a6 a7 J b6;refine (a0.o W3 (Z.o.2.trans K.o.2.2) (Z.o.1.ext K.o.2.2)).mono ?_;rintro e w4 ⟨rfl,v4,H⟩;have c0:=Z.o.1.var.lt;have a8:E.heap.size≠g:=by have:=HN.o.1;omega
 have a9:v.ownBlock≠some E.heap.size:=fun e=>by have:=(Z.o.1.own _ e).2.2;have:=HN.o.1;omega
 have O:=H.blk K.o.1 a8 a9;have a1:=H.blk K.o.2.1 vO (fun e=>by have:=(Z.o.1.own _ e).2.2;omega);have qf:w4.cell? ⟨E.heap.size,3,none⟩=some (.string ⟨#[]⟩):=O.cellL (i:=3) vF;have ff:w4.frozen? ⟨E.heap.size,3,none⟩=false:=O.frozen
 obtain⟨W5,Q⟩:=vE (w4.setCell ⟨E.heap.size,3,none⟩ (.string t))
 have c1:Blk W5 E.heap.size (.cells (jb5 2 q ⟨#[]⟩ t).toArray 132):=by
  have:=O.set_same (i:=3) (.string t)
  rw[jmC]at this;rw[Q];exact this
 have b0:jad (fun z=>z=E.heap.size) w4 W5:=by rw[Q];exact jad.oneSet w4 ⟨E.heap.size,3,none⟩ (.string t)
 have a2:Blk W5 W.heap.size (.cells jaV.cells.toArray 132):=a1.keeps b0 (fun e=>by have:=HN.o.1;have e:W.heap.size=E.heap.size:=e;omega);have b7:v4.ownBlock≠some E.heap.size:=fun e=>by
  rcases H.sub _ e with e | e
  ·exact a9 e
  ·have:=HN.o.2;omega
 have b8:=(WrTo.ahead K.o.2.2 H).fill b0 a8 b7 (by have:=HN.o.1;omega);have a3:v4.ownBlock≠some W.heap.size:=fun e=>by
  rcases H.sub _ e with e | e
  ·have:=(Z.o.1.own _ e).2.2;omega
  ·have:=HN.o.1;have:=HN.o.2;omega
 have X:=Hd (bB b8 (bB a2 (bB a3 (show W.heap.size≠g by omega))));have b1:=Hd Q;clear H c0 a8 a9 O a1 b0 b7 b8 a3 Q a2 q0 q1;have c2:Blk (w4.setCell ⟨E.heap.size,3,none⟩ (.string t)) E.heap.size (.cells (jae.cells ⟨2,q,⟨#[]⟩,t :: jav 15⟩).toArray 132):=by rw[<-b1.o];exact c1
 have c3:Blk (w4.setCell ⟨E.heap.size,3,none⟩ (.string t)) W.heap.size (.cells jaV.cells.toArray 132):=by rw[<-b1.o];exact X.o.2.1
 go_wp2_with (refine jaf 132 (.tmp 5) rfl rfl _ _ rfl (jax _ _ ⟨2,q,⟨#[]⟩,t :: jav 15⟩ rfl c2) ?_;refine jah (vs:=jae.cells ⟨2,q,⟨#[]⟩,t :: jav 15⟩) rfl rfl rfl rfl c3 rfl Tryz.szNode (jae.one _) ?_;intro W8 c4 b9)
 rw[<-b1.o]at b9;refine bodyPost_ret (jcE rfl rfl (jaH W8 _ ⟨2,q,⟨#[]⟩,t :: jav 15⟩ rfl c4)) rfl ?_
 exact⟨rfl,v4,X.o.1.fill b9 X.o.2.2.2 X.o.2.2.1 (bM _)⟩
def bfN(u:vB)(rs:vM)(k:Nat):jae:=⟨3,⟨#[]⟩,u,rs.take k++jav (16 - k)⟩
theorem jvN(u:vB){rs:vM}(h:rs.length=16){k:Nat}(hk:k < 16)(r:vB)(hr:rs[k]?=some r):(bfN u rs k).cells.set (3+k) (.string r)=(bfN u rs (k+1)).cells:=by
 have e:(rs.take k++jav (16 - k)).set k r=rs.take (k+1)++jav (16 - (k+1)):=by
  rw[fI _ _ (by simp[h];omega)]
  have:k - (rs.take k).length=0:=by simp[h];omega
  rw[this,show 16 - k=(16 - (k+1))+1 by omega];unfold jav;rw[fG,dI,cB,hr];simp
 unfold jae.cells bfN;simp only;rw[show 3+k=k+1+1+1 by omega,dA,dA,dA, <-e,iR]
theorem jtl(u:vB){rs:vM}(h:rs.length=16){k:Nat}(hk:k < 16)(hr:rs[k]?=some ⟨#[]⟩):bfN u rs (k+1)=bfN u rs k:=by
 unfold bfN;rw[cB,hr,show 16 - k=(16 - (k+1))+1 by omega];unfold jav;rw[fG];simp
theorem jvM(u:vB){rs:vM}(h:rs.length=16){k:Nat}(hk:k<=16):(bfN u rs k).refs.length=16:=by
 unfold bfN jav;simp[h];omega
theorem jy7(u:vB)(rs:vM):(bfN u rs 0).cells=jb5 3 ⟨#[]⟩ u ⟨#[]⟩:=rfl
theorem jxP(u:vB){rs:vM}(h:rs.length=16):bfN u rs 16=⟨3,⟨#[]⟩,u,rs⟩:=by
 unfold bfN jav;rw[cD vO];simp
noncomputable def underK(ks:Nat->PA)(k:Nat):vM:=(List.range k).flatMap fun i=>if (ks i).isNil then []else bigs (textP (ks i))++underP (ks i)
theorem jnl(ks:Nat->PA)(k:Nat):underK ks (k+1)=underK ks k++(if (ks k).isNil then []else bigs (textP (ks k))++underP (ks k)):=by
 unfold underK;rw[fX,dK]
 simp
theorem jpU(ks:Nat->PA)(k:Nat):(underK ks k).length<=sumF (fun i=>cntP (ks i)) k:=jgm _ _ (fun i=>by
 show (if (ks i).isNil=true then ([]:vM)else bigs (textP (ks i))++underP (ks i)).length<=cntP (ks i);cases hn:(ks i).isNil with
 | true=>rw[if_pos rfl];exact cC _
 | false =>
  rw[if_neg ff,bG];have e:=jjO (textP (ks i))
  have:=jem (ks i) hn
  omega) k
noncomputable def refsK(ks:Nat->PA):vM:=(List.range 16).map fun i=>if (ks i).isNil then ⟨#[]⟩else refB (textP (ks i))
theorem jdf(ks:Nat->PA):(refsK ks).length=16:=by unfold refsK;simp
theorem juB(ks:Nat->PA){k:Nat}(hk:k < 16):(refsK ks)[k]?=some (if (ks k).isNil then ⟨#[]⟩else refB (textP (ks k))):=by
 unfold refsK;rw[cA,dV hk];rfl
def jyK(z g:Nat)(v:vV)(W:vW)(L:Nat)(u:vB)(rs:vM)(Tx:vM)(ks:Nat->PA)(iv:vV)(wr:vW):Prop:=
 ∃ k:Nat,k<=16/\iv=.int .i64 k/\∃ v',WrTo z g v W wr v' (Tx++underK ks k)/\Blk wr L (.cells (bfN u rs k).cells.toArray 132)/\Blk wr W.heap.size (.cells jaV.cells.toArray 132)/\v'.ownBlock≠some L/\v'.ownBlock≠some W.heap.size
theorem jvO(w0 W:vW)(u:vB)(ks:Nat->PA)(b:Nat)(vk:Nat->vV)(Dk:Nat->Nat->Prop)(hb:BrRd u ks b vk Dk w0)(hR:∀ i,i < 16->(ks i).isNil=false->jvG (ks i))(g:Nat)(v:vV)(Tx:vM)(hc:jbS w0)(he:ErrT w0)(hE:Ext w0 W)(hW:WrAt w0.heap.size g v Tx W)(hl:Tx.length+(1+sumF (fun i=>cntP (ks i)) 16)<=100000) :
  vQ 274 #[.pointer (some ⟨b,0,none⟩),.pointer (some ⟨g,0,none⟩)] W (FoP w0.heap.size g v W (jae.V ⟨3,⟨#[]⟩,u,refsK ks⟩) (Tx++underK ks 16)):=by
 have q0:=jaa (hb.blk.cellL (i:=0) (v:=.string u) vF) hE;have HB:=Hd hb;have HW:=Hd (bB hW hE);have b0:=Hd (fun(k:Nat) (hk:k < 16) (hn:(ks k).isNil=false) (T:TypeId) (x:vV) (hx:vk k=.iface T x) (w:vW) (v':vV) (e:Ext w0 w) (h:WrAt w0.heap.size g v' (Tx++underK ks k) w)=>hR k hk hn w0 w T x (Dk k) g v' (Tx++underK ks k) hc he (hx ▸ hb.kid k hk) e h (by
  have h1:=jpU ks k;have h2:=jel (fun i=>cntP (ks i)) (k+1) (15 - k);rw[show k+1+(15 - k)=16 by omega]at h2;have h3:sumF (fun i=>cntP (ks i)) k+cntP (ks k)<=sumF (fun i=>cntP (ks i)) 16:=h2;rw[bG];omega))
 have d3:=jkc;clear hR hc he hl;have d4:∀ w,(Instr.build 132 #[(0,.int .i64 3),(2,.string u)]).run Tryz.prog w=.ok (.agg (jb5 3 ⟨#[]⟩ u ⟨#[]⟩).toArray) w:=fun w=>by kernel_rfl
 clear hb hW hE;go_enter Tryz.func274,Tryz.ntmps274;go_wp2_with (first |(refine jal (w:=W) Tryz.allocNode rfl rfl ?_;intro W1 b1 a2;have a3:=Hd b1;have a4:=Hd a2;have q1:=jaa q0 a2;clear b1 a2) |(refine jal (w:=W1) Tryz.allocNode rfl rfl ?_;intro W2 b3 b4) |(refine jah (vs:=jb5 3 ⟨#[]⟩ u ⟨#[]⟩) rfl rfl rfl rfl b3 rfl Tryz.szNode (jb6 _ _ _ _) ?_;intro W3 a5 b5;have K:Ext W1 W3:=b4.trans' b5 (fun x hx e=>by have e:x=W1.heap.size:=e;omega);have b6:=ja8 (HB.o.blk.keeps ((HW.o.2.trans a4.o).trans K) (fun e=>e))) |(refine jaf 240 (.tmp 15) rfl rfl _ _ rfl b6 ?_))
 have X:=Hd (bB a5 (bB (a3.o.keeps K (fun e=>e)) (a4.o.trans K)));have q:=a3.o.lt;have HN:=Hd (show W.heap.size < W1.heap.size/\W1.heap.size < W3.heap.size from⟨q,a5.lt⟩);clear b3 b4 a5 b5 K q b6 q0 q1
 obtain⟨L,hL⟩:=vE W1.heap.size
 rw[<-hL]at X HN ⊢;clear hL a3 a4;have HG:=Hd HW.o.1.var.lt;go_loopw [17] (fun iv wr=>jyK w0.heap.size g v W L u (refsK ks) Tx ks iv wr) (fun iv _=>16 - (intOf iv).toNat)
 case atStart =>
  have:=HN.o
  have hg:=HG.o
  exact⟨0,by omega,rfl,v,by rw[show underK ks 0=[]from rfl,bR];exact WrTo.refl HW.o.1 X.o.2.2,by rw[jy7];exact X.o.1,X.o.2.1,fun e=>by have:=(HW.o.1.own _ e).2.2;omega,fun e=>by have:=(HW.o.1.own _ e).2.2;omega⟩
 case round =>
  obtain⟨k,hk,rfl,v1,hT,b7,b8,b9,c0⟩:=hrel
  have E:=Hd (bB hT (bB b7 (bB b8 (bB b9 c0))));clear hT b7 b8 b9 c0
  by_cases q:k < 16
  ·have c1:=jeF vk q
   have O:=jnl ks k;have H:=juB ks q;rcases (HB.o.kid k q).at'.kid with⟨hn,hv⟩ |⟨hn,T,x,hv⟩
   ·rw[hn,if_pos rfl,bR]at O
    rw[hn,if_pos rfl]at H;rw[hv]at c1;have c6:=Hd O;have c7:=Hd (jtl u (jdf ks) q H);clear O hn hv H;go_wp2;go_roundw
    case rel=>exact⟨k+1,by omega,by go_num,v1,by rw[c6.o];exact E.o.1,by rw[c7.o];exact E.o.2.1,E.o.2.2.1,E.o.2.2.2⟩
    case measure=>exact vJ
   ·rw[hn,if_neg ff]at O
    rw[hn,if_neg ff]at H;rw[hv]at c1;have hq:=jds T x;have J:=Hd (b0.o k q hn T x hv wr v1 (E.o.1.ext0 HW.o.1 HW.o.2 (bM _)) E.o.1.at');rw[bX, <-O]at J
    obtain⟨r,hr⟩:=vE (refB (textP (ks k)))
    rw[<-hr]at H J;have c8:=Hd H;clear O hn hv H hr;have b2:(k:Int) < 16:=vO
    go_wp2_with fail
    refine J.o.mono ?_;rintro e w4 ⟨rfl,v4,Q⟩;have a6:L≠g:=by have:=HN.o.1;have:=HG.o;omega
    have c2:W.heap.size≠g:=by have:=HG.o;omega
    have Z:=Q.blk E.o.2.1 a6 E.o.2.2.2.1;have a0:=Q.blk E.o.2.2.1 c2 E.o.2.2.2.2;have a7:∀ y,y < wr.heap.size->v1.ownBlock≠some y->v4.ownBlock≠some y:=fun y hy h1 e=>by
     rcases Q.sub y e with e | e
     ·exact h1 e
     ·omega
    have a8:=a7 L E.o.2.1.lt E.o.2.2.2.1;have c3:=a7 W.heap.size E.o.2.2.1.lt E.o.2.2.2.2;have c9:(bfN u (refsK ks) k).cells.length=19:=jae.cells_len _ (jvM u (jdf ks) hk)
    obtain⟨old,qf⟩:∃ v,w4.cell? ⟨L,3+k,none⟩=some v:=⟨_,Z.cellL (bA vO)⟩
    have d5:w4.frozen? ⟨L,3+k,none⟩=false:=Z.frozen;have a9:=Z.set_same (i:=3+k) (.string r);rw[show (bfN u (refsK ks) k).cells.toArray.setIfInBounds (3+k) (.string r)=((bfN u (refsK ks) k).cells.set (3+k) (.string r)).toArray by simp,jvN u (jdf ks) q r c8.o]at a9;have K5:jad (fun z=>z=L) w4 (w4.setCell ⟨L,3+k,none⟩ (.string r)):=jad.oneSet w4 ⟨L,3+k,none⟩ (.string r);have a1:=a0.keeps K5 (fun e=>by have e:W.heap.size=L:=e;have:=HN.o.1;omega);have c4:=(E.o.1.trans Q).fill K5 a6 a8 (by have:=HN.o.1;omega);have H5:=Hd (bB c4 (bB a9 (bB a1 (bB a8 c3))));clear Q a6 c2 Z a0 a7 a8 c3 c9 a9 K5 a1 c4;go_wp2_with fail
    go_roundw
    case rel=>exact⟨k+1,by omega,by go_num,v4,H5.o⟩
    case measure=>exact vJ
  ·obtain rfl:k=16:=vO
   have c5:=E.o.2.1;rw[jxP u (jdf ks)]at c5;have d0:=E.o.2.2.1;go_wp2_with (refine jaf 132 (.tmp 5) rfl rfl _ _ rfl (jax _ _ ⟨3,⟨#[]⟩,u,refsK ks⟩ (jdf ks) c5) ?_;refine jah (vs:=jae.cells ⟨3,⟨#[]⟩,u,refsK ks⟩) rfl rfl rfl rfl d0 (by rw[jae.cells_len _ (jdf ks)];rfl) (by rw[jae.cells_len _ (jdf ks)];exact Tryz.szNode) (jae.one _) ?_;intro W8 d1 d2)
   refine bodyPost_ret (jcE rfl rfl (jaH W8 _ ⟨3,⟨#[]⟩,u,refsK ks⟩ (jdf ks) d1)) rfl ?_
   exact⟨rfl,v1,E.o.1.fill d2 (by have:=HG.o;omega) E.o.2.2.2.2 (bM _)⟩
end
theorem jkh:∀ (P:PA),PutP P->jxj P
 | .nil=>fun _ E W T x D g v o O Q h J H K=>by cases h.at'
 | .no=>fun _ E W T x D g v o O Q h J H K=>by
  have e:Value.iface T x=noV:=h.at';unfold noV at e;injection e with e1 e2;subst e1 e2;show Calls _ _ _ W (FoP E.heap.size g v W jaV.V (o++[]));rw[bR];exact juj _ g v o W H
 | .leaf q u=>fun _ E W T x D g v o O Q h J H K=>by
  obtain⟨b,e,h1,X⟩:=h.at'
  unfold jiT at e;injection e with e1 e2;subst e1 e2;show Calls _ _ _ W (FoP E.heap.size g v W (jae.V ⟨1,q,u,jav 16⟩) (o++[]));rw[bR];exact jwo E _ g v o W J q u b X H
 | .ext q m=>fun Z E W T x D g v o O Q h J H K=>by
  obtain⟨b,T',x',Dn,e,h1,X,h3,h4,h5⟩:=h.at'
  unfold extV at e;injection e with e1 e2;subst e1 e2;have K:o.length+(1+cntP m)<=100000:=K;have hn:m.isNil=false:=by
   cases m with
   | nil=>cases h3
   | _=>rfl
  exact jv4 E W q m T' x' Dn b X ⟨h3,fun z hz=>h.lt z (h5 z hz)⟩ (jvp m (jsY m hn Z.2 (jkh m Z.2))) g v o O Q J H vO
 | .br u ks=>fun Z E W T x D g v o O Q h J H K=>by
  obtain⟨b,vk,Dk,e,h1,X,h3,h4⟩:=h.at'
  unfold brV at e;injection e with e1 e2;subst e1 e2;have hb:BrRd u ks b vk Dk E:=⟨X,fun i hi=>⟨(h3 i hi).1,fun z hz=>h.lt z ((h3 i hi).2.2 z hz)⟩⟩;exact jvO E W u ks b vk Dk hb (fun i _ hn=>jvp (ks i) (jsY (ks i) hn (Z.2 i) (jkh (ks i) (Z.2 i)))) g v o O Q J H K
theorem jlP:∀ (f:Nat) (l:vL),jaq f l->PutP (ja0 (f+1) l):=by
 intro f;induction f with
 | zero =>
  intro l h;have H:=jbv h;have o:=(good 0 l h).1;have q:=(jfw 0 l h).1;rw[<-q]at o;have e:=jlY o
  by_cases h0:l.length=0
  ·rw[jbQ _ h0]at e ⊢;exact e
  ·rw[jbT _ vO]at e ⊢;exact e
 | succ f ih =>
  intro l h;have o:=(good (f+1) l h).1;have q:=(jfw (f+1) l h).1;rw[<-q]at o;have e:=jlY o
  by_cases h0:l.length=0
  ·rw[jbQ _ h0]at e ⊢;exact e
  by_cases h1:l.length=1
  ·rw[jbT _ h1]at e ⊢;exact e
  have z:2<=l.length:=vO
  by_cases hk:0 < comK l
  ·obtain⟨E,J,_,_⟩:=jd0 h z hk
   rw[jdt _ z hk]at e ⊢
   exact⟨e,ih _ E⟩
  ·rw[jeB _ z hk]at e ⊢
   refine⟨e,fun i=>?_⟩
   show PutP (if (cutL i l).length=0 then PA.nil else ja0 (f+1) (jag 1 (cutL i l)))
   by_cases hc:(cutL i l).length=0
   ·rw[if_pos hc];exact trivial
   ·rw[if_neg hc];exact ih _ (jeO h hc).1
theorem jsf(f:Nat)(l:vL)(h:jaq f l):TopC (ja0 (f+1) l):=jsY _ jdz (jlP f l h) (jkh _ (jlP f l h))
section
attribute [local go_sem] Oper.semAt_some
noncomputable def rootM(l:vL):vB:=shaB (jau l).text
theorem jtM{l:vL}(h:jat l=0):entP (ja0 13 (jaR l)) ⟨#[]⟩=l:=by
 have e:∀ q:vB,(⟨#[]⟩:vB)++q=q:=fun q=>jbK (by rw[jkT];rfl);rw[jsc 12 _ (jbt (jaw h)) ⟨#[]⟩ (fun q o=>by
  obtain⟨p,z,rfl⟩:=bC.1 o
  rw[e];exact jor p.1)]
 unfold jaR;rw[cT]
 conv=>rhs;rw[<-iK l]
 refine cS fun p z=>?_;show (jbz (⟨#[]⟩++jbA p.1),p.2)=p;rw[e,jfv]
structure PaM(w w1:World)(l:vL)(T:TypeId)(x:Value):Prop where
 ext:Ext w w1
 pa:PaO (ja0 13 (jaR l)) (.iface T x) (jkO w w1) w1
theorem jrW(w:vW)(s bm:Nat)(room:Int)(S:vT)(hs:jaz w s bm room S)(hN:jhM S)(l:vL)(h:HasM S l) :
  vQ 48 #[.pointer (some ⟨s,0,none⟩),.string (rootM l)] w fun e w'=>∃ T x,e=.returned (.tuple #[.iface T x,.bool true])/\PaM w w' l T x:=by
 refine (jw0 w s bm room S hs hN (rootM l)).mono ?_;rintro e w' ⟨q,o⟩
 obtain⟨k,E⟩:=jso w h
 unfold rootM at o;rw[E]at o
 obtain⟨T,x,rfl,H⟩:=o
 exact⟨T,x,rfl,q,H,fun z J=>J.2⟩
theorem jvj(w1 W:vW)(l:vL)(h:jat l=0)(T:TypeId)(x:vV)(D:Nat->Prop)(hp:PaO (ja0 13 (jaR l)) (.iface T x) D w1)(hE:Ext w1 W) :
  vQ (jfZ (ja0 13 (jaR l))) #[x,.string ⟨#[]⟩,.slice none 0 0] W fun e w'=>∃ v,e=.returned v/\ERow w1 w' v l.length l:=by
 have o:=jbt (jaw h);have z:=jjS (jaw h);refine (jm1 _ w1 W T x D ⟨#[]⟩ (.slice none 0 0) 0 12 [] hp (ORow.nil _ _ hE) (jsb 12 _ 12 o o) (by have:(⟨#[]⟩:vB).size=0:=rfl;omega) (by rw[jjT 12 _ o];omega)).mono ?_;rintro e w' ⟨v,n,rfl,q⟩;rw[cP,jtM h]at q
 have:=q.len'
 subst this
 exact⟨v,rfl,q⟩
theorem jyG(w:vW)(s bm:Nat)(room:Int)(S:vT)(hs:jaz w s bm room S)(hN:jhM S)(l:vL)(h:HasM S l) :
  vQ 16 #[.pointer (some ⟨s,0,none⟩),.string (rootM l)] w fun e w'=>∃ v,e=.returned (.tuple #[v,.int .i64 0])/\ERow w w' v l.length l:=by
 have X:=Hd (jrW w s bm room S hs hN l h);have Z:=Hd h.ok
 obtain⟨P,J⟩:=vE (ja0 13 (jaR l))
 have K:=Hd J;have a0:=jd7 P;clear hs hN h J;go_enter Tryz.func16,Tryz.ntmps16;go_wp2_with fail
 refine X.o.mono ?_;rintro e w1 ⟨T,x,rfl,z⟩;have O:=Hd z;have q:=z.pa.at'.meth;rw[<-K.o]at q;have a1:∀ w,(Go.method (437+1) T x "guilloche/trie.entries").run Tryz.prog w=.ok (jfZ P,x) w:=q.ent;have Q:=Hd (jvj w1 w1 l Z.o T x _ z.pa (ExtR w1));rw[<-K.o]at Q;clear z q;go_wp2_with fail
 refine Q.o.mono ?_;rintro e w2 ⟨v,rfl,E⟩;have H:=Hd E
 obtain⟨a,c,hv⟩:=E.sl
 subst hv;clear E;go_wp2_with fail
 go_ret2
 exact⟨_,rfl,⟨_,_,rfl⟩,H.o.own,O.o.ext.trans H.o.ext,fun b hb=>bL O.o.ext.size (H.o.new b hb)⟩
end
theorem jcT:∀ (xs:List Chg) (j:Nat) (p:Chg),xs[j]?=some p->(jdR xs)[j * 3]?=some (.string p.key)/\(jdR xs)[j * 3+1]?=some (.string p.value)/\(jdR xs)[j * 3+2]?=some (.bool p.gone)
 | [],j,p,h=>by simp at h
 | x :: r,0,p,h=>by simp at h;subst h;exact⟨rfl,rfl,rfl⟩
 | x :: r,j+1,p,h=>by
  obtain⟨e,o,q⟩:=jcT r j p (by simpa using h)
  rw[show (j+1) * 3=j * 3+3 by omega]
  exact⟨e,o,q⟩
theorem CRow.rdT{w0 w:vW}{v:vV}{n:Nat}{xs:List Chg}(h:CRow w0 w v n xs):RdC w v xs:=by
 have q:xs.length=n:=by have:=h.len;rw[ji2]at this;omega
 obtain⟨_,⟨rfl,Q⟩ |⟨g,e,z,rfl,X,E,H,Z,h7⟩⟩:=h.own
 ·exact .inl ⟨none,0,rfl,bE vO⟩
 ·subst q
  refine .inr ⟨g,0,e,rfl,(dD.1 E).1,H,fun j x o=>?_⟩;have hj:=(bU.1 o).1
  obtain⟨J,K,O⟩:=jcT xs j x o
  exact⟨by rw[cL,h.own.cellAt (j * 3) vO,J],by rw[cL,h.own.cellAt (j * 3+1) vO,K],by rw[cL,h.own.cellAt (j * 3+2) vO,O]⟩
theorem ji9{l m:vL}(h1:l.length<=40)(h2:m.length<=40):(jb3 l m).length<=80:=by
 have e:∀ l m:vL,(jaW l m).length<=l.length+m.length:=fun l m=>by
  fun_induction jaW l m <;> simp only[bQ,dM]at * <;> omega
 unfold jb3;split
 ·have:=e l m;omega
 ·simp
theorem jnX{c:Chg}(h:c.bad=false):c.key.size<=6:=by
 unfold Chg.bad at h;have o:jdU c.key=true:=by
  cases e:jdU c.key with
  | true=>rfl
  | false=>rw[e]at h;simp at h
 unfold jdU at o;exact (of_decide_eq_true o).2
structure OkP(P:PA):Prop where
 can:P=.no\/CanP P
 dp:Dp P 12
theorem OkP.va{P:PA}(h:OkP P):VaP P:=by
 rcases h.can with h | h
 ·subst h;trivial
 ·exact jqB P h
theorem OkP.there{P:PA}(h:OkP P):P.isNil=false:=by
 rcases h.can with h | h
 ·subst h;rfl
 ·cases P with
  | nil=>exact h.elim
  | _=>rfl
theorem OkP.dp9{P:PA}(h:OkP P):Dp P 900000:=jb7 P 12 _ h.dp vO
theorem OkP.step{P:PA}(h:OkP P){c:Chg}(hc:c.bad=false):OkP (jce P c):=by
 refine⟨(jsL h.can hc).1,?_⟩
 have e:=jnX hc;have o:=jgw c.key;unfold jce;split
 ·exact jh5 P 12 _ h.dp
 ·exact jnI P 12 _ _ h.dp vO
theorem jyq{l:vL}(h:jat l=0):OkP (ja0 13 (jaR l)):=⟨jop (jbt (jaw h)),jsb 12 _ 12 (jbt (jaw h)) (jbt (jaw h))⟩
noncomputable def lackB(S:vT)(t:vB):Bool:=(atL S (shaB t).data.toList).isNone
noncomputable def freshU(S:vT)(U:vM):vM:=(ja6 U).filter (lackB S)
theorem jpo(S:vT)(U:vM)(x:vB):freshU S (U++[x])=freshU S U++(if memB (ja6 U) x=true then []else if lackB S x=true then [x]else []):=by
 unfold freshU;rw[jfU];unfold addF
 by_cases h:memB (ja6 U) x=true
 ·rw[if_pos h,if_pos h,bR]
 ·rw[if_neg h,if_neg h,gW]
  congr 1
  cases e:lackB S x <;> simp[e]
theorem jlk(S:vT)(U:vM):(freshU S U).length<=U.length:=bL (dX _ _) (jgU U)
noncomputable def belowM(m:vL):vM:=underP (ja0 13 (jaR m))
theorem jjN{m:vL}(h:jat m=0):belowM m=jay (jan (jab 12) (jaR m)):=(jfw 12 _ (jbt (jaw h))).2.2
theorem jwZ{m:vL}(h:jat m=0):textP (ja0 13 (jaR m))=(jau m).text:=(jfw 12 _ (jbt (jaw h))).2.1
theorem jkU{m:vL}(h:jat m=0):(belowM m).length<=118:=by
 have e:=jem (ja0 13 (jaR m)) jdz;have o:cntP (ja0 13 (jaR m))=cntT 12 (jaR m):=jjT 12 _ (jbt (jaw h));have q:=jjS (jaw h);unfold belowM;omega
noncomputable def newM(S:vT)(m:vL):vM:=(jau m).text :: freshU S (belowM m)
def ja9(l:vL)(cs:List Chg):vL:=jcR (jeK l cs)
def UpdP(w:vW)(S:vT)(l:vL)(cs:List Chg)(e:Ending)(w':vW):Prop:=
 if jbf l cs=0 then ∃ r,e=.returned (.tuple #[r,.int .i64 0])/\SRow w w' r (newM S (ja9 l cs)).length (newM S (ja9 l cs))else e=.returned (.tuple #[.slice none 0 0,.int .i64 (jbf l cs)])/\Ext w w'
def jxI(W3:vW)(D0:Nat->Prop)(P0:PA)(ds:List Chg)(pv iv:vV)(wr:vW):Prop:=∃ (k:Nat) (T:TypeId) (x:vV) (D:Nat->Prop),k<=ds.length/\iv=.int .i64 k/\pv=.iface T x/\PaO ((ds.take k).foldl jce P0) (.iface T x) D wr/\(∀ z,D z->D0 z\/W3.heap.size<=z)/\jad D0 W3 wr
theorem jnP{P:PA}(h:OkP P):∀ (ds:List Chg),(∀ c∈ds,c.bad=false)->OkP (ds.foldl jce P)
 | [],_=>h
 | c :: ds,hc=>jnP (h.step (hc c bF)) ds (fun d e=>hc d (bD _ e))
theorem jtT{P:PA}(h:OkP P)(ds:List Chg)(hc:ds.any Chg.bad=false)(k:Nat):OkP ((ds.take k).foldl jce P):=jnP h _ fun c o=>by
 have:=List.any_eq_false.1 hc c (jA o)
 cases e:c.bad with
 | false=>rfl
 | true=>exact absurd e this
structure UpB(W7:World)(S:vT)(mb:Nat)(t:vB)(U:vM)(k:Nat)(rv:Value)(wr:World):Prop where
 row:∃ n,SRow W7 wr rv n (t :: freshU S (U.take k))
 out:rv.ownBlock≠some mb
 tab:∃ es ck,Blk wr mb (.map (Tryz.ES.arr es) ck)/\∀ x:vB,jaU es x.data.toList=cntV (cntB (U.take k) x)
def jxJ(W7:vW)(S:vT)(mb:Nat)(t:vB)(U:vM)(rv iv:vV)(wr:vW):Prop:=∃ k:Nat,k<=U.length/\iv=.int .i64 k/\UpB W7 S mb t U k rv wr
theorem jpc(L:vM)(x y:vB):cntB (L++[x]) y=cntB L y+(if x.data.toList=y.data.toList then 1 else 0):=by
 unfold cntB;rw[bY,List.count_append,bJ,iG,List.count_singleton]
 simp
theorem jni{α:Type}{l:List α}{k:Nat}{x:α}(h:l[k]?=some x):l.take (k+1)=l.take k++[x]:=by rw[cB,h];rfl
section
attribute [local go_sem] Oper.semAt_some
theorem UpdP.bad{w w':vW}{S:vT}{l:vL}{cs:List Chg}{x:Int}(h:jbf l cs=x)(h0:x≠0)(he:Ext w w'):UpdP w S l cs (.returned (.tuple #[.slice none 0 0,.int .i64 x])) w':=by
 unfold UpdP;rw[h,if_neg h0];exact⟨rfl,he⟩
theorem jyJ(w:vW)(hc:jbS w)(he:ErrT w)(s bm:Nat)(room:Int)(S:vT)(hs:jaz w s bm room S)(hN:jhM S)(l:vL)(h:HasM S l)(u:vV)(cs:List Chg)(hu:RdC w u cs)(hnc:cs.length<=9223372036854775807)(hsc:∀ c∈cs,c.key.size<=9223372036854775807/\c.value.size<=9223372036854775807) :
  vQ 18 #[.pointer (some ⟨s,0,none⟩),.string (rootM l),u] w (UpdP w S l cs):=by
 have HR:=Hd (jrW w s bm room S hs hN l h);have HK:=Hd h.ok;have g3:=Hd (bB hc he);have l0:=Hd hs;have c5:=jaw h.ok;have g4:=Hd (show (l.length<=9223372036854775807)/\∀ p∈l,p.1.size<=9223372036854775807/\p.2.size<=9223372036854775807 from⟨by have:=c5.len;omega,fun p hp=>by have:=c5.size p hp;omega⟩);have f3:=Hd (fun(w2:vW) (v:vV) (hv:RdP w2 v l) (e:Ext w w2)=>jqk w2 v u l cs hv (hu.ext e) g4.o.1 hnc g4.o.2 hsc)
 obtain⟨a,c,m4⟩:=hu.sl
 subst m4
 obtain⟨P,hP⟩:=vE (ja0 13 (jaR l))
 have HP:=Hd hP;have o4:=jd7 P;have g5:=Hd (fun(w3:vW) (v:vV) (hv:RdP w3 v l) (e:Ext w w3)=>jwQ w3 v l (hc.ext e) hv h.ok);have l1:Hid (shaB (jau l).text=rootM l):=rfl;rw[l1.o]at g5;clear hs hN h hP hc he c5 hu hsc l1
 obtain⟨rt,l2⟩:=vE (rootM l)
 rw[<-l2]at HR g5 ⊢;clear l2;go_enter Tryz.func18,Tryz.ntmps18;go_wp2_with fail
 refine HR.o.mono ?_;rintro e w1 ⟨T,x,rfl,hM⟩;have HM:=Hd hM;have c6:=hM.pa.at'.meth;rw[<-HP.o]at c6;have m5:∀ w,(Go.method (437+1) T x "guilloche/trie.entries").run Tryz.prog w=.ok (jfZ P,x) w:=c6.ent;have HC:=Hd (jvj w1 w1 l HK.o T x _ hM.pa (ExtR w1));rw[<-HP.o]at HC;clear hM c6;go_wp2_with fail
 refine HC.o.mono ?_;rintro e w2 ⟨v,rfl,h1⟩;have H1:=Hd h1;have i2:=Hd (HM.o.ext.trans h1.ext);have d5:=Hd (bB (HM.o.pa.ext h1.ext) h1.ext.size);rw[<-HP.o]at d5;have HA:=Hd (f3.o w2 v h1.rd i2.o)
 obtain⟨a1,c1,hv⟩:=h1.sl
 subst hv;clear h1 m5 f3 HC;go_wp2_with fail
 refine HA.o.mono ?_;rintro e w3 e0;unfold jeI at e0
 by_cases h0:jbf l cs=0
 case neg =>
  rw[if_neg h0]at e0
  obtain⟨rfl,hE⟩:=e0
  have HX:=Hd (i2.o.trans hE)
  obtain⟨x0,i3⟩:=vE (jbf l cs)
  have m6:=Hd i3.symm;rw[<-i3]at h0 ⊢;clear hE i3;go_wp2_with fail
  go_ret2;exact UpdP.bad m6.o h0 HX.o
 rw[if_pos h0]at e0
 obtain⟨r,rfl,h3⟩:=e0
 have m7:=Hd h0;have g6:=jdD h0
 obtain⟨m,hm⟩:=vE (jcR (jeK l cs))
 rw[<-hm]at h3 g6;have m8:=Hd hm;have b8:=Hd g6;have c5:=jaw g6;have f4:=Hd (show (m.length<=9223372036854775807)/\∀ p∈m,p.1.size<=9223372036854775807/\p.2.size<=9223372036854775807 from⟨by have:=c5.len;omega,fun p hp=>by have:=c5.size p hp;omega⟩);have l3:=Hd (i2.o.trans h3.ext);have f5:=Hd (bB (d5.o.1.ext h3.ext) (bL d5.o.2 h3.ext.size));have HV:=Hd (bB (ERow.rd (H1.o.mono h3.ext)) h3.rd)
 obtain⟨a2,c2,hr⟩:=h3.sl
 subst hr;have l4:=Hd (g5.o w3 _ HV.o.1 l3.o);clear h3 c5 g6 hm h0 HA H1 g5;go_wp2_with fail
 refine l4.o.mono ?_;rintro e w4 ⟨rfl,hE⟩;have m9:=Hd (l3.o.trans hE);have d6:=Hd (bB (f5.o.1.ext hE) (bL f5.o.2 hE.size));have l5:=Hd (jqT w4 _ _ l m (HV.o.1.ext hE) (HV.o.2.ext hE) g4.o.1 f4.o.1 g4.o.2 f4.o.2);clear hE l4;go_wp2_with fail
 refine l5.o.mono ?_;rintro e w5 ⟨dv,rfl,hd⟩;have HD:=Hd hd;have n0:=Hd (m9.o.trans hd.ext);have k3:=Hd (bB (d6.o.1.ext hd.ext) (bL d6.o.2 hd.ext.size));have i4:=jfp HK.o b8.o;have n1:=ji9 (jaw HK.o).len (jaw b8.o).len
 obtain⟨ds,i5⟩:=vE (jb3 l m)
 rw[<-i5]at HD i4 n1;have i6:=Hd i4
 obtain⟨a3,c3,l6⟩:=hd.sl
 rw[<-i5]at l6;subst l6;clear hd i4 i5 l5;have f6:=Hd (jyq HK.o);rw[<-HP.o]at f6;have k4:=Hd HD.o.rdT;go_wp2_with fail
 go_loopw [8,56] (fun pv iv wr=>jxI w5 (jkO w w1) P ds pv iv wr) (fun _ iv _=>ds.length - (intOf iv).toNat)
 case atStart=>exact⟨0,T,x,jkO w w1,by omega,rfl,rfl,k3.o.1,fun z hz=>.inl hz,(ExtR w5).mono (fun _ _ e=>e.elim)⟩
 case round =>
  obtain⟨k,Tk,xk,D,hk,rfl,rfl,c8,hD,c9⟩:=hrel
  by_cases hlt:k < ds.length
  ·rcases k4.o with⟨_,_,_,hz⟩ |⟨b,o,cd,hh,hb,hcd,hcell⟩
   ·rw[hz]at hlt;cases hlt
   cases hh
   obtain⟨p,hp⟩:∃ p,ds[k]?=some p:=⟨_,bA hlt⟩
   obtain⟨q1,q2,q3⟩:=hcell k p hp
   have g7:¬ jkO w w1 b:=fun e=>by have h1:=HD.o.new b rfl;have h2:=d6.o.2;have h3:=e.2;omega
   have q1:=jaD q1 c9 g7;have q2:=jaD q2 c9 g7;have q3:=jaD q3 c9 g7;have O:p.bad=false:=by
    cases e:p.bad with
    | false=>rfl
    | true=>exact absurd (ju3 hp e) (by rw[i6.o.fine];simp)
   have i7:=jnX O;have b1:(k:Int) < (ds.length:Int):=vO
   have b3:=jtT f6.o ds i6.o.fine k;have a9:(ds.take (k+1)).foldl jce P=jce ((ds.take k).foldl jce P) p:=by rw[jni hp,fO];rfl
   obtain⟨Q,hQ⟩:=vE ((ds.take k).foldl jce P)
   rw[<-hQ]at c8 b3 a9;have d9:=Hd (bB b3 (b3.step O));have c4:=Hd a9;have c6:=c8.at'.meth;have K:=Hd (bB c8 (bB hD c9))
   obtain⟨ky,vl,gn⟩:=p
   simp only at q1 q2 q3 i7;clear hcell hp hb hcd g7 O b3 a9 c8 hD c9 hQ;have o5:=jfr Q;have o6:=jh9 Q;have o7:∀ w,(Go.method (437+1) Tk xk "guilloche/trie.drop").run Tryz.prog w=.ok (je3 Q,xk) w:=c6.drop;have o8:∀ w,(Go.method (437+1) Tk xk "guilloche/trie.put").run Tryz.prog w=.ok (jkg Q,xk) w:=c6.put;clear c6;go_wp2_with fail
   have o9:=Hd i7;clear q1 q2 q3;refine vC (joq _ ky vO) fun w6 d0=>?_;have i8:=(Blk.new wr (.cells #[.string ky,.string vl,.bool gn] 59)).keeps d0 (fun e=>e);have f7:=((ExtR wr).alloc (.cells #[.string ky,.string vl,.bool gn] 59)).trans d0;have q1:w6.cell? ⟨wr.heap.size,1,none⟩=some (.string vl):=i8.cell (i:=1) vF;have q2:w6.cell? ⟨wr.heap.size,2,none⟩=some (.bool gn):=i8.cell (i:=2) vF;have b9:=Hd f7;have l7:(jbA ky).size<=900000:=by have:=jgw ky;omega
   have l8:=Hd l7;clear d0 i8 f7 i7 l7;cases gn with
   | true =>
    have X:=Hd (jhI Q d9.o.1.va w6 Tk xk D (jbA ky) (K.o.1.ext b9.o) l8.o (jei ky) d9.o.1.dp9)
    obtain⟨pb,O⟩:=vE (jbA ky)
    have e2:=Hd O;rw[<-O]at X ⊢;clear O;go_wp2_with fail
    refine X.o.mono ?_;rintro e J ⟨v7,rfl,d1,d2⟩;have a4:(ds.take (k+1)).foldl jce P=jbO Q pb:=by rw[c4.o,e2.o];rfl
    have d3:=d9.o.2.there;rw[show jce Q ⟨ky,vl,true⟩=jbO Q pb by rw[e2.o];rfl]at d3
    obtain⟨T7,x7,rfl⟩:=d1.form d3
    have HF:=Hd (show PaO ((ds.take (k+1)).foldl jce P) (.iface T7 x7) (Grow D w6 J) J from by rw[a4];exact PaTo.own d1 d2 (K.o.1.ext b9.o).lt);have i9:=Hd d2;clear d1 d2 a4 d3;go_wp2_with fail
    go_roundw
    case rel=>exact⟨k+1,T7,x7,_,by omega,by go_num,rfl,HF.o,fun z hz=>by
     rcases hz with hz | hz
     ·exact K.o.2.1 z hz
     ·exact .inr (bL K.o.2.2.size (bL b9.o.size hz.1)),K.o.2.2.trans' ((b9.o.mono (fun _ _ e=>e.elim)).trans i9.o) (fun z hz e=>(K.o.2.1 z e).resolve_right vO)⟩
    case measure=>exact vJ
   | false =>
    have X:=Hd (jm5 Q d9.o.1.va w6 Tk xk D (jbA ky) vl (K.o.1.ext b9.o) l8.o (jei ky) d9.o.1.dp9)
    obtain⟨pb,O⟩:=vE (jbA ky)
    have e2:=Hd O;rw[<-O]at X ⊢;clear O;go_wp2_with fail
    refine X.o.mono ?_;rintro e J ⟨v7,rfl,d1,d2⟩;have a4:(ds.take (k+1)).foldl jce P=putP Q pb vl:=by rw[c4.o,e2.o];rfl
    have d3:=d9.o.2.there;rw[show jce Q ⟨ky,vl,false⟩=putP Q pb vl by rw[e2.o];rfl]at d3
    obtain⟨T7,x7,rfl⟩:=d1.form d3
    have HF:=Hd (show PaO ((ds.take (k+1)).foldl jce P) (.iface T7 x7) (Grow D w6 J) J from by rw[a4];exact PaTo.own d1 d2 (K.o.1.ext b9.o).lt);have i9:=Hd d2;clear d1 d2 a4 d3;go_wp2_with fail
    go_roundw
    case rel=>exact⟨k+1,T7,x7,_,by omega,by go_num,rfl,HF.o,fun z hz=>by
     rcases hz with hz | hz
     ·exact K.o.2.1 z hz
     ·exact .inr (bL K.o.2.2.size (bL b9.o.size hz.1)),K.o.2.2.trans' ((b9.o.mono (fun _ _ e=>e.elim)).trans i9.o) (fun z hz e=>(K.o.2.1 z e).resolve_right vO)⟩
    case measure=>exact vJ
  ·obtain rfl:k=ds.length:=vO
   rw[cF,HP.o,jtS HK.o b8.o i6.o]at c8;have j0:Hid (Ext w wr):=(n0.o.trans' c9 (fun z hz e=>by have:=e.1;omega))
   obtain⟨W6,g8⟩:=vE (wr.alloc (.cells #[.slice none 0 0] 96))
   have d0:Ext wr W6:=by rw[g8];exact (ExtR wr).alloc _
   have j1:WrAt wr.heap.size wr.heap.size (.slice none 0 0) [] W6:=⟨bM _,by rw[g8];exact Blk.new wr _,fH _ _ _ _,fun b hb=>(by cases hb),fun _=>rfl⟩;have k5:cntP (ja0 13 (jaR m))=cntT 12 (jaR m):=jjT 12 _ (jbt (jaw b8.o));have b4:=jsf 12 (jaR m) (jbt (jaw b8.o)) wr W6 Tk xk D wr.heap.size (.slice none 0 0) [] (g3.o.1.ext j0.o) (g3.o.2.ext j0.o) c8 d0 j1 (by have:=jjS (jaw b8.o);have:([]:vM).length=0:=rfl;show 0+cntP (ja0 13 (jaR m))<=100000;omega);rw[cP,show textP (ja0 (12+1) (jaR m))=(jau m).text from jwZ b8.o,show underP (ja0 (12+1) (jaR m))=belowM m from rfl]at b4;have g9:=Hd (jkU b8.o);have f8:=Hd (show newM S (ja9 l cs)=(jau m).text :: freshU S (belowM m)from by unfold newM ja9;rw[<-m8.o])
   obtain⟨t,ht⟩:=vE (jau m).text
   obtain⟨U,hU⟩:=vE (belowM m)
   rw[<-ht, <-hU]at f8;rw[<-hU]at g9;rw[<-ht, <-hU]at b4;have k6:=Hd b4;have j2:=Hd (bB j1 (bB d0 g8));clear c8 hD c9 d0 j1 k5 b4 ht hU g8;go_wp2_with fail
   rw[<-j2.o.2.2];refine k6.o.mono ?_;rintro e J ⟨rfl,v7,h4⟩;have b2:=Hd (bB h4.at' (bB (j0.o.trans (h4.ext0 j2.o.1 j2.o.2.1 (bM _))) h4.at'.var.lt))
   obtain⟨g,hg⟩:=vE wr.heap.size
   rw[<-hg]at b2 ⊢;clear h4 hg
   obtain⟨a7,c7,l9⟩:=jaK b2.o.1.row
   obtain⟨n7,j3⟩:∃ n,n=U.length:=⟨_,rfl⟩
   have b0:=Hd b2.o.1.row;rw[<-j3]at l9 b0;subst l9;have j4:=Hd j3;have q7:=b2.o.1.var.cell (i:=0) (v:=.slice a7 n7 c7) vF;clear j3;have n2:(Instr.makeMap 98 none).run Tryz.prog (J.alloc (.cells #[.string t] 9))=.ok (.map (some (J.heap.size+1))) ((J.alloc (.cells #[.string t] 9)).alloc (.map #[] 0)):=by
    rw[<-bN J (.cells #[.string t] 9)];exact Tryz.makeMapSI _
   obtain⟨W8,e4⟩:=vE ((J.alloc (.cells #[.string t] 9)).alloc (.map #[] 0))
   obtain⟨mb,j5⟩:=vE (J.heap.size+1)
   rw[<-e4, <-j5]at n2;have m0:Ext J W8:=by rw[e4];exact ((ExtR J).alloc _).alloc _
   have m1:Blk W8 mb (.map (Tryz.ES.arr []) 0):=by
    rw[e4,j5, <-bN J (.cells #[.string t] 9)];exact Blk.new _ _
   have h7:SRow J (J.alloc (.cells #[.string t] 9)) (.slice (some ⟨J.heap.size,0,none⟩) 1 1) 1 [t]:=ORow.lit (n:=1) #[.string t] (ExtR J) vI rfl;have h7:SRow J W8 (.slice (some ⟨J.heap.size,0,none⟩) 1 1) 1 [t]:=by rw[e4];exact h7.mono ((ExtR _).alloc _)
   have n3:=Hd (show UpB J S mb t U 0 (.slice (some ⟨J.heap.size,0,none⟩) 1 1) W8 from⟨⟨1,h7⟩,fun e=>by injection e with e;have e:J.heap.size=mb:=e;omega,[],0,m1,fun y=>rfl⟩);have q7:=jaa q7 m0;have n4:=Hd (show J.heap.size<=mb by omega);clear e4 j5 m0 m1 h7;go_wp2_with fail
   go_loopw [19,86] (fun rv iv wr=>jxJ J S mb t U rv iv wr) (fun _ iv _=>U.length - (intOf iv).toNat)
   case atStart=>exact⟨0,by omega,rfl,n3.o⟩
   case round =>
    obtain⟨k,hk,rfl,m2⟩:=hrel
    by_cases hlt:k < U.length
    ·rcases Nat.eq_zero_or_pos n7 with h0 | h0
     ·have:=j4.o;omega
     obtain⟨b7,rfl⟩:=jm0 b0.o vO
     obtain⟨x,hx⟩:∃ x,U[k]?=some x:=⟨_,bA hlt⟩
     obtain⟨⟨n,q⟩,d7,es,ck,h5,h6⟩:=m2
     obtain⟨ar,cr,j6⟩:=q.sl
     subst j6;have HX:=Hd q.ext;have qx:=jaa (jef b0.o (j:=k) (u:=.string x) (by rw[cA,hx];rfl)) q.ext
     obtain⟨cn,e5⟩:=vE (cntB (U.take k) x)
     have p0:cn<=1000000:=by
      rw[e5];unfold cntB;refine bL jB ?_;rw[bZ,dS];have:=g9.o;omega
     have e6:=h6 x;rw[<-e5]at e6;have j7:(Instr.lookup 98 (.map (some mb)) (.string x) false).run Tryz.prog wr=.ok (.int .i64 (cn:Int)) wr:=by
      have:=jcl Tryz.ES Tryz.uMapSI h5 (Tryz.zeroI wr) x.data.toList false
      rw[e6]at this;unfold cntV at this
      by_cases h0:cn=0
      ·rw[if_pos h0]at this;rw[h0];exact this
      ·rw[if_neg h0]at this;exact this
     obtain⟨a5,b5⟩:∃ es2,es2=jbk es x.data.toList (.int .i64 ((cn:Int)+1)) ck:=⟨_,rfl⟩
     obtain⟨b6,f9⟩:∃ ck2,ck2=(if (jaU es x.data.toList).isSome then ck else ck+1):=⟨_,rfl⟩
     obtain⟨W2,h8⟩:=vE (wr.putObj mb (.map (Tryz.ES.arr a5) b6))
     have j8:(Instr.mapUpdate 98 (.map (some mb)) (.string x) (.int .i64 ((cn:Int)+1))).run Tryz.prog wr=.ok () W2:=by
      have:=jbV Tryz.ES Tryz.uMapSI h5 x.data.toList (.int .i64 ((cn:Int)+1))
      rw[<-b5, <-f9, <-h8]at this;exact this
     have B2:Blk W2 mb (.map (Tryz.ES.arr a5) b6):=by rw[h8];exact h5.put_same _
     have e7:∀ y:vB,jaU a5 y.data.toList=cntV (cntB (U.take (k+1)) y):=fun y=>by
      rw[b5,jcV,h6 y,jni hx,jpc]
      by_cases hxy:y.data.toList=x.data.toList
      ·have n5:y=x:=ByteArray.ext (Array.ext' hxy)
       subst n5;rw[if_pos rfl,if_pos rfl, <-e5];unfold cntV;rw[if_neg vO];simp
      ·rw[if_neg hxy,if_neg (fun e=>hxy e.symm)];rfl
     have g0:∀ W3,Ext W2 W3->(Instr.lookup 98 (.map (some mb)) (.string x) false).run Tryz.prog W3=.ok (.int .i64 ((cn:Int)+1)) W3:=fun W3 e3=>by
      have:=jcl Tryz.ES Tryz.uMapSI (B2.keeps e3 (fun e=>e)) (Tryz.zeroI W3) x.data.toList false
      rw[b5,jcV,if_pos rfl]at this;exact this
     have K2:jad (fun z=>z=mb) wr W2:=by rw[h8];exact jad.onePut _ _ _
     have O2:SRow J W2 (.slice ar n cr) n (t :: freshU S (U.take k)):=q.keeps K2 (fun b hb e=>d7 (by rw[hb];exact congrArg some e)) (fun b hb e=>by have e:b=mb:=e;have:=n4.o;omega);have g1:=Hd (show n<=119 by
      have h1:=q.len;rw[bZ,bQ]at h1;have h2:=jlk S (U.take k);rw[dS]at h2
      have:=g9.o;omega)
     have g2:=Hd (show memB (ja6 (U.take k)) x=true↔cn≠0 from by
      rw[jdV,jaN,e5];unfold cntB;rw[<-Nat.pos_iff_ne_zero,fZ,bC]
      exact⟨fun hm=>⟨x,hm,rfl⟩,fun ⟨y,hy,e⟩=>by rw[<-show y=x from ByteArray.ext (Array.ext' e)];exact hy⟩)
     have h9:=Hd (jpo S (U.take k) x);rw[<-jni hx]at h9;have d8:=Hd (show ∀ W3,Ext W2 W3->∃ es ck,Blk W3 mb (.map (Tryz.ES.arr es) ck)/\∀ y:vB,jaU es y.data.toList=cntV (cntB (U.take (k+1)) y)from fun W3 e3=>⟨a5,b6,B2.keeps e3 (fun e=>e),e7⟩);have j9:=Hd (bB B2 e7);have k0:=Hd g0;have c0:=Hd O2;have a6:=Hd d7;have b1:(k:Int) < (n7:Int):=by have:=j4.o;omega
     have i0:=Hd (bB hk hlt);have p1:=g9.o;clear q d7 h5 h6 hx e5 e6 b5 f9 h8 B2 e7 g0 K2 O2 h0
     by_cases hc0:cn=0
     ·subst hc0
      have i1:=Hd (show memB (ja6 (U.take k)) x=false by
       cases hm:memB (ja6 (U.take k)) x with
       | false=>rfl
       | true=>exact absurd rfl (g2.o.1 hm))
      have o2:(Instr.lookup 98 (.map (some mb)) (.string x) false).run Tryz.prog wr=.ok (.int .i64 0) wr:=j7;have o3:(Instr.mapUpdate 98 (.map (some mb)) (.string x) (.int .i64 1)).run Tryz.prog wr=.ok () W2:=j8;have k7:Hid (∀ W3,Ext W2 W3->(Instr.lookup 98 (.map (some mb)) (.string x) false).run Tryz.prog W3=.ok (.int .i64 1) W3):=k0.o;clear j7 j8 k0;go_wp2_with fail
      refine vC (of_t _ _ [x] (by simp) (jcO W2 [x] 9) (g3.o.1.ext (b2.o.2.1.trans (c0.o.ext.alloc _)))) fun w8 Z=>?_;rw[jdQ];have Z:=((ExtR W2).alloc (.cells #[.string x] 9)).trans Z;have e8:=Hd Z;have E:=Hd (jiD w8 s bm room S (shaB x) (l0.o.ext (b2.o.2.1.trans (c0.o.ext.trans Z))));have k1:Hid (lackB S x=(atL S (shaB x).data.toList).isNone):=rfl
      obtain⟨ag,e9⟩:=vE (atL S (shaB x).data.toList)
      rw[<-e9]at E k1
      obtain⟨sx,f0⟩:=vE (shaB x)
      rw[<-f0]at E ⊢;clear Z e9 f0 qx;cases ag with
      | some y =>
       obtain⟨ty,f1⟩:=vE y.2.2.text
       have d4:=Hd (show vQ 19 #[.pointer (some ⟨s,0,none⟩),.string sx] w8 (fun e w'=>e=.returned (.tuple #[.string y.2.2.text,.bool true])/\Ext w8 w')from E.o);go_wp2_with fail
       refine d4.o.mono ?_;rintro e w9 ⟨rfl,a0⟩;have H:=Hd (e8.o.trans a0);clear a0;rw[<-f1];clear f1;have f2:freshU S (U.take (k+1))=freshU S (U.take k):=by rw[h9.o];rw[if_neg (by rw[i1.o];simp),if_neg (by rw[k1.o];simp),bR]
       have HF:=Hd f2;clear f2;go_wp2_with fail
       go_roundw
       case rel=>exact⟨k+1,by have:=i0.o;omega,by go_num,⟨n,by rw[HF.o];exact c0.o.mono H.o⟩,a6.o,d8.o w9 H.o⟩
       case measure=>exact vJ
      | none =>
       have d4:=Hd (show vQ 19 #[.pointer (some ⟨s,0,none⟩),.string sx] w8 (fun e w'=>e=.returned (.tuple #[.string ⟨#[]⟩,.bool false])/\Ext w8 w')from E.o);go_wp2_with fail
       refine d4.o.mono ?_;rintro e w9 ⟨rfl,a0⟩;have H:=Hd (e8.o.trans a0);clear a0;have k8:=k7.o w9 H.o;have n6:n+1<=maxLen:=by have:=g1.o;unfold maxLen;omega
       have n8:(n+1) * 16<=140737488355328:=by have:=g1.o;omega
       go_wp2_with (at_builtin;refine ja5 Tryz.sStrs ((c0.o.mono H.o).mono ((ExtR w9).alloc _)) (.tmp 110) (.tmp 112) rfl rfl rfl (ja3 (Blk.new w9 _)) (news:=[.string x]) (by intro u hu;simp at hu;rcases hu with rfl;rfl) rfl rfl n6 n8 ?_;intro v' w' r1 r2 r3)
       have k2:SRow J w' v' (n+1) (t :: freshU S (U.take (k+1))):=by
        have e1:freshU S (U.take (k+1))=freshU S (U.take k)++[x]:=by rw[h9.o,if_neg (by rw[i1.o];simp),if_pos (by rw[k1.o];rfl)]
        unfold SRow;rw[e1, <-cX,bY];exact r1
       obtain⟨n9,o0,rfl⟩:=k2.sl
       have k9:=(j9.o.1.keeps H.o (fun e=>e)).lt;have m3:=Hd (bB k2 (show (Value.slice n9 (n+1) o0).ownBlock≠some mb from fun e=>by
        rcases r3 with r3 | r3
        ·exact a6.o (r3 ▸ e)
        ·have:=r3 mb e;rw[bN]at this;omega))
       have o1:=Hd (((j9.o.1.keeps H.o (fun e=>e)).alloc (.cells #[.string x] 9)).keeps r2 (fun e=>a6.o e));clear r1 r2 r3 k2 k9;go_wp2_with fail
       go_roundw
       case rel=>exact⟨k+1,by have:=i0.o;omega,by go_num,⟨n+1,m3.o.1⟩,m3.o.2,a5,b6,o1.o,j9.o.2⟩
       case measure=>exact vJ
     ·have p2:¬((cn:Int)+1=1):=vO
      have p3:(((cn:Int)+1) == 1)=false:=by simp;omega
      have i1:=Hd (g2.o.2 hc0);go_wp2_with fail
      refine vC (of_t _ _ [x] (by simp) (jcO W2 [x] 9) (g3.o.1.ext (b2.o.2.1.trans (c0.o.ext.alloc _)))) fun w8 Z=>?_;rw[jdQ];have Z:=((ExtR W2).alloc (.cells #[.string x] 9)).trans Z;have e8:=Hd Z;have E:=Hd (jiD w8 s bm room S (shaB x) (l0.o.ext (b2.o.2.1.trans (c0.o.ext.trans Z))))
      obtain⟨ag,e9⟩:=vE (atL S (shaB x).data.toList)
      rw[<-e9]at E
      obtain⟨sx,f0⟩:=vE (shaB x)
      rw[<-f0]at E ⊢;clear Z e9 f0 qx j7 j8;have f2:freshU S (U.take (k+1))=freshU S (U.take k):=by rw[h9.o,if_pos i1.o,bR]
      have HF:=Hd f2;clear f2;cases ag with
      | some y =>
       obtain⟨ty,f1⟩:=vE y.2.2.text
       have d4:=Hd (show vQ 19 #[.pointer (some ⟨s,0,none⟩),.string sx] w8 (fun e w'=>e=.returned (.tuple #[.string y.2.2.text,.bool true])/\Ext w8 w')from E.o);go_wp2_with fail
       refine d4.o.mono ?_;rintro e w9 ⟨rfl,a0⟩;have H:=Hd (e8.o.trans a0);clear a0;rw[<-f1];clear f1;go_wp2_with fail
       go_roundw
       case rel=>exact⟨k+1,by have:=i0.o;omega,by go_num,⟨n,by rw[HF.o];exact c0.o.mono H.o⟩,a6.o,d8.o w9 H.o⟩
       case measure=>exact vJ
      | none =>
       have d4:=Hd (show vQ 19 #[.pointer (some ⟨s,0,none⟩),.string sx] w8 (fun e w'=>e=.returned (.tuple #[.string ⟨#[]⟩,.bool false])/\Ext w8 w')from E.o);go_wp2_with fail
       refine d4.o.mono ?_;rintro e w9 ⟨rfl,a0⟩;have H:=Hd (e8.o.trans a0);clear a0;have k8:=k0.o w9 H.o;go_wp2_with fail
       go_roundw
       case rel=>exact⟨k+1,by have:=i0.o;omega,by go_num,⟨n,by rw[HF.o];exact c0.o.mono H.o⟩,a6.o,d8.o w9 H.o⟩
       case measure=>exact vJ
    ·obtain rfl:k=U.length:=vO
     obtain⟨⟨n,q⟩, -, -⟩:=m2
     obtain⟨ar,cr,j6⟩:=q.sl
     subst j6;rw[cF]at q;have a8:=Hd q;have p4:¬((U.length:Int) < (n7:Int)):=by have:=j4.o;omega
     clear q;go_wp2_with fail
     go_ret2;unfold UpdP;rw[if_pos m7.o,f8.o];have hn:(t :: freshU S U).length=n:=by have:=a8.o.len;simpa using this
     rw[hn]
     exact⟨_,rfl,a8.o.sl,a8.o.own,b2.o.2.1.trans a8.o.ext,fun b hb=>bL b2.o.2.1.size (a8.o.new b hb)⟩
theorem jfD{S:vT}{out:List Pl}{k:Nat}{ts M:List Pl}{R:vL}(h:jcq S out k ts M R):M.length<=k/\R.length<=M.length/\∀ p∈R,p.1.size<=9223372036854775807/\p.2.size<=9223372036854775807:=by
 induction h with
 | nil=>exact⟨cC _,bM _,fun p e=>(cM e).elim⟩
 | full=>exact⟨cC _,bM _,fun p e=>(cM e).elim⟩
 | skip _ _ _ _ _ _ _ ih=>exact ih
 | no _ _ _ _ _ _ _ _ ih=>exact ih
 | go k t ts n M R h1 h2 h3 h4 ih =>
  obtain⟨H,J,z⟩:=ih
  obtain⟨d,q⟩:=h3.good
  have e:=(q.one (inlP d)).path;have K:=(q.one (inlP d)).value;have E:(entN n t.1).length<=1/\∀ p∈entN n t.1,p.1.size<=9223372036854775807/\p.2.size<=9223372036854775807:=by
   unfold entN keyR;split
   ·exact⟨cC _,fun p e=>(cM e).elim⟩
   ·split
    ·refine⟨bM _,fun p o=>?_⟩
     rw[bS.1 o]
     have:(jbz (t.1++n.path)).size=(t.1++n.path).size / 2:=jeg _
     rw[cO]at this
     exact⟨by show (jbz _).size<=_;omega,by show n.value.size<=_;omega⟩
    ·exact⟨cC _,fun p e=>(cM e).elim⟩
  refine⟨by rw[bQ];omega,by rw[bG,bQ];omega,fun p e=>?_⟩
  rcases bO.1 e with e | e
  ·exact E.2 p e
  ·exact z p e
theorem LRow.rd{w0 w:vW}{v:vV}{n:Nat}{xs:List Pl}(h:LRow w0 w v n xs):RdP w v xs:=by
 have q:xs.length=n:=by have:=h.len;rw[jdx]at this;omega
 obtain⟨_,⟨rfl,O⟩ |⟨g,e,z,rfl,Q,E,H,X,Z⟩⟩:=h.own
 ·exact .inl ⟨none,0,rfl,bE vO⟩
 ·subst q
  refine .inr ⟨g,0,e,rfl,(dD.1 E).1,H,fun j x o=>?_⟩;have hj:=(bU.1 o).1
  obtain⟨J,K⟩:=jdw xs j x o
  exact⟨by rw[cL,h.own.cellAt (j * 2) vO,J],by rw[cL,h.own.cellAt (j * 2+1) vO,K]⟩
theorem jzt(W:vW)(s bm:Nat)(room:Int)(S:vT)(hs:jaz W s bm room S)(a b:vB)(h:(jdu S a && jdu S b)=false) :
  vR 23 #[.pointer (some ⟨s,0,none⟩),.string a,.string b] W (.tuple #[.slice none 0 0,.int .i64 4]):=by
 have q:([a,b].all (jdu S))=false:=by simpa using h
 have z:=Hd (fun(v:vV) (W1:vW) (e:Ext W W1) (hv:RdS W1 v [a,b])=>jim W1 s bm room S (hs.ext e) v [a,b] hv (show (2:Nat)<=1000 by decide));rw[q]at z;clear hs h q;go_enter Tryz.func23,Tryz.ntmps23;go_wp2_with fail
 refine vH (z.o _ _ ((ExtR W).alloc _) (jcO W [a,b] _)) fun E H=>?_;have J:=Hd (((ExtR W).alloc (.cells ([a,b].map Value.string).toArray 9)).trans H);go_wp2_with fail
 refine (jj5 E).mono ?_;rintro e K ⟨rfl,rfl⟩;go_wp2_with fail
 go_ret2
 exact⟨rfl,J.o⟩
def OfP(W:vW)(l m:vL)(e:Ending)(w':vW):Prop:=∃ v,e=.returned (.tuple #[v,.int .i64 0])/\CRow W w' v (jb3 l m).length (jb3 l m)
theorem jyo(W:vW)(s bm:Nat)(room:Int)(S:vT)(hs:jaz W s bm room S)(a b:vB)(h:(jdu S a && jdu S b)=true)(ha:a.size<=100000)(hb:b.size<=100000){MA MB M1 M2:List Pl}{R1 R2 R3 R4:vL}
  (h1:jcq S [] 400 [(⟨#[]⟩,jaC a)] MA R3) (h2:jcq S MA 400 [(⟨#[]⟩,jaC b)] M2 R2) (h3:jcq S [] 400 [(⟨#[]⟩,jaC b)] MB R4) (h4:jcq S MB 400 [(⟨#[]⟩,jaC a)] M1 R1) :
  vQ 23 #[.pointer (some ⟨s,0,none⟩),.string a,.string b] W (OfP W R1 R2):=by
 have hk:([a,b].all (jdu S))=true:=by simpa using h
 have HC:=Hd (fun(v:vV) (W1:vW) (e:Ext W W1) (hv:RdS W1 v [a,b])=>jim W1 s bm room S (hs.ext e) v [a,b] hv (show (2:Nat)<=1000 by decide));rw[hk]at HC;have J:=jfD h1;have K:=jfD h2;have O:=jfD h3;have Q:=jfD h4;have HZ:=Hd (bB (bB J K) (bB O Q));have HA:=Hd (fun(W1:vW) (e:Ext W W1)=>joS W1 s bm room S (hs.ext e) a ha (.slice none 0 0) [] (.inl ⟨_,_,rfl,rfl⟩) (cC _) h1);have HB:=Hd (fun(W1:vW) (e:Ext W W1) (v:vV) (hv:RdP W1 v MA)=>joS W1 s bm room S (hs.ext e) b hb v MA hv (by have:=J.1;omega) h2);have a7:=Hd (fun(W1:vW) (e:Ext W W1)=>joS W1 s bm room S (hs.ext e) b hb (.slice none 0 0) [] (.inl ⟨_,_,rfl,rfl⟩) (cC _) h3);have a8:=Hd (fun(W1:vW) (e:Ext W W1) (v:vV) (hv:RdP W1 v MB)=>joS W1 s bm room S (hs.ext e) a ha v MB hv (by have:=O.1;omega) h4);clear hs h hk h1 h2 h3 h4 J K O Q;go_enter Tryz.func23,Tryz.ntmps23;go_wp2_with fail
 refine vH (HC.o _ _ ((ExtR W).alloc _) (jcO W [a,b] _)) fun W2 hE=>?_;have HE:=Hd (((ExtR W).alloc (.cells ([a,b].map Value.string).toArray 9)).trans hE);go_wp2_with fail
 refine (jg0 W2).mono ?_;rintro e W3 ⟨rfl,rfl⟩;go_wp2_with fail
 refine (HA.o W2 HE.o).mono ?_;rintro e W4 ⟨u1,v1,rfl,E,a9⟩;have b0:=Hd E;have X:=Hd (HE.o.trans E.ext);clear E a9;go_wp2_with fail
 refine (HB.o W4 X.o u1 b0.o.rd).mono ?_;rintro e W5 ⟨u2,v2,rfl,Z,a2⟩;have b1:=Hd a2;have a3:=Hd (X.o.trans Z.ext);clear Z a2;go_wp2_with fail
 refine (a7.o W5 a3.o).mono ?_;rintro e W6 ⟨u3,v3,rfl,q,b2⟩;have b3:=Hd q;have a4:=Hd (a3.o.trans q.ext);have a0:=Hd (ORow.mono b1.o q.ext);clear q b2;go_wp2_with fail
 refine (a8.o W6 a4.o u3 b3.o.rd).mono ?_;rintro e W7 ⟨u4,v4,rfl,H,a5⟩;have b4:=Hd a5;have a6:=Hd (a4.o.trans H.ext);have a1:=Hd (ORow.mono a0.o H.ext);clear H a5;go_wp2_with fail
 obtain⟨⟨J,K⟩,O,Q⟩:=HZ.o
 refine (jqT W7 v4 v2 R1 R2 (ERow.rd b4.o) (ERow.rd a1.o) vO vO Q.2.2 K.2.2).mono ?_;rintro e W8 ⟨u,rfl,hC⟩;have z:=Hd hC;clear hC J K O Q;go_wp2_with fail
 go_ret2
 exact⟨_,rfl,z.o.sl,z.o.own,a6.o.trans z.o.ext,fun b hb=>bL a6.o.size (z.o.new b hb)⟩
theorem jok(W:vW)(s bm:Nat)(room:Int)(S:vT)(hs:jaz W s bm room S){a b:vL}(ha:HasM S a)(hb:HasM S b){U:vM}(hU:InjL U)(h1:∀ x∈jam (jau a),x∈U)(h2:∀ x∈jam (jau b),x∈U) :
  vQ 23 #[.pointer (some ⟨s,0,none⟩),.string (rootM a),.string (rootM b)] W (OfP W a b):=by
 have o:∀ {l:vL},HasM S l->jdu S (rootM l)=true:=fun {l} h=>by
  obtain⟨y,e,_⟩:=h.has _ (jbB _)
  unfold jdu rootM;rw[show (shaB (jau l).text).data.toList=ky (jau l).text from rfl,e];rfl
 have q:∀ l,(rootM l).size<=100000:=fun l=>by unfold rootM;rw[jbi];omega
 have:=jyo W s bm room S hs (rootM a) (rootM b) (by rw[o ha,o hb];rfl) (q a) (q b) (jhJ (out:=[]) ha) (jhJ (out:=metT [] a) hb) (jhJ (out:=[]) hb) (jhJ (out:=metT [] b) ha)
 obtain⟨_,_,e⟩:=juk W ha.ok hb.ok hU h1 h2
 refine this.mono fun z w' h=>?_;unfold OfP at h ⊢;rw[e]at h;exact h
end
end Go.Proofs.YtmobgkphhbmhbaaGreatDoor
