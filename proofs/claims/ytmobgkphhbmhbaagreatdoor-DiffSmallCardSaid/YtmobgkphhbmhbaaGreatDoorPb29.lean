/- Lemmas; each is under no condition but those that it states. -/
import Derived.Test.YtmobgkphhbmhbaaGreatDoorPb28
namespace Go.Proofs.YtmobgkphhbmhbaaGreatDoor
set_option linter.unusedSimpArgs false
set_option linter.unusedVariables false
set_option maxRecDepth 100000
set_option maxHeartbeats 16000000
open Go Go.RowKit
section
attribute [local go_sem] Oper.semAt_some
structure WrAt(z g:Nat)(v:Value)(T:vM)(W:World):Prop where
 lo:z<=g
 var:Blk W g (.cells #[v] 96)
 row:W.ownsRow 0 9 1 v T.length (T.map Value.string)
 own:∀ b,v.ownBlock=some b->z<=b/\b≠g/\b < W.heap.size
 nil:T=[]->v=.slice none 0 0
theorem WrAt.ext{z g:Nat}{v:vV}{T:vM}{W W':vW}(h:WrAt z g v T W)(e:Ext W W'):WrAt z g v T W':=
 ⟨h.lo,h.var.keeps e (fun g=>g),jbl h.row e,fun b hb=>⟨(h.own b hb).1,(h.own b hb).2.1,bQ (h.own b hb).2.2 e.size⟩,h.nil⟩
theorem WrAt.off{z g:Nat}{v:vV}{T:vM}{W W':vW}{F:BSet}(h:WrAt z g v T W)(e:jad F W W')(h1:¬ F g)(h2:∀ b,v.ownBlock=some b->¬ F b):WrAt z g v T W':=
 ⟨h.lo,h.var.keeps e h1,ja4 h.row e h2,fun b hb=>⟨(h.own b hb).1,(h.own b hb).2.1,bQ (h.own b hb).2.2 e.size⟩,h.nil⟩
structure WrTo(z g:Nat)(v:Value)(W W':World)(v':Value)(T':vM):Prop where
 at':WrAt z g v' T' W'
 kp:jad (fun b=>b=g\/v.ownBlock=some b) W W'
 sub:∀ b,v'.ownBlock=some b->v.ownBlock=some b\/W.heap.size<=b
theorem WrTo.refl{z g:Nat}{v:vV}{T:vM}{W W':vW}(h:WrAt z g v T W)(e:Ext W W'):WrTo z g v W W' v T:=⟨h.ext e,e.mono (fun _ _ h=>h.elim),fun b hb=>.inl hb⟩
theorem WrTo.trans{z g:Nat}{v v' v'':vV}{T T':vM}{W W' W'':vW}(h:WrTo z g v W W' v' T)(k:WrTo z g v' W' W'' v'' T'):WrTo z g v W W'' v'' T':=
 ⟨k.at',h.kp.trans' k.kp (fun x o e=>by
  rcases e with e | e
  ·exact .inl e
  ·rcases h.sub x e with e | e
   ·exact .inr e
   ·omega),fun b hb=>by
  rcases k.sub b hb with e | e
  ·exact h.sub b e
  ·exact .inr (bK h.kp.size e)⟩
theorem WrTo.ext{z g:Nat}{v v':vV}{T:vM}{W W' W'':vW}(h:WrTo z g v W W' v' T)(e:Ext W' W''):WrTo z g v W W'' v' T:=h.trans (WrTo.refl h.at' e)
theorem WrTo.blk{z g:Nat}{v v':vV}{T:vM}{W W':vW}(h:WrTo z g v W W' v' T){b:Nat}{o:Obj}(hB:Blk W b o)(h1:b≠g)(h2:v.ownBlock≠some b):Blk W' b o:=hB.keeps h.kp (fun e=>e.elim h1 h2)
theorem WrTo.ext0{z g:Nat}{v v':vV}{T T':vM}{W0 W W':vW}(h:WrTo z g v W W' v' T')(k:WrAt z g v T W)(e:Ext W0 W)(hz:W0.heap.size<=z):Ext W0 W':=
 e.trans' h.kp (fun x o e=>by
  rcases e with e | e
  ·have:=k.lo;omega
  ·have:=(k.own x e).1;omega)
theorem WrTo.fill{z g:Nat}{v v':vV}{T:vM}{W W' W'':vW}(h:WrTo z g v W W' v' T){L:Nat}(e:jad (fun b=>b=L) W' W'')(h1:L≠g)(h2:v'.ownBlock≠some L)(h3:W.heap.size<=L):WrTo z g v W W'' v' T:=
 ⟨h.at'.off e (fun x=>h1 x.symm) (fun b hb x=>h2 (by rw[hb,x])),h.kp.trans' e (fun x o y=>by have y:x=L:=y;omega),h.sub⟩
theorem WrTo.ahead{z g:Nat}{v v':vV}{T:vM}{W0 W W':vW}(e:Ext W0 W)(h:WrTo z g v W W' v' T):WrTo z g v W0 W' v' T:=
 ⟨h.at',(e.mono (fun _ _ h=>h.elim)).trans' h.kp (fun x o e=>e),fun b hb=>(h.sub b hb).imp id (fun k=>bK e.size k)⟩
def FoP(z g:Nat)(v:vV)(W:vW)(r:vV)(T:vM)(e:Ending)(w':vW):Prop:=e=.returned r/\∃ v',WrTo z g v W w' v' T
structure jo4(n:jae):Prop where
 refs:n.refs.length=16
 call:∀ w,jbV w->ErrT w->vQ 90 #[n.V] w fun e w'=>(∃ k:Int,e=.returned (.tuple #[.string (putN n),.int .i64 k]))/\Ext w w'
theorem jl9{d:Nat}{n:jae}(h:jck (InlD d) n):jo4 n:=⟨(h.one (inlP d)).refs,fun w _ _=>by
 rw[jl5 h];exact (jjs (inlP d) w n h).mono fun e w' h=>⟨⟨0,h.1⟩,h.2⟩⟩
def PutP:PA->Prop
 | .nil=>True
 | .no=>jo4 jaV
 | .leaf q v=>jo4 ⟨1,q,v,jat 16⟩
 | .ext q n=>jo4 (nodeP (.ext q n))/\PutP n
 | .br v ks=>jo4 (nodeP (.br v ks))/\∀ i,PutP (ks i)
theorem PutP.node{P:PA}(h:PutP P)(hn:P.isNil=false):jo4 (nodeP P):=by
 cases P with
 | nil=>cases hn
 | no=>exact h
 | leaf q v=>exact h
 | ext q n=>exact h.1
 | br v ks=>exact h.1
theorem jen:∀ (P:PA),P.isNil=false->(underP P).length+1<=cntP P
 | .nil,h=>by cases h
 | .no,_=>bM _
 | .leaf _ _,_=>bM _
 | .ext q n,_=>by
  show (bigs (textP n)++underP n).length+1<=1+cntP n;rw[bF];have e:=jjQ (textP n);cases hn:n.isNil with
  | true=>rw[jbh hn];exact bM _
  | false =>
   have:=jen n hn
   omega
 | .br v ks,_=>by
  show ((List.range 16).flatMap fun i=>if (ks i).isNil then []else bigs (textP (ks i))++underP (ks i)).length+1<=1+sumF (fun i=>cntP (ks i)) 16
  have:=jgk (fun i=>if (ks i).isNil then []else bigs (textP (ks i))++underP (ks i)) (fun i=>cntP (ks i)) (fun i=>by
   show (if (ks i).isNil=true then ([]:vM)else bigs (textP (ks i))++underP (ks i)).length<=cntP (ks i);cases hn:(ks i).isNil with
   | true=>rw[if_pos rfl];exact cB _
   | false =>
    rw[if_neg ff,bF];have e:=jjQ (textP (ks i))
    have:=jen (ks i) hn
    omega) 16
  omega
def jwR(P:PA):Prop:=∀ (w0 W:vW) (T:TypeId) (x:vV) (D:Nat->Prop) (g:Nat) (v:vV) (Tx:vM),jbV w0->ErrT w0->PaO P (.iface T x) D w0->Ext w0 W->WrAt w0.heap.size g v Tx W->Tx.length+cntP P<=100000 ->
 vQ (jlY P) #[x,.pointer (some ⟨g,0,none⟩)] W (FoP w0.heap.size g v W (nodeP P).V (Tx++underP P))
def TopC(P:PA):Prop:=∀ (w0 W:vW) (T:TypeId) (x:vV) (D:Nat->Prop) (g:Nat) (v:vV) (Tx:vM),jbV w0->ErrT w0->PaO P (.iface T x) D w0->Ext w0 W->WrAt w0.heap.size g v Tx W->Tx.length+cntP P<=100000 ->
 vQ 52 #[.pointer (some ⟨g,0,none⟩),.iface T x] W (FoP w0.heap.size g v W (.string (textP P)) (Tx++underP P))
def jvp(P:PA):Prop:=∀ (w0 W:vW) (T:TypeId) (x:vV) (D:Nat->Prop) (g:Nat) (v:vV) (Tx:vM),jbV w0->ErrT w0->PaO P (.iface T x) D w0->Ext w0 W->WrAt w0.heap.size g v Tx W->Tx.length+cntP P<=100000 ->
 vQ 248 #[.pointer (some ⟨g,0,none⟩),.iface T x] W (FoP w0.heap.size g v W (.string (refB (textP P))) (Tx++(bigs (textP P)++underP P)))
theorem jt4(z g:Nat)(v:vV)(Tx:vM)(W:vW)(h:WrAt z g v Tx W):vQ 278 #[.agg #[],.pointer (some ⟨g,0,none⟩)] W (FoP z g v W jaV.V Tx):=by
 have H:=Hd h;clear h;go_enter Tryz.func278,Tryz.ntmps278;go_wp2_with (first |(refine jal Tryz.allocNode rfl rfl ?_;intro Q q A;simp only[bN]at q) |(refine jah (vs:=jaV.cells) rfl rfl rfl rfl q rfl Tryz.szNode jaV.one ?_;intro O E J))
 have K:Ext W (W.alloc (.cells #[] 244)):=(ExtR W).alloc _;refine bodyPost_ret (jcF rfl rfl (jaH O _ jaV rfl E)) rfl ?_
 exact⟨rfl,v,WrTo.refl H.o ((K.trans A).trans' J (fun x X e=>by have e:x=W.heap.size+1:=e;omega))⟩
def jyT(q u:vB):List vV:=jcc 1 q u ⟨#[]⟩
theorem jv2(w0:vW)(z g:Nat)(v:vV)(Tx:vM)(W:vW)(hE:Ext w0 W)(q u:vB)(b:Nat)(hB:Blk w0 b (.cells #[.string q,.string u] 235))(h:WrAt z g v Tx W):vQ 262 #[.pointer (some ⟨b,0,none⟩),.pointer (some ⟨g,0,none⟩)] W (FoP z g v W (jae.V ⟨1,q,u,jat 16⟩) Tx):=by
 have H:=Hd h;have Q0:=Hd (jaa (hB.cell (i:=0) (v:=.string q) vF) hE);have Q1:=Hd (jaa (hB.cell (i:=1) (v:=.string u) vF) hE);have a0:=hB.lt;have J:=Hd (show ¬ b=W.heap.size by have:=hE.size;omega);clear h hB hE a0;go_enter Tryz.func262,Tryz.ntmps262;go_wp2_with (refine jal Tryz.allocNode rfl rfl ?_;intro W4 O Q)
 have a1:=Hd O;have A:=Hd Q;clear O Q;refine vS ?_;refine ja0 [0,1,2,3,4,5,6,7,8,9] [9] Ext (jad (fun z=>z=W.heap.size)) ExtR ExtT (fun x y z h k=>jad.trans h k) (fun x y h=>h.mono (fun _ _ h=>h.elim)) vY vY vY ?_
 refine vD ?_
 refine qDV _ ((.pointer (some ⟨b,0,none⟩))) rfl (fun w1 _=>by kernel_rfl) ?_;refine vS ?_
 refine vD ?_
 refine qDL ⟨b,0,none⟩ _ rfl (fun w1 h1=>jaw (fun w=>by kernel_rfl) (jaD (jaa Q0.o A.o) (((jad.refl (fun z=>z=W.heap.size) W4).drew).trans h1) (by exact J.o))) ?_;refine vS ?_
 refine vD ?_
 refine qDV _ ((.pointer (some ⟨b,0,none⟩))) rfl (fun w1 _=>by kernel_rfl) ?_;refine vS ?_
 refine vD ?_
 refine qDL ⟨b,1,none⟩ _ rfl (fun w1 h1=>jaw (fun w=>by kernel_rfl) (jaD (jaa Q1.o A.o) (((jad.refl (fun z=>z=W.heap.size) W4).drew).trans h1) (by exact J.o))) ?_;refine vS ?_
 refine vD ?_
 refine qDH _ rfl (fun w5 X K hK=>?_);have hX:=(jam W4).trans X;refine jkS (vs:=jyT q u) rfl rfl rfl (a1.o.keeps hX (fun h=>h)) rfl Tryz.szNode (jcd _ _ _ _) ?_;intro W6 Z E;have H6:=Hd (bB Z ((A.o.trans hX).trans' E (fun x hx e=>by have e:x=W.heap.size:=e;omega)));refine vS ?_;refine hK _ _ E ?_;clear hK K X hX Z E;refine jco vY (fun w7 X=>?_);have a2:=H6.o.1.keeps X (fun h=>h);have a3:=H6.o.2.trans X;go_wp2_with fail
 refine bodyPost_ret (jcF rfl rfl (jaH w7 _ ⟨1,q,u,jat 16⟩ rfl a2)) rfl ?_
 exact⟨rfl,v,WrTo.refl H.o a3⟩
theorem jsP(P:PA)(hn:P.isNil=false)(hp:PutP P)(hF:jwR P):TopC P:=by
 intro w0 W T x D g v Tx E H J K O hl;have hf:=hF w0 W T x D g v Tx E H J K O hl;have hm:=J.at'.meth.form;have hm:∀ w,(Go.method (437+1) T x "guilloche/trie.form").run Tryz.prog w=.ok (jlY P,x) w:=hm;have a1:=jpo P;have q:=hp.node hn;rw[jmn hn];have HN:Hid (∀ w,Ext w0 w->vQ 90 #[(nodeP P).V] w fun e w'=>(∃ k:Int,e=.returned (.tuple #[.string (putN (nodeP P)),.int .i64 k]))/\Ext w w'):=fun w e=>q.call w (E.ext e) (H.ext e);have Q:=Hd hf;have HW:=Hd (bB O K)
 obtain⟨U,hU⟩:=vE (Tx++underP P)
 rw[<-hU]at Q ⊢
 obtain⟨n,z⟩:=vE (nodeP P)
 rw[<-z]at Q HN ⊢;clear hf E H J K O hl q hn hp hF hU z;go_enter Tryz.func52,Tryz.ntmps52;go_wp2_with fail
 refine Q.o.mono ?_;rintro e w1 ⟨rfl,v1,X⟩;have HT:=Hd X;have Z:=Hd (X.ext0 HW.o.1 HW.o.2 (bM _));clear X;go_wp2_with fail
 refine (HN.o w1 Z.o).mono ?_;rintro e w2 ⟨⟨k,rfl⟩,A⟩;have a0:=Hd A;clear A;go_wp2_with fail
 go_ret
 exact⟨rfl,v1,HT.o.ext a0.o⟩
end
section
attribute [local go_sem] Oper.semAt_some
end
section
attribute [local go_sem] Oper.semAt_some
end
section
attribute [local go_sem] Oper.semAt_some
theorem jvU{y h:vB}(z:jj9 y=some h):jfG y:=by
 unfold jj9 at z;cases q:cutN y with
 | none=>rw[q]at z;cases z
 | some r =>
  rw[q]at z;have z:jeV y r=some h:=z;unfold jeV at z;rw[Option.filter_eq_some_iff]at z
  obtain⟨A,E⟩:=z
  have E:h.size=32:=by simpa using E
  unfold je5 at A
  by_cases hr:r.1=false/\r.2.1+r.2.2=y.size
  case neg=>rw[if_neg hr]at A;cases A
  rw[if_pos hr]at A;have A:=bV A
  obtain⟨b,o,n⟩:=r
  obtain⟨hb,H⟩:=hr
  have hb:b=false:=hb;have H:o+n=y.size:=H;subst hb
  refine⟨h,E,?_⟩
  have O:n=32:=by
   have e:=congrArg ByteArray.size A;rw[cS]at e;simp only at e;omega
  obtain⟨⟨l⟩⟩:=y
  cases l with
  | nil=>exact absurd (jjZ q).1 vI
  | cons a t =>
   have q:cutN ⟨(a :: t).toArray⟩=some (false,o,n):=q;rw[jgf]at q
   obtain⟨m,J⟩:=vE (if a.toNat < 192 then a.toNat - 128 else a.toNat - 192)
   rw[<-J]at q
   by_cases h4:a.toNat < 128
   ·rw[if_pos h4]at q
    have:=(Prod.mk.inj (Prod.mk.inj (bV q)).2).2;omega
   rw[if_neg h4]at q
   by_cases h5:m<=55
   ·rw[if_pos h5]at q
    split at q
    ·have K:=(Prod.mk.inj (bV q)).1
     have Q:=(Prod.mk.inj (Prod.mk.inj (bV q)).2).1;have X:=(Prod.mk.inj (Prod.mk.inj (bV q)).2).2;have K:¬ 192<=a.toNat:=of_decide_eq_false K;rw[if_pos vO]at J;have Z:a=160:=dR.1 (by show a.toNat=160;omega);have ht:h=⟨t.toArray⟩:=by
      rw[<-A, <-Q,O];apply ByteArray.ext;apply Array.ext';have a0:o+n=t.length+1:=H;rw[fF,fV,fG];show ((a :: t).drop 1).take (1+32 - 1)=t;rw[List.drop_succ_cons,List.drop_zero,cD vO]
     unfold jaC;rw[if_neg vO,E,ht,Z];apply ByteArray.ext;apply Array.ext';rw[dK,fQ];rfl
    ·cases q
   ·rw[if_neg h5]at q
    split at q
    ·rename_i n' hl
     split at q
     ·have X:=(Prod.mk.inj (Prod.mk.inj (bV q)).2).2
      have:=(jea hl).2.2.2.1
      omega
     ·cases q
    ·cases q
def GetE(s:vB):Prop:=∀ w,ErrT w->vQ 79 #[.string s] w (jwT w)
theorem WrAt.push{z g:Nat}{v v':vV}{Tx New:vM}{W w6:vW}(h:WrAt z g v Tx W){n:Nat}(hn:n=(Tx++New).length)(r1:w6.ownsRow 0 9 1 v' n ((Tx++New).map Value.string))(r2:jad (fun b=>v.ownBlock=some b) W w6)(r3:v'.ownBlock=v.ownBlock\/∀ b,v'.ownBlock=some b->W.heap.size<=b)(hz:z<=W.heap.size)(h0:New≠[]) :
  WrTo z g v W (w6.setCell ⟨g,0,none⟩ v') v' (Tx++New):=by
 subst hn;have A:=h.var.keeps r2 (fun e=>(h.own g e).2.1 rfl);have E:=jad.oneSet w6 ⟨g,0,none⟩ v';have H:=h.var.lt;have o:∀ b,v'.ownBlock=some b->v.ownBlock=some b\/W.heap.size<=b:=fun b hb=>by
  rcases r3 with r3 | r3
  ·exact .inl (r3 ▸ hb)
  ·exact .inr (r3 b hb)
 have q:∀ b,v'.ownBlock=some b->b≠g:=fun b hb=>by
  rcases o b hb with e | e
  ·exact (h.own b e).2.1
  ·omega
 refine⟨⟨h.lo,A.set_same (i:=0) _,ja4 r1 E (fun b hb e=>q b hb e),fun b hb=>⟨?_,q b hb,bQ (jx0 r1 hb) E.size⟩,fun e=>?_⟩,?_,o⟩
 ·rcases o b hb with e | e
  ·exact (h.own b e).1
  ·omega
 ·exact absurd (List.append_eq_nil_iff.1 e).2 h0
 ·exact ((r2.mono (fun x _ e=>.inr e):jad (fun b=>b=g\/v.ownBlock=some b) W w6)).trans' E (fun x J e=>.inl e)
theorem WrAt.sameTo{z g:Nat}{v:vV}{Tx:vM}{W:vW}(h:WrAt z g v Tx W):WrTo z g v W (W.setCell ⟨g,0,none⟩ v) v Tx:=by
 have K:=jad.oneSet W ⟨g,0,none⟩ v;have o:=h.var.set_same (i:=0) v
 exact⟨⟨h.lo,o,ja4 h.row K (fun b hb e=>(h.own b hb).2.1 e),fun b hb=>⟨(h.own b hb).1,(h.own b hb).2.1,bQ (h.own b hb).2.2 K.size⟩,h.nil⟩,K.mono (fun x _ e=>.inl e),fun b hb=>.inl hb⟩
theorem WrAt.same{z g:Nat}{v:vV}{Tx:vM}{W:vW}(h:WrAt z g v Tx W):WrAt z g v Tx (W.setCell ⟨g,0,none⟩ v):=h.sameTo.at'
theorem jm7{W:vW}{T:TypeId}{sz:Nat}{a:Option Addr}{n c:Nat}{xs:List vV}(h:W.ownsRow 0 T sz (.slice a n c) n xs)(h0:n≠0):∃ b,a=some ⟨b,0,none⟩:=by
 obtain⟨_,⟨o,e⟩ |⟨g,q,z,e,_⟩⟩:=h
 ·injection o with _ o _
  exact absurd o h0
 ·injection e with e _ _
  exact⟨g,e⟩
theorem jed{W:vW}{T:TypeId}{b n c:Nat}{xs:List vV}(h:W.ownsRow 0 T 1 (.slice (some ⟨b,0,none⟩) n c) n xs){j:Nat}{u:vV}(hj:xs[j]?=some u):W.cell? ⟨b,j,none⟩=some u:=by
 have e:=(bU.1 hj).1;have o:=h.1;rw[h.cellAt j vO,hj]
theorem jtI(t:vB)(h:¬ t.size < 32):jj9 (refB t)=some (shaB t):=by
 rw[jmV];unfold refB;rw[if_neg h];exact jd6 (jbg _)
theorem jmW(t:vB)(h:t.size < 32):jj9 (refB t)=none:=by
 unfold refB;rw[if_pos h];cases e:jj9 t with
 | none=>rfl
 | some x =>
  have:=(jvU (y:=t) (h:=x) e).size
  omega
theorem jsg(t:vB):(refB t).size<=33:=by
 unfold refB;split
 ·omega
 ·exact Nat.le_of_eq (jfG.size ⟨_,jbg t,rfl⟩)
theorem jr1{W:vW}{T:TypeId}{sz:Nat}{a:Option Addr}{n c:Nat}{xs:List vV}(h:W.ownsRow 0 T sz (.slice a n c) n xs):n<=c:=by
 obtain⟨_,⟨z,e⟩ |⟨g,o,q,e,A,E,H,J⟩⟩:=h
 ·omega
 ·injection e with _ _ e
  omega
theorem jp0(P:PA)(hT:TopC P)(hz:(textP P).size < 32)(w0 W:vW)(T:TypeId)(x:vV)(D:Nat->Prop)(g:Nat)(v:vV)(Tx:vM)(hc:jbV w0)(H:ErrT w0)(hP:PaO P (.iface T x) D w0)(hE:Ext w0 W)(hW:WrAt w0.heap.size g v Tx W)(hl:Tx.length+cntP P<=100000) :
  vQ 248 #[.pointer (some ⟨g,0,none⟩),.iface T x] W (FoP w0.heap.size g v W (.string (refB (textP P))) (Tx++underP P)):=by
 obtain⟨W1,b0⟩:=vE (W.alloc (.cells #[.slice none 0 0] 96))
 have b3:Ext W W1:=by rw[b0];exact (ExtR W).alloc _
 have b4:WrAt w0.heap.size W.heap.size (.slice none 0 0) [] W1:=⟨hE.size,by rw[b0];exact Blk.new W _,fM _ _ _ _,fun b hb=>(by cases hb),fun _=>rfl⟩;have a0:=hT w0 W1 T x D W.heap.size (.slice none 0 0) [] hc H hP (hE.trans b3) b4 (by have:([]:vM).length=0:=rfl;omega);rw[cP]at a0;have a7:=Hd a0;clear a0;have c0:=Hd b0;have d6:=c0;have HG:=Hd hW;have J:=Hd (bB b4 (bB b3 hE));have d7:=hc;have a8:=Hd (fun w (e:Ext w0 w)=>jwl w (textP P) (hc.ext e));have a3:=Hd (fun w=>jhy w (refB (textP P)) (by have:=jsg (textP P);omega));rw[jmW _ hz]at a3;have c3:Tx.length+(underP P).length<=100000:=by
  cases hn:P.isNil with
  | true=>rw[jbh hn];show Tx.length+0<=_;omega
  | false=>have:=jen P hn;omega
 have c4:=Hd c3
 obtain⟨U,hU⟩:=vE (underP P)
 obtain⟨t,ht⟩:=vE (textP P)
 rw[<-ht, <-hU]at a7;rw[<-ht]at a8 a3 ⊢;rw[<-hU]at c4 ⊢;clear hT hz hc H hP hE hW hl b3 b4 c3 hU ht b0 d6 d7;go_enter Tryz.func248,Tryz.ntmps248;go_wp2_with fail
 rw[<-c0.o];refine a7.o.mono ?_;rintro e w2 ⟨rfl,v2,O⟩;have b5:g≠W.heap.size:=by have:=HG.o.var.lt;omega
 have a9:=O.ext0 J.o.1 (J.o.2.2.trans J.o.2.1) (bM _);have c5:WrAt w0.heap.size g v Tx w2:=(HG.o.ext J.o.2.1).off O.kp (fun e=>e.elim b5 (fun e=>by cases e)) (fun b hb e=>e.elim (fun e=>by have:=(HG.o.own b hb).2.2;omega) (fun e=>by cases e));have c6:Ext W w2:=J.o.2.1.trans' O.kp (fun x hx e=>e.elim (fun e=>by omega) (fun e=>by cases e));have e4:Hid (∀ b,v2.ownBlock=some b->W.heap.size<=b):=(fun b hb=>(O.sub b hb).elim (fun e=>by cases e) (fun e=>bK J.o.2.1.size e));have a4:=Hd (bB O.at' (bB c5 (bB c6 a9)));clear O c5 c6 a9
 obtain⟨h,hh⟩:=vE W.heap.size
 have e5:=Hd (bB b5 hh);rw[<-hh]at a4 ⊢;clear b5 hh;go_wp2_with fail
 refine vH (a8.o w2 a4.o.2.2.2) fun w3 d8=>?_;go_wp2_with fail
 refine vC (a3.o w3) fun w4 Q=>?_;have Q:=d8.o.trans Q;have q:=Hd (bB (a4.o.1.ext Q) (bB (a4.o.2.1.ext Q) (a4.o.2.2.1.trans Q)));clear Q;unfold optV;go_wp2_with fail
 obtain⟨i0,c7,d9,e0,e1⟩:=info_parts Tryz.infoStr
 obtain⟨a1,c1,c8⟩:=jaO q.o.2.1.row
 obtain⟨X,b1⟩:∃ n,n=List.length Tx:=⟨_,rfl⟩
 rw[<-b1]at c8;subst c8;have c9:=Hd b1;have d0:=Hd (show World.ownsRow w4 0 9 1 (.slice a1 X c1) X (List.map Value.string Tx) by have h9:=q.o.2.1.row;rw[<-b1]at h9;exact h9);have b9:=Hd (jr1 d0.o);have QG:=Hd (q.o.2.1.var.cell (i:=0) (v:=.slice a1 X c1) vF);clear b1
 by_cases hU0:U=[]
 ·have a5:=q.o.1.nil hU0
  subst a5;have QH:=Hd (q.o.1.var.cell (i:=0) (v:=.slice none 0 0) vF);have b6:=Hd hU0;clear hU0;refine jas [0,1,2,3,4,5,6,7,8,9,10,11,12] [9,12] (Ext) ExtR ExtT vY vY vY ?_;iterate 2 refine vP ?_
  refine qA _ ((.pointer (some ⟨g,0,none⟩))) rfl (fun w1=>by kernel_rfl) ?_;refine vS ?_
  refine vP ?_
  refine qL ⟨g,0,none⟩ _ rfl (fun w1 h1=>jaw (fun w=>by kernel_rfl) (jaa QG.o ((jam _).trans h1))) ?_;refine vS ?_
  refine vP ?_
  refine qA _ ((.pointer (some ⟨h,0,none⟩))) rfl (fun w1=>by kernel_rfl) ?_;refine vS ?_
  refine vP ?_
  refine qL ⟨h,0,none⟩ _ rfl (fun w1 h1=>jaw (fun w=>by kernel_rfl) (jaa QH.o ((jam _).trans h1))) ?_;refine vS ?_;refine qH _ rfl (fun w5 H K hK=>?_);refine jcr (v:=.slice a1 X c1) (w':=w5) (jdD (jch (i:=i0) Tryz.uStrs c7 a1 X c1 b9.o 0 w5) vY) (hK _ _ ?_);have d1:=Hd ((jam _).trans H);clear hK K H;refine vS ?_;refine qA _ ((.pointer (some ⟨g,0,none⟩))) rfl (fun w1=>by kernel_rfl) ?_;refine vS ?_
  refine vP ?_
  refine qH _ rfl (fun w8 A K hK=>?_);have z:=q.o.2.1.ext (d1.o.trans A);have q8:w8.cell? ⟨g,0,none⟩=some (.slice a1 X c1):=z.var.cell (i:=0) vF;have f8:w8.frozen? ⟨g,0,none⟩=false:=z.var.frozen;have d2:WrAt w0.heap.size g (.slice a1 X c1) Tx (w8.setCell ⟨g,0,none⟩ (.slice a1 X c1)):=z.same;have H8:=Hd (bB d2 (bB (d1.o.trans A) z));clear z d2 A;go_simp;refine hK _ _ ?_;clear hK K q8 f8;refine qE (fun w7 H=>?_);have H9:=Hd (H8.o.1.ext H);have b7:=Hd H;clear H;go_wp2_with fail
  go_ret;rw[b6.o,bS]
  exact⟨rfl,_,(WrTo.refl HG.o (q.o.2.2.trans H8.o.2.1)).trans ((H8.o.2.2.sameTo).ext b7.o)⟩
 ·obtain⟨a2,c2,a5⟩:=jaO q.o.1.row
  have a6:=q.o.1.row
  obtain⟨n2,b8⟩:∃ n,n=List.length U:=⟨_,rfl⟩
  rw[<-b8]at a5 a6;rw[a5]at a6
  obtain⟨b2,rfl⟩:=jm7 a6 (fun e=>hU0 (bE vO))
  subst a5;have e2:=Hd a6;have d3:=Hd b8.symm;have b6:=Hd hU0;have d4:=Hd (show X+n2<=200000 by have:=c4.o;have:=c9.o;omega);have QH:=Hd (q.o.1.var.cell (i:=0) (v:=.slice (some ⟨b2,0,none⟩) n2 c2) vF);clear hU0 a6 b8;refine jas [0,1,2,3,4,5,6,7,8,9,10,11,12] [9,12] (Ext) ExtR ExtT vY vY vY ?_;iterate 2 refine vP ?_
  refine qA _ ((.pointer (some ⟨g,0,none⟩))) rfl (fun w1=>by kernel_rfl) ?_;refine vS ?_
  refine vP ?_
  refine qL ⟨g,0,none⟩ _ rfl (fun w1 h1=>jaw (fun w=>by kernel_rfl) (jaa QG.o ((jam _).trans h1))) ?_;refine vS ?_
  refine vP ?_
  refine qA _ ((.pointer (some ⟨h,0,none⟩))) rfl (fun w1=>by kernel_rfl) ?_;refine vS ?_
  refine vP ?_
  refine qL ⟨h,0,none⟩ _ rfl (fun w1 h1=>jaw (fun w=>by kernel_rfl) (jaa QH.o ((jam _).trans h1))) ?_;refine vS ?_;refine qH _ rfl (fun w5 H K hK=>?_);have E:=(jam _).trans H;refine jds w5 (.tmp 37) (.tmp 41) 22 rfl 9 i0 _ 1 16 Tryz.uStrs c7 d9 e0 e1 rfl vI (.slice a1 X c1) X _ rfl (jbl d0.o E) ⟨b2,0,none⟩ n2 c2 (U.map Value.string) rfl (by rw[cC,d3.o,Nat.mul_one]) (fun j u hj=>by rw[Addr.add_lit,cM];exact (jed (jbl e2.o E) hj)) (by intro u hu;obtain⟨y,_,rfl⟩:=bH.1 hu;rfl) (by have:=d4.o;unfold maxLen;omega) (by have:=d4.o;omega) ?_;intro v' w6 r1 r2 r3;have HA:=Hd (bB E (bB r1 (bB r2 r3)))
  obtain⟨a',c',e3⟩:=jaO r1
  subst e3;refine hK _ _ ?_;clear hK K H E r1 r2 r3;refine vS ?_;refine qA _ ((.pointer (some ⟨g,0,none⟩))) rfl (fun w1=>by kernel_rfl) ?_;refine vS ?_
  refine vP ?_
  refine qH _ rfl (fun w8 A K hK=>?_)
  obtain⟨E,r1,r2,r3⟩:=HA.o
  have Z:=q.o.2.1.ext E;have d5:w0.heap.size<=w5.heap.size:=bK Z.lo (Nat.le_of_lt Z.var.lt);have hp:=Z.push (n:=X+n2) (by rw[bF, <-c9.o,d3.o]) (by rw[bY];exact jbl r1 A) (r2.trans (A.mono (fun _ _ e=>e.elim))) r3 d5 b6.o;have z:=(Z.var.keeps r2 (fun e=>(Z.own g e).2.1 rfl)).keeps A (fun e=>e);have q8:w8.cell? ⟨g,0,none⟩=some (.slice a1 X c1):=z.cell (i:=0) vF;have f8:w8.frozen? ⟨g,0,none⟩=false:=z.frozen;have H8:=Hd (bB hp E);clear E r1 r2 r3 Z d5 hp z A;go_simp;refine hK _ _ ?_;clear hK K q8 f8;refine qE (fun w7 H=>?_);have b7:=Hd H;clear H;go_wp2_with fail
  go_ret
  exact⟨rfl,_,((WrTo.refl HG.o (q.o.2.2.trans H8.o.2)).trans H8.o.1).ext b7.o⟩
theorem juI(P:PA)(hT:TopC P)(hz:¬(textP P).size < 32)(w0 W:vW)(T:TypeId)(x:vV)(D:Nat->Prop)(g:Nat)(v:vV)(Tx:vM)(hc:jbV w0)(H:ErrT w0)(hP:PaO P (.iface T x) D w0)(hE:Ext w0 W)(hW:WrAt w0.heap.size g v Tx W)(hl:Tx.length+cntP P<=100000) :
  vQ 248 #[.pointer (some ⟨g,0,none⟩),.iface T x] W (FoP w0.heap.size g v W (.string (refB (textP P))) (Tx++(textP P :: underP P))):=by
 obtain⟨W1,b7⟩:=vE (W.alloc (.cells #[.slice none 0 0] 96))
 have c6:Ext W W1:=by rw[b7];exact (ExtR W).alloc _
 have c7:WrAt w0.heap.size W.heap.size (.slice none 0 0) [] W1:=⟨hE.size,by rw[b7];exact Blk.new W _,fM _ _ _ _,fun b hb=>(by cases hb),fun _=>rfl⟩;have a3:=hT w0 W1 T x D W.heap.size (.slice none 0 0) [] hc H hP (hE.trans c6) c7 (by have:([]:vM).length=0:=rfl;omega);rw[cP]at a3;have b1:=Hd a3;clear a3;have d6:=Hd b7;have f4:=d6;have HG:=Hd hW;have J:=Hd (bB c7 (bB c6 hE));have f5:=hc;have b3:=Hd (fun w (e:Ext w0 w)=>jwl w (textP P) (hc.ext e));have a4:=Hd (fun w=>jhy w (refB (textP P)) (by have:=jsg (textP P);omega));rw[jtI _ hz]at a4;have d7:Tx.length+(underP P).length<=100000:=by
  cases hn:P.isNil with
  | true=>rw[jbh hn];show Tx.length+0<=_;omega
  | false=>have:=jen P hn;omega
 have c8:=Hd d7
 obtain⟨U,hU⟩:=vE (underP P)
 obtain⟨t,ht⟩:=vE (textP P)
 rw[<-ht, <-hU]at b1;rw[<-ht]at b3 a4 ⊢;rw[<-hU]at c8 ⊢;clear hT hz hc H hP hE hW hl c6 c7 d7 hU ht b7 f4 f5;go_enter Tryz.func248,Tryz.ntmps248;go_wp2_with fail
 rw[<-d6.o];refine b1.o.mono ?_;rintro e w2 ⟨rfl,v2,O⟩;have c9:g≠W.heap.size:=by have:=HG.o.var.lt;omega
 have b4:=O.ext0 J.o.1 (J.o.2.2.trans J.o.2.1) (bM _);have d8:WrAt w0.heap.size g v Tx w2:=(HG.o.ext J.o.2.1).off O.kp (fun e=>e.elim c9 (fun e=>by cases e)) (fun b hb e=>e.elim (fun e=>by have:=(HG.o.own b hb).2.2;omega) (fun e=>by cases e));have d9:Ext W w2:=J.o.2.1.trans' O.kp (fun x hx e=>e.elim (fun e=>by omega) (fun e=>by cases e));have d4:Hid (∀ b,v2.ownBlock=some b->W.heap.size<=b):=(fun b hb=>(O.sub b hb).elim (fun e=>by cases e) (fun e=>bK J.o.2.1.size e));have a5:=Hd (bB O.at' (bB d8 (bB d9 b4)));clear O d8 d9 b4
 obtain⟨h,hh⟩:=vE W.heap.size
 have e0:=Hd (bB c9 hh);rw[<-hh]at a5 ⊢;clear c9 hh;go_wp2_with fail
 refine vH (b3.o w2 a5.o.2.2.2) fun w3 f6=>?_;go_wp2_with fail
 refine vC (a4.o w3) fun w4 Q=>?_;have Q:=f6.o.trans Q;have q:=Hd (bB (a5.o.1.ext Q) (bB (a5.o.2.1.ext Q) (a5.o.2.2.1.trans Q)));clear Q;unfold optV
 obtain⟨i0,a6,b8,b9,c3⟩:=info_parts Tryz.infoStr
 have a7:=q.o.2.1
 obtain⟨a0,c0,f7⟩:=jaO a7.row
 have q4:=a7.var.cell (i:=0) (v:=v) vF;have e1:=Hd (show Tx.length<=100000 by have:=c8.o;omega);have f9:=Hd a7.row;have a8:=Hd a7;clear a7;subst f7;go_wp2_with (at_builtin;refine jcY _ rfl (.tmp 27) (.tmp 29) 22 rfl 9 i0 _ 1 16 Tryz.uStrs a6 b8 b9 c3 rfl vI (.slice a0 Tx.length c0) Tx.length _ rfl (jbl f9.o ((ExtR w4).alloc _)) ⟨w4.heap.size,0,none⟩ 1 1 [.string t] rfl rfl (ja5 (Blk.new w4 _)) (by simp[Value.oneCell']) (by have:=e1.o;unfold maxLen;omega) (by have:=e1.o;omega) ?_;intro v' w6 r1 r2 r3;obtain⟨e2,e3,rfl⟩:=jaO r1;have g0:=a8.o.var.lt;have d0:=(a8.o.var.alloc (.cells #[.string t] 9)).keeps r2 (fun e=>(a8.o.own g e).2.1 rfl);have g1:w6.cell? ⟨g,0,none⟩=some (.slice a0 Tx.length c0):=d0.cell (i:=0) vF;have g2:w6.frozen? ⟨g,0,none⟩=false:=d0.frozen)
 obtain⟨wS,e4⟩:=vE (w6.setCell ⟨g,0,none⟩ (.slice e2 (Tx.length+1) e3))
 have b5:=a8.o.ext ((ExtR w4).alloc (.cells #[.string t] 9));have hp:=b5.push (n:=Tx.length+1) (New:=[t]) (by simp) (by rw[bY];exact r1) r2 r3 (by have:=a8.o.lo;rw[bN];omega) (by simp);rw[<-e4]at hp ⊢;have hp:=WrTo.ahead ((ExtR w4).alloc (.cells #[.string t] 9)) hp;have e5:=q.o.1.off hp.kp (fun e=>e.elim (fun e=>by have:=HG.o.var.lt;have:=e0.o.2;omega) (fun e=>by have:=(HG.o.own h e).2.2;have:=e0.o.2;omega)) (fun b hb e=>by
  have h1:=d4.o b hb;rcases e with e | e
  ·have:=HG.o.var.lt;omega
  ·have:=(HG.o.own b e).2.2;omega)
 have b6:WrTo w0.heap.size g (.slice a0 Tx.length c0) W wS (.slice e2 (Tx.length+1) e3) (Tx++[t]):=(WrTo.refl HG.o q.o.2.2).trans hp;have c4:∃ v1,WrAt w0.heap.size h v2 U wS/\WrAt w0.heap.size g v1 (Tx++[t]) wS/\WrTo w0.heap.size g (.slice a0 Tx.length c0) W wS v1 (Tx++[t]):=⟨_,e5,hp.at',b6⟩
 obtain⟨v1,c4⟩:=c4
 clear q hp b5 e4 e5 b6 g1 g2 d0 r1 r2 r3 g0 q4;have q:=Hd c4;clear c4 a6 b8 b9 c3
 obtain⟨i0,a6,b8,b9,c3⟩:=info_parts Tryz.infoStr
 obtain⟨a1,c1,e6⟩:=jaO q.o.2.1.row
 obtain⟨X,c5⟩:∃ n,n=List.length (Tx++[t]):=⟨_,rfl⟩
 rw[<-c5]at e6;subst e6;have e7:=Hd c5;have e8:=Hd (show World.ownsRow wS 0 9 1 (.slice a1 X c1) X (List.map Value.string (Tx++[t])) by have h9:=q.o.2.1.row;rw[<-c5]at h9;exact h9);have d5:=Hd (jr1 e8.o);have QG:=Hd (q.o.2.1.var.cell (i:=0) (v:=.slice a1 X c1) vF);clear c5
 by_cases hU0:U=[]
 ·have a9:=q.o.1.nil hU0
  subst a9;have QH:=Hd (q.o.1.var.cell (i:=0) (v:=.slice none 0 0) vF);have d1:=Hd hU0;clear hU0;refine jas [0,1,2,3,4,5,6,7,8,9,10,11,12] [9,12] (Ext) ExtR ExtT vY vY vY ?_;iterate 2 refine vP ?_
  refine qA _ ((.pointer (some ⟨g,0,none⟩))) rfl (fun w1=>by kernel_rfl) ?_;refine vS ?_
  refine vP ?_
  refine qL ⟨g,0,none⟩ _ rfl (fun w1 h1=>jaw (fun w=>by kernel_rfl) (jaa QG.o ((jam _).trans h1))) ?_;refine vS ?_
  refine vP ?_
  refine qA _ ((.pointer (some ⟨h,0,none⟩))) rfl (fun w1=>by kernel_rfl) ?_;refine vS ?_
  refine vP ?_
  refine qL ⟨h,0,none⟩ _ rfl (fun w1 h1=>jaw (fun w=>by kernel_rfl) (jaa QH.o ((jam _).trans h1))) ?_;refine vS ?_;refine qH _ rfl (fun w5 H K hK=>?_);refine jcr (v:=.slice a1 X c1) (w':=w5) (jdD (jch (i:=i0) Tryz.uStrs a6 a1 X c1 d5.o 0 w5) vY) (hK _ _ ?_);have e9:=Hd ((jam _).trans H);clear hK K H;refine vS ?_;refine qA _ ((.pointer (some ⟨g,0,none⟩))) rfl (fun w1=>by kernel_rfl) ?_;refine vS ?_
  refine vP ?_
  refine qH _ rfl (fun w8 A K hK=>?_);have z:=q.o.2.1.ext (e9.o.trans A);have q8:w8.cell? ⟨g,0,none⟩=some (.slice a1 X c1):=z.var.cell (i:=0) vF;have f8:w8.frozen? ⟨g,0,none⟩=false:=z.var.frozen;have f0:WrAt w0.heap.size g (.slice a1 X c1) (Tx++[t]) (w8.setCell ⟨g,0,none⟩ (.slice a1 X c1)):=z.same;have H8:=Hd (bB f0 (bB (e9.o.trans A) z));clear z f0 A;go_simp;refine hK _ _ ?_;clear hK K q8 f8;refine qE (fun w7 H=>?_);have H9:=Hd (H8.o.1.ext H);have d2:=Hd H;clear H;go_wp2_with fail
  go_ret;rw[d1.o]
  exact⟨rfl,_,(q.o.2.2.ext H8.o.2.1).trans ((H8.o.2.2.sameTo).ext d2.o)⟩
 ·obtain⟨a2,c2,a9⟩:=jaO q.o.1.row
  have b0:=q.o.1.row
  obtain⟨n2,d3⟩:∃ n,n=List.length U:=⟨_,rfl⟩
  rw[<-d3]at a9 b0;rw[a9]at b0
  obtain⟨b2,rfl⟩:=jm7 b0 (fun e=>hU0 (bE vO))
  subst a9;have g3:=Hd b0;have f1:=Hd d3.symm;have d1:=Hd hU0;have f2:=Hd (show X+n2<=200000 by have:=c8.o;have h9:=e7.o;rw[bF,iP]at h9;omega);have QH:=Hd (q.o.1.var.cell (i:=0) (v:=.slice (some ⟨b2,0,none⟩) n2 c2) vF);clear hU0 b0 d3;refine jas [0,1,2,3,4,5,6,7,8,9,10,11,12] [9,12] (Ext) ExtR ExtT vY vY vY ?_;iterate 2 refine vP ?_
  refine qA _ ((.pointer (some ⟨g,0,none⟩))) rfl (fun w1=>by kernel_rfl) ?_;refine vS ?_
  refine vP ?_
  refine qL ⟨g,0,none⟩ _ rfl (fun w1 h1=>jaw (fun w=>by kernel_rfl) (jaa QG.o ((jam _).trans h1))) ?_;refine vS ?_
  refine vP ?_
  refine qA _ ((.pointer (some ⟨h,0,none⟩))) rfl (fun w1=>by kernel_rfl) ?_;refine vS ?_
  refine vP ?_
  refine qL ⟨h,0,none⟩ _ rfl (fun w1 h1=>jaw (fun w=>by kernel_rfl) (jaa QH.o ((jam _).trans h1))) ?_;refine vS ?_;refine qH _ rfl (fun w5 H K hK=>?_);have E:=(jam _).trans H;refine jds w5 (.tmp 37) (.tmp 41) 22 rfl 9 i0 _ 1 16 Tryz.uStrs a6 b8 b9 c3 rfl vI (.slice a1 X c1) X _ rfl (jbl e8.o E) ⟨b2,0,none⟩ n2 c2 (U.map Value.string) rfl (by rw[cC,f1.o,Nat.mul_one]) (fun j u hj=>by rw[Addr.add_lit,cM];exact (jed (jbl g3.o E) hj)) (by intro u hu;obtain⟨y,_,rfl⟩:=bH.1 hu;rfl) (by have:=f2.o;unfold maxLen;omega) (by have:=f2.o;omega) ?_;intro v' w6 r1 r2 r3;have HA:=Hd (bB E (bB r1 (bB r2 r3)))
  obtain⟨a',c',g4⟩:=jaO r1
  subst g4;refine hK _ _ ?_;clear hK K H E r1 r2 r3;refine vS ?_;refine qA _ ((.pointer (some ⟨g,0,none⟩))) rfl (fun w1=>by kernel_rfl) ?_;refine vS ?_
  refine vP ?_
  refine qH _ rfl (fun w8 A K hK=>?_)
  obtain⟨E,r1,r2,r3⟩:=HA.o
  have Z:=q.o.2.1.ext E;have f3:w0.heap.size<=w5.heap.size:=bK Z.lo (Nat.le_of_lt Z.var.lt);have hp:=Z.push (n:=X+n2) (by rw[bF, <-e7.o,f1.o]) (by rw[bY];exact jbl r1 A) (r2.trans (A.mono (fun _ _ e=>e.elim))) r3 f3 d1.o;have z:=(Z.var.keeps r2 (fun e=>(Z.own g e).2.1 rfl)).keeps A (fun e=>e);have q8:w8.cell? ⟨g,0,none⟩=some (.slice a1 X c1):=z.cell (i:=0) vF;have f8:w8.frozen? ⟨g,0,none⟩=false:=z.frozen;have H8:=Hd (bB hp E);clear E r1 r2 r3 Z f3 hp z A;go_simp;refine hK _ _ ?_;clear hK K q8 f8;refine qE (fun w7 H=>?_);have d2:=Hd H;clear H;go_wp2_with fail
  go_ret;rw[show Tx++t :: U=Tx++[t]++U by rw[bW];rfl]
  exact⟨rfl,_,((q.o.2.2.ext H8.o.2).trans H8.o.1).ext d2.o⟩
theorem ju8(P:PA)(hT:TopC P):jvp P:=by
 intro e W T x D g v o q z A E H J;unfold bigs
 by_cases hz:(textP P).size < 32
 ·rw[if_pos hz]
  exact jp0 P hT hz e W T x D g v o q z A E H J
 ·rw[if_neg hz]
  exact juI P hT hz e W T x D g v o q z A E H J
theorem jmJ(k:Int)(p v r r':vB):(jcc k p v r).toArray.setIfInBounds 3 (.string r')=(jcc k p v r').toArray:=by simp[jcc]
theorem jvK(w0 W:vW)(q:vB)(n:PA)(T:TypeId)(x:vV)(Dn:Nat->Prop)(b:Nat)(hB:Blk w0 b (.cells #[.string q,.iface T x] 238))(hv:PaO n (.iface T x) Dn w0)(hR:jvp n)(g:Nat)(v:vV)(Tx:vM)(hc:jbV w0)(he:ErrT w0)(hE:Ext w0 W)(hW:WrAt w0.heap.size g v Tx W)(hl:Tx.length+cntP n<=100000) :
  vQ 268 #[.pointer (some ⟨b,0,none⟩),.pointer (some ⟨g,0,none⟩)] W (FoP w0.heap.size g v W (jae.V ⟨2,q,⟨#[]⟩,refB (textP n) :: jat 15⟩) (Tx++(bigs (textP n)++underP n))):=by
 have Q0:=Hd (hB.cell (i:=0) (v:=.string q) vF);have Q1:=Hd (hB.cell (i:=1) (v:=.iface T x) vF);have X:=Hd (bB hW hE);have Z:=Hd (fun w (e:Ext w0 w) (k:WrAt w0.heap.size g v Tx w)=>hR w0 w T x Dn g v Tx hc he hv e k hl)
 obtain⟨t,ht⟩:=vE (refB (textP n))
 obtain⟨U,hU⟩:=vE (Tx++(bigs (textP n)++underP n))
 rw[<-ht, <-hU]at Z;rw[<-ht, <-hU];clear hB hv hR hc he hE hW hl ht hU;have c4:∀ w,(Instr.build 132 #[(0,.int .i64 2),(1,.string q)]).run Tryz.prog w=.ok (.agg (jcc 2 q ⟨#[]⟩ ⟨#[]⟩).toArray) w:=fun w=>by kernel_rfl
 go_enter Tryz.func268,Tryz.ntmps268;go_wp2_with (first |(refine jal (w:=W) Tryz.allocNode rfl rfl ?_;intro A b1 a3;have b2:=Hd b1;have b3:=Hd a3;have q0:=jaa Q0.o (X.o.2.trans a3);clear b1 a3) |(refine jal (w:=A) Tryz.allocNode rfl rfl ?_;intro W2 b4 a4) |(refine jah (vs:=jcc 2 q ⟨#[]⟩ ⟨#[]⟩) rfl rfl rfl rfl b4 rfl Tryz.szNode (jcd _ _ _ _) ?_;intro W3 a5 a6;have q1:=jaa (jaa Q1.o (X.o.2.trans b3.o)) (a4.trans' a6 (fun x hx e=>by have e:x=A.heap.size:=e;omega))))
 have H:Ext A W3:=a4.trans' a6 (fun x hx e=>by have e:x=A.heap.size:=e;omega);have J:=Hd (bB a5 (bB (b2.o.keeps H (fun e=>e)) (b3.o.trans H)));have b5:=b2.o.lt;have HN:=Hd (show W.heap.size < A.heap.size/\A.heap.size < W3.heap.size from⟨b5,a5.lt⟩);clear b4 a4 a5 a6 H b5;refine (Z.o W3 (X.o.2.trans J.o.2.2) (X.o.1.ext J.o.2.2)).mono ?_;rintro e w4 ⟨rfl,v4,E⟩;have b9:=X.o.1.var.lt;have a7:A.heap.size≠g:=by have:=HN.o.1;omega
 have a8:v.ownBlock≠some A.heap.size:=fun e=>by have:=(X.o.1.own _ e).2.2;have:=HN.o.1;omega
 have K:=E.blk J.o.1 a7 a8;have a0:=E.blk J.o.2.1 vO (fun e=>by have:=(X.o.1.own _ e).2.2;omega);have qf:w4.cell? ⟨A.heap.size,3,none⟩=some (.string ⟨#[]⟩):=K.cellL (i:=3) vF;have ff:w4.frozen? ⟨A.heap.size,3,none⟩=false:=K.frozen
 obtain⟨W5,O⟩:=vE (w4.setCell ⟨A.heap.size,3,none⟩ (.string t))
 have c0:Blk W5 A.heap.size (.cells (jcc 2 q ⟨#[]⟩ t).toArray 132):=by
  have:=K.set_same (i:=3) (.string t)
  rw[jmJ]at this;rw[O];exact this
 have a9:jad (fun z=>z=A.heap.size) w4 W5:=by rw[O];exact jad.oneSet w4 ⟨A.heap.size,3,none⟩ (.string t)
 have a1:Blk W5 W.heap.size (.cells jaV.cells.toArray 132):=a0.keeps a9 (fun e=>by have:=HN.o.1;have e:W.heap.size=A.heap.size:=e;omega);have b6:v4.ownBlock≠some A.heap.size:=fun e=>by
  rcases E.sub _ e with e | e
  ·exact a8 e
  ·have:=HN.o.2;omega
 have b7:=(WrTo.ahead J.o.2.2 E).fill a9 a7 b6 (by have:=HN.o.1;omega);have a2:v4.ownBlock≠some W.heap.size:=fun e=>by
  rcases E.sub _ e with e | e
  ·have:=(X.o.1.own _ e).2.2;omega
  ·have:=HN.o.1;have:=HN.o.2;omega
 have Q:=Hd (bB b7 (bB a1 (bB a2 (show W.heap.size≠g by omega))));have b0:=Hd O;clear E b9 a7 a8 K a0 a9 b6 b7 a2 O a1 q0 q1;have c1:Blk (w4.setCell ⟨A.heap.size,3,none⟩ (.string t)) A.heap.size (.cells (jae.cells ⟨2,q,⟨#[]⟩,t :: jat 15⟩).toArray 132):=by rw[<-b0.o];exact c0
 have c2:Blk (w4.setCell ⟨A.heap.size,3,none⟩ (.string t)) W.heap.size (.cells jaV.cells.toArray 132):=by rw[<-b0.o];exact Q.o.2.1
 go_wp2_with (refine jaf 132 (.tmp 5) rfl rfl _ _ rfl (jax _ _ ⟨2,q,⟨#[]⟩,t :: jat 15⟩ rfl c1) ?_;refine jah (vs:=jae.cells ⟨2,q,⟨#[]⟩,t :: jat 15⟩) rfl rfl rfl rfl c2 rfl Tryz.szNode (jae.one _) ?_;intro W8 c3 b8)
 rw[<-b0.o]at b8;refine bodyPost_ret (jcF rfl rfl (jaH W8 _ ⟨2,q,⟨#[]⟩,t :: jat 15⟩ rfl c3)) rfl ?_
 exact⟨rfl,v4,Q.o.1.fill b8 Q.o.2.2.2 Q.o.2.2.1 (bM _)⟩
def bfN(u:vB)(rs:vM)(k:Nat):jae:=⟨3,⟨#[]⟩,u,rs.take k++jat (16 - k)⟩
theorem jvv(u:vB){rs:vM}(h:rs.length=16){k:Nat}(hk:k < 16)(r:vB)(hr:rs[k]?=some r):(bfN u rs k).cells.set (3+k) (.string r)=(bfN u rs (k+1)).cells:=by
 have e:(rs.take k++jat (16 - k)).set k r=rs.take (k+1)++jat (16 - (k+1)):=by
  rw[fJ _ _ (by simp[h];omega)]
  have:k - (rs.take k).length=0:=by simp[h];omega
  rw[this,show 16 - k=(16 - (k+1))+1 by omega];unfold jat;rw[fI,dI,cE,hr];simp
 unfold jae.cells bfN;simp only;rw[show 3+k=k+1+1+1 by omega,cY,cY,cY, <-e,iL]
theorem jtb(u:vB){rs:vM}(h:rs.length=16){k:Nat}(hk:k < 16)(hr:rs[k]?=some ⟨#[]⟩):bfN u rs (k+1)=bfN u rs k:=by
 unfold bfN;rw[cE,hr,show 16 - k=(16 - (k+1))+1 by omega];unfold jat;rw[fI];simp
theorem jvu(u:vB){rs:vM}(h:rs.length=16){k:Nat}(hk:k<=16):(bfN u rs k).refs.length=16:=by
 unfold bfN jat;simp[h];omega
theorem jyC(u:vB)(rs:vM):(bfN u rs 0).cells=jcc 3 ⟨#[]⟩ u ⟨#[]⟩:=rfl
theorem jxn(u:vB){rs:vM}(h:rs.length=16):bfN u rs 16=⟨3,⟨#[]⟩,u,rs⟩:=by
 unfold bfN jat;rw[cD vO];simp
noncomputable def underK(ks:Nat->PA)(k:Nat):vM:=(List.range k).flatMap fun i=>if (ks i).isNil then []else bigs (textP (ks i))++underP (ks i)
theorem jns(ks:Nat->PA)(k:Nat):underK ks (k+1)=underK ks k++(if (ks k).isNil then []else bigs (textP (ks k))++underP (ks k)):=by
 unfold underK;rw[fW,dL]
 simp
theorem jpY(ks:Nat->PA)(k:Nat):(underK ks k).length<=sumF (fun i=>cntP (ks i)) k:=jgk _ _ (fun i=>by
 show (if (ks i).isNil=true then ([]:vM)else bigs (textP (ks i))++underP (ks i)).length<=cntP (ks i);cases hn:(ks i).isNil with
 | true=>rw[if_pos rfl];exact cB _
 | false =>
  rw[if_neg ff,bF];have e:=jjQ (textP (ks i))
  have:=jen (ks i) hn
  omega) k
noncomputable def refsK(ks:Nat->PA):vM:=(List.range 16).map fun i=>if (ks i).isNil then ⟨#[]⟩else refB (textP (ks i))
theorem jdf(ks:Nat->PA):(refsK ks).length=16:=by unfold refsK;simp
theorem jum(ks:Nat->PA){k:Nat}(hk:k < 16):(refsK ks)[k]?=some (if (ks k).isNil then ⟨#[]⟩else refB (textP (ks k))):=by
 unfold refsK;rw[bZ,dV hk];rfl
def jyg(z g:Nat)(v:vV)(W:vW)(L:Nat)(u:vB)(rs:vM)(Tx:vM)(ks:Nat->PA)(iv:vV)(wr:vW):Prop:=
 ∃ k:Nat,k<=16/\iv=.int .i64 k/\∃ v',WrTo z g v W wr v' (Tx++underK ks k)/\Blk wr L (.cells (bfN u rs k).cells.toArray 132)/\Blk wr W.heap.size (.cells jaV.cells.toArray 132)/\v'.ownBlock≠some L/\v'.ownBlock≠some W.heap.size
theorem jvw(w0 W:vW)(u:vB)(ks:Nat->PA)(b:Nat)(vk:Nat->vV)(Dk:Nat->Nat->Prop)(hb:BrRd u ks b vk Dk w0)(hR:∀ i,i < 16->(ks i).isNil=false->jvp (ks i))(g:Nat)(v:vV)(Tx:vM)(hc:jbV w0)(he:ErrT w0)(hE:Ext w0 W)(hW:WrAt w0.heap.size g v Tx W)(hl:Tx.length+(1+sumF (fun i=>cntP (ks i)) 16)<=100000) :
  vQ 274 #[.pointer (some ⟨b,0,none⟩),.pointer (some ⟨g,0,none⟩)] W (FoP w0.heap.size g v W (jae.V ⟨3,⟨#[]⟩,u,refsK ks⟩) (Tx++underK ks 16)):=by
 have q0:=jaa (hb.blk.cellL (i:=0) (v:=.string u) vF) hE;have HB:=Hd hb;have HW:=Hd (bB hW hE);have a9:=Hd (fun(k:Nat) (hk:k < 16) (hn:(ks k).isNil=false) (T:TypeId) (x:vV) (hx:vk k=.iface T x) (w:vW) (v':vV) (e:Ext w0 w) (h:WrAt w0.heap.size g v' (Tx++underK ks k) w)=>hR k hk hn w0 w T x (Dk k) g v' (Tx++underK ks k) hc he (hx ▸ hb.kid k hk) e h (by
  have h1:=jpY ks k;have h2:=jek (fun i=>cntP (ks i)) (k+1) (15 - k);rw[show k+1+(15 - k)=16 by omega]at h2;have h3:sumF (fun i=>cntP (ks i)) k+cntP (ks k)<=sumF (fun i=>cntP (ks i)) 16:=h2;rw[bF];omega))
 have d2:=jkm;clear hR hc he hl;have d3:∀ w,(Instr.build 132 #[(0,.int .i64 3),(2,.string u)]).run Tryz.prog w=.ok (.agg (jcc 3 ⟨#[]⟩ u ⟨#[]⟩).toArray) w:=fun w=>by kernel_rfl
 clear hb hW hE;go_enter Tryz.func274,Tryz.ntmps274;go_wp2_with (first |(refine jal (w:=W) Tryz.allocNode rfl rfl ?_;intro W1 b0 a1;have a2:=Hd b0;have a3:=Hd a1;have q1:=jaa q0 a1;clear b0 a1) |(refine jal (w:=W1) Tryz.allocNode rfl rfl ?_;intro W2 b1 b3) |(refine jah (vs:=jcc 3 ⟨#[]⟩ u ⟨#[]⟩) rfl rfl rfl rfl b1 rfl Tryz.szNode (jcd _ _ _ _) ?_;intro W3 a4 b4;have J:Ext W1 W3:=b3.trans' b4 (fun x hx e=>by have e:x=W1.heap.size:=e;omega);have b5:=jbb (HB.o.blk.keeps ((HW.o.2.trans a3.o).trans J) (fun e=>e))) |(refine jaf 240 (.tmp 15) rfl rfl _ _ rfl b5 ?_))
 have Q:=Hd (bB a4 (bB (a2.o.keeps J (fun e=>e)) (a3.o.trans J)));have q:=a2.o.lt;have HN:=Hd (show W.heap.size < W1.heap.size/\W1.heap.size < W3.heap.size from⟨q,a4.lt⟩);clear b1 b3 a4 b4 J q b5 q0 q1
 obtain⟨L,hL⟩:=vE W1.heap.size
 rw[<-hL]at Q HN ⊢;clear hL a2 a3;have HG:=Hd HW.o.1.var.lt;go_loopw [17] (fun iv wr=>jyg w0.heap.size g v W L u (refsK ks) Tx ks iv wr) (fun iv _=>16 - (intOf iv).toNat)
 case atStart =>
  have:=HN.o
  have hg:=HG.o
  exact⟨0,by omega,rfl,v,by rw[show underK ks 0=[]from rfl,bS];exact WrTo.refl HW.o.1 Q.o.2.2,by rw[jyC];exact Q.o.1,Q.o.2.1,fun e=>by have:=(HW.o.1.own _ e).2.2;omega,fun e=>by have:=(HW.o.1.own _ e).2.2;omega⟩
 case round =>
  obtain⟨k,hk,rfl,v1,hT,b6,b7,b8,b9⟩:=hrel
  have A:=Hd (bB hT (bB b6 (bB b7 (bB b8 b9))));clear hT b6 b7 b8 b9
  by_cases q:k < 16
  ·have c0:=jeG vk q
   have K:=jns ks k;have E:=jum ks q;rcases (HB.o.kid k q).at'.kid with⟨hn,hv⟩ |⟨hn,T,x,hv⟩
   ·rw[hn,if_pos rfl,bS]at K
    rw[hn,if_pos rfl]at E;rw[hv]at c0;have c5:=Hd K;have c6:=Hd (jtb u (jdf ks) q E);clear K hn hv E;go_wp2;go_roundw
    case rel=>exact⟨k+1,by omega,by go_num,v1,by rw[c5.o];exact A.o.1,by rw[c6.o];exact A.o.2.1,A.o.2.2.1,A.o.2.2.2⟩
    case measure=>exact vJ
   ·rw[hn,if_neg ff]at K
    rw[hn,if_neg ff]at E;rw[hv]at c0;have hq:=jdp T x;have H:=Hd (a9.o k q hn T x hv wr v1 (A.o.1.ext0 HW.o.1 HW.o.2 (bM _)) A.o.1.at');rw[bW, <-K]at H
    obtain⟨r,hr⟩:=vE (refB (textP (ks k)))
    rw[<-hr]at E H;have c7:=Hd E;clear K hn hv E hr;have b2:(k:Int) < 16:=vO
    go_wp2_with fail
    refine H.o.mono ?_;rintro e w4 ⟨rfl,v4,O⟩;have a5:L≠g:=by have:=HN.o.1;have:=HG.o;omega
    have c1:W.heap.size≠g:=by have:=HG.o;omega
    have X:=O.blk A.o.2.1 a5 A.o.2.2.2.1;have Z:=O.blk A.o.2.2.1 c1 A.o.2.2.2.2;have a6:∀ y,y < wr.heap.size->v1.ownBlock≠some y->v4.ownBlock≠some y:=fun y hy h1 e=>by
     rcases O.sub y e with e | e
     ·exact h1 e
     ·omega
    have a7:=a6 L A.o.2.1.lt A.o.2.2.2.1;have c2:=a6 W.heap.size A.o.2.2.1.lt A.o.2.2.2.2;have c8:(bfN u (refsK ks) k).cells.length=19:=jae.cells_len _ (jvu u (jdf ks) hk)
    obtain⟨old,qf⟩:∃ v,w4.cell? ⟨L,3+k,none⟩=some v:=⟨_,X.cellL (bA vO)⟩
    have d4:w4.frozen? ⟨L,3+k,none⟩=false:=X.frozen;have a8:=X.set_same (i:=3+k) (.string r);rw[show (bfN u (refsK ks) k).cells.toArray.setIfInBounds (3+k) (.string r)=((bfN u (refsK ks) k).cells.set (3+k) (.string r)).toArray by simp,jvv u (jdf ks) q r c7.o]at a8;have K5:jad (fun z=>z=L) w4 (w4.setCell ⟨L,3+k,none⟩ (.string r)):=jad.oneSet w4 ⟨L,3+k,none⟩ (.string r);have a0:=Z.keeps K5 (fun e=>by have e:W.heap.size=L:=e;have:=HN.o.1;omega);have c3:=(A.o.1.trans O).fill K5 a5 a7 (by have:=HN.o.1;omega);have H5:=Hd (bB c3 (bB a8 (bB a0 (bB a7 c2))));clear O a5 c1 X Z a6 a7 c2 c8 a8 K5 a0 c3;go_wp2_with fail
    go_roundw
    case rel=>exact⟨k+1,by omega,by go_num,v4,H5.o⟩
    case measure=>exact vJ
  ·obtain rfl:k=16:=vO
   have c4:=A.o.2.1;rw[jxn u (jdf ks)]at c4;have c9:=A.o.2.2.1;go_wp2_with (refine jaf 132 (.tmp 5) rfl rfl _ _ rfl (jax _ _ ⟨3,⟨#[]⟩,u,refsK ks⟩ (jdf ks) c4) ?_;refine jah (vs:=jae.cells ⟨3,⟨#[]⟩,u,refsK ks⟩) rfl rfl rfl rfl c9 (by rw[jae.cells_len _ (jdf ks)];rfl) (by rw[jae.cells_len _ (jdf ks)];exact Tryz.szNode) (jae.one _) ?_;intro W8 d0 d1)
   refine bodyPost_ret (jcF rfl rfl (jaH W8 _ ⟨3,⟨#[]⟩,u,refsK ks⟩ (jdf ks) d0)) rfl ?_
   exact⟨rfl,v1,A.o.1.fill d1 (by have:=HG.o;omega) A.o.2.2.2.2 (bM _)⟩
end
theorem jkr:∀ (P:PA),PutP P->jwR P
 | .nil=>fun _ A W T x D g v o K O h H E J=>by cases h.at'
 | .no=>fun _ A W T x D g v o K O h H E J=>by
  have e:Value.iface T x=noV:=h.at';unfold noV at e;injection e with e1 e2;subst e1 e2;show Calls _ _ _ W (FoP A.heap.size g v W jaV.V (o++[]));rw[bS];exact jt4 _ g v o W E
 | .leaf q u=>fun _ A W T x D g v o K O h H E J=>by
  obtain⟨b,e,h1,Q⟩:=h.at'
  unfold jiU at e;injection e with e1 e2;subst e1 e2;show Calls _ _ _ W (FoP A.heap.size g v W (jae.V ⟨1,q,u,jat 16⟩) (o++[]));rw[bS];exact jv2 A _ g v o W H q u b Q E
 | .ext q m=>fun X A W T x D g v o K O h H E J=>by
  obtain⟨b,T',x',Dn,e,h1,Q,Z,h4,h5⟩:=h.at'
  unfold extV at e;injection e with e1 e2;subst e1 e2;have J:o.length+(1+cntP m)<=100000:=J;have hn:m.isNil=false:=by
   cases m with
   | nil=>cases Z
   | _=>rfl
  exact jvK A W q m T' x' Dn b Q ⟨Z,fun z hz=>h.lt z (h5 z hz)⟩ (ju8 m (jsP m hn X.2 (jkr m X.2))) g v o K O H E vO
 | .br u ks=>fun X A W T x D g v o K O h H E J=>by
  obtain⟨b,vk,Dk,e,h1,Q,Z,h4⟩:=h.at'
  unfold brV at e;injection e with e1 e2;subst e1 e2;have hb:BrRd u ks b vk Dk A:=⟨Q,fun i hi=>⟨(Z i hi).1,fun z hz=>h.lt z ((Z i hi).2.2 z hz)⟩⟩;exact jvw A W u ks b vk Dk hb (fun i _ hn=>ju8 (ks i) (jsP (ks i) hn (X.2 i) (jkr (ks i) (X.2 i)))) g v o K O H E J
theorem jl0:∀ (f:Nat) (l:vL),jar f l->PutP (jaW (f+1) l):=by
 intro f;induction f with
 | zero =>
  intro l h;have E:=jbA h;have o:=(good 0 l h).1;have q:=(jeg 0 l h).1;rw[<-q]at o;have e:=jl9 o
  by_cases h0:l.length=0
  ·rw[jbR _ h0]at e ⊢;exact e
  ·rw[jbZ _ vO]at e ⊢;exact e
 | succ f ih =>
  intro l h;have o:=(good (f+1) l h).1;have q:=(jeg (f+1) l h).1;rw[<-q]at o;have e:=jl9 o
  by_cases h0:l.length=0
  ·rw[jbR _ h0]at e ⊢;exact e
  by_cases h1:l.length=1
  ·rw[jbZ _ h1]at e ⊢;exact e
  have z:2<=l.length:=vO
  by_cases hk:0 < comK l
  ·obtain⟨A,H,_,_⟩:=jdW h z hk
   rw[jdq _ z hk]at e ⊢
   exact⟨e,ih _ A⟩
  ·rw[jeD _ z hk]at e ⊢
   refine⟨e,fun i=>?_⟩
   show PutP (if (cutL i l).length=0 then PA.nil else jaW (f+1) (jag 1 (cutL i l)))
   by_cases hc:(cutL i l).length=0
   ·rw[if_pos hc];exact trivial
   ·rw[if_neg hc];exact ih _ (jeL h hc).1
theorem jr6(f:Nat)(l:vL)(h:jar f l):TopC (jaW (f+1) l):=jsP _ jdx (jl0 f l h) (jkr _ (jl0 f l h))
section
attribute [local go_sem] Oper.semAt_some
noncomputable def rootM(l:vL):vB:=shaB (jav l).text
theorem jty{l:vL}(h:jap l=0):entP (jaW 13 (jaP l)) ⟨#[]⟩=l:=by
 have e:∀ q:vB,(⟨#[]⟩:vB)++q=q:=fun q=>jbW (by rw[jk3];rfl);rw[jr3 12 _ (jbm (jau h)) ⟨#[]⟩ (fun q o=>by
  obtain⟨p,z,rfl⟩:=bH.1 o
  rw[e];exact jow p.1)]
 unfold jaP;rw[dE]
 conv=>rhs;rw[<-List.map_id l]
 refine cZ fun p z=>?_;show (jby (⟨#[]⟩++jbv p.1),p.2)=p;rw[e,jfu]
structure PaM(w w1:World)(l:vL)(T:TypeId)(x:Value):Prop where
 ext:Ext w w1
 pa:PaO (jaW 13 (jaP l)) (.iface T x) (jkY w w1) w1
theorem jrO(w:vW)(s bm:Nat)(room:Int)(S:vT)(hs:jaL w s bm room S)(hN:jhJ S)(l:vL)(h:HasM S l) :
  vQ 48 #[.pointer (some ⟨s,0,none⟩),.string (rootM l)] w fun e w'=>∃ T x,e=.returned (.tuple #[.iface T x,.bool true])/\PaM w w' l T x:=by
 refine (jwB w s bm room S hs hN (rootM l)).mono ?_;rintro e w' ⟨q,o⟩
 obtain⟨k,A⟩:=jsf w h
 unfold rootM at o;rw[A]at o
 obtain⟨T,x,rfl,E⟩:=o
 exact⟨T,x,rfl,q,E,fun z H=>H.2⟩
theorem ju2(w1 W:vW)(l:vL)(h:jap l=0)(T:TypeId)(x:vV)(D:Nat->Prop)(hp:PaO (jaW 13 (jaP l)) (.iface T x) D w1)(hE:Ext w1 W) :
  vQ (jf0 (jaW 13 (jaP l))) #[x,.string ⟨#[]⟩,.slice none 0 0] W fun e w'=>∃ v,e=.returned v/\ERow w1 w' v l.length l:=by
 have o:=jbm (jau h);have z:=jjW (jau h);refine (jm8 _ w1 W T x D ⟨#[]⟩ (.slice none 0 0) 0 12 [] hp (ORow.nil _ _ hE) (jr2 12 _ 12 o o) (by have:(⟨#[]⟩:vB).size=0:=rfl;omega) (by rw[jjX 12 _ o];omega)).mono ?_;rintro e w' ⟨v,n,rfl,q⟩;rw[cP,jty h]at q
 have:=q.len'
 subst this
 exact⟨v,rfl,q⟩
theorem jyb(w:vW)(s bm:Nat)(room:Int)(S:vT)(hs:jaL w s bm room S)(hN:jhJ S)(l:vL)(h:HasM S l) :
  vQ 16 #[.pointer (some ⟨s,0,none⟩),.string (rootM l)] w fun e w'=>∃ v,e=.returned (.tuple #[v,.int .i64 0])/\ERow w w' v l.length l:=by
 have Q:=Hd (jrO w s bm room S hs hN l h);have X:=Hd h.ok
 obtain⟨P,H⟩:=vE (jaW 13 (jaP l))
 have J:=Hd H;have Z:=jd5 P;clear hs hN h H;go_enter Tryz.func16,Tryz.ntmps16;go_wp2_with fail
 refine Q.o.mono ?_;rintro e w1 ⟨T,x,rfl,z⟩;have K:=Hd z;have q:=z.pa.at'.meth;rw[<-J.o]at q;have a0:∀ w,(Go.method (437+1) T x "guilloche/trie.entries").run Tryz.prog w=.ok (jf0 P,x) w:=q.ent;have O:=Hd (ju2 w1 w1 l X.o T x _ z.pa (ExtR w1));rw[<-J.o]at O;clear z q;go_wp2_with fail
 refine O.o.mono ?_;rintro e w2 ⟨v,rfl,A⟩;have E:=Hd A
 obtain⟨a,c,hv⟩:=A.sl
 subst hv;clear A;go_wp2_with fail
 go_ret2
 exact⟨_,rfl,⟨_,_,rfl⟩,E.o.own,K.o.ext.trans E.o.ext,fun b hb=>bK K.o.ext.size (E.o.new b hb)⟩
end
theorem jex:∀ (xs:List Chg) (j:Nat) (p:Chg),xs[j]?=some p->(jdB xs)[j * 3]?=some (.string p.key)/\(jdB xs)[j * 3+1]?=some (.string p.value)/\(jdB xs)[j * 3+2]?=some (.bool p.gone)
 | [],j,p,h=>by simp at h
 | x :: r,0,p,h=>by simp at h;subst h;exact⟨rfl,rfl,rfl⟩
 | x :: r,j+1,p,h=>by
  obtain⟨e,o,q⟩:=jex r j p (by simpa using h)
  rw[show (j+1) * 3=j * 3+3 by omega]
  exact⟨e,o,q⟩
theorem CRow.rdT{w0 w:vW}{v:vV}{n:Nat}{xs:List Chg}(h:CRow w0 w v n xs):RdC w v xs:=by
 have q:xs.length=n:=by have:=h.len;rw[ji4]at this;omega
 obtain⟨_,⟨rfl,O⟩ |⟨g,e,z,rfl,Q,A,E,X,Z⟩⟩:=h.own
 ·exact .inl ⟨none,0,rfl,bE vO⟩
 ·subst q
  refine .inr ⟨g,0,e,rfl,(dA.1 A).1,E,fun j x o=>?_⟩;have hj:=(bU.1 o).1
  obtain⟨H,J,K⟩:=jex xs j x o
  exact⟨by rw[cM,h.own.cellAt (j * 3) vO,H],by rw[cM,h.own.cellAt (j * 3+1) vO,J],by rw[cM,h.own.cellAt (j * 3+2) vO,K]⟩
theorem jja{l m:vL}(h1:l.length<=40)(h2:m.length<=40):(jbP l m).length<=80:=by
 have e:∀ l m:vL,(jaN l m).length<=l.length+m.length:=fun l m=>by
  fun_induction jaN l m <;> simp only[bP,dN]at * <;> omega
 unfold jbP;split
 ·have:=e l m;omega
 ·simp
theorem jj8{c:Chg}(h:c.bad=false):c.key.size<=6:=by
 unfold Chg.bad at h;have o:jdG c.key=true:=by
  cases e:jdG c.key with
  | true=>rfl
  | false=>rw[e]at h;simp at h
 unfold jdG at o;exact (of_decide_eq_true o).2
structure OkP(P:PA):Prop where
 can:P=.no\/CanP P
 dp:Dp P 12
theorem OkP.va{P:PA}(h:OkP P):VaP P:=by
 rcases h.can with h | h
 ·subst h;trivial
 ·exact jqE P h
theorem OkP.there{P:PA}(h:OkP P):P.isNil=false:=by
 rcases h.can with h | h
 ·subst h;rfl
 ·cases P with
  | nil=>exact h.elim
  | _=>rfl
theorem OkP.dp9{P:PA}(h:OkP P):Dp P 900000:=jce P 12 _ h.dp vO
theorem OkP.step{P:PA}(h:OkP P){c:Chg}(hc:c.bad=false):OkP (jbX P c):=by
 refine⟨(jsB h.can hc).1,?_⟩
 have e:=jj8 hc;have o:=je3 c.key;unfold jbX;split
 ·exact jh5 P 12 _ h.dp
 ·exact jnO P 12 _ _ h.dp vO
theorem jxX{l:vL}(h:jap l=0):OkP (jaW 13 (jaP l)):=⟨jkw (jbm (jau h)),jr2 12 _ 12 (jbm (jau h)) (jbm (jau h))⟩
noncomputable def lackB(S:vT)(t:vB):Bool:=(atL S (shaB t).data.toList).isNone
noncomputable def freshU(S:vT)(U:vM):vM:=(ja8 U).filter (lackB S)
theorem jps(S:vT)(U:vM)(x:vB):freshU S (U++[x])=freshU S U++(if memB (ja8 U) x=true then []else if lackB S x=true then [x]else []):=by
 unfold freshU;rw[jfV];unfold addF
 by_cases h:memB (ja8 U) x=true
 ·rw[if_pos h,if_pos h,bS]
 ·rw[if_neg h,if_neg h,gR]
  congr 1
  cases e:lackB S x <;> simp[e]
theorem jlu(S:vT)(U:vM):(freshU S U).length<=U.length:=bK (dX _ _) (jgV U)
noncomputable def belowM(m:vL):vM:=underP (jaW 13 (jaP m))
theorem jhq{m:vL}(h:jap m=0):belowM m=jaz (jaq (jab 12) (jaP m)):=(jeg 12 _ (jbm (jau h))).2.2
theorem jwA{m:vL}(h:jap m=0):textP (jaW 13 (jaP m))=(jav m).text:=(jeg 12 _ (jbm (jau h))).2.1
theorem jk4{m:vL}(h:jap m=0):(belowM m).length<=118:=by
 have e:=jen (jaW 13 (jaP m)) jdx;have o:cntP (jaW 13 (jaP m))=cntT 12 (jaP m):=jjX 12 _ (jbm (jau h));have q:=jjW (jau h);unfold belowM;omega
noncomputable def newM(S:vT)(m:vL):vM:=(jav m).text :: freshU S (belowM m)
def ja2(l:vL)(cs:List Chg):vL:=jcB (jc6 l cs)
def UpdP(w:vW)(S:vT)(l:vL)(cs:List Chg)(e:Ending)(w':vW):Prop:=
 if ja3 l cs=0 then ∃ r,e=.returned (.tuple #[r,.int .i64 0])/\SRow w w' r (newM S (ja2 l cs)).length (newM S (ja2 l cs))else e=.returned (.tuple #[.slice none 0 0,.int .i64 (ja3 l cs)])/\Ext w w'
def jxf(W3:vW)(D0:Nat->Prop)(P0:PA)(ds:List Chg)(pv iv:vV)(wr:vW):Prop:=∃ (k:Nat) (T:TypeId) (x:vV) (D:Nat->Prop),k<=ds.length/\iv=.int .i64 k/\pv=.iface T x/\PaO ((ds.take k).foldl jbX P0) (.iface T x) D wr/\(∀ z,D z->D0 z\/W3.heap.size<=z)/\jad D0 W3 wr
theorem jnW{P:PA}(h:OkP P):∀ (ds:List Chg),(∀ c∈ds,c.bad=false)->OkP (ds.foldl jbX P)
 | [],_=>h
 | c :: ds,hc=>jnW (h.step (hc c bD)) ds (fun d e=>hc d (bC _ e))
theorem jtE{P:PA}(h:OkP P)(ds:List Chg)(hc:ds.any Chg.bad=false)(k:Nat):OkP ((ds.take k).foldl jbX P):=jnW h _ fun c o=>by
 have:=List.any_eq_false.1 hc c (iR o)
 cases e:c.bad with
 | false=>rfl
 | true=>exact absurd e this
structure UpB(W7:World)(S:vT)(mb:Nat)(t:vB)(U:vM)(k:Nat)(rv:Value)(wr:World):Prop where
 row:∃ n,SRow W7 wr rv n (t :: freshU S (U.take k))
 out:rv.ownBlock≠some mb
 tab:∃ es ck,Blk wr mb (.map (Tryz.ES.arr es) ck)/\∀ x:vB,jaS es x.data.toList=cntV (cntB (U.take k) x)
def jxg(W7:vW)(S:vT)(mb:Nat)(t:vB)(U:vM)(rv iv:vV)(wr:vW):Prop:=∃ k:Nat,k<=U.length/\iv=.int .i64 k/\UpB W7 S mb t U k rv wr
theorem jpg(L:vM)(x y:vB):cntB (L++[x]) y=cntB L y+(if x.data.toList=y.data.toList then 1 else 0):=by
 unfold cntB;rw[bY,List.count_append,bL,iD,List.count_singleton]
 simp
theorem jnp{α:Type}{l:List α}{k:Nat}{x:α}(h:l[k]?=some x):l.take (k+1)=l.take k++[x]:=by rw[cE,h];rfl
section
attribute [local go_sem] Oper.semAt_some
theorem UpdP.bad{w w':vW}{S:vT}{l:vL}{cs:List Chg}{x:Int}(h:ja3 l cs=x)(h0:x≠0)(he:Ext w w'):UpdP w S l cs (.returned (.tuple #[.slice none 0 0,.int .i64 x])) w':=by
 unfold UpdP;rw[h,if_neg h0];exact⟨rfl,he⟩
theorem jye(w:vW)(hc:jbV w)(he:ErrT w)(s bm:Nat)(room:Int)(S:vT)(hs:jaL w s bm room S)(hN:jhJ S)(l:vL)(h:HasM S l)(u:vV)(cs:List Chg)(hu:RdC w u cs)(hnc:cs.length<=9223372036854775807)(hsc:∀ c∈cs,c.key.size<=9223372036854775807/\c.value.size<=9223372036854775807) :
  vQ 18 #[.pointer (some ⟨s,0,none⟩),.string (rootM l),u] w (UpdP w S l cs):=by
 have HR:=Hd (jrO w s bm room S hs hN l h);have HK:=Hd h.ok;have g2:=Hd (bB hc he);have k9:=Hd hs;have c4:=jau h.ok;have g3:=Hd (show (l.length<=9223372036854775807)/\∀ p∈l,p.1.size<=9223372036854775807/\p.2.size<=9223372036854775807 from⟨by have:=c4.len;omega,fun p hp=>by have:=c4.size p hp;omega⟩);have f2:=Hd (fun(w2:vW) (v:vV) (hv:RdP w2 v l) (e:Ext w w2)=>jjN w2 v u l cs hv (hu.ext e) g3.o.1 hnc g3.o.2 hsc)
 obtain⟨a,c,m3⟩:=hu.sl
 subst m3
 obtain⟨P,hP⟩:=vE (jaW 13 (jaP l))
 have HP:=Hd hP;have o3:=jd5 P;have g4:=Hd (fun(w3:vW) (v:vV) (hv:RdP w3 v l) (e:Ext w w3)=>jwv w3 v l (hc.ext e) hv h.ok);have l0:Hid (shaB (jav l).text=rootM l):=rfl;rw[l0.o]at g4;clear hs hN h hP hc he c4 hu hsc l0
 obtain⟨rt,l1⟩:=vE (rootM l)
 rw[<-l1]at HR g4 ⊢;clear l1;go_enter Tryz.func18,Tryz.ntmps18;go_wp2_with fail
 refine HR.o.mono ?_;rintro e w1 ⟨T,x,rfl,hM⟩;have HM:=Hd hM;have c5:=hM.pa.at'.meth;rw[<-HP.o]at c5;have m4:∀ w,(Go.method (437+1) T x "guilloche/trie.entries").run Tryz.prog w=.ok (jf0 P,x) w:=c5.ent;have HC:=Hd (ju2 w1 w1 l HK.o T x _ hM.pa (ExtR w1));rw[<-HP.o]at HC;clear hM c5;go_wp2_with fail
 refine HC.o.mono ?_;rintro e w2 ⟨v,rfl,h1⟩;have H1:=Hd h1;have i1:=Hd (HM.o.ext.trans h1.ext);have d4:=Hd (bB (HM.o.pa.ext h1.ext) h1.ext.size);rw[<-HP.o]at d4;have HA:=Hd (f2.o w2 v h1.rd i1.o)
 obtain⟨a1,c1,hv⟩:=h1.sl
 subst hv;clear h1 m4 f2 HC;go_wp2_with fail
 refine HA.o.mono ?_;rintro e w3 d9;unfold jdK at d9
 by_cases h0:ja3 l cs=0
 case neg =>
  rw[if_neg h0]at d9
  obtain⟨rfl,hE⟩:=d9
  have HX:=Hd (i1.o.trans hE)
  obtain⟨x0,i2⟩:=vE (ja3 l cs)
  have m5:=Hd i2.symm;rw[<-i2]at h0 ⊢;clear hE i2;go_wp2_with fail
  go_ret2;exact UpdP.bad m5.o h0 HX.o
 rw[if_pos h0]at d9
 obtain⟨r,rfl,h3⟩:=d9
 have m6:=Hd h0;have g5:=jcb h0
 obtain⟨m,hm⟩:=vE (jcB (jc6 l cs))
 rw[<-hm]at h3 g5;have m7:=Hd hm;have b6:=Hd g5;have c4:=jau g5;have f3:=Hd (show (m.length<=9223372036854775807)/\∀ p∈m,p.1.size<=9223372036854775807/\p.2.size<=9223372036854775807 from⟨by have:=c4.len;omega,fun p hp=>by have:=c4.size p hp;omega⟩);have l2:=Hd (i1.o.trans h3.ext);have f4:=Hd (bB (d4.o.1.ext h3.ext) (bK d4.o.2 h3.ext.size));have HV:=Hd (bB (ERow.rd (H1.o.mono h3.ext)) h3.rd)
 obtain⟨a2,c2,hr⟩:=h3.sl
 subst hr;have l3:=Hd (g4.o w3 _ HV.o.1 l2.o);clear h3 c4 g5 hm h0 HA H1 g4;go_wp2_with fail
 refine l3.o.mono ?_;rintro e w4 ⟨rfl,hE⟩;have m8:=Hd (l2.o.trans hE);have d5:=Hd (bB (f4.o.1.ext hE) (bK f4.o.2 hE.size));have l4:=Hd (jqU w4 _ _ l m (HV.o.1.ext hE) (HV.o.2.ext hE) g3.o.1 f3.o.1 g3.o.2 f3.o.2);clear hE l3;go_wp2_with fail
 refine l4.o.mono ?_;rintro e w5 ⟨dv,rfl,hd⟩;have HD:=Hd hd;have m9:=Hd (m8.o.trans hd.ext);have k2:=Hd (bB (d5.o.1.ext hd.ext) (bK d5.o.2 hd.ext.size));have i3:=jdv HK.o b6.o;have n0:=jja (jau HK.o).len (jau b6.o).len
 obtain⟨ds,i4⟩:=vE (jbP l m)
 rw[<-i4]at HD i3 n0;have i5:=Hd i3
 obtain⟨a3,c3,l5⟩:=hd.sl
 rw[<-i4]at l5;subst l5;clear hd i3 i4 l4;have f5:=Hd (jxX HK.o);rw[<-HP.o]at f5;have k3:=Hd HD.o.rdT;go_wp2_with fail
 go_loopw [8,56] (fun pv iv wr=>jxf w5 (jkY w w1) P ds pv iv wr) (fun _ iv _=>ds.length - (intOf iv).toNat)
 case atStart=>exact⟨0,T,x,jkY w w1,by omega,rfl,rfl,k2.o.1,fun z hz=>.inl hz,(ExtR w5).mono (fun _ _ e=>e.elim)⟩
 case round =>
  obtain⟨k,Tk,xk,D,hk,rfl,rfl,c6,hD,c8⟩:=hrel
  by_cases hlt:k < ds.length
  ·rcases k3.o with⟨_,_,_,hz⟩ |⟨b,o,cd,hh,hb,hcd,hcell⟩
   ·rw[hz]at hlt;cases hlt
   cases hh
   obtain⟨p,hp⟩:∃ p,ds[k]?=some p:=⟨_,bA hlt⟩
   obtain⟨q1,q2,q3⟩:=hcell k p hp
   have g6:¬ jkY w w1 b:=fun e=>by have h1:=HD.o.new b rfl;have h2:=d5.o.2;have h3:=e.2;omega
   have q1:=jaD q1 c8 g6;have q2:=jaD q2 c8 g6;have q3:=jaD q3 c8 g6;have K:p.bad=false:=by
    cases e:p.bad with
    | false=>rfl
    | true=>exact absurd (juM hp e) (by rw[i5.o.fine];simp)
   have i6:=jj8 K;have b1:(k:Int) < (ds.length:Int):=vO
   have b2:=jtE f5.o ds i5.o.fine k;have a8:(ds.take (k+1)).foldl jbX P=jbX ((ds.take k).foldl jbX P) p:=by rw[jnp hp,fN];rfl
   obtain⟨Q,hQ⟩:=vE ((ds.take k).foldl jbX P)
   rw[<-hQ]at c6 b2 a8;have d8:=Hd (bB b2 (b2.step K));have c0:=Hd a8;have c5:=c6.at'.meth;have J:=Hd (bB c6 (bB hD c8))
   obtain⟨ky,vl,gn⟩:=p
   simp only at q1 q2 q3 i6;clear hcell hp hb hcd g6 K b2 a8 c6 hD c8 hQ;have o4:=jfp Q;have o5:=jh9 Q;have o6:∀ w,(Go.method (437+1) Tk xk "guilloche/trie.drop").run Tryz.prog w=.ok (je2 Q,xk) w:=c5.drop;have o7:∀ w,(Go.method (437+1) Tk xk "guilloche/trie.put").run Tryz.prog w=.ok (jkq Q,xk) w:=c5.put;clear c5;go_wp2_with fail
   have o8:=Hd i6;clear q1 q2 q3;refine vC (jov _ ky vO) fun w6 c9=>?_;have i7:=(Blk.new wr (.cells #[.string ky,.string vl,.bool gn] 59)).keeps c9 (fun e=>e);have f6:=((ExtR wr).alloc (.cells #[.string ky,.string vl,.bool gn] 59)).trans c9;have q1:w6.cell? ⟨wr.heap.size,1,none⟩=some (.string vl):=i7.cell (i:=1) vF;have q2:w6.cell? ⟨wr.heap.size,2,none⟩=some (.bool gn):=i7.cell (i:=2) vF;have b8:=Hd f6;have l6:(jbv ky).size<=900000:=by have:=je3 ky;omega
   have l7:=Hd l6;clear c9 i7 f6 i6 l6;cases gn with
   | true =>
    have O:=Hd (jhE Q d8.o.1.va w6 Tk xk D (jbv ky) (J.o.1.ext b8.o) l7.o (jcV ky) d8.o.1.dp9)
    obtain⟨pb,K⟩:=vE (jbv ky)
    have e0:=Hd K;rw[<-K]at O ⊢;clear K;go_wp2_with fail
    refine O.o.mono ?_;rintro e H ⟨v7,rfl,d0,d1⟩;have a0:(ds.take (k+1)).foldl jbX P=jbx Q pb:=by rw[c0.o,e0.o];rfl
    have d2:=d8.o.2.there;rw[show jbX Q ⟨ky,vl,true⟩=jbx Q pb by rw[e0.o];rfl]at d2
    obtain⟨T7,x7,rfl⟩:=d0.form d2
    have HF:=Hd (show PaO ((ds.take (k+1)).foldl jbX P) (.iface T7 x7) (Grow D w6 H) H from by rw[a0];exact PaTo.own d0 d1 (J.o.1.ext b8.o).lt);have i8:=Hd d1;clear d0 d1 a0 d2;go_wp2_with fail
    go_roundw
    case rel=>exact⟨k+1,T7,x7,_,by omega,by go_num,rfl,HF.o,fun z hz=>by
     rcases hz with hz | hz
     ·exact J.o.2.1 z hz
     ·exact .inr (bK J.o.2.2.size (bK b8.o.size hz.1)),J.o.2.2.trans' ((b8.o.mono (fun _ _ e=>e.elim)).trans i8.o) (fun z hz e=>(J.o.2.1 z e).resolve_right vO)⟩
    case measure=>exact vJ
   | false =>
    have O:=Hd (jnc Q d8.o.1.va w6 Tk xk D (jbv ky) vl (J.o.1.ext b8.o) l7.o (jcV ky) d8.o.1.dp9)
    obtain⟨pb,K⟩:=vE (jbv ky)
    have e0:=Hd K;rw[<-K]at O ⊢;clear K;go_wp2_with fail
    refine O.o.mono ?_;rintro e H ⟨v7,rfl,d0,d1⟩;have a0:(ds.take (k+1)).foldl jbX P=putP Q pb vl:=by rw[c0.o,e0.o];rfl
    have d2:=d8.o.2.there;rw[show jbX Q ⟨ky,vl,false⟩=putP Q pb vl by rw[e0.o];rfl]at d2
    obtain⟨T7,x7,rfl⟩:=d0.form d2
    have HF:=Hd (show PaO ((ds.take (k+1)).foldl jbX P) (.iface T7 x7) (Grow D w6 H) H from by rw[a0];exact PaTo.own d0 d1 (J.o.1.ext b8.o).lt);have i8:=Hd d1;clear d0 d1 a0 d2;go_wp2_with fail
    go_roundw
    case rel=>exact⟨k+1,T7,x7,_,by omega,by go_num,rfl,HF.o,fun z hz=>by
     rcases hz with hz | hz
     ·exact J.o.2.1 z hz
     ·exact .inr (bK J.o.2.2.size (bK b8.o.size hz.1)),J.o.2.2.trans' ((b8.o.mono (fun _ _ e=>e.elim)).trans i8.o) (fun z hz e=>(J.o.2.1 z e).resolve_right vO)⟩
    case measure=>exact vJ
  ·obtain rfl:k=ds.length:=vO
   rw[cG,HP.o,jnV HK.o b6.o i5.o]at c6;have i9:Hid (Ext w wr):=(m9.o.trans' c8 (fun z hz e=>by have:=e.1;omega))
   obtain⟨W6,g7⟩:=vE (wr.alloc (.cells #[.slice none 0 0] 96))
   have c9:Ext wr W6:=by rw[g7];exact (ExtR wr).alloc _
   have j0:WrAt wr.heap.size wr.heap.size (.slice none 0 0) [] W6:=⟨bM _,by rw[g7];exact Blk.new wr _,fM _ _ _ _,fun b hb=>(by cases hb),fun _=>rfl⟩;have k4:cntP (jaW 13 (jaP m))=cntT 12 (jaP m):=jjX 12 _ (jbm (jau b6.o));have b3:=jr6 12 (jaP m) (jbm (jau b6.o)) wr W6 Tk xk D wr.heap.size (.slice none 0 0) [] (g2.o.1.ext i9.o) (g2.o.2.ext i9.o) c6 c9 j0 (by have:=jjW (jau b6.o);have:([]:vM).length=0:=rfl;show 0+cntP (jaW 13 (jaP m))<=100000;omega);rw[cP,show textP (jaW (12+1) (jaP m))=(jav m).text from jwA b6.o,show underP (jaW (12+1) (jaP m))=belowM m from rfl]at b3;have g8:=Hd (jk4 b6.o);have f7:=Hd (show newM S (ja2 l cs)=(jav m).text :: freshU S (belowM m)from by unfold newM ja2;rw[<-m7.o])
   obtain⟨t,ht⟩:=vE (jav m).text
   obtain⟨U,hU⟩:=vE (belowM m)
   rw[<-ht, <-hU]at f7;rw[<-hU]at g8;rw[<-ht, <-hU]at b3;have k5:=Hd b3;have j1:=Hd (bB j0 (bB c9 g7));clear c6 hD c8 c9 j0 k4 b3 ht hU g7;go_wp2_with fail
   rw[<-j1.o.2.2];refine k5.o.mono ?_;rintro e H ⟨rfl,v7,g9⟩;have b0:=Hd (bB g9.at' (bB (i9.o.trans (g9.ext0 j1.o.1 j1.o.2.1 (bM _))) g9.at'.var.lt))
   obtain⟨g,hg⟩:=vE wr.heap.size
   rw[<-hg]at b0 ⊢;clear g9 hg
   obtain⟨a7,c7,l8⟩:=jaO b0.o.1.row
   obtain⟨n7,j2⟩:∃ n,n=U.length:=⟨_,rfl⟩
   have a9:=Hd b0.o.1.row;rw[<-j2]at l8 a9;subst l8;have j3:=Hd j2;have q7:=b0.o.1.var.cell (i:=0) (v:=.slice a7 n7 c7) vF;clear j2;have n1:(Instr.makeMap 98 none).run Tryz.prog (H.alloc (.cells #[.string t] 9))=.ok (.map (some (H.heap.size+1))) ((H.alloc (.cells #[.string t] 9)).alloc (.map #[] 0)):=by
    rw[<-bN H (.cells #[.string t] 9)];exact Tryz.makeMapSI _
   obtain⟨W8,e2⟩:=vE ((H.alloc (.cells #[.string t] 9)).alloc (.map #[] 0))
   obtain⟨mb,j4⟩:=vE (H.heap.size+1)
   rw[<-e2, <-j4]at n1;have l9:Ext H W8:=by rw[e2];exact ((ExtR H).alloc _).alloc _
   have m0:Blk W8 mb (.map (Tryz.ES.arr []) 0):=by
    rw[e2,j4, <-bN H (.cells #[.string t] 9)];exact Blk.new _ _
   have h4:SRow H (H.alloc (.cells #[.string t] 9)) (.slice (some ⟨H.heap.size,0,none⟩) 1 1) 1 [t]:=ORow.lit (n:=1) #[.string t] (ExtR H) vI rfl;have h4:SRow H W8 (.slice (some ⟨H.heap.size,0,none⟩) 1 1) 1 [t]:=by rw[e2];exact h4.mono ((ExtR _).alloc _)
   have n2:=Hd (show UpB H S mb t U 0 (.slice (some ⟨H.heap.size,0,none⟩) 1 1) W8 from⟨⟨1,h4⟩,fun e=>by injection e with e;have e:H.heap.size=mb:=e;omega,[],0,m0,fun y=>rfl⟩);have q7:=jaa q7 l9;have n3:=Hd (show H.heap.size<=mb by omega);clear e2 j4 l9 m0 h4;go_wp2_with fail
   go_loopw [19,86] (fun rv iv wr=>jxg H S mb t U rv iv wr) (fun _ iv _=>U.length - (intOf iv).toNat)
   case atStart=>exact⟨0,by omega,rfl,n2.o⟩
   case round =>
    obtain⟨k,hk,rfl,m1⟩:=hrel
    by_cases hlt:k < U.length
    ·rcases Nat.eq_zero_or_pos n7 with h0 | h0
     ·have:=j3.o;omega
     obtain⟨b7,rfl⟩:=jm7 a9.o vO
     obtain⟨x,hx⟩:∃ x,U[k]?=some x:=⟨_,bA hlt⟩
     obtain⟨⟨n,q⟩,d6,es,ck,h5,h6⟩:=m1
     obtain⟨ar,cr,j5⟩:=q.sl
     subst j5;have HX:=Hd q.ext;have qx:=jaa (jed a9.o (j:=k) (u:=.string x) (by rw[bZ,hx];rfl)) q.ext
     obtain⟨cn,e4⟩:=vE (cntB (U.take k) x)
     have o9:cn<=1000000:=by
      rw[e4];unfold cntB;refine bK iS ?_;rw[cC,fB];have:=g8.o;omega
     have e6:=h6 x;rw[<-e4]at e6;have j6:(Instr.lookup 98 (.map (some mb)) (.string x) false).run Tryz.prog wr=.ok (.int .i64 (cn:Int)) wr:=by
      have:=jcq Tryz.ES Tryz.uMapSI h5 (Tryz.zeroI wr) x.data.toList false
      rw[e6]at this;unfold cntV at this
      by_cases h0:cn=0
      ·rw[if_pos h0]at this;rw[h0];exact this
      ·rw[if_neg h0]at this;exact this
     obtain⟨a4,b4⟩:∃ es2,es2=jbj es x.data.toList (.int .i64 ((cn:Int)+1)) ck:=⟨_,rfl⟩
     obtain⟨b5,f8⟩:∃ ck2,ck2=(if (jaS es x.data.toList).isSome then ck else ck+1):=⟨_,rfl⟩
     obtain⟨W2,h7⟩:=vE (wr.putObj mb (.map (Tryz.ES.arr a4) b5))
     have j7:(Instr.mapUpdate 98 (.map (some mb)) (.string x) (.int .i64 ((cn:Int)+1))).run Tryz.prog wr=.ok () W2:=by
      have:=jb1 Tryz.ES Tryz.uMapSI h5 x.data.toList (.int .i64 ((cn:Int)+1))
      rw[<-b4, <-f8, <-h7]at this;exact this
     have B2:Blk W2 mb (.map (Tryz.ES.arr a4) b5):=by rw[h7];exact h5.put_same _
     have e7:∀ y:vB,jaS a4 y.data.toList=cntV (cntB (U.take (k+1)) y):=fun y=>by
      rw[b4,jcR,h6 y,jnp hx,jpg]
      by_cases hxy:y.data.toList=x.data.toList
      ·have n4:y=x:=ByteArray.ext (Array.ext' hxy)
       subst n4;rw[if_pos rfl,if_pos rfl, <-e4];unfold cntV;rw[if_neg vO];simp
      ·rw[if_neg hxy,if_neg (fun e=>hxy e.symm)];rfl
     have f9:∀ W3,Ext W2 W3->(Instr.lookup 98 (.map (some mb)) (.string x) false).run Tryz.prog W3=.ok (.int .i64 ((cn:Int)+1)) W3:=fun W3 e3=>by
      have:=jcq Tryz.ES Tryz.uMapSI (B2.keeps e3 (fun e=>e)) (Tryz.zeroI W3) x.data.toList false
      rw[b4,jcR,if_pos rfl]at this;exact this
     have K2:jad (fun z=>z=mb) wr W2:=by rw[h7];exact jad.onePut _ _ _
     have O2:SRow H W2 (.slice ar n cr) n (t :: freshU S (U.take k)):=q.keeps K2 (fun b hb e=>d6 (by rw[hb];exact congrArg some e)) (fun b hb e=>by have e:b=mb:=e;have:=n3.o;omega);have g0:=Hd (show n<=119 by
      have h1:=q.len;rw[cC,bP]at h1;have h2:=jlu S (U.take k);rw[fB]at h2
      have:=g8.o;omega)
     have g1:=Hd (show memB (ja8 (U.take k)) x=true↔cn≠0 from by
      rw[jfs,jaM,e4];unfold cntB;rw[<-Nat.pos_iff_ne_zero,gS,bH]
      exact⟨fun hm=>⟨x,hm,rfl⟩,fun ⟨y,hy,e⟩=>by rw[<-show y=x from ByteArray.ext (Array.ext' e)];exact hy⟩)
     have h8:=Hd (jps S (U.take k) x);rw[<-jnp hx]at h8;have d7:=Hd (show ∀ W3,Ext W2 W3->∃ es ck,Blk W3 mb (.map (Tryz.ES.arr es) ck)/\∀ y:vB,jaS es y.data.toList=cntV (cntB (U.take (k+1)) y)from fun W3 e3=>⟨a4,b5,B2.keeps e3 (fun e=>e),e7⟩);have j8:=Hd (bB B2 e7);have j9:=Hd f9;have b9:=Hd O2;have a5:=Hd d6;have b1:(k:Int) < (n7:Int):=by have:=j3.o;omega
     have h9:=Hd (bB hk hlt);have p0:=g8.o;clear q d6 h5 h6 hx e4 e6 b4 f8 h7 B2 e7 f9 K2 O2 h0
     by_cases hc0:cn=0
     ·subst hc0
      have i0:=Hd (show memB (ja8 (U.take k)) x=false by
       cases hm:memB (ja8 (U.take k)) x with
       | false=>rfl
       | true=>exact absurd rfl (g1.o.1 hm))
      have o1:(Instr.lookup 98 (.map (some mb)) (.string x) false).run Tryz.prog wr=.ok (.int .i64 0) wr:=j6;have o2:(Instr.mapUpdate 98 (.map (some mb)) (.string x) (.int .i64 1)).run Tryz.prog wr=.ok () W2:=j7;have k6:Hid (∀ W3,Ext W2 W3->(Instr.lookup 98 (.map (some mb)) (.string x) false).run Tryz.prog W3=.ok (.int .i64 1) W3):=j9.o;clear j6 j7 j9;go_wp2_with fail
      refine vC (of_t _ _ [x] (by simp) (jcN W2 [x] 9) (g2.o.1.ext (b0.o.2.1.trans (b9.o.ext.alloc _)))) fun w8 X=>?_;rw[jdN];have X:=((ExtR W2).alloc (.cells #[.string x] 9)).trans X;have e5:=Hd X;have A:=Hd (jiB w8 s bm room S (shaB x) (k9.o.ext (b0.o.2.1.trans (b9.o.ext.trans X))));have k0:Hid (lackB S x=(atL S (shaB x).data.toList).isNone):=rfl
      obtain⟨ag,e8⟩:=vE (atL S (shaB x).data.toList)
      rw[<-e8]at A k0
      obtain⟨sx,e9⟩:=vE (shaB x)
      rw[<-e9]at A ⊢;clear X e8 e9 qx;cases ag with
      | some y =>
       obtain⟨ty,f0⟩:=vE y.2.2.text
       have d3:=Hd (show vQ 19 #[.pointer (some ⟨s,0,none⟩),.string sx] w8 (fun e w'=>e=.returned (.tuple #[.string y.2.2.text,.bool true])/\Ext w8 w')from A.o);go_wp2_with fail
       refine d3.o.mono ?_;rintro e w9 ⟨rfl,Z⟩;have E:=Hd (e5.o.trans Z);clear Z;rw[<-f0];clear f0;have f1:freshU S (U.take (k+1))=freshU S (U.take k):=by rw[h8.o];rw[if_neg (by rw[i0.o];simp),if_neg (by rw[k0.o];simp),bS]
       have HF:=Hd f1;clear f1;go_wp2_with fail
       go_roundw
       case rel=>exact⟨k+1,by have:=h9.o;omega,by go_num,⟨n,by rw[HF.o];exact b9.o.mono E.o⟩,a5.o,d7.o w9 E.o⟩
       case measure=>exact vJ
      | none =>
       have d3:=Hd (show vQ 19 #[.pointer (some ⟨s,0,none⟩),.string sx] w8 (fun e w'=>e=.returned (.tuple #[.string ⟨#[]⟩,.bool false])/\Ext w8 w')from A.o);go_wp2_with fail
       refine d3.o.mono ?_;rintro e w9 ⟨rfl,Z⟩;have E:=Hd (e5.o.trans Z);clear Z;have k7:=k6.o w9 E.o;have n5:n+1<=maxLen:=by have:=g0.o;unfold maxLen;omega
       have n6:(n+1) * 16<=140737488355328:=by have:=g0.o;omega
       go_wp2_with (at_builtin;refine ja7 Tryz.sStrs ((b9.o.mono E.o).mono ((ExtR w9).alloc _)) (.tmp 110) (.tmp 112) rfl rfl rfl (ja5 (Blk.new w9 _)) (news:=[.string x]) (by intro u hu;simp at hu;rcases hu with rfl;rfl) rfl rfl n5 n6 ?_;intro v' w' r1 r2 r3)
       have k1:SRow H w' v' (n+1) (t :: freshU S (U.take (k+1))):=by
        have e1:freshU S (U.take (k+1))=freshU S (U.take k)++[x]:=by rw[h8.o,if_neg (by rw[i0.o];simp),if_pos (by rw[k0.o];rfl)]
        unfold SRow;rw[e1, <-cV,bY];exact r1
       obtain⟨n8,n9,rfl⟩:=k1.sl
       have k8:=(j8.o.1.keeps E.o (fun e=>e)).lt;have m2:=Hd (bB k1 (show (Value.slice n8 (n+1) n9).ownBlock≠some mb from fun e=>by
        rcases r3 with r3 | r3
        ·exact a5.o (r3 ▸ e)
        ·have:=r3 mb e;rw[bN]at this;omega))
       have o0:=Hd (((j8.o.1.keeps E.o (fun e=>e)).alloc (.cells #[.string x] 9)).keeps r2 (fun e=>a5.o e));clear r1 r2 r3 k1 k8;go_wp2_with fail
       go_roundw
       case rel=>exact⟨k+1,by have:=h9.o;omega,by go_num,⟨n+1,m2.o.1⟩,m2.o.2,a4,b5,o0.o,j8.o.2⟩
       case measure=>exact vJ
     ·have p1:¬((cn:Int)+1=1):=vO
      have p2:(((cn:Int)+1) == 1)=false:=by simp;omega
      have i0:=Hd (g1.o.2 hc0);go_wp2_with fail
      refine vC (of_t _ _ [x] (by simp) (jcN W2 [x] 9) (g2.o.1.ext (b0.o.2.1.trans (b9.o.ext.alloc _)))) fun w8 X=>?_;rw[jdN];have X:=((ExtR W2).alloc (.cells #[.string x] 9)).trans X;have e5:=Hd X;have A:=Hd (jiB w8 s bm room S (shaB x) (k9.o.ext (b0.o.2.1.trans (b9.o.ext.trans X))))
      obtain⟨ag,e8⟩:=vE (atL S (shaB x).data.toList)
      rw[<-e8]at A
      obtain⟨sx,e9⟩:=vE (shaB x)
      rw[<-e9]at A ⊢;clear X e8 e9 qx j6 j7;have f1:freshU S (U.take (k+1))=freshU S (U.take k):=by rw[h8.o,if_pos i0.o,bS]
      have HF:=Hd f1;clear f1;cases ag with
      | some y =>
       obtain⟨ty,f0⟩:=vE y.2.2.text
       have d3:=Hd (show vQ 19 #[.pointer (some ⟨s,0,none⟩),.string sx] w8 (fun e w'=>e=.returned (.tuple #[.string y.2.2.text,.bool true])/\Ext w8 w')from A.o);go_wp2_with fail
       refine d3.o.mono ?_;rintro e w9 ⟨rfl,Z⟩;have E:=Hd (e5.o.trans Z);clear Z;rw[<-f0];clear f0;go_wp2_with fail
       go_roundw
       case rel=>exact⟨k+1,by have:=h9.o;omega,by go_num,⟨n,by rw[HF.o];exact b9.o.mono E.o⟩,a5.o,d7.o w9 E.o⟩
       case measure=>exact vJ
      | none =>
       have d3:=Hd (show vQ 19 #[.pointer (some ⟨s,0,none⟩),.string sx] w8 (fun e w'=>e=.returned (.tuple #[.string ⟨#[]⟩,.bool false])/\Ext w8 w')from A.o);go_wp2_with fail
       refine d3.o.mono ?_;rintro e w9 ⟨rfl,Z⟩;have E:=Hd (e5.o.trans Z);clear Z;have k7:=j9.o w9 E.o;go_wp2_with fail
       go_roundw
       case rel=>exact⟨k+1,by have:=h9.o;omega,by go_num,⟨n,by rw[HF.o];exact b9.o.mono E.o⟩,a5.o,d7.o w9 E.o⟩
       case measure=>exact vJ
    ·obtain rfl:k=U.length:=vO
     obtain⟨⟨n,q⟩, -, -⟩:=m1
     obtain⟨ar,cr,j5⟩:=q.sl
     subst j5;rw[cG]at q;have a6:=Hd q;have p3:¬((U.length:Int) < (n7:Int)):=by have:=j3.o;omega
     clear q;go_wp2_with fail
     go_ret2;unfold UpdP;rw[if_pos m6.o,f7.o];have hn:(t :: freshU S U).length=n:=by have:=a6.o.len;simpa using this
     rw[hn]
     exact⟨_,rfl,a6.o.sl,a6.o.own,b0.o.2.1.trans a6.o.ext,fun b hb=>bK b0.o.2.1.size (a6.o.new b hb)⟩
theorem jfB{S:vT}{out:List Pl}{k:Nat}{ts M:List Pl}{R:vL}(h:jcs S out k ts M R):M.length<=k/\R.length<=M.length/\∀ p∈R,p.1.size<=9223372036854775807/\p.2.size<=9223372036854775807:=by
 induction h with
 | nil=>exact⟨cB _,bM _,fun p e=>(cJ e).elim⟩
 | full=>exact⟨cB _,bM _,fun p e=>(cJ e).elim⟩
 | skip _ _ _ _ _ _ _ ih=>exact ih
 | no _ _ _ _ _ _ _ _ ih=>exact ih
 | go k t ts n M R h1 h2 h3 h4 ih =>
  obtain⟨E,H,z⟩:=ih
  obtain⟨d,q⟩:=h3.good
  have e:=(q.one (inlP d)).path;have J:=(q.one (inlP d)).value;have A:(entN n t.1).length<=1/\∀ p∈entN n t.1,p.1.size<=9223372036854775807/\p.2.size<=9223372036854775807:=by
   unfold entN keyR;split
   ·exact⟨cB _,fun p e=>(cJ e).elim⟩
   ·split
    ·refine⟨bM _,fun p o=>?_⟩
     rw[bO.1 o]
     have:(jby (t.1++n.path)).size=(t.1++n.path).size / 2:=jee _
     rw[cN]at this
     exact⟨by show (jby _).size<=_;omega,by show n.value.size<=_;omega⟩
    ·exact⟨cB _,fun p e=>(cJ e).elim⟩
  refine⟨by rw[bP];omega,by rw[bF,bP];omega,fun p e=>?_⟩
  rcases bR.1 e with e | e
  ·exact A.2 p e
  ·exact z p e
theorem LRow.rd{w0 w:vW}{v:vV}{n:Nat}{xs:List Pl}(h:LRow w0 w v n xs):RdP w v xs:=by
 have q:xs.length=n:=by have:=h.len;rw[jdu]at this;omega
 obtain⟨_,⟨rfl,K⟩ |⟨g,e,z,rfl,O,A,E,Q,X⟩⟩:=h.own
 ·exact .inl ⟨none,0,rfl,bE vO⟩
 ·subst q
  refine .inr ⟨g,0,e,rfl,(dA.1 A).1,E,fun j x o=>?_⟩;have Z:=(bU.1 o).1
  obtain⟨H,J⟩:=jdt xs j x o
  exact⟨by rw[cM,h.own.cellAt (j * 2) vO,H],by rw[cM,h.own.cellAt (j * 2+1) vO,J]⟩
theorem jyY(W:vW)(s bm:Nat)(room:Int)(S:vT)(hs:jaL W s bm room S)(a b:vB)(h:(jdr S a && jdr S b)=false) :
  vR 23 #[.pointer (some ⟨s,0,none⟩),.string a,.string b] W (.tuple #[.slice none 0 0,.int .i64 4]):=by
 have q:([a,b].all (jdr S))=false:=by simpa using h
 have z:=Hd (fun(v:vV) (W1:vW) (e:Ext W W1) (hv:RdS W1 v [a,b])=>jik W1 s bm room S (hs.ext e) v [a,b] hv (show (2:Nat)<=1000 by decide));rw[q]at z;clear hs h q;go_enter Tryz.func23,Tryz.ntmps23;go_wp2_with fail
 refine vH (z.o _ _ ((ExtR W).alloc _) (jcN W [a,b] _)) fun A E=>?_;have H:=Hd (((ExtR W).alloc (.cells ([a,b].map Value.string).toArray 9)).trans E);go_wp2_with fail
 refine (jkf A).mono ?_;rintro e J ⟨rfl,rfl⟩;go_wp2_with fail
 go_ret2
 exact⟨rfl,H.o⟩
def OfP(W:vW)(l m:vL)(e:Ending)(w':vW):Prop:=∃ v,e=.returned (.tuple #[v,.int .i64 0])/\CRow W w' v (jbP l m).length (jbP l m)
theorem jxV(W:vW)(s bm:Nat)(room:Int)(S:vT)(hs:jaL W s bm room S)(a b:vB)(h:(jdr S a && jdr S b)=true)(ha:a.size<=100000)(hb:b.size<=100000){MA MB M1 M2:List Pl}{R1 R2 R3 R4:vL}
  (h1:jcs S [] 400 [(⟨#[]⟩,jaC a)] MA R3) (h2:jcs S MA 400 [(⟨#[]⟩,jaC b)] M2 R2) (h3:jcs S [] 400 [(⟨#[]⟩,jaC b)] MB R4) (h4:jcs S MB 400 [(⟨#[]⟩,jaC a)] M1 R1) :
  vQ 23 #[.pointer (some ⟨s,0,none⟩),.string a,.string b] W (OfP W R1 R2):=by
 have hk:([a,b].all (jdr S))=true:=by simpa using h
 have HC:=Hd (fun(v:vV) (W1:vW) (e:Ext W W1) (hv:RdS W1 v [a,b])=>jik W1 s bm room S (hs.ext e) v [a,b] hv (show (2:Nat)<=1000 by decide));rw[hk]at HC;have H:=jfB h1;have J:=jfB h2;have K:=jfB h3;have O:=jfB h4;have HZ:=Hd (bB (bB H J) (bB K O));have HA:=Hd (fun(W1:vW) (e:Ext W W1)=>joY W1 s bm room S (hs.ext e) a ha (.slice none 0 0) [] (.inl ⟨_,_,rfl,rfl⟩) (cB _) h1);have HB:=Hd (fun(W1:vW) (e:Ext W W1) (v:vV) (hv:RdP W1 v MA)=>joY W1 s bm room S (hs.ext e) b hb v MA hv (by have:=H.1;omega) h2);have a6:=Hd (fun(W1:vW) (e:Ext W W1)=>joY W1 s bm room S (hs.ext e) b hb (.slice none 0 0) [] (.inl ⟨_,_,rfl,rfl⟩) (cB _) h3);have a7:=Hd (fun(W1:vW) (e:Ext W W1) (v:vV) (hv:RdP W1 v MB)=>joY W1 s bm room S (hs.ext e) a ha v MB hv (by have:=K.1;omega) h4);clear hs h hk h1 h2 h3 h4 H J K O;go_enter Tryz.func23,Tryz.ntmps23;go_wp2_with fail
 refine vH (HC.o _ _ ((ExtR W).alloc _) (jcN W [a,b] _)) fun W2 hE=>?_;have HE:=Hd (((ExtR W).alloc (.cells ([a,b].map Value.string).toArray 9)).trans hE);go_wp2_with fail
 refine (jg0 W2).mono ?_;rintro e W3 ⟨rfl,rfl⟩;go_wp2_with fail
 refine (HA.o W2 HE.o).mono ?_;rintro e W4 ⟨u1,v1,rfl,A,a8⟩;have a9:=Hd A;have Q:=Hd (HE.o.trans A.ext);clear A a8;go_wp2_with fail
 refine (HB.o W4 Q.o u1 a9.o.rd).mono ?_;rintro e W5 ⟨u2,v2,rfl,X,Z⟩;have b0:=Hd Z;have a2:=Hd (Q.o.trans X.ext);clear X Z;go_wp2_with fail
 refine (a6.o W5 a2.o).mono ?_;rintro e W6 ⟨u3,v3,rfl,q,b1⟩;have b2:=Hd q;have a3:=Hd (a2.o.trans q.ext);have a0:=Hd (ORow.mono b0.o q.ext);clear q b1;go_wp2_with fail
 refine (a7.o W6 a3.o u3 b2.o.rd).mono ?_;rintro e W7 ⟨u4,v4,rfl,E,a4⟩;have b3:=Hd a4;have a5:=Hd (a3.o.trans E.ext);have a1:=Hd (ORow.mono a0.o E.ext);clear E a4;go_wp2_with fail
 obtain⟨⟨H,J⟩,K,O⟩:=HZ.o
 refine (jqU W7 v4 v2 R1 R2 (ERow.rd b3.o) (ERow.rd a1.o) vO vO O.2.2 J.2.2).mono ?_;rintro e W8 ⟨u,rfl,hC⟩;have z:=Hd hC;clear hC H J K O;go_wp2_with fail
 go_ret2
 exact⟨_,rfl,z.o.sl,z.o.own,a5.o.trans z.o.ext,fun b hb=>bK a5.o.size (z.o.new b hb)⟩
theorem jjt(W:vW)(s bm:Nat)(room:Int)(S:vT)(hs:jaL W s bm room S){a b:vL}(ha:HasM S a)(hb:HasM S b){U:vM}(hU:InjL U)(h1:∀ x∈jao (jav a),x∈U)(h2:∀ x∈jao (jav b),x∈U) :
  vQ 23 #[.pointer (some ⟨s,0,none⟩),.string (rootM a),.string (rootM b)] W (OfP W a b):=by
 have o:∀ {l:vL},HasM S l->jdr S (rootM l)=true:=fun {l} h=>by
  obtain⟨y,e,_⟩:=h.has _ (jbS _)
  unfold jdr rootM;rw[show (shaB (jav l).text).data.toList=ky (jav l).text from rfl,e];rfl
 have q:∀ l,(rootM l).size<=100000:=fun l=>by unfold rootM;rw[jbg];omega
 have:=jxV W s bm room S hs (rootM a) (rootM b) (by rw[o ha,o hb];rfl) (q a) (q b) (jhG (out:=[]) ha) (jhG (out:=metT [] a) hb) (jhG (out:=[]) hb) (jhG (out:=metT [] b) ha)
 obtain⟨_,_,e⟩:=jt5 W ha.ok hb.ok hU h1 h2
 refine this.mono fun z w' h=>?_;unfold OfP at h ⊢;rw[e]at h;exact h
end
end Go.Proofs.YtmobgkphhbmhbaaGreatDoor
