/- Parts of the proof, one behind the other: TrU. Each is under no condition but those that it states. -/
import Derived.Test.YtpaacnhboilkkaaGreatDoorPh46
import Derived.Test.YtpaacnhboilkkaaGreatDoorPh11
namespace Go.Proofs.YtpaacnhboilkkaaGreatDoor
set_option linter.unusedSimpArgs false
set_option linter.unusedVariables false
set_option maxRecDepth 100000
set_option maxHeartbeats 16000000
section
open Go Go.RowKit
attribute [local go_sem] Oper.semAt_some
structure WrAt(z g:Nat)(v:Value)(T:List ByteArray)(W:World):Prop where
 lo:z≤g
 var:Blk W g (.cells #[v] 128)
 row:W.ownsRow 0 9 1 v T.length (T.map Value.string)
 own:∀ b,v.ownBlock=some b→z≤b∧b≠g∧b < W.heap.size
 nil:T=[]→v=.slice none 0 0
theorem WrAt.ext{z g:Nat}{v:Value}{T:List ByteArray}{W W':World}(h:WrAt z g v T W)(e:Ext W W'):WrAt z g v T W':=
 ⟨h.lo,h.var.keeps e (fun g=>g),jbd h.row e,fun b hb=>⟨(h.own b hb).1,(h.own b hb).2.1,Nat.lt_of_lt_of_le (h.own b hb).2.2 e.size⟩,h.nil⟩
theorem WrAt.off{z g:Nat}{v:Value}{T:List ByteArray}{W W':World}{F:BSet}(h:WrAt z g v T W)(e:jac F W W')(h1:¬ F g)(h2:∀ b,v.ownBlock=some b→¬ F b):WrAt z g v T W':=
 ⟨h.lo,h.var.keeps e h1,jaG h.row e h2,fun b hb=>⟨(h.own b hb).1,(h.own b hb).2.1,Nat.lt_of_lt_of_le (h.own b hb).2.2 e.size⟩,h.nil⟩
structure WrTo(z g:Nat)(v:Value)(W W':World)(v':Value)(T':List ByteArray):Prop where
 at':WrAt z g v' T' W'
 kp:jac (fun b=>b=g∨v.ownBlock=some b) W W'
 sub:∀ b,v'.ownBlock=some b→v.ownBlock=some b∨W.heap.size≤b
theorem WrTo.refl{z g:Nat}{v:Value}{T:List ByteArray}{W W':World}(h:WrAt z g v T W)(e:Ext W W'):WrTo z g v W W' v T:=⟨h.ext e,e.mono (fun _ _ h=>h.elim),fun b hb=>.inl hb⟩
theorem WrTo.trans{z g:Nat}{v v' v'':Value}{T T':List ByteArray}{W W' W'':World}(h:WrTo z g v W W' v' T)(k:WrTo z g v' W' W'' v'' T'):WrTo z g v W W'' v'' T':=
 ⟨k.at',h.kp.trans' k.kp (fun x hx e=>by
  rcases e with e | e
  ·exact .inl e
  ·rcases h.sub x e with e | e
   ·exact .inr e
   ·omega),fun b hb=>by
  rcases k.sub b hb with e | e
  ·exact h.sub b e
  ·exact .inr (Nat.le_trans h.kp.size e)⟩
theorem WrTo.ext{z g:Nat}{v v':Value}{T:List ByteArray}{W W' W'':World}(h:WrTo z g v W W' v' T)(e:Ext W' W''):WrTo z g v W W'' v' T:=h.trans (WrTo.refl h.at' e)
theorem WrTo.blk{z g:Nat}{v v':Value}{T:List ByteArray}{W W':World}(h:WrTo z g v W W' v' T){b:Nat}{o:Obj}(hB:Blk W b o)(h1:b≠g)(h2:v.ownBlock≠some b):Blk W' b o:=hB.keeps h.kp (fun e=>e.elim h1 h2)
theorem WrTo.ext0{z g:Nat}{v v':Value}{T T':List ByteArray}{W0 W W':World}(h:WrTo z g v W W' v' T')(k:WrAt z g v T W)(e:Ext W0 W)(hz:W0.heap.size≤z):Ext W0 W':=
 e.trans' h.kp (fun x hx e=>by
  rcases e with e | e
  ·have:=k.lo;omega
  ·have:=(k.own x e).1;omega)
theorem WrTo.fill{z g:Nat}{v v':Value}{T:List ByteArray}{W W' W'':World}(h:WrTo z g v W W' v' T){L:Nat}(e:jac (fun b=>b=L) W' W'')(h1:L≠g)(h2:v'.ownBlock≠some L)(h3:W.heap.size≤L):WrTo z g v W W'' v' T:=
 ⟨h.at'.off e (fun x=>h1 x.symm) (fun b hb x=>h2 (by rw[hb,x])),h.kp.trans' e (fun x hx y=>by have y:x=L:=y;omega),h.sub⟩
theorem WrTo.ahead{z g:Nat}{v v':Value}{T:List ByteArray}{W0 W W':World}(e:Ext W0 W)(h:WrTo z g v W W' v' T):WrTo z g v W0 W' v' T:=
 ⟨h.at',(e.mono (fun _ _ h=>h.elim)).trans' h.kp (fun x hx e=>e),fun b hb=>(h.sub b hb).imp id (fun k=>Nat.le_trans e.size k)⟩
def FoP(z g:Nat)(v:Value)(W:World)(r:Value)(T:List ByteArray)(e:Ending)(w':World):Prop:=e=.returned r∧∃ v',WrTo z g v W w' v' T
structure jnB(n:jaf):Prop where
 refs:n.refs.length=16
 call:∀ w,jch w→ErrT w→Calls Tryz.prog 121 #[n.V] w fun e w'=>(∃ k:Int,e=.returned (.tuple #[.string (putN n),.int .i64 k]))∧Ext w w'
theorem jkZ{d:Nat}{n:jaf}(h:jcz (InlD d) n):jnB n:=⟨(h.one (inlP d)).refs,fun w _ _=>by
 rw[jkV h];exact (jiC (inlP d) w n h).mono fun e w' h=>⟨⟨0,h.1⟩,h.2⟩⟩
def PutP:PA→Prop
 | .nil=>True
 | .no=>jnB jbb
 | .leaf q v=>jnB ⟨1,q,v,jax 16⟩
 | .ext q n=>jnB (nodeP (.ext q n))∧PutP n
 | .br v ks=>jnB (nodeP (.br v ks))∧∀ i,PutP (ks i)
theorem PutP.node{P:PA}(h:PutP P)(hn:P.isNil=false):jnB (nodeP P):=by
 cases P with
 | nil=>cases hn
 | no=>exact h
 | leaf q v=>exact h
 | ext q n=>exact h.1
 | br v ks=>exact h.1
theorem jek:∀ (P:PA),P.isNil=false→(underP P).length+1≤cntP P
 | .nil,h=>by cases h
 | .no,_=>Nat.le_refl _
 | .leaf _ _,_=>Nat.le_refl _
 | .ext q n,_=>by
  show (bigs (textP n)++underP n).length+1≤1+cntP n;rw[List.length_append];have h1:=jiZ (textP n);cases hn:n.isNil with
  | true=>rw[jbA hn];exact Nat.le_refl _
  | false =>
   have:=jek n hn
   omega
 | .br v ks,_=>by
  show ((List.range 16).flatMap fun i=>if (ks i).isNil then []else bigs (textP (ks i))++underP (ks i)).length+1≤1+sumF (fun i=>cntP (ks i)) 16
  have:=jf5 (fun i=>if (ks i).isNil then []else bigs (textP (ks i))++underP (ks i)) (fun i=>cntP (ks i)) (fun i=>by
   show (if (ks i).isNil=true then ([]:List ByteArray)else bigs (textP (ks i))++underP (ks i)).length≤cntP (ks i);cases hn:(ks i).isNil with
   | true=>rw[if_pos rfl];exact Nat.zero_le _
   | false =>
    rw[if_neg ff,List.length_append];have h1:=jiZ (textP (ks i))
    have:=jek (ks i) hn
    omega) 16
  omega
def jvJ(P:PA):Prop:=∀ (w0 W:World) (T:TypeId) (x:Value) (D:Nat→Prop) (g:Nat) (v:Value) (Tx:List ByteArray),jch w0→ErrT w0→PaO P (.iface T x) D w0→Ext w0 W→WrAt w0.heap.size g v Tx W→Tx.length+cntP P≤100000 →
 Calls Tryz.prog (jkN P) #[x,.pointer (some ⟨g,0,none⟩)] W (FoP w0.heap.size g v W (nodeP P).V (Tx++underP P))
def TopC(P:PA):Prop:=∀ (w0 W:World) (T:TypeId) (x:Value) (D:Nat→Prop) (g:Nat) (v:Value) (Tx:List ByteArray),jch w0→ErrT w0→PaO P (.iface T x) D w0→Ext w0 W→WrAt w0.heap.size g v Tx W→Tx.length+cntP P≤100000 →
 Calls Tryz.prog 81 #[.pointer (some ⟨g,0,none⟩),.iface T x] W (FoP w0.heap.size g v W (.string (textP P)) (Tx++underP P))
def jt7(P:PA):Prop:=∀ (w0 W:World) (T:TypeId) (x:Value) (D:Nat→Prop) (g:Nat) (v:Value) (Tx:List ByteArray),jch w0→ErrT w0→PaO P (.iface T x) D w0→Ext w0 W→WrAt w0.heap.size g v Tx W→Tx.length+cntP P≤100000 →
 Calls Tryz.prog 275 #[.pointer (some ⟨g,0,none⟩),.iface T x] W (FoP w0.heap.size g v W (.string (refB (textP P))) (Tx++(bigs (textP P)++underP P)))
theorem jsM(z g:Nat)(v:Value)(Tx:List ByteArray)(W:World)(h:WrAt z g v Tx W):Calls Tryz.prog 305 #[.agg #[],.pointer (some ⟨g,0,none⟩)] W (FoP z g v W jbb.V Tx):=by
 have H:=Hd h;clear h;go_enter Tryz.func305,Tryz.ntmps305;go_wp2_with (first |(refine jaq Tryz.allocNode rfl rfl ?_;intro W5 hB5 hE5;simp only[World.size_alloc]at hB5) |(refine jaj (vs:=jbb.cells) rfl rfl rfl rfl hB5 rfl Tryz.szNode jbb.one ?_;intro W6 hB6 hE6))
 have hE1:Ext W (W.alloc (.cells #[] 276)):=(ExtR W).alloc _;refine bodyPost_ret (jdp rfl rfl (jaN W6 _ jbb rfl hB6)) rfl ?_
 exact⟨rfl,v,WrTo.refl H.o ((hE1.trans hE5).trans' hE6 (fun x hx e=>by have e:x=W.heap.size+1:=e;omega))⟩
def jxC(q u:ByteArray):List Value:=jcj 1 q u ⟨#[]⟩
theorem juR(w0:World)(z g:Nat)(v:Value)(Tx:List ByteArray)(W:World)(hE:Ext w0 W)(q u:ByteArray)(b:Nat)(hB:Blk w0 b (.cells #[.string q,.string u] 267))(h:WrAt z g v Tx W):Calls Tryz.prog 291 #[.pointer (some ⟨b,0,none⟩),.pointer (some ⟨g,0,none⟩)] W (FoP z g v W (jaf.V ⟨1,q,u,jax 16⟩) Tx):=by
 have H:=Hd h;have Q0:=Hd (jaa (hB.cell (i:=0) (v:=.string q) (by rfl)) hE);have Q1:=Hd (jaa (hB.cell (i:=1) (v:=.string u) (by rfl)) hE);have hbl:=hB.lt;have HNB:=Hd (show ¬ b=W.heap.size by have:=hE.size;omega);clear h hB hE hbl;go_enter Tryz.func291,Tryz.ntmps291;go_wp2_with (refine jaq Tryz.allocNode rfl rfl ?_;intro W4 hB4 hE4)
 have HB4:=Hd hB4;have HE4:=Hd hE4;clear hB4 hE4;simp only[Act.put,sA,sB,sC];refine ja1 [0,1,2,3,4,5,6,7,8,9] [9] Ext (jac (fun z=>z=W.heap.size)) ExtR ExtT (fun x y z h k=>jac.trans h k) (fun x y h=>h.mono (fun _ _ h=>h.elim)) (by kernel_rfl) (by kernel_rfl) (by kernel_rfl) ?_
 (refine jai _ rfl (by kernel_rfl) rfl rfl (fun K hK=>?_);go_big_quiet_op;refine hK _ ?_;clear hK K)
 refine jbB _ ((.pointer (some ⟨b,0,none⟩))) rfl (by kernel_rfl) rfl (fun w1 _=>by kernel_rfl) ?_;simp only[Act.put,sA,sB,sC]
 (refine jai _ rfl (by kernel_rfl) rfl rfl (fun K hK=>?_);go_big_quiet_op;refine hK _ ?_;clear hK K)
 refine jaX ⟨b,0,none⟩ _ rfl (by kernel_rfl) rfl rfl (fun w1 h1=>jav (fun w=>by kernel_rfl) (jat (jaa Q0.o HE4.o) (((jac.refl (fun z=>z=W.heap.size) W4).drew).trans h1) (by exact HNB.o))) ?_;simp only[Act.put,sA,sB,sC]
 (refine jai _ rfl (by kernel_rfl) rfl rfl (fun K hK=>?_);go_big_quiet_op;refine hK _ ?_;clear hK K)
 refine jbB _ ((.pointer (some ⟨b,0,none⟩))) rfl (by kernel_rfl) rfl (fun w1 _=>by kernel_rfl) ?_;simp only[Act.put,sA,sB,sC]
 (refine jai _ rfl (by kernel_rfl) rfl rfl (fun K hK=>?_);go_big_quiet_op;refine hK _ ?_;clear hK K)
 refine jaX ⟨b,1,none⟩ _ rfl (by kernel_rfl) rfl rfl (fun w1 h1=>jav (fun w=>by kernel_rfl) (jat (jaa Q1.o HE4.o) (((jac.refl (fun z=>z=W.heap.size) W4).drew).trans h1) (by exact HNB.o))) ?_;simp only[Act.put,sA,sB,sC]
 (refine jai _ rfl (by kernel_rfl) rfl rfl (fun K hK=>?_);go_big_quiet_op;refine hK _ ?_;clear hK K)
 refine jaY _ rfl (by kernel_rfl) rfl (fun w5 he K hK=>?_);have hX:=(jak W4).trans he;refine jjK (vs:=jxC q u) rfl rfl rfl (HB4.o.keeps hX (fun h=>h)) rfl Tryz.szNode (jck _ _ _ _) ?_;intro W6 hB6 hE6;have H6:=Hd (And.intro hB6 ((HE4.o.trans hX).trans' hE6 (fun x hx e=>by have e:x=W.heap.size:=e;omega)));simp only[Act.put,sA,sB,sC];refine hK _ _ hE6 ?_;clear hK K he hX hB6 hE6;refine jcd (by kernel_rfl) (fun w7 he=>?_);have hB7:=H6.o.1.keeps he (fun h=>h);have hE7:=H6.o.2.trans he;go_wp2_with fail
 refine bodyPost_ret (jdp rfl rfl (jaN w7 _ ⟨1,q,u,jax 16⟩ rfl hB7)) rfl ?_
 exact⟨rfl,v,WrTo.refl H.o hE7⟩
theorem jru(P:PA)(hn:P.isNil=false)(hp:PutP P)(hF:jvJ P):TopC P:=by
 intro w0 W T x D g v Tx hc he hP hE hW hl;have hf:=hF w0 W T x D g v Tx hc he hP hE hW hl;have hm:=hP.at'.meth.form;have hm:∀ w,(Go.method (469+1) T x "guilloche/trie.form").run Tryz.prog w=.ok (jkN P,x) w:=hm;have hent:=jnX P;have hpn:=hp.node hn;rw[jla hn];have HN:=Hd (show ∀ w,Ext w0 w→Calls Tryz.prog 121 #[(nodeP P).V] w fun e w'=>(∃ k:Int,e=.returned (.tuple #[.string (putN (nodeP P)),.int .i64 k]))∧Ext w w' from fun w e=>hpn.call w (hc.ext e) (he.ext e));have HF:=Hd hf;have HW:=Hd (And.intro hW hE)
 obtain⟨U,hU⟩:∃ U,U=Tx++underP P:=⟨_,rfl⟩
 rw[←hU]at HF ⊢
 obtain⟨n,hnn⟩:∃ n,n=nodeP P:=⟨_,rfl⟩
 rw[←hnn]at HF HN ⊢;clear hf hc he hP hE hW hl hpn hn hp hF hU hnn;go_enter Tryz.func81,Tryz.ntmps81;go_wp2_with fail
 refine HF.o.mono ?_;rintro e w1 ⟨rfl,v1,hT⟩;have HT:=Hd hT;have HE1:=Hd (hT.ext0 HW.o.1 HW.o.2 (Nat.le_refl _));clear hT;go_wp2_with fail
 refine (HN.o w1 HE1.o).mono ?_;rintro e w2 ⟨⟨k,rfl⟩,hE2⟩;have HE2:=Hd hE2;clear hE2;go_wp2_with fail
 go_ret
 exact⟨rfl,v1,HT.o.ext HE2.o⟩
end
end Go.Proofs.YtpaacnhboilkkaaGreatDoor
