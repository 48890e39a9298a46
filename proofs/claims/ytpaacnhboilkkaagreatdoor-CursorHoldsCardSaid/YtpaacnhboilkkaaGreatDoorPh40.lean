/- Parts of the proof, one behind the other: HolA, HolC, CurF. Each is under no condition but those that it states. -/
import Derived.Test.YtpaacnhboilkkaaGreatDoorPh38
import Derived.Test.YtpaacnhboilkkaaGreatDoorPh39
import Derived.Test.YtpaacnhboilkkaaGreatDoorPh37
namespace Go.Proofs.YtpaacnhboilkkaaGreatDoor
set_option linter.unusedSimpArgs false
set_option linter.unusedVariables false
set_option maxRecDepth 100000
set_option maxHeartbeats 16000000
section
open Go Go.RowKit
theorem Den.mono{H H':ByteArray→Prop}(hh:∀ t,H t→H' t){fr:ByteArray}{t:Pl5}{R:List Pair}{N:Nat}(h:Den H fr t R N):Den H' fr t R N:=by
 rcases h with h |⟨h1,f,l,h2,h3⟩
 ·exact .inl h
 ·exact .inr ⟨h1,f,l,⟨h2.rows,h2.ne,fun x hx h32=>hh x (h2.has x hx h32),h2.key⟩,h3⟩
theorem jci.mono{H H':ByteArray→Prop}(hh:∀ t,H t→H' t){fr:ByteArray}:∀ {ts:List Pl5} {R:List Pair} {N:Nat},jci H fr ts R N→jci H' fr ts R N
 | [],R,N,h=>h
 | t :: ts,R,N,h=>by
  obtain⟨R1,R2,N1,N2,e1,e2,h1,h2⟩:=h
  exact⟨R1,R2,N1,N2,e1,e2,h1.mono hh,jci.mono hh h2⟩
theorem jc3.mono{S S':List Nd5}(hh:∀ t,HasS S t→HasS S' t){c s:Nat}{fr:ByteArray}{R:List Pair}{W:World}{v:Value}(h:jc3 S c s fr R W v):jc3 S' c s fr R W v:=by
 obtain⟨ts,N,k,h⟩:=h
 exact⟨ts,N,k,⟨h.left,h.stk.mono hh,h.look,h.len⟩⟩
theorem jdQ.only{l:List Pair}{w w':World}{s bm:Nat}{S:List Nd5}(h:jdQ l w s bm S w'){t:ByteArray}(ht:HasS S t):t∈jaI (jaT l):=by
 obtain⟨x,h1,h2⟩:=ht
 obtain⟨t',ht',_,e,_⟩:=h.kp.is x (jaD h1).1
 exact (jbm _ _).1 (by rw[←h2,e];exact ht')
theorem jrI{S:List Nd5}(hn:(S.map (·.1)).Nodup){x y:Nd5}(hx:x∈S)(hy:y∈S)(e:x.1=y.1):x=y:=ja4 hn hx hy e
theorem jp4(W0:World){l:List Pair}{w0 w1 W W' W2 W3:World}{s bm:Nat}{S S2 G:List Nd5}{L M:List ByteArray}{top:ByteArray}{y:Nd5}{e:Ending}(hH:jdQ l w0 s bm S w1)(hY:AddY W s bm 2000 S L top G M e W')(hst:jas W2 s bm 2000 (addS S G M top))(hD:jtP W2 s bm 2000 (addS S G M top) S2 y W3)(hy:atL (addS S G M top) (shaB top).data.toList=some y):HasM S2 l:=by
 have hn1:((addS S G M top).map (·.1)).Nodup:=hst.nd;have hu:∀ u∈S2,∀ t∈jcg l,u.1=ky t→u.2.2.text=t∧u.2.2.refs=jaV (nodeOf t):=by
  intro u hu t ht e
  obtain⟨v,hv,e1,_,e2,e3,_⟩:=hD.sub u hu
  obtain⟨z,hz,rfl⟩:=List.mem_map.1 hv
  obtain⟨k1,k2,k3,k4,k5⟩:=jdb y.2.1 (y.2.2.held - 1) z
  obtain⟨x,x1,x2,x3,x4⟩:=hH.kp.text hH.inj ht ((hH.key _).2 ⟨t,ht,rfl⟩)
  have hb:=jiW (G:=G) (M:=M) (top:=top) x1;have hz1:z.1=ky t:=by rw[←k3, ←e1,e]
  have:z=jgq ((frK S M).flatMap (jb4 G)) (shaB top) x:=jrI hn1 hz (jaD hb).1 (hz1.trans (jaD hb).2.symm)
  rw[e2,e3,k4,k2,this]
  exact⟨x3,x4⟩
 have hroot:ky (jaT l).text∈S2.map (·.1):=by
  have h1:=hH.held (ky (jaT l).text);rw[if_pos rfl]at h1;cases hx:atL S (ky (jaT l).text)with
  | none=>rw[hx]at h1;exact absurd h1 (by decide)
  | some x =>
   rw[hx]at h1;have h1:x.2.2.held=1:=h1;have hb:=jiW (G:=G) (M:=M) (top:=top) hx
   obtain⟨z,hz⟩:∃ z,z=jgq ((frK S M).flatMap (jb4 G)) (shaB top) x:=⟨_,rfl⟩
   have hzh:z.2.2.held=1+((cK [shaB top] x.1:Nat):Int):=by rw[hz];show x.2.2.held+_=_;rw[h1]
   rw[←hz]at hb
   obtain⟨z1,z2⟩:=jaD hb
   have hx1:x.1=ky (jaT l).text:=(jaD hx).2
   have:=hD.stay _ (List.mem_map.2 ⟨z,z1,rfl⟩) (by
    by_cases eb:z.2.1=y.2.1
    ·have ezy:z=y:=ja4 hst.mp.blks z1 (jaD hy).1 eb
     have hk:x.1=(shaB top).data.toList:=by rw[hx1, ←z2,ezy];exact (jaD hy).2
     rw[jhi,if_pos hk]at hzh;unfold setB;rw[if_pos eb];show 0 < (putF 3 (y.2.2.held - 1) z.2.2).held;rw[←ezy,hzh];show (0:Int) < 1+((1:Nat):Int) - 1;decide
    ·unfold setB
     rw[if_neg eb,hzh];omega)
   obtain⟨k1,k2,k3,k4,k5⟩:=jdb y.2.1 (y.2.2.held - 1) z
   rw[k3,z2]at this;exact this
 have hall:=jnd W0 hH.ok (fun k=>k.data.toList∈S2.map (fun x:Nd5=>x.1)) (fun t ht hk r hr=>by
  obtain⟨u,hu1,e⟩:=List.mem_map.1 hk
  obtain⟨_,h2⟩:=hu u hu1 t ht e
  exact hD.cnt.shut r (List.mem_flatMap.2 ⟨u,hu1,by rw[h2];exact hr⟩)) hroot
 refine⟨hH.ok,fun t ht=>?_⟩
 have ht:=(jbm (jaI (jaT l)) t).2 ht;have hk:ky t∈S2.map (·.1):=hall t ht
 obtain⟨u,hu1⟩:=Option.isSome_iff_exists.1 (jdM.2 hk)
 exact⟨u,hu1,(hu u (jaD hu1).1 t ht (jaD hu1).2).1⟩
structure Two(z cx:Nat)(vx:Value)(cy:Nat)(vy:Value):Prop where
 ne:cx≠cy
 xy:vx.ownBlock≠some cy
 yx:vy.ownBlock≠some cx
 oo:∀ b,vx.ownBlock=some b→vy.ownBlock≠some b
 nx:z≤cx∧∀ b,vx.ownBlock=some b→z≤b
 ny:z≤cy∧∀ b,vy.ownBlock=some b→z≤b
theorem Two.swap{z cx cy:Nat}{vx vy:Value}(h:Two z cx vx cy vy):Two z cy vy cx vx:=⟨h.ne.symm,h.yx,h.xy,fun b h1 h2=>h.oo b h2 h1,h.ny,h.nx⟩
theorem Two.step{z cx cy:Nat}{vx vx' vy:Value}{n:Nat}(h:Two z cx vx cy vy)(hz:z≤n)(hn:vx'.ownBlock=vx.ownBlock∨∀ b,vx'.ownBlock=some b→n≤b)(h1:cy < n)(h2:∀ b,vy.ownBlock=some b→b < n):Two z cx vx' cy vy:=by
 rcases hn with e | e
 ·exact⟨h.ne,by rw[e];exact h.xy,h.yx,by rw[e];exact h.oo,by rw[e];exact h.nx,h.ny⟩
 ·exact⟨h.ne,fun k=>by have:=e _ k;omega,h.yx,fun b k1 k2=>by have:=e _ k1;have:=h2 _ k2;omega,⟨h.nx.1,fun b k=>Nat.le_trans hz (e b k)⟩,h.ny⟩
end
section
open Go Go.RowKit
structure HlS(w1:World)(z s bm cx cy:Nat)(fr:ByteArray)(l:List Pair)(S:List Nd5)(Rx Ry:List Pair)(vx vy:Value)(W:World):Prop where
 ext:Ext w1 W
 st:jas W s bm 2000 S
 has:HasM S l
 x:jc3 S cx s fr Rx W vx
 y:jc3 S cy s fr Ry W vy
 two:Two z cx vx cy vy
 z1:w1.heap.size≤z
 z2:z≤W.heap.size
theorem jas.ltz{W:World}{s bm:Nat}{room:Int}{S:List Nd5}(h:jas W s bm room S):∀ z,(z=bm∨z∈S.map (·.2.1))→z < W.heap.size:=by
 rintro z (rfl | hz)
 ·obtain⟨es,ck,h1,_⟩:=h.mp.mp
  exact h1.lt
 ·obtain⟨y,hy,rfl⟩:=List.mem_map.1 hz
  obtain⟨rv,h1,_⟩:=(h.mp.items y hy).cells
  exact h1.lt
section
variable {w1:World} {z s bm cx cy:Nat} {fr:ByteArray} {l:List Pair} {S:List Nd5} {Rx Ry:List Pair} {vx vy:Value} {W W':World}
theorem HlS.swap(h:HlS w1 z s bm cx cy fr l S Rx Ry vx vy W):HlS w1 z s bm cy cx fr l S Ry Rx vy vx W:=⟨h.ext,h.st,h.has,h.y,h.x,h.two.swap,h.z1,h.z2⟩
theorem HlS.grow(h:HlS w1 z s bm cx cy fr l S Rx Ry vx vy W)(k:Ext W W'):HlS w1 z s bm cx cy fr l S Rx Ry vx vy W':=
 ⟨h.ext.trans k,h.st.ext k,h.has,h.x.ext k,h.y.ext k,h.two,h.z1,Nat.le_trans h.z2 k.size⟩
theorem HlS.next{vx':Value}{R:List Pair}(h:HlS w1 z s bm cx cy fr l S Rx Ry vx vy W)(k:jdw S cx s fr W vx W' vx' R):HlS w1 z s bm cx cy fr l S R Ry vx' vy W':=by
 have hk:=k.kp;have hl:=h.y.lt;have h1:=h.z1;have h2:=h.z2
 refine⟨h.ext.trans' hk.1 (fun b hb e=>?_),h.x.store h.st hk.1,h.has,k.at',h.y.keeps hk.1 (fun e=>?_) (fun b hb e=>?_),h.two.step h.z2 hk.2 hl.1 hl.2,h.z1,Nat.le_trans h.z2 hk.1.size⟩
 ·rcases e with e | e
  ·have:=h.two.nx.1;omega
  ·have:=h.two.nx.2 _ e;omega
 ·rcases e with e | e
  ·exact h.two.ne e.symm
  ·exact h.two.xy e
 ·rcases e with e | e
  ·exact h.two.yx (by rw[hb,e])
  ·exact h.two.oo b e hb
theorem HlS.move{S':List Nd5}{F:BSet}(h:HlS w1 z s bm cx cy fr l S Rx Ry vx vy W)(k:jac F W W')(hF:∀ b,F b→w1.heap.size≤b∧(b < z∨W.heap.size≤b))(hst:jas W' s bm 2000 S')(hM:HasM S' l)(hh:∀ t,HasS S t→HasS S' t):HlS w1 z s bm cx cy fr l S' Rx Ry vx vy W':=by
 have hx:=h.x.lt;have hy:=h.y.lt;have h1:=h.z1;have h2:=h.z2
 refine⟨h.ext.trans' k (fun b hb e=>?_),hst,hM,(h.x.keeps k (fun e=>?_) (fun b hb e=>?_)).mono hh,(h.y.keeps k (fun e=>?_) (fun b hb e=>?_)).mono hh,h.two,h.z1,Nat.le_trans h.z2 k.size⟩
 ·have:=(hF b e).1;omega
 ·have:=(hF _ e).2;have:=h.two.nx.1;omega
 ·have:=(hF _ e).2;have:=h.two.nx.2 _ hb;have:=hx.2 _ hb;omega
 ·have:=(hF _ e).2;have:=h.two.ny.1;omega
 ·have:=(hF _ e).2;have:=h.two.ny.2 _ hb;have:=hy.2 _ hb;omega
theorem HlS.add{w2:World}{S G:List Nd5}{L M:List ByteArray}{top:ByteArray}{Wa:World}{e:Ending}(hH:jdQ l w1 s bm S w2)(h:HlS w1 w2.heap.size s bm cx cy fr l S Rx Ry vx vy W)(hE:Ext W Wa)(hY:AddY Wa s bm 2000 S L top G M e W'):HlS w1 w2.heap.size s bm cx cy fr l (addS S G M top) Rx Ry vx vy W':=by
 refine (h.grow hE).move hY.kp (fun b hb=>?_) hY.st (joO h.has) (fun t ht=>jmc ht);have hl:=hH.st.ltz b hb
 refine⟨?_,.inl hl⟩
 rcases hb with rfl | hb
 ·exact hH.bnew
 ·obtain⟨y,hy,rfl⟩:=List.mem_map.1 hb
  exact hH.new y hy
theorem AddY.dropOk{w2:World}{S G:List Nd5}{L M:List ByteArray}{top:ByteArray}{Wa W0:World}{e:Ending}(hH:jdQ l W0 s bm S w2)(hL:L.length≤119)(hY:AddY Wa s bm 2000 S L top G M e W'):Cnt (addS S G M top)∧jiT (addS S G M top)∧(addS S G M top).length≤1000∧∀ x∈addS S G M top,x.2.2.held≤1000000:=by
 obtain⟨h1,h2⟩:=hY.cntS (by omega) hH.kp.cnt hH.kp.full
 refine⟨h1,h2,?_,fun x hx=>?_⟩
 ·have h3:=hY.len2
  have h4:=hH.len;omega
 ·have:=jmN (n:=1) hH.hb (by decide) hY.given x hx
  omega
theorem HlS.drop{w2:World}{S S2 G:List Nd5}{L M:List ByteArray}{top:ByteArray}{Wa W2 W3:World}{e:Ending}{y:Nd5}(hH:jdQ l w1 s bm S w2)(h:HlS w1 w2.heap.size s bm cx cy fr l S Rx Ry vx vy W)(hE:Ext W Wa)(hY:AddY Wa s bm 2000 S L top G M e W')(hE2:Ext W' W2)(hD:jtP W2 s bm 2000 (addS S G M top) S2 y W3)(hy:atL (addS S G M top) (shaB top).data.toList=some y):HlS w1 w2.heap.size s bm cx cy fr l S2 Rx Ry vx vy W3:=by
 have hst:jas W2 s bm 2000 (addS S G M top):=jas.ext hY.st hE2;have hM:HasM S2 l:=jp4 W hH hY hst hD hy;have hkeep:jac (fun b=>b=bm∨b∈(addS S G M top).map (·.2.1)) Wa W3:=((hY.kp.mono (G:=fun b=>b=bm∨b∈(addS S G M top).map (·.2.1)) (fun b _ e=>by
  rcases e with e | e
  ·exact .inl e
  ·right
   obtain⟨u,hu,rfl⟩:=List.mem_map.1 e
   rw[jcI];exact List.mem_map.2 ⟨_,List.mem_map.2 ⟨u,List.mem_append_left _ hu,rfl⟩,rfl⟩)).trans' hE2 (fun _ _ h=>h.elim)).trans hD.kp
 refine (h.grow hE).move hkeep (fun b hb=>?_) hD.st hM (fun t ht=>hM.has t (hH.only ht));have hz:=h.z1;have hz2:=h.z2;have hz3:=hE.size;have hnew:∀ q,(q=bm∨q∈S.map (·.2.1))→w1.heap.size≤q∧q < w2.heap.size:=fun q hq=>by
  refine⟨?_,hH.st.ltz q hq⟩
  rcases hq with rfl | hq
  ·exact hH.bnew
  ·obtain⟨y,hy,rfl⟩:=List.mem_map.1 hq
   exact hH.new y hy
 rcases hb with rfl | hb
 ·have:=hnew _ (.inl rfl);exact⟨this.1,.inl this.2⟩
 ·obtain⟨u,hu,rfl⟩:=List.mem_map.1 hb
  rcases hY.newS u hu with k | k
  ·have:=hnew _ (.inr k);exact⟨this.1,.inl this.2⟩
  ·exact⟨by omega,.inr k⟩
end
end
section
open Go Go.RowKit
attribute [local go_sem] Oper.semAt_some
def jqY(fr:ByteArray)(l:List Pair):List Pair:=absF (jbc fr) ⟨#[]⟩ (jaP l)
theorem jqz(x:ByteArray):(⟨#[]⟩:ByteArray)++x=x:=ByteArray.empty_append
theorem jm6(k:ByteArray):jcV (jbc k)=true:=by
 unfold jcV;rw[jed,jb9];simp
theorem HasM.ref{S:List Nd5}{l:List Pair}(h:HasM S l)(hn:l≠[]):jli (HasS S) ⟨#[]⟩ 12 (jaP l):=by
 have hr:=jbR (jaM h.ok)
 refine⟨hr,fun e=>hn (by unfold jaP at e;simpa using e),fun x hx _=>h.has x hx,fun q hq=>?_⟩
 rw[jqz]
 obtain⟨p,hp,rfl⟩:=List.mem_map.1 hq
 refine⟨jm6 _,?_⟩
 exact (hr.size _ (List.mem_map_of_mem hp)).2.1
theorem jop{S:List Nd5}{l:List Pair}(h:HasM S l)(fr:ByteArray):∃ N,N≤200∧jci (HasS S) (jbc fr) (layP (jbc fr) (jau (jad 12) (jaP l)) ⟨#[]⟩).reverse (jqY fr l) N:=by
 by_cases hn:l=[]
 ·subst hn
  exact⟨0,by omega,rfl,rfl⟩
 ·have hR:=h.ref hn
  obtain⟨N,h1,h2⟩:=jqc (jbc fr) hR
  have h3:=(jtA 12 (jaP l) hR.rows hR.ne).all;have h4:(jaP l).length=l.length:=by unfold jaP;rw[List.length_map]
  have h5:=(jaM h.ok).len
  exact⟨N,by omega,h2⟩
theorem Tryz.enterLay:∀ args w,(callFunc 96 args).run Tryz.prog w=.ok (.enter 96 args) w:=fun _ _=>by kernel_rfl
def jt4(S:List Nd5)(s:Nat)(fr:ByteArray)(l:List Pair)(W:World)(e:Ending)(w':World):Prop:=∃ c v,e=.returned (.tuple #[.pointer (some ⟨c,0,none⟩),.int .i64 0])∧W.heap.size≤c∧(∀ b,v.ownBlock=some b→W.heap.size≤b)∧Ext W w'∧jc3 S c s (jbc fr) (jqY fr l) w' v
theorem jh1(W:World)(s bm:Nat)(room:Int)(S:List Nd5)(fr:ByteArray)(l:List Pair)(hf:fr.size≤100000)(hM:HasM S l)(hs:jas W s bm room S) :
  Calls Tryz.prog 45 #[.pointer (some ⟨s,0,none⟩),.string (shaB (jaT l).text),.string fr] W (jt4 S s fr l W):=by
 obtain⟨y,hy1,hy2⟩:=hM.has _ (jgj (jaT l))
 have hg:=(good 12 (jaP l) (jbR (jaM hM.ok))).1;have htx:(jaT l).text=ja5 (jau (jad 12) (jaP l)):=rfl
 obtain⟨n,hn⟩:∃ n,n=jau (jad 12) (jaP l):=⟨_,rfl⟩
 obtain⟨t,ht⟩:∃ t,t=(jaT l).text:=⟨_,rfl⟩
 rw[←hn]at hg htx;rw[←ht]at hy1 hy2 htx ⊢;have hg1:=hg.one (inlP 12);have hsg:=fun w (h:jas w s bm room S)=>jh2 w s bm room S (shaB t) h;have hy1:atL S (shaB t).data.toList=some y:=hy1;rw[hy1]at hsg;have hye:(some y).map (fun z:Nd5=>z.2.2.text)=some t:=by rw[←hy2];rfl
 simp only[hye]at hsg;have HSG:=Hd hsg;have HS:=Hd hs;have HG:=Hd hg;have HTX:=Hd htx;have HRF:=Hd hg1.refs;have HKD:=Hd hg1.kind;have HPT:=Hd hg1.path;have HCL:=Hd (n.cells_len hg1.refs);have HST:=Hd (show ∃ N,N≤200∧jci (HasS S) (jbc fr) (layP (jbc fr) n ⟨#[]⟩).reverse (jqY fr l) N by rw[hn];exact jop hM fr)
 obtain⟨k,hk⟩:∃ k,k=shaB t:=⟨_,rfl⟩
 rw[←hk]at HSG ⊢;have hps:=jb9 fr;clear hM hs hy1 hy2 hg htx hn ht hsg hye hk hg1;go_enter Tryz.func45,Tryz.ntmps45;go_wp2_with fail
 refine (HSG.o W HS.o).mono ?_;rintro e w1 ⟨rfl,hE⟩;unfold optV;have HE1:=Hd hE;clear hE;go_wp2_with fail
 rw[HTX.o];refine (jhG (inlP 12) w1 n HG.o).mono ?_;rintro e w2 ⟨rfl,hE⟩;rw[←HTX.o];have HE2:=Hd (HE1.o.trans hE);clear hE HE1;unfold jaf.V;go_wp2_with (refine jaq Tryz.allocNode rfl rfl ?_;intro W5 hB5 hE5;refine jaj (vs:=n.cells) rfl rfl rfl rfl hB5 (by rw[HCL.o];rfl) (by rw[HCL.o];exact Tryz.szNode) n.one ?_;intro W6 hB6 hE6)
 have hX6:Ext w2 W6:=hE5.trans' hE6 (fun x hx e=>by have e:x=w2.heap.size:=e;omega);refine (jkQ W6 fr (by omega)).mono ?_;rintro e w7 ⟨rfl,hE⟩;have HE7:=Hd ((HE2.o.trans hX6).trans hE);have HB7:=Hd (hB6.keeps hE (fun h=>h))
 obtain⟨pf,hpf⟩:∃ pf,pf=jbc fr:=⟨_,rfl⟩
 have HPF:=Hd hpf;rw[←hpf]at HST hps ⊢;clear hE hX6 hB6 hE6 hE5 hB5 hpf;go_wp2_with fail
 obtain⟨W8,hW8⟩:∃ W8,W8=w7.alloc (.cells #[.pointer (some ⟨s,0,none⟩),.string pf,.slice none 0 0,.int .i64 1] 151):=⟨_,rfl⟩
 have hb8:Blk W8 w7.heap.size (.cells #[.pointer (some ⟨s,0,none⟩),.string pf,.slice none 0 0,.int .i64 ((1:Nat):Int)] 151):=by rw[hW8];exact Blk.new w7 _
 have hE8:Ext w7 W8:=by rw[hW8];exact (ExtR w7).alloc _
 have hL8:jbp W8 w7.heap.size s pf (.slice none 0 0) [] ((1:Nat):Int):=⟨hb8,World.ownsRow_nil _ _ _ _,fun e=>by cases e⟩;rw[←hW8];have HL8:=Hd hL8;have HE8:=Hd (HE7.o.trans hE8);have HZ7:=Hd HE7.o.size;have HB8:=Hd (HB7.o.keeps hE8 (fun h=>h));clear hW8 hb8 hE8 hL8 HB7 HE7;refine jar [0,1,2,3,4] [4] Ext ExtR ExtT (by kernel_rfl) (by kernel_rfl) (by kernel_rfl) ?_
 (refine jah _ rfl (by kernel_rfl) rfl rfl (fun K hK=>?_);go_big_quiet_op;refine hK _ ?_;clear hK K)
 refine jbw _ (.pointer (some ⟨w7.heap.size,0,none⟩)) rfl (by kernel_rfl) rfl (fun w1=>by kernel_rfl) ?_;simp only[Act.put,sA,sB,sC]
 (refine jah _ rfl (by kernel_rfl) rfl rfl (fun K hK=>?_);go_big_quiet_op;refine hK _ ?_;clear hK K)
 refine jaB ⟨w2.heap.size,0,none⟩ n.V rfl (by kernel_rfl) rfl rfl (fun w1 h1=>jaz w1 _ n HRF.o (HB8.o.keeps ((jak _).trans h1) (fun h=>h))) ?_;simp only[Act.put,sA,sB,sC];refine jba _ rfl (by kernel_rfl) rfl (fun w4 he K hK=>?_);have HX4:=Hd (show Ext W8 w4 from(jak _).trans he);clear he;refine jby (jaA Tryz.enterLay (by kernel_rfl)) ((jwE w4 w7.heap.size s pf (.slice none 0 0) [] ((1:Nat):Int) (HL8.o.ext HX4.o) (by simp) (by omega) n HKD.o HRF.o ⟨#[]⟩ (by have:=HPT.o;show 0+_≤_;omega)).mono ?_);rintro e w5 ⟨rfl,v5,hT5⟩
 refine⟨_,rfl,hK _ _ ?_⟩
 have HT5:=Hd hT5;clear hK K hT5;refine jbh (by kernel_rfl) (fun w6 he=>?_);have HT6:=Hd ((jbe.ahead HX4.o HT5.o).ext he);clear he HT5 HX4;simp only[Act.put,sA,sB,sC];go_wp2_with fail
 go_ret2
 obtain⟨N,hN,hst⟩:=HST.o
 rw[List.nil_append]at HT6;have hT6:=HT6.o;have hlen:=jqd pf n ⟨#[]⟩;have hrev:layP pf n ⟨#[]⟩=(layP pf n ⟨#[]⟩).reverse.reverse:=by simp
 rw[hrev]at hT6;rw[HPF.o]at hst hT6 hlen
 refine⟨w7.heap.size,v5,rfl,HZ7.o,fun b hb=>?_,HE8.o.trans' hT6.kp (fun x hx e=>?_),_,N,1,⟨?_,hst,by omega,by rw[List.length_reverse];omega⟩⟩
 ·rcases hT6.new with h1 | h1
  ·rw[h1]at hb;cases hb
  ·exact Nat.le_trans HE8.o.size (h1 b hb)
 ·rcases e with e | e
  ·have:=HZ7.o;omega
  ·cases e
 ·exact hT6.at'
theorem jvl(W:World)(s bm:Nat)(room:Int)(S:List Nd5)(root fr:ByteArray)(hs:jas W s bm room S)(hn:atL S root.data.toList=none) :
  Calls Tryz.prog 45 #[.pointer (some ⟨s,0,none⟩),.string root,.string fr] W fun e w'=>e=.returned (.tuple #[.pointer none,.int .i64 4])∧Ext W w':=by
 have hsg:=jh2 W s bm room S root hs;rw[hn]at hsg;have HSG:=Hd hsg;clear hs hn hsg;go_enter Tryz.func45,Tryz.ntmps45;go_wp2_with fail
 refine HSG.o.mono ?_;rintro e w1 ⟨rfl,hE⟩;rw[show optV ((none:Option Nd5).map (·.2.2.text))=.tuple #[.string ⟨#[]⟩,.bool false]from rfl];have HE1:=Hd hE;clear hE;go_wp2_with fail
 go_ret2
 exact⟨rfl,HE1.o⟩
end
end Go.Proofs.YtpaacnhboilkkaaGreatDoor
