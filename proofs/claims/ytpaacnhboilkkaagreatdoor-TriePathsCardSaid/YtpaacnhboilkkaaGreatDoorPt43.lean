/- Parts of the proof, one behind the other: ComB, TriB, WayE, FolA, TriC, FolB, TWorks, TWorksB, HoldK, NewA, StepPl, TGonePl, NodesR, TGone, KeepB, StoreBh, SameA, Same2, FewC. Each is under no condition but those that it states. -/
import Derived.Test.YtpaacnhboilkkaaGreatDoorPt40
import Derived.Test.YtpaacnhboilkkaaGreatDoorPt42
import Derived.Test.YtpaacnhboilkkaaGreatDoorPt38
import Derived.Test.YtpaacnhboilkkaaGreatDoorPt22
import Derived.Test.YtpaacnhboilkkaaGreatDoorPt39
import Derived.Test.YtpaacnhboilkkaaGreatDoorPt34
import Derived.Test.YtpaacnhboilkkaaGreatDoorPt28
import Derived.Test.YtpaacnhboilkkaaGreatDoorPt21
namespace Go.Proofs.YtpaacnhboilkkaaGreatDoor
set_option linter.unusedSimpArgs false
set_option linter.unusedVariables false
set_option maxRecDepth 100000
set_option maxHeartbeats 16000000
section
open Go Go.RowKit
theorem flat_below{m:List Pair}(h:checkN m=0):flatT (trieT m)=(trieT m).text :: belowM m:=by
 rw[below_is h];show flatT (.mk _ _)=_;rw[flatT];rfl
theorem part_new(S:List Nd5){m:List Pair}(h:checkN m=0):Part S m (newM S m):=
 ⟨h,rfl,fun t ht=>(firsts_mem _ _).2 (new_mem h ht),fun t ht=>by
  have ht:=(firsts_mem (flatT (trieT m)) t).1 ht
  rw[flat_below h]at ht
  unfold newM
  rcases List.mem_cons.1 ht with rfl | ht
  ·exact .inl List.mem_cons_self
  ·cases hl:lackB S t with
   | true=>exact .inl (List.mem_cons_of_mem _ (List.mem_filter.2 ⟨(firsts_mem _ _).2 ht,hl⟩))
   | false =>
    refine .inr (has_iff.1 ?_)
    unfold lackB at hl
    unfold ky
    cases ha:atL S (shaB t).data.toList with
    | none=>rw[ha]at hl;cases hl
    | some x=>rfl⟩
theorem AddK.ahead{w w1:World}{U:List ByteArray}{S:List Nd5}{m:List Pair}{L:List ByteArray}{S':List Nd5}(h:AddK w1 U S m L S')(hw:w.heap.size≤w1.heap.size):AddK w U S m L S':=
 ⟨h.kp,h.key,h.held,h.sum,h.len,fun x hx=>(h.blk x hx).imp id (fun e=>Nat.le_trans hw e),h.bd⟩
structure ComY(w:World)(s bm:Nat)(room:Int)(U:List ByteArray)(S:List Nd5)(m:List Pair)(L:List ByteArray)(e:Ending)(w':World)(S':List Nd5):Prop where
 res:e=.returned (.tuple #[.string (rootM m),.int .i64 0])
 st:StoreAt w' s bm room S'
 add:AddK w U S m L S'
 kp:Keeps (fun z=>z=bm∨z∈S.map (·.2.1)) w w'
 fits:(S'.length:Int)≤room∨room < S.length
def ComF(w:World)(room:Int)(S:List Nd5)(L:List ByteArray)(e:Ending)(w':World):Prop:=e=.returned (.tuple #[.string ⟨#[]⟩,.int .i64 3])∧Ext w w'∧room < (S.length:Int)+(L.length:Int)
theorem addgen_y(w0 w:World){U:List ByteArray}(hU:InjL U){S:List Nd5}(hK:Kp U S){m:List Pair}{L:List ByteArray}(hp:Part S m L)(hs:∀ t∈textsL m,t∈U)(hl:L.length≤1000){s bm:Nat}{room:Int}{e:Ending}{w':World}(hE:Ext w0 w)(h:AddGen False w s bm room S L e w') :
  ComF w0 room S L e w'∨∃ S',ComY w0 s bm room U S m L e w' S':=by
 rcases h with⟨k,hwhy,_,rfl,hE2⟩ |⟨top,G,M,htop,hY⟩
 ·obtain⟨rfl,h3⟩:=hp.why w hwhy
  exact .inl ⟨rfl,hE.trans hE2,h3⟩
 ·have htp:top=(trieT m).text:=by have:=hp.head;rw[htop]at this;exact Option.some.inj this
  subst htp
  refine .inr ⟨_,hY.res,hY.st,(hp.add w hU hK hs hl hY).ahead hE.size,(hE.mono (fun _ _ e=>e.elim)).trans hY.kp,?_⟩
  have h1:=hY.fits
  have h2:=len_add (S:=S) (G:=G) (M:=M) (top:=(trieT m).text)
  have h2:(bumpH (shaB (trieT m).text).data.toList (bumps ((frK S M).flatMap (refsO G)) (S++picks G (frK S M)))).length≤S.length+(frK S M).length:=h2
  omega
theorem com_y(w:World){U:List ByteArray}(hU:InjL U){S:List Nd5}(hK:Kp U S){l:List Pair}{cs:List Chg}(h0:applyE l cs=0)(hs:∀ t∈textsL (afterM l cs),t∈U){s bm:Nat}{room:Int}{e:Ending}{w':World}(h:ComP w s bm room S l cs e w') :
  ComF w room S (newM S (afterM l cs)) e w'∨∃ S',ComY w s bm room U S (afterM l cs) (newM S (afterM l cs)) e w' S':=by
 rcases h with⟨h1,_⟩ |⟨_,w1,hE,h⟩
 ·exact absurd h0 h1
 ·have hc:checkN (afterM l cs)=0:=after_check h0
  exact addgen_y w w1 hU hK (part_new S hc) hs (by have:=new_len (S:=S) hc;omega) hE h
theorem com_room(w:World){U:List ByteArray}(hU:InjL U){S:List Nd5}(hK:Kp U S){l:List Pair}{cs:List Chg}(h0:applyE l cs=0)(hs:∀ t∈textsL (afterM l cs),t∈U){s bm:Nat}{room:Int}{e:Ending}{w':World}(h:ComP w s bm room S l cs e w')(hr:(S.length:Int)+((newM S (afterM l cs)).length:Int)≤room) :
  ∃ S',ComY w s bm room U S (afterM l cs) (newM S (afterM l cs)) e w' S':=by
 rcases com_y w hU hK h0 hs h with⟨_,_,h3⟩ | h3
 ·omega
 ·exact h3
theorem AddK.more{w:World}{U:List ByteArray}(hU:InjL U){S:List Nd5}{m:List Pair}{L:List ByteArray}{S':List Nd5}(h:AddK w U S m L S'){l:List Pair}(hl:∀ t∈textsL l,t∈U)(hM:HasM S l):HasM S' l:=
 h.kp.has w hU hM.ok hl ((h.key _).2 (.inl (by
  obtain⟨x,hx,_⟩:=hM.has _ (text_mem _)
  exact has_iff.1 (by rw[hx];rfl))))
theorem AddK.has{w:World}{U:List ByteArray}(hU:InjL U){S:List Nd5}{m:List Pair}{L:List ByteArray}{S':List Nd5}(h:AddK w U S m L S')(hm:checkN m=0)(hl:∀ t∈textsL m,t∈U):HasM S' m:=
 h.kp.has w hU hm hl ((h.key _).2 (.inr ⟨_,List.mem_of_getElem? (texts hm).head,rfl⟩))
end
section
open Go Go.RowKit
attribute [local go_sem] Oper.semAt_some
theorem drewNE(w:World)(n:Nat):Ext w (w.drewN n):=(ExtR w).drewN n
def FoRel(z g L:Nat)(v:Value)(W:World)(S:List Nd5)(A:List ByteArray)(V:Option ByteArray)(okv pv:Value)(wr:World):Prop:=
 ∃ (p:ByteArray) (T:List ByteArray) (v':Value),pv=.string p∧MetTo z g v W wr v' T∧v'.ownBlock≠some L ∧
  ((okv=.bool true∧∃ f l,RowsOk f l∧validN p=true∧p.size≤2000∧T++wayL f l p=A∧valL l p=V∧Blk wr L (.cells (nodeF (buildT f) l).cells.toArray 144)∧(∀ x∈flatT (buildT (f+1) l),32≤x.size→HasS S x)) ∨
  (okv=.bool false∧T=A∧V=none))
def foM:Value→Value→Nat | .bool true,pv=>strSz pv+1 | _,_=>0
def folV:Option ByteArray→Value | some u=>.tuple #[.string u,.int .i64 0] | none=>.tuple #[.string ⟨#[]⟩,.int .i64 9]
def FoPost(z g:Nat)(v:Value)(W:World)(A:List ByteArray)(V:Option ByteArray)(e:Ending)(w':World):Prop:=e=.returned (folV V)∧∃ v',MetTo z g v W w' v' A
theorem follow8_c(w0 W:World)(s bm:Nat)(room:Int)(S:List Nd5)(hs:StoreAt w0 s bm room S)(hE0:Ext w0 W)(g:Nat)(v:Value)(h:MetAt w0.heap.size g v [] W)(l:List Pair)(hM:HasM S l)(key:ByteArray)(hk:key.size≤1000) :
  Calls Tryz.prog 60 #[.pointer (some ⟨s,0,none⟩),.string (shaB (trieT l).text),.string key,.func (.func 63) #[] #[.pointer (some ⟨g,0,none⟩)]] W (FoPost w0.heap.size g v W ((trieT l).text :: wayL 12 (rowsL l) (pathB key)) (valL (rowsL l) (pathB key))):=by
 have HS:=Hd hs
 have HE0:=Hd hE0
 have HM:=Hd h
 have hrows:=rows_ok (check_ok hM.ok)
 have HROWS:=Hd hrows
 have hgood:=(good 12 (rowsL l) hrows).1
 obtain⟨n,hn⟩:∃ n,n=nodeF (buildT 12) (rowsL l):=⟨_,rfl⟩
 rw[←hn]at hgood
 have hat:=at8_c w0 W s bm room S hs hE0 g v [] h (by simp) (trieT l).text (hM.has _ (text_mem _)) 12 n hgood (by rw[hn];rfl)
 have HAT:=Hd hat
 have HL:=Hd (n.cells_len (hgood.one (inlP 12)).refs)
 have HAS:=Hd hM.has
 have HN:=Hd hn
 have HK:=Hd hk
 obtain⟨A,hA⟩:∃ A,A=(trieT l).text :: wayL 12 (rowsL l) (pathB key):=⟨_,rfl⟩
 obtain⟨V,hV⟩:∃ V,V=valL (rowsL l) (pathB key):=⟨_,rfl⟩
 have HA:=Hd hA
 have HV:=Hd hV
 rw[←hA, ←hV]
 obtain⟨k0,hk0⟩:∃ k,k=shaB (trieT l).text:=⟨_,rfl⟩
 rw[←hk0]at HAT ⊢
 clear hs hE0 h hrows hgood hn hat hM hk hA hV hk0
 go_enter Tryz.func60,Tryz.ntmps60
 go_wp2_with fail
 refine HAT.out.mono ?_
 rintro e w1 ⟨rfl,v1,hT1⟩
 have HT1:=Hd hT1
 clear hT1
 unfold NodeT.V
 go_wp2_with (first |(refine wpList_new Tryz.allocNode rfl rfl ?_;intro W5 hB5 hE5;refine wpList_fill (vs:=n.cells) rfl rfl rfl rfl hB5 (by rw[HL.out];rfl) (by rw[HL.out];exact Tryz.szNode) n.one ?_;intro W6 hB6 hE6))
 refine (path_c _ key (by have:=HK.out;omega)).mono ?_
 rintro e w7 ⟨rfl,hE⟩
 have hX6:Ext w1 W6:=hE5.trans' hE6 (fun x hx e=>by have e:x=w1.heap.size:=e;omega)
 have HT7:=Hd ((HT1.out.ext hX6).ext hE)
 have HB7:=Hd (hB6.keeps hE (fun h=>h))
 have HLN:=Hd (show w1.heap.size≠g∧v1.ownBlock≠some w1.heap.size from⟨by have:=HT1.out.at'.var.lt;omega,fun e=>by have:=(HT1.out.at'.own _ e).2.2;omega⟩)
 have HLW:=Hd (show W.heap.size≤w1.heap.size from HT1.out.kp.size)
 obtain⟨L,hL⟩:∃ L,L=w1.heap.size:=⟨_,rfl⟩
 rw[←hL]at HB7 HLN HLW ⊢
 clear hL hE hX6 hB5 hE5 hB6 hE6
 obtain⟨pk,hpk⟩:∃ pk,pk=pathB key:=⟨_,rfl⟩
 have HPK:=Hd hpk
 rw[←hpk]
 clear hpk
 go_wp2_with fail
 go_loopw [11,12] (fun okv pv wr=>FoRel w0.heap.size g L v W S A V okv pv wr) (fun okv pv _=>foM okv pv)
 case atStart =>
  refine⟨pk,_,v1,rfl,HT7.out,HLN.out.2,.inl ⟨rfl,12,rowsL l,HROWS.out,by rw[HPK.out];exact path_valid key,by rw[HPK.out,path_size];have:=HK.out;omega,?_,by rw[HPK.out, ←HV.out],by rw[←HN.out];exact HB7.out,fun x hx _=>HAS.out x hx⟩⟩
  rw[HA.out,HPK.out];rfl
 case round =>
  obtain⟨p,T,v',rfl,hT,hown,hc⟩:=hrel
  have HT:=Hd hT
  have HOW:=Hd hown
  have HE:=Hd (HT.out.ext0 HM.out HE0.out (Nat.le_refl _))
  clear hT hown
  rcases hc with⟨rfl,f,l',h1,h2,h3,h4,h5,h6,h7⟩ |⟨rfl,h1,h2⟩
  case inr =>
   have HF:=Hd (And.intro h1 h2)
   clear h1 h2
   go_wp2_with fail
   go_ret2
   refine⟨by rw[HF.out.2];rfl,v',?_⟩
   rw[←HF.out.1];exact HT.out
  case inl =>
   have HC:=Hd (And.intro h1 (And.intro h2 (And.intro h3 (And.intro h4 (And.intro h5 h7)))))
   have hgd:=(good f l' h1).1
   obtain⟨⟨k,pa,va,rs⟩,hn⟩:∃ n,n=nodeF (buildT f) l':=⟨_,rfl⟩
   rw[←hn]at hgd h6
   have HGD:=Hd hgd
   have HB:=Hd h6
   have HNN:=Hd hn
   have hk3:k≤3:=(hgd.one (inlP f)).kind
   have hrs:rs.length=16:=(hgd.one (inlP f)).refs
   have hps:pa.size≤12:=(hgd.one (inlP f)).path
   have HRS:=Hd hrs
   have HCL:=Hd (NodeT.cells_len ⟨k,pa,va,rs⟩ hrs)
   have hE7:p.size≤1000000:=by omega
   have q0:=h6.cellL (i:=0) (v:=.int .i64 k) (by rfl)
   have q1:=h6.cellL (i:=1) (v:=.string pa) (by rfl)
   have q2:=h6.cellL (i:=2) (v:=.string va) (by rfl)
   have Q3:=Hd (show ∀ i r,rs[i]?=some r→wr.cell? ⟨L,3+i,none⟩=some (.string r)from fun i r hi=>h6.cellL (i:=3+i) (v:=.string r) (by
    show (_ :: _ :: _ :: rs.map Value.string)[3+i]?=_
    rw[show 3+i=i+1+1+1 by omega]
    simp[hi]))
   clear hn hrs h1 h2 h4 h5 h6 h7 hgd
   have hem:(⟨#[]⟩:ByteArray).toList.isEmpty=true:=by rw[ByteArray.toList_eq];rfl
   cases hg:goL l' p with
   | none =>
    obtain⟨s1,s2⟩:=go_none HC.out.1 HC.out.2.1 hg
    rw[←HNN.out]at s1 s2
    have hwn:wayL f l' p=[]:=by
     cases f with
     | zero=>rfl
     | succ f=>exact way_none hg
    have HTA:=Hd (show T=A by rw[←HC.out.2.2.2.1,hwn,List.append_nil])
    have HVV:=Hd (show V=claimN ⟨k,pa,va,rs⟩ p by rw[s2,HC.out.2.2.2.2.1])
    clear hwn hg s2
    cases hcl:claimN ⟨k,pa,va,rs⟩ p with
    | some u =>
     rw[hcl]at HVV
     have HST:=Hd (step_is hcl)
     clear s1 hcl
     rcases HST.out with⟨rfl,rfl,rfl⟩ |⟨rfl,rfl,rfl,hz⟩
     ·have q0':wr.cell? ⟨L,0,none⟩=some (.int .i64 1):=q0
      clear q0
      go_wp2_with fail
      go_ret2
      refine⟨by rw[HVV.out];rfl,v',by rw[←HTA.out];exact HT.out⟩
     ·have q0':wr.cell? ⟨L,0,none⟩=some (.int .i64 3):=q0
      have hve:va.toList.isEmpty=false:=by
       rw[Bool.eq_false_iff]
       intro e
       rw[List.isEmpty_iff,ByteArray.toList_eq]at e
       exact hz (by rw[←size_list,e];rfl)
      clear q0
      go_wp2_with fail
      go_ret2
      refine⟨by rw[HVV.out];rfl,v',by rw[←HTA.out];exact HT.out⟩
    | none =>
     rw[hcl]at HVV
     have HNO:=Hd (step_no HGD.out HC.out.2.1 s1 hcl)
     clear s1 hcl
     rcases HNO.out with rfl |⟨rfl,hne⟩ |⟨rfl,hpre⟩ |⟨rfl,rfl,rfl⟩ |⟨rfl,x,t,hx,hr⟩
     ·have q0':wr.cell? ⟨L,0,none⟩=some (.int .i64 0):=q0
      clear q0
      go_wp2_with fail
      refine (hash_empty _).mono ?_
      rintro e w2 ⟨rfl,hE⟩
      have HE2:Hid (Ext wr w2):=Hd (by first | exact hE | exact (drewNE _ _).trans hE)
      clear hE
      go_wp2_with fail
      refine (inl_empty w2).mono ?_
      rintro e w3 ⟨rfl,hE⟩
      have HE3:=Hd (HE2.out.trans hE)
      have hB3:=HB.out.keeps HE3.out (fun h=>h)
      clear hE HE2
      unfold NodeT.V
      go_wp2_with (refine wpList_fill (vs:=emptyN.cells) rfl rfl rfl rfl hB3 (by rw[HCL.out];rfl) (by first | exact Tryz.szNode |(rw[HCL.out];exact Tryz.szNode)) emptyN.one ?_;intro W8 hB8 hE8)
      go_roundw
      case rel=>exact⟨_,T,v',rfl,(HT.out.ext HE3.out).fill hE8 HLN.out.1 HOW.out HLW.out,HOW.out,.inr ⟨rfl,HTA.out,HVV.out⟩⟩
      case measure=>simp[foM]
     ·have q0':wr.cell? ⟨L,0,none⟩=some (.int .i64 1):=q0
      have hne:=toList_ne hne
      clear q0
      go_wp2_with fail
      refine (hash_empty _).mono ?_
      rintro e w2 ⟨rfl,hE⟩
      have HE2:Hid (Ext wr w2):=Hd (by first | exact hE | exact (drewNE _ _).trans hE)
      clear hE
      go_wp2_with fail
      refine (inl_empty w2).mono ?_
      rintro e w3 ⟨rfl,hE⟩
      have HE3:=Hd (HE2.out.trans hE)
      have hB3:=HB.out.keeps HE3.out (fun h=>h)
      clear hE HE2
      unfold NodeT.V
      go_wp2_with (refine wpList_fill (vs:=emptyN.cells) rfl rfl rfl rfl hB3 (by rw[HCL.out];rfl) (by first | exact Tryz.szNode |(rw[HCL.out];exact Tryz.szNode)) emptyN.one ?_;intro W8 hB8 hE8)
      go_roundw
      case rel=>exact⟨_,T,v',rfl,(HT.out.ext HE3.out).fill hE8 HLN.out.1 HOW.out HLW.out,HOW.out,.inr ⟨rfl,HTA.out,HVV.out⟩⟩
      case measure=>simp[foM]
     ·have q0':wr.cell? ⟨L,0,none⟩=some (.int .i64 2):=q0
      have HPR:=Hd hpre
      clear q0 hpre
      go_wp2_with fail
      refine (hasPrefix_c _ p pa (by omega) (by omega)).mono ?_
      rintro e w1' ⟨rfl,hw1⟩
      rw[hw1]
      clear hw1
      rw[HPR.out]
      go_wp2_with fail
      refine (hash_empty _).mono ?_
      rintro e w2 ⟨rfl,hE⟩
      have HE2:Hid (Ext wr w2):=Hd (by first | exact hE | exact (drewNE _ _).trans hE)
      clear hE
      go_wp2_with fail
      refine (inl_empty w2).mono ?_
      rintro e w3 ⟨rfl,hE⟩
      have HE3:=Hd (HE2.out.trans hE)
      have hB3:=HB.out.keeps HE3.out (fun h=>h)
      clear hE HE2
      unfold NodeT.V
      go_wp2_with (refine wpList_fill (vs:=emptyN.cells) rfl rfl rfl rfl hB3 (by rw[HCL.out];rfl) (by first | exact Tryz.szNode |(rw[HCL.out];exact Tryz.szNode)) emptyN.one ?_;intro W8 hB8 hE8)
      go_roundw
      case rel=>exact⟨_,T,v',rfl,(HT.out.ext HE3.out).fill hE8 HLN.out.1 HOW.out HLW.out,HOW.out,.inr ⟨rfl,HTA.out,HVV.out⟩⟩
      case measure=>simp[foM]
     ·have q0':wr.cell? ⟨L,0,none⟩=some (.int .i64 3):=q0
      clear q0
      go_wp2_with fail
      refine (hash_empty _).mono ?_
      rintro e w2 ⟨rfl,hE⟩
      have HE2:Hid (Ext wr w2):=Hd (by first | exact hE | exact (drewNE _ _).trans hE)
      clear hE
      go_wp2_with fail
      refine (inl_empty w2).mono ?_
      rintro e w3 ⟨rfl,hE⟩
      have HE3:=Hd (HE2.out.trans hE)
      have hB3:=HB.out.keeps HE3.out (fun h=>h)
      clear hE HE2
      unfold NodeT.V
      go_wp2_with (refine wpList_fill (vs:=emptyN.cells) rfl rfl rfl rfl hB3 (by rw[HCL.out];rfl) (by first | exact Tryz.szNode |(rw[HCL.out];exact Tryz.szNode)) emptyN.one ?_;intro W8 hB8 hE8)
      go_roundw
      case rel=>exact⟨_,T,v',rfl,(HT.out.ext HE3.out).fill hE8 HLN.out.1 HOW.out HLW.out,HOW.out,.inr ⟨rfl,HTA.out,HVV.out⟩⟩
      case measure=>simp[foM]
     ·have q0':wr.cell? ⟨L,0,none⟩=some (.int .i64 3):=q0
      obtain⟨h0,hx0⟩:=first_is hx
      have hx16:x.toNat < 16:=nib_lt (p:=(p,p)) HC.out.2.1 hx
      have q3:=Q3.out _ _ hr
      rw[←hx0]at q3 hx16
      have hpe:p.toList.isEmpty=false:=by
       rw[Bool.eq_false_iff]
       intro e
       rw[List.isEmpty_iff,ByteArray.toList_eq]at e
       rw[hx]at e;cases e
      have c1:(0:Int) < (p.size:Int):=by omega
      have c2:((p[0]'h0).toNat:Int) < 16:=by omega
      have c3:(1:Int)≤(p.size:Int):=by omega
      clear q0 hx hr hx0
      go_wp2_with fail
      go_quiet (fail)
      go_wp2_with fail
      refine (hash_empty _).mono ?_
      rintro e w2 ⟨rfl,hE⟩
      have HE2:Hid (Ext wr w2):=Hd (by first | exact hE | exact (drewNE _ _).trans hE)
      clear hE
      go_wp2_with fail
      refine (inl_empty w2).mono ?_
      rintro e w3 ⟨rfl,hE⟩
      have HE3:=Hd (HE2.out.trans hE)
      have hB3:=HB.out.keeps HE3.out (fun h=>h)
      clear hE HE2
      unfold NodeT.V
      go_wp2_with (refine wpList_fill (vs:=emptyN.cells) rfl rfl rfl rfl hB3 (by rw[HCL.out];rfl) (by first | exact Tryz.szNode |(rw[HCL.out];exact Tryz.szNode)) emptyN.one ?_;intro W8 hB8 hE8)
      go_roundw
      case rel=>exact⟨_,T,v',rfl,(HT.out.ext HE3.out).fill hE8 HLN.out.1 HOW.out HLW.out,HOW.out,.inr ⟨rfl,HTA.out,HVV.out⟩⟩
      case measure=>simp[foM]
   | some mq =>
    obtain⟨m,q⟩:=mq
    cases f with
    | zero=>rw[way_zero HC.out.1]at hg;cases hg
    | succ f =>
     have hK:=go_some HC.out.1 HC.out.2.1 hg
     have hst:=(good f m hK.rows).2.1 hK.ne
     have hpos:=ref_pos hK.rows hK.ne
     have hstep:=hK.step
     rw[←HNN.out]at hstep
     have hy:=step_yes HGD.out HC.out.2.1 hstep hpos
     have hway:=way_some (f:=f) hg
     obtain⟨tx,htx⟩:∃ tx,tx=(buildT (f+1) m).text:=⟨_,rfl⟩
     obtain⟨m',hm'⟩:∃ m',m'=nodeF (buildT f) m:=⟨_,rfl⟩
     obtain⟨rt,hrt⟩:∃ rt,rt=refB (buildT (f+1) m).text:=⟨_,rfl⟩
     have HMM:=Hd hm'
     have HMG:=Hd (show GoodW (InlD f) m' by rw[hm'];exact hst.good)
     have HML:=Hd (m'.cells_len (HMG.out.one (inlP f)).refs)
     have HTX:=Hd (show tx=nodeB m' by rw[htx,hm'];exact hst.text)
     rw[←hrt]at hy
     have HY:=Hd hy
     have HK2:=Hd hK
     have HTN:=Hd (show T.length≤100000 by have h8:=congrArg List.length HC.out.2.2.2.1;rw[HA.out,List.length_append,List.length_cons]at h8;have:=way_len 12 (rowsL l) (pathB key);omega)
     by_cases hz:(buildT (f+1) m).text.size < 32
     ·have hI:=hst.may.2 hz
      obtain⟨qh,h1,h2⟩:=(inlP (f+1)).nohash _ _ hI
      rw[←hrt]at h1 h2 hI
      have HH:=Hd (And.intro h1 h2)
      have HRZ:=Hd (show rt.size≤1000000000 by rw[hrt,refB_small hz];omega)
      have HIN:=Hd (fun w=>(inlP (f+1)).inl _ _ hI w)
      rw[←hm']at HIN
      have HWY:=Hd (show wayL (f+1) l' p=wayL f m q by rw[hway];unfold bigs;rw[if_pos hz];rfl)
      clear hK hst hpos hstep hy hway htx hm' hrt hI h1 h2 hz hg
      rcases HY.out with⟨rfl,hpre,hr,rfl,hle⟩ |⟨rfl,x,t,hx,hr,rfl⟩
      ·have q0':wr.cell? ⟨L,0,none⟩=some (.int .i64 2):=q0
       have HPR:=Hd hpre
       have q3:=Q3.out 0 _ hr
       have c1:(pa.size:Int)≤(p.size:Int):=by omega
       clear q0 hpre hr hle
       go_wp2_with fail
       refine (hasPrefix_c _ p pa (by omega) (by omega)).mono ?_
       rintro e w1' ⟨rfl,hw1⟩
       rw[hw1]
       clear hw1
       rw[HPR.out]
       go_wp2_with fail
       go_quiet (fail)
       go_wp2_with fail
       refine (hash_c _ rt qh HRZ.out HH.out.1).mono ?_
       rintro e w2 ⟨rfl,hE⟩
       rw[HH.out.2]
       have HE2:Hid (Ext wr w2):=Hd (by first | exact hE | exact (drewNE _ _).trans hE)
       clear hE
       unfold optV
       go_wp2_with fail
       refine (HIN.out w2).mono ?_
       rintro e w3 ⟨rfl,hE⟩
       have HE3:=Hd (HE2.out.trans hE)
       have hB3:=HB.out.keeps HE3.out (fun h=>h)
       clear hE HE2
       unfold NodeT.V
       go_wp2_with (refine wpList_fill (vs:=m'.cells) rfl rfl rfl rfl hB3 (by rw[HCL.out,HML.out]) (by rw[HML.out];exact Tryz.szNode) m'.one ?_;intro W8 hB8 hE8)
       go_roundw
       case rel=>exact⟨_,T,v',rfl,(HT.out.ext HE3.out).fill hE8 HLN.out.1 HOW.out HLW.out,HOW.out,.inl ⟨rfl,f,m,HK2.out.rows,HK2.out.valid,by have:=HK2.out.less;have:=HC.out.2.2.1;omega,by rw[←HWY.out];exact HC.out.2.2.2.1,by rw[HK2.out.find];exact HC.out.2.2.2.2.1,by rw[←HMM.out];exact hB8,fun x hx h32=>HC.out.2.2.2.2.2 x (HK2.out.flat x hx h32) h32⟩⟩
       case measure=>have h9:=HK2.out.less;simp only[foM,strSz];omega
      ·have q0':wr.cell? ⟨L,0,none⟩=some (.int .i64 3):=q0
       obtain⟨h0,hx0⟩:=first_is hx
       have hx16:x.toNat < 16:=nib_lt (p:=(p,p)) HC.out.2.1 hx
       have q3:=Q3.out _ _ hr
       rw[←hx0]at q3 hx16
       have hpe:p.toList.isEmpty=false:=by
        rw[Bool.eq_false_iff]
        intro e
        rw[List.isEmpty_iff,ByteArray.toList_eq]at e
        rw[hx]at e;cases e
       have c1:(0:Int) < (p.size:Int):=by omega
       have c2:((p[0]'h0).toNat:Int) < 16:=by omega
       have c3:(1:Int)≤(p.size:Int):=by omega
       clear q0 hx hr hx0
       go_wp2_with fail
       go_quiet (fail)
       go_wp2_with fail
       refine (hash_c _ rt qh HRZ.out HH.out.1).mono ?_
       rintro e w2 ⟨rfl,hE⟩
       rw[HH.out.2]
       have HE2:Hid (Ext wr w2):=Hd (by first | exact hE | exact (drewNE _ _).trans hE)
       clear hE
       unfold optV
       go_wp2_with fail
       refine (HIN.out w2).mono ?_
       rintro e w3 ⟨rfl,hE⟩
       have HE3:=Hd (HE2.out.trans hE)
       have hB3:=HB.out.keeps HE3.out (fun h=>h)
       clear hE HE2
       unfold NodeT.V
       go_wp2_with (refine wpList_fill (vs:=m'.cells) rfl rfl rfl rfl hB3 (by rw[HCL.out,HML.out]) (by rw[HML.out];exact Tryz.szNode) m'.one ?_;intro W8 hB8 hE8)
       go_roundw
       case rel=>exact⟨_,T,v',rfl,(HT.out.ext HE3.out).fill hE8 HLN.out.1 HOW.out HLW.out,HOW.out,.inl ⟨rfl,f,m,HK2.out.rows,HK2.out.valid,by have:=HK2.out.less;have:=HC.out.2.2.1;omega,by rw[←HWY.out];exact HC.out.2.2.2.1,by rw[HK2.out.find];exact HC.out.2.2.2.2.1,by rw[←HMM.out];exact hB8,fun x hx h32=>HC.out.2.2.2.2.2 x (HK2.out.flat x hx h32) h32⟩⟩
       case measure=>have h9:=HK2.out.less;simp only[foM,strSz];omega
     ·obtain⟨qh,h1,h2⟩:=hash_text (shaB tx) (shaB_size _)
      have hrt2:rt=textB (shaB tx):=by rw[hrt,refB_big hz,htx]
      rw[←hrt2]at h1 h2
      have HH:=Hd (And.intro h1 h2)
      have HRZ:=Hd (show rt.size≤1000000000 by rw[hrt2];have:=textB_size (shaB tx);have:=shaB_size tx;omega)
      have HWY:=Hd (show wayL (f+1) l' p=tx :: wayL f m q by rw[hway,htx];unfold bigs;rw[if_neg hz];rfl)
      have HHS:=Hd (show HasS S tx from HC.out.2.2.2.2.2 tx (by rw[htx];exact hK.flat _ (text_mem _) (by omega)) (by rw[htx];omega))
      clear hK hst hpos hstep hy hway htx hm' hrt h1 h2 hz hg hrt2
      rcases HY.out with⟨rfl,hpre,hr,rfl,hle⟩ |⟨rfl,x,t,hx,hr,rfl⟩
      ·have q0':wr.cell? ⟨L,0,none⟩=some (.int .i64 2):=q0
       have HPR:=Hd hpre
       have q3:=Q3.out 0 _ hr
       have c1:(pa.size:Int)≤(p.size:Int):=by omega
       clear q0 hpre hr hle
       go_wp2_with fail
       refine (hasPrefix_c _ p pa (by omega) (by omega)).mono ?_
       rintro e w1' ⟨rfl,hw1⟩
       rw[hw1]
       clear hw1
       rw[HPR.out]
       go_wp2_with fail
       go_quiet (fail)
       go_wp2_with fail
       refine (hash_c _ rt qh HRZ.out HH.out.1).mono ?_
       rintro e w2 ⟨rfl,hE⟩
       rw[HH.out.2]
       have HE2:Hid (Ext wr w2):=Hd (by first | exact hE | exact (drewNE _ _).trans hE)
       have HT2:=Hd (HT.out.ext HE2.out)
       clear hE
       unfold optV
       go_wp2_with fail
       refine (at8_c w0 w2 s bm room S HS.out (HE.out.trans HE2.out) g v' T HT2.out.at' (by have:=HTN.out;omega) tx HHS.out f m' HMG.out HTX.out).mono ?_
       rintro e w3 ⟨rfl,v3,hT3⟩
       have hB3:=hT3.blk (HB.out.keeps HE2.out (fun h=>h)) HLN.out.1 HOW.out
       have HOW3:=Hd (show v3.ownBlock≠some L from fun e=>by
        rcases hT3.sub L e with e | e
        ·exact HOW.out e
        ·have:=HB.out.lt;have:=HE2.out.size;omega)
       have HT3:=Hd (HT2.out.trans hT3)
       clear hT3 HE2 HT2
       unfold NodeT.V
       go_wp2_with (refine wpList_fill (vs:=m'.cells) rfl rfl rfl rfl hB3 (by rw[HCL.out,HML.out]) (by rw[HML.out];exact Tryz.szNode) m'.one ?_;intro W8 hB8 hE8)
       go_roundw
       case rel=>exact⟨_,_,v3,rfl,HT3.out.fill hE8 HLN.out.1 HOW3.out HLW.out,HOW3.out,.inl ⟨rfl,f,m,HK2.out.rows,HK2.out.valid,by have:=HK2.out.less;have:=HC.out.2.2.1;omega,by have h9:=HC.out.2.2.2.1;rw[HWY.out]at h9;rw[List.append_assoc];exact h9,by rw[HK2.out.find];exact HC.out.2.2.2.2.1,by rw[←HMM.out];exact hB8,fun x hx h32=>HC.out.2.2.2.2.2 x (HK2.out.flat x hx h32) h32⟩⟩
       case measure=>have h9:=HK2.out.less;simp only[foM,strSz];omega
      ·have q0':wr.cell? ⟨L,0,none⟩=some (.int .i64 3):=q0
       obtain⟨h0,hx0⟩:=first_is hx
       have hx16:x.toNat < 16:=nib_lt (p:=(p,p)) HC.out.2.1 hx
       have q3:=Q3.out _ _ hr
       rw[←hx0]at q3 hx16
       have hpe:p.toList.isEmpty=false:=by
        rw[Bool.eq_false_iff]
        intro e
        rw[List.isEmpty_iff,ByteArray.toList_eq]at e
        rw[hx]at e;cases e
       have c1:(0:Int) < (p.size:Int):=by omega
       have c2:((p[0]'h0).toNat:Int) < 16:=by omega
       have c3:(1:Int)≤(p.size:Int):=by omega
       clear q0 hx hr hx0
       go_wp2_with fail
       go_quiet (fail)
       go_wp2_with fail
       refine (hash_c _ rt qh HRZ.out HH.out.1).mono ?_
       rintro e w2 ⟨rfl,hE⟩
       rw[HH.out.2]
       have HE2:Hid (Ext wr w2):=Hd (by first | exact hE | exact (drewNE _ _).trans hE)
       have HT2:=Hd (HT.out.ext HE2.out)
       clear hE
       unfold optV
       go_wp2_with fail
       refine (at8_c w0 w2 s bm room S HS.out (HE.out.trans HE2.out) g v' T HT2.out.at' (by have:=HTN.out;omega) tx HHS.out f m' HMG.out HTX.out).mono ?_
       rintro e w3 ⟨rfl,v3,hT3⟩
       have hB3:=hT3.blk (HB.out.keeps HE2.out (fun h=>h)) HLN.out.1 HOW.out
       have HOW3:=Hd (show v3.ownBlock≠some L from fun e=>by
        rcases hT3.sub L e with e | e
        ·exact HOW.out e
        ·have:=HB.out.lt;have:=HE2.out.size;omega)
       have HT3:=Hd (HT2.out.trans hT3)
       clear hT3 HE2 HT2
       unfold NodeT.V
       go_wp2_with (refine wpList_fill (vs:=m'.cells) rfl rfl rfl rfl hB3 (by rw[HCL.out,HML.out]) (by rw[HML.out];exact Tryz.szNode) m'.one ?_;intro W8 hB8 hE8)
       go_roundw
       case rel=>exact⟨_,_,v3,rfl,HT3.out.fill hE8 HLN.out.1 HOW3.out HLW.out,HOW3.out,.inl ⟨rfl,f,m,HK2.out.rows,HK2.out.valid,by have:=HK2.out.less;have:=HC.out.2.2.1;omega,by have h9:=HC.out.2.2.2.1;rw[HWY.out]at h9;rw[List.append_assoc];exact h9,by rw[HK2.out.find];exact HC.out.2.2.2.2.1,by rw[←HMM.out];exact hB8,fun x hx h32=>HC.out.2.2.2.2.2 x (HK2.out.flat x hx h32) h32⟩⟩
       case measure=>have h9:=HK2.out.less;simp only[foM,strSz];omega
end
section
open Go Go.RowKit
theorem step_ref{d:Nat}{n:NodeT}{p r q:ByteArray}(hg:GoodW (InlD d) n)(hp:validN p=true)(hs:stepN n p=(r,q))(hr:r.size≠0):MayP (InlD d) r∧q.size < p.size∧validN q=true:=by
 obtain⟨k,pa,va,rs⟩:=n
 have hy:=step_yes hg hp hs hr
 rcases hy with⟨rfl,h1,h2,rfl,h3⟩ |⟨rfl,x,t,h1,h2,rfl⟩
 ·cases hg with
  | ext p' r' a1 a2 a3 =>
   have e:r'=r:=Option.some.inj h2
   subst e
   have hps:1≤pa.size:=by
    unfold NodeT.pathOk at a1
    simp only[Bool.and_eq_true,decide_eq_true_eq]at a1
    exact a1.1.1
   refine⟨a3.imp id (fun ⟨m,h,_⟩=>⟨m,h⟩),by rw[ext_size];omega,valid_ext hp _ _⟩
 ·cases hg with
  | branch v rs a1 a2 a3 a4 =>
   have hps:0 < p.size:=by
    have:=congrArg List.length h1
    rw[size_list]at this;simp at this;omega
   exact⟨a3 r (List.mem_of_getElem? h2) hr,by rw[ext_size];omega,valid_ext hp _ _⟩
end
section
open Go Go.RowKit
attribute [local go_sem] Oper.semAt_some
theorem get1_c(W:World)(x:ByteArray):Calls Tryz.prog 61 #[.string x] W fun e w'=>e=.returned (.tuple #[])∧w'=W:=by
 go_enter Tryz.func61,Tryz.ntmps61
 go_wp2_with fail
 refine bodyPost_end (results_none rfl _ _ _) rfl ?_
 exact⟨rfl,rfl⟩
theorem at_get(W:World)(s bm:Nat)(room:Int)(S:List Nd5)(hs:StoreAt W s bm room S)(k:ByteArray)(y:Nd5)(hy:atL S k.data.toList=some y)(f:Nat)(n:NodeT)(hg:GoodW (InlD f) n)(ht:y.2.2.text=nodeB n) :
  Calls Tryz.prog 108 #[.pointer (some ⟨s,0,none⟩),.string k,.func (.func 61) #[] #[]] W fun e w'=>e=.returned (.tuple #[n.V,.bool true])∧Ext W w':=by
 have hn:=(hg.one (inlP f)).refs
 have HN:=Hd hn
 have HG:=Hd hg
 have HL:=Hd (n.cells_len hn)
 have hsg:=fun w (h:StoreAt w s bm room S)=>sget_c w s bm room S k h
 rw[hy]at hsg
 simp only[Option.map_some,optV]at hsg
 have HSG:=Hd hsg
 have HS:=Hd hs
 obtain⟨t,htt⟩:∃ t,t=y.2.2.text:=⟨_,rfl⟩
 rw[←htt]at HSG ht
 have HT:=Hd ht
 clear hsg hs hg ht hn hy htt
 go_enter Tryz.func108,Tryz.ntmps108
 go_wp2_with (refine wpList_new Tryz.allocNode rfl rfl ?_;intro W1 hB1 hE1)
 refine (HSG.out W1 (HS.out.ext hE1)).mono ?_
 rintro e w3 ⟨rfl,hE⟩
 have HB3:=Hd (hB1.keeps hE (fun h=>h))
 have HE3:=Hd (hE1.trans hE)
 clear hE hB1 hE1
 go_wp2_with fail
 refine (get1_c w3 t).mono ?_
 rintro e w4 ⟨rfl,rfl⟩
 go_wp2_with fail
 rw[HT.out]
 refine (get_c4 (inlP f) w4 n HG.out).mono ?_
 rintro e w5 ⟨rfl,hE⟩
 rw[←HT.out]
 have hB5r:=HB3.out.keeps hE (fun h=>h)
 have HE5:=Hd hE
 clear hE HB3
 unfold NodeT.V
 go_wp2_with (first |(refine wpList_new Tryz.allocNode rfl rfl ?_;intro W5 hB5 hE5;refine wpList_fill (vs:=n.cells) rfl rfl rfl rfl hB5 (by rw[HL.out];rfl) (by rw[HL.out];exact Tryz.szNode) n.one ?_;intro W6 hB6 hE6;have hB56:=(hB5r.keeps hE5 (fun h=>h)).keeps hE6 (by have:=hB5r.lt;omega)) |(refine wpList_load_known 144 (.tmp 10) rfl rfl _ _ rfl (run_load_api _ _ n HN.out hB6) ?_) |(refine wpList_fill (vs:=n.cells) rfl rfl rfl rfl hB56 (by rw[HL.out];rfl) (by rw[HL.out];exact Tryz.szNode) n.one ?_;intro W8 hB8 hE8))
 refine bodyPost_ret (results_cell_tmp rfl rfl rfl (run_loadVar_api W8 _ n HN.out hB8)) rfl ?_
 have hX6:Ext W W6:=(((HE3.out.trans HE5.out).trans hE5)).trans' hE6 (fun x hx e=>by have e:x=w5.heap.size:=e;have:=HE5.out.size;have:=HE3.out.size;omega)
 exact⟨rfl,hX6.trans' hE8 (fun x hx e=>by have e:x=W.heap.size:=e;omega)⟩
noncomputable def folN(S:List Nd5):Nat→NodeT→ByteArray→Option ByteArray
 | 0,_,_=>none
 | f+1,n,p=>match claimN n p with
  | some u=>some u
  | none=>if (stepN n p).1.size=0 then none else (gRef S (stepN n p).1).bind fun m=>folN S f m (stepN n p).2
theorem fol_some{S:List Nd5}{f:Nat}{n:NodeT}{p u:ByteArray}(h:claimN n p=some u):folN S (f+1) n p=some u:=by
 rw[folN,h]
theorem fol_none{S:List Nd5}{f:Nat}{n:NodeT}{p:ByteArray}(h:claimN n p=none):folN S (f+1) n p=if (stepN n p).1.size=0 then none else (gRef S (stepN n p).1).bind fun m=>folN S f m (stepN n p).2:=by
 rw[folN,h]
def FgRel(W:World)(L:Nat)(S:List Nd5)(V:Option ByteArray)(okv pv:Value)(wr:World):Prop:=
 ∃ (p:ByteArray),pv=.string p∧Ext W wr ∧
  ((okv=.bool true∧∃ f d n,GoodW (InlD d) n∧validN p=true∧p.size≤2000∧p.size < f∧folN S f n p=V∧Blk wr L (.cells n.cells.toArray 144)) ∨
  (okv=.bool false∧V=none))
theorem fillF{W W' W'':World}{L:Nat}(h:Ext W W')(e:Keeps (fun b=>b=L) W' W'')(h3:W.heap.size≤L):Ext W W'':=
 h.trans' e (fun x hx y=>by have y:x=L:=y;omega)
theorem follow_get(W:World)(s bm:Nat)(room:Int)(S:List Nd5)(hs:StoreAt W s bm room S)(hN:NodesS S)(root:ByteArray)(y:Nd5)(hy:atL S root.data.toList=some y)(key:ByteArray)(hk:key.size≤1000) :
  Calls Tryz.prog 60 #[.pointer (some ⟨s,0,none⟩),.string root,.string key,.func (.func 61) #[] #[]] W fun e w'=>e=.returned (folV (folN S ((pathB key).size+1) (nodeOf y.2.2.text) (pathB key)))∧Ext W w':=by
 have HNS:=Hd hN
 have HS:=Hd hs
 obtain⟨n0,hn0⟩:=hN y (atL_mem hy).1
 obtain⟨ht,d,hg⟩:=nodeOf_is hn0
 obtain⟨n,hn⟩:∃ n,n=nodeOf y.2.2.text:=⟨_,rfl⟩
 rw[←hn]at ht hg ⊢
 have HG:=Hd hg
 have hat:=at_get W s bm room S hs root y hy d n hg ht
 have HAT:=Hd hat
 have HL:=Hd (n.cells_len (hg.one (inlP d)).refs)
 have HK:=Hd hk
 obtain⟨V,hV⟩:∃ V,V=folN S ((pathB key).size+1) n (pathB key):=⟨_,rfl⟩
 have HV:=Hd hV
 rw[←hV]
 clear hs hg hn hat hk hV hN hy hn0 ht
 go_enter Tryz.func60,Tryz.ntmps60
 go_wp2_with fail
 refine HAT.out.mono ?_
 rintro e w1 ⟨rfl,hE1⟩
 have HE1:=Hd hE1
 clear hE1
 unfold NodeT.V
 go_wp2_with (first |(refine wpList_new Tryz.allocNode rfl rfl ?_;intro W5 hB5 hE5;refine wpList_fill (vs:=n.cells) rfl rfl rfl rfl hB5 (by rw[HL.out];rfl) (by rw[HL.out];exact Tryz.szNode) n.one ?_;intro W6 hB6 hE6))
 refine (path_c _ key (by have:=HK.out;omega)).mono ?_
 rintro e w7 ⟨rfl,hE⟩
 have hX6:Ext w1 W6:=hE5.trans' hE6 (fun x hx e=>by have e:x=w1.heap.size:=e;omega)
 have HT7:=Hd ((HE1.out.trans hX6).trans hE)
 have HB7:=Hd (hB6.keeps hE (fun h=>h))
 have HLW:=Hd (show W.heap.size≤w1.heap.size from HE1.out.size)
 obtain⟨L,hL⟩:∃ L,L=w1.heap.size:=⟨_,rfl⟩
 rw[←hL]at HB7 HLW ⊢
 clear hL hE hX6 hB5 hE5 hB6 hE6
 obtain⟨pk,hpk⟩:∃ pk,pk=pathB key:=⟨_,rfl⟩
 have HPK:=Hd hpk
 rw[←hpk]
 clear hpk
 go_wp2_with fail
 go_loopw [11,12] (fun okv pv wr=>FgRel W L S V okv pv wr) (fun okv pv _=>foM okv pv)
 case atStart =>
  exact⟨pk,rfl,HT7.out,.inl ⟨rfl,pk.size+1,d,n,HG.out,by rw[HPK.out];exact path_valid key,by rw[HPK.out,path_size];have:=HK.out;omega,Nat.lt_succ_self _,by rw[HPK.out, ←HV.out],HB7.out⟩⟩
 case round =>
  obtain⟨p,rfl,hT,hc⟩:=hrel
  have HE:=Hd hT
  clear hT
  rcases hc with⟨rfl,f0,dn,m0,h1,h2,h3,h3f,h4,h6⟩ |⟨rfl,h2⟩
  case inr =>
   have HF:=Hd h2
   clear h2
   go_wp2_with fail
   go_ret2
   exact⟨by rw[HF.out];rfl,HE.out⟩
  case inl =>
   obtain⟨f,rfl⟩:∃ f,f0=f+1:=⟨f0 - 1,by omega⟩
   obtain⟨k,pa,va,rs⟩:=m0
   have HC:=Hd (And.intro h2 (And.intro h3 h3f))
   have HFO:=Hd h4
   have HGD:=Hd h1
   have HB:=Hd h6
   have hk3:k≤3:=(h1.one (inlP dn)).kind
   have hrs:rs.length=16:=(h1.one (inlP dn)).refs
   have hps:pa.size≤12:=(h1.one (inlP dn)).path
   have HRS:=Hd hrs
   have HCL:=Hd (NodeT.cells_len ⟨k,pa,va,rs⟩ hrs)
   have hE7:p.size≤1000000:=by omega
   have q0:=h6.cellL (i:=0) (v:=.int .i64 k) (by rfl)
   have q1:=h6.cellL (i:=1) (v:=.string pa) (by rfl)
   have q2:=h6.cellL (i:=2) (v:=.string va) (by rfl)
   have Q3:=Hd (show ∀ i r,rs[i]?=some r→wr.cell? ⟨L,3+i,none⟩=some (.string r)from fun i r hi=>h6.cellL (i:=3+i) (v:=.string r) (by
    show (_ :: _ :: _ :: rs.map Value.string)[3+i]?=_
    rw[show 3+i=i+1+1+1 by omega]
    simp[hi]))
   clear hrs h1 h2 h3 h3f h4 h6
   have hem:(⟨#[]⟩:ByteArray).toList.isEmpty=true:=by rw[ByteArray.toList_eq];rfl
   cases hcl:claimN ⟨k,pa,va,rs⟩ p with
   | some u =>
    have HVV:=Hd (show V=some u by rw[←HFO.out,fol_some hcl])
    have HST:=Hd (step_is hcl)
    clear hcl
    rcases HST.out with⟨rfl,rfl,rfl⟩ |⟨rfl,rfl,rfl,hz⟩
    ·have q0':wr.cell? ⟨L,0,none⟩=some (.int .i64 1):=q0
     clear q0
     go_wp2_with fail
     go_ret2
     exact⟨by rw[HVV.out];rfl,HE.out⟩
    ·have q0':wr.cell? ⟨L,0,none⟩=some (.int .i64 3):=q0
     have hve:va.toList.isEmpty=false:=by
      rw[Bool.eq_false_iff]
      intro e
      rw[List.isEmpty_iff,ByteArray.toList_eq]at e
      exact hz (by rw[←size_list,e];rfl)
     clear q0
     go_wp2_with fail
     go_ret2
     exact⟨by rw[HVV.out];rfl,HE.out⟩
   | none =>
    have hfo:=HFO.out
    rw[fol_none hcl]at hfo
    obtain⟨r,q,hsp⟩:∃ r q,stepN ⟨k,pa,va,rs⟩ p=(r,q):=⟨_,_,rfl⟩
    rw[hsp]at hfo
    simp only at hfo
    by_cases hr0:r.size=0
    ·rw[if_pos hr0]at hfo
     have hre:=ba_empty hr0
     rw[hre]at hsp
     have HNO:=Hd (step_no HGD.out HC.out.1 hsp hcl)
     have HVV:=Hd hfo.symm
     clear hcl hfo hsp hr0 hre
     rcases HNO.out with rfl |⟨rfl,hne⟩ |⟨rfl,hpre⟩ |⟨rfl,rfl,rfl⟩ |⟨rfl,x,t,hx,hr⟩
     ·have q0':wr.cell? ⟨L,0,none⟩=some (.int .i64 0):=q0
      clear q0
      go_wp2_with fail
      refine (hash_empty _).mono ?_
      rintro e w2 ⟨rfl,hE⟩
      have HE2:Hid (Ext wr w2):=Hd (by first | exact hE | exact (drewNE _ _).trans hE)
      clear hE
      go_wp2_with fail
      refine (inl_empty w2).mono ?_
      rintro e w3 ⟨rfl,hE⟩
      have HE3:=Hd (HE2.out.trans hE)
      have hB3:=HB.out.keeps HE3.out (fun h=>h)
      clear hE HE2
      unfold NodeT.V
      go_wp2_with (refine wpList_fill (vs:=emptyN.cells) rfl rfl rfl rfl hB3 (by rw[HCL.out];rfl) (by first | exact Tryz.szNode |(rw[HCL.out];exact Tryz.szNode)) emptyN.one ?_;intro W8 hB8 hE8)
      go_roundw
      case rel=>exact⟨_,rfl,fillF (HE.out.trans HE3.out) hE8 HLW.out,.inr ⟨rfl,HVV.out⟩⟩
      case measure=>simp[foM]
     ·have q0':wr.cell? ⟨L,0,none⟩=some (.int .i64 1):=q0
      have hne:=toList_ne hne
      clear q0
      go_wp2_with fail
      refine (hash_empty _).mono ?_
      rintro e w2 ⟨rfl,hE⟩
      have HE2:Hid (Ext wr w2):=Hd (by first | exact hE | exact (drewNE _ _).trans hE)
      clear hE
      go_wp2_with fail
      refine (inl_empty w2).mono ?_
      rintro e w3 ⟨rfl,hE⟩
      have HE3:=Hd (HE2.out.trans hE)
      have hB3:=HB.out.keeps HE3.out (fun h=>h)
      clear hE HE2
      unfold NodeT.V
      go_wp2_with (refine wpList_fill (vs:=emptyN.cells) rfl rfl rfl rfl hB3 (by rw[HCL.out];rfl) (by first | exact Tryz.szNode |(rw[HCL.out];exact Tryz.szNode)) emptyN.one ?_;intro W8 hB8 hE8)
      go_roundw
      case rel=>exact⟨_,rfl,fillF (HE.out.trans HE3.out) hE8 HLW.out,.inr ⟨rfl,HVV.out⟩⟩
      case measure=>simp[foM]
     ·have q0':wr.cell? ⟨L,0,none⟩=some (.int .i64 2):=q0
      have HPR:=Hd hpre
      clear q0 hpre
      go_wp2_with fail
      refine (hasPrefix_c _ p pa (by omega) (by omega)).mono ?_
      rintro e w1' ⟨rfl,hw1⟩
      rw[hw1]
      clear hw1
      rw[HPR.out]
      go_wp2_with fail
      refine (hash_empty _).mono ?_
      rintro e w2 ⟨rfl,hE⟩
      have HE2:Hid (Ext wr w2):=Hd (by first | exact hE | exact (drewNE _ _).trans hE)
      clear hE
      go_wp2_with fail
      refine (inl_empty w2).mono ?_
      rintro e w3 ⟨rfl,hE⟩
      have HE3:=Hd (HE2.out.trans hE)
      have hB3:=HB.out.keeps HE3.out (fun h=>h)
      clear hE HE2
      unfold NodeT.V
      go_wp2_with (refine wpList_fill (vs:=emptyN.cells) rfl rfl rfl rfl hB3 (by rw[HCL.out];rfl) (by first | exact Tryz.szNode |(rw[HCL.out];exact Tryz.szNode)) emptyN.one ?_;intro W8 hB8 hE8)
      go_roundw
      case rel=>exact⟨_,rfl,fillF (HE.out.trans HE3.out) hE8 HLW.out,.inr ⟨rfl,HVV.out⟩⟩
      case measure=>simp[foM]
     ·have q0':wr.cell? ⟨L,0,none⟩=some (.int .i64 3):=q0
      clear q0
      go_wp2_with fail
      refine (hash_empty _).mono ?_
      rintro e w2 ⟨rfl,hE⟩
      have HE2:Hid (Ext wr w2):=Hd (by first | exact hE | exact (drewNE _ _).trans hE)
      clear hE
      go_wp2_with fail
      refine (inl_empty w2).mono ?_
      rintro e w3 ⟨rfl,hE⟩
      have HE3:=Hd (HE2.out.trans hE)
      have hB3:=HB.out.keeps HE3.out (fun h=>h)
      clear hE HE2
      unfold NodeT.V
      go_wp2_with (refine wpList_fill (vs:=emptyN.cells) rfl rfl rfl rfl hB3 (by rw[HCL.out];rfl) (by first | exact Tryz.szNode |(rw[HCL.out];exact Tryz.szNode)) emptyN.one ?_;intro W8 hB8 hE8)
      go_roundw
      case rel=>exact⟨_,rfl,fillF (HE.out.trans HE3.out) hE8 HLW.out,.inr ⟨rfl,HVV.out⟩⟩
      case measure=>simp[foM]
     ·have q0':wr.cell? ⟨L,0,none⟩=some (.int .i64 3):=q0
      obtain⟨h0,hx0⟩:=first_is hx
      have hx16:x.toNat < 16:=nib_lt (p:=(p,p)) HC.out.1 hx
      have q3:=Q3.out _ _ hr
      rw[←hx0]at q3 hx16
      have hpe:p.toList.isEmpty=false:=by
       rw[Bool.eq_false_iff]
       intro e
       rw[List.isEmpty_iff,ByteArray.toList_eq]at e
       rw[hx]at e;cases e
      have c1:(0:Int) < (p.size:Int):=by omega
      have c2:((p[0]'h0).toNat:Int) < 16:=by omega
      have c3:(1:Int)≤(p.size:Int):=by omega
      clear q0 hx hr hx0
      go_wp2_with fail
      go_quiet (fail)
      go_wp2_with fail
      refine (hash_empty _).mono ?_
      rintro e w2 ⟨rfl,hE⟩
      have HE2:Hid (Ext wr w2):=Hd (by first | exact hE | exact (drewNE _ _).trans hE)
      clear hE
      go_wp2_with fail
      refine (inl_empty w2).mono ?_
      rintro e w3 ⟨rfl,hE⟩
      have HE3:=Hd (HE2.out.trans hE)
      have hB3:=HB.out.keeps HE3.out (fun h=>h)
      clear hE HE2
      unfold NodeT.V
      go_wp2_with (refine wpList_fill (vs:=emptyN.cells) rfl rfl rfl rfl hB3 (by rw[HCL.out];rfl) (by first | exact Tryz.szNode |(rw[HCL.out];exact Tryz.szNode)) emptyN.one ?_;intro W8 hB8 hE8)
      go_roundw
      case rel=>exact⟨_,rfl,fillF (HE.out.trans HE3.out) hE8 HLW.out,.inr ⟨rfl,HVV.out⟩⟩
      case measure=>simp[foM]
    ·rw[if_neg hr0]at hfo
     have HFR:=Hd hfo
     obtain⟨hmay,hless,hval⟩:=step_ref HGD.out HC.out.1 hsp hr0
     have HLV:=Hd (And.intro hless hval)
     have HRZ:=Hd (show r.size≤1000000000 by have:=hmay.size (inlP dn);omega)
     have HY:=Hd (step_yes HGD.out HC.out.1 hsp hr0)
     have hany:=fun w=>hash_any w r HRZ.out
     rcases hmay with hh |⟨m,hi⟩
     case inr =>
      cases dn with
      | zero=>exact hi.elim
      | succ dn =>
      have hhr:=hashR_inl (inlP (dn+1)) hi
      have HVN:=Hd (show folN S f m q=V by
       rw[←HFR.out];unfold gRef;rw[hhr];show _=folN S f (inlOf r) q;rw[inlOf_is W hi])
      have HIN:=Hd (fun w=>(inlP (dn+1)).inl _ _ hi w)
      have HMG:=Hd hi.1
      have HML:=Hd (m.cells_len (hi.1.one (inlP dn)).refs)
      rw[hashA_R,hhr]at hany
      simp only[optV]at hany
      have HH:=Hd hany
      clear hany hhr hi hcl hfo hless hval hr0 hsp
      rcases HY.out with⟨rfl,hpre,hr,rfl,hle⟩ |⟨rfl,x,t,hx,hr,rfl⟩
      ·have q0':wr.cell? ⟨L,0,none⟩=some (.int .i64 2):=q0
       have HPR:=Hd hpre
       have q3:=Q3.out 0 _ hr
       have c1:(pa.size:Int)≤(p.size:Int):=by omega
       clear q0 hpre hr hle
       go_wp2_with fail
       refine (hasPrefix_c _ p pa (by omega) (by omega)).mono ?_
       rintro e w1' ⟨rfl,hw1⟩
       rw[hw1]
       clear hw1
       rw[HPR.out]
       go_wp2_with fail
       go_quiet (fail)
       go_wp2_with fail
       refine (HH.out _).mono ?_
       rintro e w2 ⟨rfl,hE⟩
       have HE2:Hid (Ext wr w2):=Hd (by first | exact hE | exact (drewNE _ _).trans hE)
       clear hE
       go_wp2_with fail
       refine (HIN.out w2).mono ?_
       rintro e w3 ⟨rfl,hE⟩
       have HE3:=Hd (HE2.out.trans hE)
       have hB3:=HB.out.keeps HE3.out (fun h=>h)
       clear hE HE2
       unfold NodeT.V
       go_wp2_with (refine wpList_fill (vs:=m.cells) rfl rfl rfl rfl hB3 (by rw[HCL.out,HML.out]) (by rw[HML.out];exact Tryz.szNode) m.one ?_;intro W8 hB8 hE8)
       go_roundw
       case rel=>exact⟨_,rfl,fillF (HE.out.trans HE3.out) hE8 HLW.out,.inl ⟨rfl,f,dn,m,HMG.out,HLV.out.2,by have:=HLV.out.1;have:=HC.out.2.1;omega,by have:=HLV.out.1;have:=HC.out.2.2;omega,HVN.out,hB8⟩⟩
       case measure=>have h9:=HLV.out.1;simp only[foM,strSz];omega
      ·have q0':wr.cell? ⟨L,0,none⟩=some (.int .i64 3):=q0
       obtain⟨h0,hx0⟩:=first_is hx
       have hx16:x.toNat < 16:=nib_lt (p:=(p,p)) HC.out.1 hx
       have q3:=Q3.out _ _ hr
       rw[←hx0]at q3 hx16
       have hpe:p.toList.isEmpty=false:=by
        rw[Bool.eq_false_iff]
        intro e
        rw[List.isEmpty_iff,ByteArray.toList_eq]at e
        rw[hx]at e;cases e
       have c1:(0:Int) < (p.size:Int):=by omega
       have c2:((p[0]'h0).toNat:Int) < 16:=by omega
       have c3:(1:Int)≤(p.size:Int):=by omega
       clear q0 hx hr hx0
       go_wp2_with fail
       go_quiet (fail)
       go_wp2_with fail
       refine (HH.out _).mono ?_
       rintro e w2 ⟨rfl,hE⟩
       have HE2:Hid (Ext wr w2):=Hd (by first | exact hE | exact (drewNE _ _).trans hE)
       clear hE
       go_wp2_with fail
       refine (HIN.out w2).mono ?_
       rintro e w3 ⟨rfl,hE⟩
       have HE3:=Hd (HE2.out.trans hE)
       have hB3:=HB.out.keeps HE3.out (fun h=>h)
       clear hE HE2
       unfold NodeT.V
       go_wp2_with (refine wpList_fill (vs:=m.cells) rfl rfl rfl rfl hB3 (by rw[HCL.out,HML.out]) (by rw[HML.out];exact Tryz.szNode) m.one ?_;intro W8 hB8 hE8)
       go_roundw
       case rel=>exact⟨_,rfl,fillF (HE.out.trans HE3.out) hE8 HLW.out,.inl ⟨rfl,f,dn,m,HMG.out,HLV.out.2,by have:=HLV.out.1;have:=HC.out.2.1;omega,by have:=HLV.out.1;have:=HC.out.2.2;omega,HVN.out,hB8⟩⟩
       case measure=>have h9:=HLV.out.1;simp only[foM,strSz];omega
     case inl =>
      obtain⟨h,h1,h2⟩:=hh
      have hhr:hashR r=some h:=by rw[h2];exact hashR_text h1
      rw[hashA_R,hhr]at hany
      simp only[optV]at hany
      have HH:=Hd hany
      have hgr:gRef S r=gHash S h:=by unfold gRef;rw[hhr];rfl
      rw[hgr]at HFR
      cases ha:atL S h.data.toList with
      | none =>
       have HVV:=Hd (show V=none by rw[←HFR.out];unfold gHash;rw[ha];rfl)
       have HAT2:=Hd (fun w (e:Ext W w)=>at8_no w s bm room S (HS.out.ext e) (.func (.func 61) #[] #[]) h ha)
       clear hany hhr h1 h2 hcl hfo hless hval hr0 hsp hgr ha
       rcases HY.out with⟨rfl,hpre,hr,rfl,hle⟩ |⟨rfl,x,t,hx,hr,rfl⟩
       ·have q0':wr.cell? ⟨L,0,none⟩=some (.int .i64 2):=q0
        have HPR:=Hd hpre
        have q3:=Q3.out 0 _ hr
        have c1:(pa.size:Int)≤(p.size:Int):=by omega
        clear q0 hpre hr hle
        go_wp2_with fail
        refine (hasPrefix_c _ p pa (by omega) (by omega)).mono ?_
        rintro e w1' ⟨rfl,hw1⟩
        rw[hw1]
        clear hw1
        rw[HPR.out]
        go_wp2_with fail
        go_quiet (fail)
        go_wp2_with fail
        refine (HH.out _).mono ?_
        rintro e w2 ⟨rfl,hE⟩
        have HE2:Hid (Ext wr w2):=Hd (by first | exact hE | exact (drewNE _ _).trans hE)
        clear hE
        go_wp2_with fail
        refine (HAT2.out w2 (HE.out.trans HE2.out)).mono ?_
        rintro e w3 ⟨rfl,hE⟩
        have HE3:=Hd (HE2.out.trans hE)
        have hB3:=HB.out.keeps HE3.out (fun h=>h)
        clear hE HE2
        unfold NodeT.V
        go_wp2_with (refine wpList_fill (vs:=emptyN.cells) rfl rfl rfl rfl hB3 (by rw[HCL.out];rfl) (by first | exact Tryz.szNode |(rw[HCL.out];exact Tryz.szNode)) emptyN.one ?_;intro W8 hB8 hE8)
        go_roundw
        case rel=>exact⟨_,rfl,fillF (HE.out.trans HE3.out) hE8 HLW.out,.inr ⟨rfl,HVV.out⟩⟩
        case measure=>simp[foM]
       ·have q0':wr.cell? ⟨L,0,none⟩=some (.int .i64 3):=q0
        obtain⟨h0,hx0⟩:=first_is hx
        have hx16:x.toNat < 16:=nib_lt (p:=(p,p)) HC.out.1 hx
        have q3:=Q3.out _ _ hr
        rw[←hx0]at q3 hx16
        have hpe:p.toList.isEmpty=false:=by
         rw[Bool.eq_false_iff]
         intro e
         rw[List.isEmpty_iff,ByteArray.toList_eq]at e
         rw[hx]at e;cases e
        have c1:(0:Int) < (p.size:Int):=by omega
        have c2:((p[0]'h0).toNat:Int) < 16:=by omega
        have c3:(1:Int)≤(p.size:Int):=by omega
        clear q0 hx hr hx0
        go_wp2_with fail
        go_quiet (fail)
        go_wp2_with fail
        refine (HH.out _).mono ?_
        rintro e w2 ⟨rfl,hE⟩
        have HE2:Hid (Ext wr w2):=Hd (by first | exact hE | exact (drewNE _ _).trans hE)
        clear hE
        go_wp2_with fail
        refine (HAT2.out w2 (HE.out.trans HE2.out)).mono ?_
        rintro e w3 ⟨rfl,hE⟩
        have HE3:=Hd (HE2.out.trans hE)
        have hB3:=HB.out.keeps HE3.out (fun h=>h)
        clear hE HE2
        unfold NodeT.V
        go_wp2_with (refine wpList_fill (vs:=emptyN.cells) rfl rfl rfl rfl hB3 (by rw[HCL.out];rfl) (by first | exact Tryz.szNode |(rw[HCL.out];exact Tryz.szNode)) emptyN.one ?_;intro W8 hB8 hE8)
        go_roundw
        case rel=>exact⟨_,rfl,fillF (HE.out.trans HE3.out) hE8 HLW.out,.inr ⟨rfl,HVV.out⟩⟩
        case measure=>simp[foM]
      | some y2 =>
       obtain⟨n2,hn2⟩:=HNS.out y2 (atL_mem ha).1
       obtain⟨ht2,d2,hg2⟩:=nodeOf_is hn2
       have hvn:folN S f (nodeOf y2.2.2.text) q=V:=by rw[←HFR.out];unfold gHash;rw[ha];rfl
       obtain⟨m,hm⟩:∃ m,m=nodeOf y2.2.2.text:=⟨_,rfl⟩
       rw[←hm]at ht2 hg2 hvn
       have HVN:=Hd hvn
       have HAT2:=Hd (fun w (e:Ext W w)=>at_get w s bm room S (HS.out.ext e) h y2 ha d2 m hg2 ht2)
       have HMG:=Hd hg2
       have HML:=Hd (m.cells_len (hg2.one (inlP d2)).refs)
       clear hany hhr h1 h2 hcl hfo hless hval hr0 hsp hgr ha hn2 ht2 hg2 hvn hm
       rcases HY.out with⟨rfl,hpre,hr,rfl,hle⟩ |⟨rfl,x,t,hx,hr,rfl⟩
       ·have q0':wr.cell? ⟨L,0,none⟩=some (.int .i64 2):=q0
        have HPR:=Hd hpre
        have q3:=Q3.out 0 _ hr
        have c1:(pa.size:Int)≤(p.size:Int):=by omega
        clear q0 hpre hr hle
        go_wp2_with fail
        refine (hasPrefix_c _ p pa (by omega) (by omega)).mono ?_
        rintro e w1' ⟨rfl,hw1⟩
        rw[hw1]
        clear hw1
        rw[HPR.out]
        go_wp2_with fail
        go_quiet (fail)
        go_wp2_with fail
        refine (HH.out _).mono ?_
        rintro e w2 ⟨rfl,hE⟩
        have HE2:Hid (Ext wr w2):=Hd (by first | exact hE | exact (drewNE _ _).trans hE)
        clear hE
        go_wp2_with fail
        refine (HAT2.out w2 (HE.out.trans HE2.out)).mono ?_
        rintro e w3 ⟨rfl,hE⟩
        have HE3:=Hd (HE2.out.trans hE)
        have hB3:=HB.out.keeps HE3.out (fun h=>h)
        clear hE HE2
        unfold NodeT.V
        go_wp2_with (refine wpList_fill (vs:=m.cells) rfl rfl rfl rfl hB3 (by rw[HCL.out,HML.out]) (by rw[HML.out];exact Tryz.szNode) m.one ?_;intro W8 hB8 hE8)
        go_roundw
        case rel=>exact⟨_,rfl,fillF (HE.out.trans HE3.out) hE8 HLW.out,.inl ⟨rfl,f,d2,m,HMG.out,HLV.out.2,by have:=HLV.out.1;have:=HC.out.2.1;omega,by have:=HLV.out.1;have:=HC.out.2.2;omega,HVN.out,hB8⟩⟩
        case measure=>have h9:=HLV.out.1;simp only[foM,strSz];omega
       ·have q0':wr.cell? ⟨L,0,none⟩=some (.int .i64 3):=q0
        obtain⟨h0,hx0⟩:=first_is hx
        have hx16:x.toNat < 16:=nib_lt (p:=(p,p)) HC.out.1 hx
        have q3:=Q3.out _ _ hr
        rw[←hx0]at q3 hx16
        have hpe:p.toList.isEmpty=false:=by
         rw[Bool.eq_false_iff]
         intro e
         rw[List.isEmpty_iff,ByteArray.toList_eq]at e
         rw[hx]at e;cases e
        have c1:(0:Int) < (p.size:Int):=by omega
        have c2:((p[0]'h0).toNat:Int) < 16:=by omega
        have c3:(1:Int)≤(p.size:Int):=by omega
        clear q0 hx hr hx0
        go_wp2_with fail
        go_quiet (fail)
        go_wp2_with fail
        refine (HH.out _).mono ?_
        rintro e w2 ⟨rfl,hE⟩
        have HE2:Hid (Ext wr w2):=Hd (by first | exact hE | exact (drewNE _ _).trans hE)
        clear hE
        go_wp2_with fail
        refine (HAT2.out w2 (HE.out.trans HE2.out)).mono ?_
        rintro e w3 ⟨rfl,hE⟩
        have HE3:=Hd (HE2.out.trans hE)
        have hB3:=HB.out.keeps HE3.out (fun h=>h)
        clear hE HE2
        unfold NodeT.V
        go_wp2_with (refine wpList_fill (vs:=m.cells) rfl rfl rfl rfl hB3 (by rw[HCL.out,HML.out]) (by rw[HML.out];exact Tryz.szNode) m.one ?_;intro W8 hB8 hE8)
        go_roundw
        case rel=>exact⟨_,rfl,fillF (HE.out.trans HE3.out) hE8 HLW.out,.inl ⟨rfl,f,d2,m,HMG.out,HLV.out.2,by have:=HLV.out.1;have:=HC.out.2.1;omega,by have:=HLV.out.1;have:=HC.out.2.2;omega,HVN.out,hB8⟩⟩
        case measure=>have h9:=HLV.out.1;simp only[foM,strSz];omega
def wayN(l:List Pair)(key:ByteArray):List ByteArray:=(trieT l).text :: wayL 12 (rowsL l) (pathB key)
def PathP(N:List ByteArray)(w:World)(e:Ending)(w':World):Prop:=∃ a c,e=.returned (.tuple #[.slice a N.length c,.int .i64 0])∧SRow w w' (.slice a N.length c) N.length N
theorem path8_c(W:World)(s bm:Nat)(room:Int)(S:List Nd5)(hs:StoreAt W s bm room S)(l:List Pair)(hM:HasM S l)(key:ByteArray)(hk:key.size≤1000) :
  Calls Tryz.prog 20 #[.pointer (some ⟨s,0,none⟩),.string (shaB (trieT l).text),.string key] W (PathP (wayN l key) W):=by
 obtain⟨k0,hk0⟩:∃ k,k=shaB (trieT l).text:=⟨_,rfl⟩
 have HK0:=Hd hk0
 have HS:=Hd hs
 have HM:=Hd hM
 have HK:=Hd hk
 obtain⟨N,hN⟩:∃ N,N=wayN l key:=⟨_,rfl⟩
 have HN:=Hd hN
 rw[←hk0, ←hN]
 clear hk0 hs hM hk hN
 go_enter Tryz.func20,Tryz.ntmps20
 go_wp2_with fail
 have hE:Ext W (W.alloc (.cells #[.slice none 0 0] 34)):=(ExtR W).alloc _
 have hB:=Blk.new W (.cells #[.slice none 0 0] 34)
 have hM0:MetAt W.heap.size W.heap.size (.slice none 0 0) [] (W.alloc (.cells #[.slice none 0 0] 34)):=⟨Nat.le_refl _,hB,⟨0,rfl,.inl ⟨rfl,rfl⟩⟩,fun b hb=>by cases hb⟩
 have hF:=follow8_c W _ s bm room S HS.out hE W.heap.size (.slice none 0 0) hM0 l HM.out key HK.out
 rw[←HK0.out]at hF
 have HM0:=Hd hM0
 have HE:=Hd hE
 obtain⟨V,hV⟩:∃ V,V=valL (rowsL l) (pathB key):=⟨_,rfl⟩
 rw[←hV]at hF
 clear hB hM0 hE hV
 refine hF.mono ?_
 rintro e w2 ⟨rfl,v',hT⟩
 have HT:=Hd hT
 obtain⟨n,hn⟩:=hT.at'.row
 have hn2:n=(wayN l key).length:=by have:=hn.1;simpa [wayN]using this.symm
 subst hn2
 obtain⟨a,c,hv'⟩:=row_slice hn
 have q:=hT.at'.var.cell (i:=0) (v:=v') (by rfl)
 have HO:=Hd hn
 have hfin:SRow W w2 v' (wayN l key).length (wayN l key):=⟨⟨a,c,hv'⟩,hn,hT.ext0 HM0.out HE.out (Nat.le_refl _),fun b hb=>(hT.at'.own b hb).1⟩
 have HF:=Hd hfin
 subst hv'
 rw[←HN.out]at q HF
 clear hF hT hn hfin HO HT
 cases V with
 | none =>
  unfold folV
  go_wp2_with fail
  go_ret2
  exact⟨_,_,rfl,HF.out⟩
 | some u =>
  unfold folV
  go_wp2_with fail
  go_ret2
  exact⟨_,_,rfl,HF.out⟩
theorem fol_map(w:World)(S:List Nd5):∀ (f:Nat) (l:List Pair) (p:ByteArray) (g:Nat),RowsOk f l→validN p=true→p.size < g→(∀ x∈flatT (buildT (f+1) l),32≤x.size→HasS S x)→folN S g (nodeF (buildT f) l) p=valL l p:=by
 intro f
 induction f with
 | zero =>
  intro l p g h hp hg hS
  obtain⟨g,rfl⟩:∃ k,g=k+1:=⟨g - 1,by omega⟩
  obtain⟨s1,s2⟩:=go_none h hp (way_zero h)
  rw[←s2]
  cases hc:claimN (nodeF (buildT 0) l) p with
  | some u=>rw[fol_some hc]
  | none=>rw[fol_none hc,s1];rfl
 | succ f ih =>
  intro l p g h hp hg hS
  obtain⟨g,rfl⟩:∃ k,g=k+1:=⟨g - 1,by omega⟩
  cases hgo:goL l p with
  | none =>
   obtain⟨s1,s2⟩:=go_none h hp hgo
   rw[←s2]
   cases hc:claimN (nodeF (buildT (f+1)) l) p with
   | some u=>rw[fol_some hc]
   | none=>rw[fol_none hc,s1];rfl
  | some mq =>
   obtain⟨m,q⟩:=mq
   have hK:=go_some h hp hgo
   rw[fol_none hK.no,hK.step,if_neg (ref_pos hK.rows hK.ne),gRef_kid w hK.rows hK.ne (fun hz=>hS _ (hK.flat _ (text_mem _) hz) hz)]
   show folN S g (nodeF (buildT f) m) q=_
   rw[ih m q g hK.rows hK.valid (by have:=hK.less;omega) (fun x hx hz=>hS x (hK.flat x hx hz) hz),hK.find]
theorem follow_no(W:World)(s bm:Nat)(room:Int)(S:List Nd5)(hs:StoreAt W s bm room S)(root key:ByteArray)(f:FuncId)(bs:Array Value)(ha:atL S root.data.toList=none) :
  Calls Tryz.prog 60 #[.pointer (some ⟨s,0,none⟩),.string root,.string key,.func (.func f) #[] bs] W fun e w'=>e=.returned (.tuple #[.string ⟨#[]⟩,.int .i64 4])∧Ext W w':=by
 have HAT:=Hd (at8_no W s bm room S hs (.func (.func f) #[] bs) root ha)
 clear hs ha
 go_enter Tryz.func60,Tryz.ntmps60
 go_wp2_with fail
 refine HAT.out.mono ?_
 rintro e w1 ⟨rfl,hE⟩
 have HE:=Hd hE
 clear hE
 unfold NodeT.V
 go_wp2_with (first |(refine wpList_new Tryz.allocNode rfl rfl ?_;intro W5 hB5 hE5;refine wpList_fill (vs:=emptyN.cells) rfl rfl rfl rfl hB5 rfl Tryz.szNode emptyN.one ?_;intro W6 hB6 hE6))
 go_ret2
 have hX6:Ext W W6:=(HE.out.trans hE5).trans' hE6 (fun x hx e=>by have e:x=w1.heap.size:=e;have:=HE.out.size;omega)
 exact⟨rfl,hX6⟩
theorem get8_any(W:World)(s bm:Nat)(room:Int)(S:List Nd5)(hs:StoreAt W s bm room S)(hN:NodesS S)(root:ByteArray)(y:Nd5)(hy:atL S root.data.toList=some y)(key:ByteArray)(hk:key.size≤1000) :
  Calls Tryz.prog 17 #[.pointer (some ⟨s,0,none⟩),.string root,.string key] W fun e w'=>e=.returned (folV (folN S ((pathB key).size+1) (nodeOf y.2.2.text) (pathB key)))∧Ext W w':=by
 have HF:=Hd (follow_get W s bm room S hs hN root y hy key hk)
 obtain⟨V,hV⟩:∃ V,V=folN S ((pathB key).size+1) (nodeOf y.2.2.text) (pathB key):=⟨_,rfl⟩
 rw[←hV]at HF ⊢
 clear hV hs hN hy hk
 go_enter Tryz.func17,Tryz.ntmps17
 go_wp2_with fail
 refine HF.out.mono ?_
 rintro e w2 ⟨rfl,hE⟩
 have HE:=Hd hE
 clear hE
 cases V with
 | none =>
  unfold folV
  go_wp2_with fail
  go_ret2
  exact⟨rfl,HE.out⟩
 | some u =>
  unfold folV
  go_wp2_with fail
  go_ret2
  exact⟨rfl,HE.out⟩
theorem get8_c(W:World)(s bm:Nat)(room:Int)(S:List Nd5)(hs:StoreAt W s bm room S)(hN:NodesS S)(l:List Pair)(hM:HasM S l)(key:ByteArray)(hk:key.size≤1000) :
  Calls Tryz.prog 17 #[.pointer (some ⟨s,0,none⟩),.string (shaB (trieT l).text),.string key] W fun e w'=>e=.returned (folV (valL (rowsL l) (pathB key)))∧Ext W w':=by
 obtain⟨y,hy1,hy2⟩:=hM.has _ (text_mem _)
 have hy1:atL S (shaB (trieT l).text).data.toList=some y:=hy1
 have h1:=get8_any W s bm room S hs hN (shaB (trieT l).text) y hy1 key hk
 have hrows:=rows_ok (check_ok hM.ok)
 have hI:IsNode (trieT l).text (nodeF (buildT 12) (rowsL l)):=⟨rfl,12,(good 12 (rowsL l) hrows).1⟩
 have e:nodeOf y.2.2.text=nodeF (buildT 12) (rowsL l):=by rw[hy2];exact isNode_inj W (nodeOf_is hI) hI
 rw[e,fol_map W S 12 (rowsL l) (pathB key) _ hrows (path_valid key) (by omega) (fun x hx _=>hM.has x hx)]at h1
 exact h1
theorem get8_no(W:World)(s bm:Nat)(room:Int)(S:List Nd5)(hs:StoreAt W s bm room S)(root key:ByteArray)(ha:atL S root.data.toList=none) :
  Calls Tryz.prog 17 #[.pointer (some ⟨s,0,none⟩),.string root,.string key] W fun e w'=>e=.returned (.tuple #[.string ⟨#[]⟩,.int .i64 4])∧Ext W w':=by
 have HF:=Hd (follow_no W s bm room S hs root key 61 #[] ha)
 clear hs ha
 go_enter Tryz.func17,Tryz.ntmps17
 go_wp2_with fail
 refine HF.out.mono ?_
 rintro e w2 ⟨rfl,hE⟩
 have HE:=Hd hE
 clear hE
 go_wp2_with fail
 go_ret2
 exact⟨rfl,HE.out⟩
def twP:List Pair:=[(⟨#[97]⟩,⟨#[49]⟩),(⟨#[98]⟩,⟨#[50]⟩)]
def twQ:List Pair:=[(⟨#[98]⟩,⟨#[50]⟩)]
def twC:List Chg:=[⟨⟨#[97]⟩,⟨#[49]⟩,false⟩,⟨⟨#[98]⟩,⟨#[50]⟩,false⟩]
def twD:List Chg:=[⟨⟨#[97]⟩,⟨#[]⟩,true⟩]
theorem tw_nil:checkN ([]:List Pair)=0:=by decide +kernel
theorem tw_p:checkN twP=0:=by decide +kernel
theorem tw_q:checkN twQ=0:=by decide +kernel
theorem sort_self{m:List Pair}(h:checkN m=0):sortM m=m:=rises_ext (sortM_rises (check_okL h).2.nodup) (check_okL h).2 (look_sort m)
theorem tw_e1:applyE [] twC=0:=by decide +kernel
theorem tw_a1:afterM [] twC=twP:=by unfold afterM;rw[show applyM [] twC=twP by decide +kernel,sort_self tw_p]
theorem tw_e2:applyE twP twD=0:=by decide +kernel
theorem tw_a2:afterM twP twD=twQ:=by unfold afterM;rw[show applyM twP twD=twQ by decide +kernel,sort_self tw_q]
theorem tw_e3:applyE twQ []=0:=by decide +kernel
theorem tw_a3:afterM twQ []=twQ:=by unfold afterM;rw[show applyM twQ []=twQ by decide +kernel,sort_self tw_q]
def twU:List ByteArray:=[(trieT []).text,(trieT twP).text,(trieT twQ).text]
theorem tw_t0:textsL []=[(trieT []).text]:=by decide +kernel
theorem tw_t1:textsL twP=[(trieT twP).text]:=by decide +kernel
theorem tw_t2:textsL twQ=[(trieT twQ).text]:=by decide +kernel
theorem tw_i0:∀ t∈textsL [],t∈twU:=by rw[tw_t0];intro t ht;rw[List.mem_singleton.1 ht];simp[twU]
theorem tw_i1:∀ t∈textsL twP,t∈twU:=by rw[tw_t1];intro t ht;rw[List.mem_singleton.1 ht];simp[twU]
theorem tw_i2:∀ t∈textsL twQ,t∈twU:=by rw[tw_t2];intro t ht;rw[List.mem_singleton.1 ht];simp[twU]
theorem tw_inj:InjL twU:=by unfold InjL;decide +kernel
theorem tw_nodes:NodeL twU:=fun t ht=>by
 unfold twU at ht
 rcases List.mem_cons.1 ht with rfl | ht
 ·exact texts_nodes tw_nil _ (by rw[tw_t0];simp)
 rcases List.mem_cons.1 ht with rfl | ht
 ·exact texts_nodes tw_p _ (by rw[tw_t1];simp)
 ·rw[List.mem_singleton.1 ht];exact texts_nodes tw_q _ (by rw[tw_t2];simp)
theorem tw_text0:(trieT []).text=⟨#[128]⟩:=by decide +kernel
theorem tw_b1:belowM twP=[]:=by rw[below_is tw_p];decide +kernel
theorem tw_b2:belowM twQ=[]:=by rw[below_is tw_q];decide +kernel
theorem new_one{S:List Nd5}{m:List Pair}(h:belowM m=[]):newM S m=[(trieT m).text]:=by unfold newM;rw[h];rfl
theorem tw_v1:valL (rowsL twP) (pathB ⟨#[97]⟩)=some ⟨#[49]⟩:=by decide +kernel
theorem tw_v2:valL (rowsL twQ) (pathB ⟨#[97]⟩)=none:=by decide +kernel
theorem tw_w:wayN twQ ⟨#[98]⟩=[(trieT twQ).text]:=by decide +kernel
theorem tw_ne:(ky (trieT twQ).text=ky (trieT []).text)=False∧(ky (trieT twQ).text=ky (trieT twP).text)=False:=by
 constructor <;>(apply eq_false;decide +kernel)
theorem tw_csm:∀ c∈twC,c.key.size≤9223372036854775807∧c.value.size≤9223372036854775807:=by unfold twC;simp;decide
theorem tw_dsm:∀ c∈twD,c.key.size≤9223372036854775807∧c.value.size≤9223372036854775807:=by unfold twD;simp;decide
theorem rdc_litT(w:World)(xs:List Chg)(T:TypeId):RdC (w.alloc (.cells (cellsC xs).toArray T)) (.slice (some ⟨w.heap.size,0,none⟩) xs.length xs.length) xs:=
 .inr ⟨w.heap.size,0,xs.length,rfl,by simp,Nat.le_refl _,fun j x hx=>by
  obtain⟨e1,e2,e3⟩:=cellsC_getT xs j x hx
  exact⟨by rw[Nat.zero_add];exact (Blk.new w _).cellL e1,by rw[Nat.zero_add];exact (Blk.new w _).cellL e2,by rw[Nat.zero_add];exact (Blk.new w _).cellL e3⟩⟩
theorem rdp_litT(w:World)(xs:List Pair)(T:TypeId):RdP (w.alloc (.cells (cellsP xs).toArray T)) (.slice (some ⟨w.heap.size,0,none⟩) xs.length xs.length) xs:=by
 refine .inr ⟨_,0,_,rfl,(Blk.new w _).lt,Nat.le_refl _,fun j x hx=>?_⟩
 obtain⟨h1,h2⟩:=cellsP_get xs j x hx
 exact⟨by rw[Nat.zero_add];exact (Blk.new w _).cellL h1,by rw[Nat.zero_add];exact (Blk.new w _).cellL h2⟩
theorem key32{U:List ByteArray}{S:List Nd5}(h:Kp U S){k:ByteArray}(hk:k.size≠32):atL S k.data.toList=none:=by
 cases ha:atL S k.data.toList with
 | none=>rfl
 | some y =>
  obtain⟨y1,y2⟩:=atL_mem ha
  obtain⟨t,_,e,_⟩:=h.is y y1
  have h1:=congrArg List.length (y2.symm.trans e)
  have h2:(ky t).length=32:=shaB_size t
  rw[h2,size_list]at h1
  exact absurd h1 hk
theorem empty_c(w:World)(hc:Cubes w):Calls Tryz.prog 59 #[] w fun e w'=>e=.returned (.string (rootM []))∧Ext w w':=by
 have HR:=Hd (root_ok w (.slice none 0 0) [] hc (.inl ⟨none,0,rfl,rfl⟩) tw_nil)
 have HRD:=Hd (show shaB (trieT []).text=rootM []from rfl)
 rw[HRD.out]at HR
 obtain⟨rt,hrt⟩:∃ rt,rt=rootM []:=⟨_,rfl⟩
 rw[←hrt]at HR ⊢
 clear HRD hrt hc
 go_enter Tryz.func59,Tryz.ntmps59
 go_wp2_with fail
 refine HR.out.mono ?_
 rintro e w1 ⟨rfl,hE⟩
 have HE:=Hd hE
 clear hE
 go_wp2_with fail
 go_ret
 exact⟨rfl,HE.out⟩
theorem tw_eq:(rootM [] == rootM [])=true∧(rootM twQ == rootM twQ)=true:=by
 constructor <;>(rw[ba_beq];exact decide_eq_true rfl)
theorem tw_part0:Part [] [] [(⟨#[128]⟩:ByteArray)]:=by
 have h:=part_all [] tw_nil
 rw[tw_t0,tw_text0]at h;exact h
structure TwS(w0 W:World)(s bm:Nat)(S:List Nd5)(n:Nat):Prop where
 ext:Ext w0 W
 st:StoreAt W s bm 100 S
 kp:Kp twU S
 len:S.length≤n
 bnew:w0.heap.size≤bm
 new:∀ x∈S,w0.heap.size≤x.2.1
 hb:∀ x∈S,x.2.2.held≤n
theorem TwS.grow{w0 W W':World}{s bm:Nat}{S:List Nd5}{n:Nat}(h:TwS w0 W s bm S n)(k:Ext W W'):TwS w0 W' s bm S n:=
 ⟨h.ext.trans k,h.st.ext k,h.kp,h.len,h.bnew,h.new,h.hb⟩
theorem TwS.bds{w0 W:World}{s bm:Nat}{S:List Nd5}{n:Nat}(h:TwS w0 W s bm S n)(hn:n≤5):S.length≤100000∧(∀ x∈S,0≤x.2.2.used∧x.2.2.used≤1000000000)∧(∀ x∈S,0≤x.2.2.held∧x.2.2.held≤1000000000):=
 ⟨by have:=h.len;omega,h.kp.bd (by have:=h.len;omega),fun x hx=>⟨h.kp.cnt.held x hx,by have:=h.hb x hx;omega⟩⟩
theorem TwS.nodes{w0 W:World}{s bm:Nat}{S:List Nd5}{n:Nat}(h:TwS w0 W s bm S n):NodesS S:=h.kp.nodes tw_nodes
theorem TwS.add{w0 W W':World}{s bm:Nat}{S S':List Nd5}{n:Nat}{m:List Pair}{L:List ByteArray}{e:Ending}(h:TwS w0 W s bm S n)(hL:L.length=1)(hY:ComY W s bm 100 twU S m L e W' S'):TwS w0 W' s bm S' (n+1):=
 ⟨h.ext.trans' hY.kp (fun z hz e=>by
  rcases e with e | e
  ·have:=h.bnew;omega
  ·obtain⟨y,hy,e⟩:=List.mem_map.1 e
   have:=h.new y hy;omega),hY.st,hY.add.kp,by have:=hY.add.len;have:=h.len;omega,h.bnew,fun x hx=>by
  rcases hY.add.blk x hx with e | e
  ·obtain⟨y,hy,e⟩:=List.mem_map.1 e
   have:=h.new y hy;omega
  ·have:=h.ext.size;omega,fun x hx=>by
   have:=hY.add.bd n (by omega) h.hb x hx
   omega⟩
theorem works8_c(w:World)(hc:Cubes w)(he:ErrT w):Calls Tryz.prog 15 #[] w fun e w'=>e=.returned (.bool true)∧Ext w w':=by
 have HC:=Hd hc
 have HEE:=Hd he
 clear hc he
 go_enter Tryz.func15,Tryz.ntmps15
 go_wp2_with fail
 refine (snew_c w 100).mono ?_
 rintro e w1 ⟨s,bm,rfl,hE,hS,hb1,hb2,hb3⟩
 have HS1:=Hd (show TwS w w1 s bm [] 0 from⟨hE,hS,Kp.none _,Nat.le_refl _,hb1,(fun x hx=>by cases hx),(fun x hx=>by cases hx)⟩)
 clear hE hS hb1 hb2 hb3
 have hcv:∀ W:World,(convert 89 9 (.slice (some ⟨W.heap.size,0,none⟩) 1 1)).run Tryz.prog (W.alloc (.cells #[.int .u8 128] 5))=.ok (.string ⟨#[128]⟩) (W.alloc (.cells #[.int .u8 128] 5)):=fun W =>
  run_string_row (l:=[128]) _ Tryz.uBytes Tryz.uU8 Tryz.uStr (World.ownsRow_lit W #[.int .u8 128] 1 (Nat.zero_le _) (by unfold maxLen;omega) rfl)
 go_wp2_with fail
 have hx2:=((ExtR w1).alloc (.cells #[.int .u8 128] 5)).alloc (.cells #[.string ⟨#[128]⟩] 9)
 have hrs:RdS ((w1.alloc (.cells #[.int .u8 128] 5)).alloc (.cells #[.string ⟨#[128]⟩] 9)) (.slice (some ⟨w1.heap.size+1,0,none⟩) 1 1) [⟨#[128]⟩]:=by
  have:=rds_lit (w1.alloc (.cells #[.int .u8 128] 5)) [⟨#[128]⟩] 9
  rwa [World.size_alloc]at this
 have HS2:=Hd (HS1.out.grow hx2)
 refine (add_gen _ (HC.out.ext HS2.out.ext) (HEE.out.ext HS2.out.ext) s bm 100 [] HS2.out.st _ [⟨#[128]⟩] hrs False (any_nodesQ (fun t ht=>by
  obtain⟨n,hn⟩:=texts_nodes tw_nil t (by rw[tw_t0,tw_text0];exact ht)
  exact⟨n,hn⟩)) (by simp) ⟨#[128]⟩ rfl (by decide) (by decide) (by simp) (fun x hx=>by cases hx) (fun x hx=>by cases hx)).mono ?_
 intro e w3 hA
 rcases addgen_y _ _ tw_inj (Kp.none twU) tw_part0 tw_i0 (by simp) (ExtR _) hA with⟨_,_,h3⟩ |⟨S3,hY⟩
 ·simp at h3
 have hre:=hY.res
 subst hre
 have HS3:=Hd (HS2.out.add rfl hY)
 have HM3:=Hd (hY.add.has tw_inj tw_nil tw_i0)
 have HH3:=Hd (show heldO (atL S3 (ky (trieT twQ).text))=0 by rw[hY.add.held,if_neg (by rw[tw_ne.1];exact fun e=>e)];rfl)
 clear hA hY hrs hx2 HS1 HS2
 go_wp2_with fail
 refine (empty_c w3 (HC.out.ext HS3.out.ext)).mono ?_
 rintro e w4 ⟨rfl,hE⟩
 have HS4:=Hd (HS3.out.grow hE)
 clear hE HS3
 go_wp2_with fail
 have hx4:=(ExtR w4).alloc (.cells (cellsC twC).toArray 66)
 have HS5:=Hd (HS4.out.grow hx4)
 have hb:=HS5.out.bds (by decide)
 refine (commit_c _ (HC.out.ext HS5.out.ext) (HEE.out.ext HS5.out.ext) s bm 100 S3 HS5.out.st HS5.out.nodes [] HM3.out _ twC (rdc_litT w4 twC 66) (by decide) tw_csm (by decide) (by decide) hb.1 hb.2.1 hb.2.2).mono ?_
 intro e w6 hCo
 obtain⟨S6,hY⟩:=com_room _ tw_inj HS5.out.kp tw_e1 (by rw[tw_a1];exact tw_i1) hCo (by rw[tw_a1,new_one tw_b1];have:=HS5.out.len;simp;omega)
 rw[tw_a1,new_one tw_b1]at hY
 have hre:=hY.res
 subst hre
 have HS6:=Hd (HS5.out.add rfl hY)
 have HM6:=Hd (hY.add.has tw_inj tw_p tw_i1)
 have HH6:=Hd (show heldO (atL S6 (ky (trieT twQ).text))=0 by rw[hY.add.held,HH3.out,if_neg (by rw[tw_ne.2];exact fun e=>e)];rfl)
 clear hb hCo hY hx4 HS4 HS5 HM3
 go_wp2_with fail
 have hx4:=(ExtR w6).alloc (.cells (cellsC twD).toArray 66)
 have HS7:=Hd (HS6.out.grow hx4)
 have hb:=HS7.out.bds (by decide)
 refine (commit_c _ (HC.out.ext HS7.out.ext) (HEE.out.ext HS7.out.ext) s bm 100 S6 HS7.out.st HS7.out.nodes twP HM6.out _ twD (rdc_litT w6 twD 66) (by decide) tw_dsm (by decide) (by decide) hb.1 hb.2.1 hb.2.2).mono ?_
 intro e w8 hCo
 obtain⟨S8,hY⟩:=com_room _ tw_inj HS7.out.kp tw_e2 (by rw[tw_a2];exact tw_i2) hCo (by rw[tw_a2,new_one tw_b2];have:=HS7.out.len;simp;omega)
 rw[tw_a2,new_one tw_b2]at hY
 have hre:=hY.res
 subst hre
 have HS8:=Hd (HS7.out.add rfl hY)
 have HH8:=Hd (show heldO (atL S8 (ky (trieT twQ).text))=1 by rw[hY.add.held,HH6.out,if_pos rfl];rfl)
 have HM8:=Hd (And.intro (hY.add.more tw_inj tw_i1 HM6.out) (hY.add.has tw_inj tw_q tw_i2))
 clear hb hCo hY hx4 HS6 HS7 HM6
 go_wp2_with fail
 refine (get8_c w8 s bm 100 S8 HS8.out.st HS8.out.nodes twP HM8.out.1 ⟨#[97]⟩ (by decide)).mono ?_
 rintro e w9 ⟨rfl,hE⟩
 have HS9:=Hd (HS8.out.grow hE)
 rw[tw_v1]
 clear hE HS8
 unfold folV
 go_wp2_with fail
 refine (get8_c w9 s bm 100 S8 HS9.out.st HS9.out.nodes twQ HM8.out.2 ⟨#[97]⟩ (by decide)).mono ?_
 rintro e w10 ⟨rfl,hE⟩
 have HS10:=Hd (HS9.out.grow hE)
 rw[tw_v2]
 clear hE HS9
 unfold folV
 go_wp2_with fail
 refine (get8_no w10 s bm 100 S8 HS10.out.st ⟨#[120]⟩ ⟨#[97]⟩ (key32 HS10.out.kp (by decide))).mono ?_
 rintro e w11 ⟨rfl,hE⟩
 have HS11:=Hd (HS10.out.grow hE)
 clear hE HS10
 go_wp2_with fail
 have hx4:=(ExtR w11).alloc (.cells (cellsP twQ).toArray 72)
 have HS12:=Hd (HS11.out.grow hx4)
 refine (root_ok _ _ twQ (HC.out.ext HS12.out.ext) (rdp_litT w11 twQ 72) tw_q).mono ?_
 rintro e w13 ⟨rfl,hE⟩
 rw[show shaB (trieT twQ).text=rootM twQ from rfl]
 have HS13:=Hd (HS12.out.grow hE)
 clear hE hx4 HS11 HS12
 go_wp2_with fail
 refine (tall_c w13 s bm 100 S8 HS13.out.st HS13.out.nodes twP HM8.out.1).mono ?_
 rintro e w14 ⟨v14,rfl,hR⟩
 have HS14:=Hd (HS13.out.grow hR.ext)
 obtain⟨a14,c14,rfl⟩:=hR.sl
 clear hR HS13
 go_wp2_with fail
 have hP:=path8_c w14 s bm 100 S8 HS14.out.st twQ HM8.out.2 ⟨#[98]⟩ (by decide)
 rw[tw_w,show shaB (trieT twQ).text=rootM twQ from rfl]at hP
 refine hP.mono ?_
 rintro e w15 ⟨a15,c15,rfl,hR⟩
 have HS15:=Hd (HS14.out.grow hR.ext)
 clear hR hP HS14
 go_wp2_with fail
 refine (upd_c w15 (HC.out.ext HS15.out.ext) (HEE.out.ext HS15.out.ext) s bm 100 S8 HS15.out.st HS15.out.nodes twQ HM8.out.2 (.slice none 0 0) [] (.inl ⟨none,0,rfl,rfl⟩) (by decide) (fun c hc=>by cases hc)).mono ?_
 intro e w16 hU
 unfold UpdP at hU
 rw[if_pos tw_e3,tw_a3,new_one tw_b2]at hU
 obtain⟨r,rfl,hR⟩:=hU
 have HS16:=Hd (HS15.out.grow hR.ext)
 obtain⟨a16,c16,rfl⟩:=hR.sl
 clear hR HS15
 go_wp2_with fail
 refine (empty_c w16 (HC.out.ext HS16.out.ext)).mono ?_
 rintro e w17 ⟨rfl,hE⟩
 have HS17:=Hd (HS16.out.grow hE)
 have hq:=tw_eq
 obtain⟨hq0,hq2⟩:=hq
 clear hE HS16
 go_wp2_with fail
 have hH:=sheld_c w17 s bm 100 S8 (rootM twQ) HS17.out.st
 rw[show heldO (atL S8 (rootM twQ).data.toList)=1 from HH8.out]at hH
 refine hH.mono ?_
 rintro e w18 ⟨rfl,hE⟩
 have HS18:=Hd (HS17.out.grow hE)
 clear hE HS17 hH
 go_wp2_with fail
 go_ret
 exact⟨rfl,HS18.out.ext⟩
structure HoldK(l:List Pair)(w:World)(s bm:Nat)(S:List Nd5)(w':World):Prop where
 ext:Ext w w'
 st:StoreAt w' s bm 2000 S
 add:∃ W,AddK W (textsL l) [] l (textsL l) S
 few:fewB l=true
 inj:InjL (textsL l)
 ok:checkN l=0
 bnew:w.heap.size≤bm
 snew:w.heap.size≤s
 ne:s≠bm
 new:∀ x∈S,w.heap.size≤x.2.1
def HoldYesK(l:List Pair)(w:World)(e:Ending)(w':World):Prop:=∃ s bm S,e=.returned (.tuple #[.pointer (some ⟨s,0,none⟩),.string (shaB (trieT l).text)])∧HoldK l w s bm S w'
def HoldPK(l:List Pair)(w:World)(e:Ending)(w':World):Prop:=HoldNo l w e w'∨HoldYesK l w e w'
theorem HoldK.key{l:List Pair}{w w':World}{s bm:Nat}{S:List Nd5}(h:HoldK l w s bm S w')(k:Key):k∈S.map (·.1)↔∃ t∈textsL l,k=ky t:=by
 obtain⟨W,hA⟩:=h.add
 rw[hA.key];simp
theorem HoldK.kp{l:List Pair}{w w':World}{s bm:Nat}{S:List Nd5}(h:HoldK l w s bm S w'):Kp (textsL l) S:=by
 obtain⟨W,hA⟩:=h.add
 exact hA.kp
theorem HoldK.has{l:List Pair}{w w':World}{s bm:Nat}{S:List Nd5}(h:HoldK l w s bm S w'):HasM S l:=
 h.kp.has w h.inj h.ok (fun _ h=>h) ((h.key _).2 ⟨_,List.mem_of_getElem? (texts h.ok).head,rfl⟩)
theorem hold08_k(w:World)(hc:Cubes w)(he:ErrT w)(v:Value)(l:List Pair)(hv:RdP w v l)(hn:l.length≤9223372036854775807)(hs:SmallP l) :
  Calls Tryz.prog 16 #[v] w (HoldPK l w):=by
 have HC:=Hd hc
 have HEE:=Hd he
 have HV:=Hd hv
 have HS:=Hd hs
 have HN:=Hd hn
 obtain⟨a,c,hsl⟩:=hv.sl
 subst hsl
 clear hc hv hs hn he
 go_enter Tryz.func16,Tryz.ntmps16
 go_wp2_with fail
 refine (few5_c w _ l HV.out HN.out HS.out).mono ?_
 rintro e w2 ⟨rfl,hE⟩
 have HE2:=Hd hE
 clear hE
 obtain⟨fw,hfw⟩:∃ fw,fw=fewB l:=⟨_,rfl⟩
 have HFW:=Hd hfw
 rw[←hfw]
 clear hfw
 by_cases hcl:checkN l=0
 case neg =>
  go_wp2_with fail
  refine (nodes_bad w2 _ l (HV.out.ext HE2.out) HN.out HS.out hcl).mono ?_
  rintro e w3 ⟨rfl,hE⟩
  have HE3:=Hd (HE2.out.trans hE)
  have HNO:=Hd hcl
  obtain⟨x,hx⟩:∃ x,x=checkN l:=⟨_,rfl⟩
  rw[←hx]at hcl ⊢
  have hne:(x == 0)=false:=by simpa using hcl
  have hne2:(x != 0)=true:=by simpa using hcl
  clear hcl hx hE HE2
  go_wp2_with fail
  refine (snew_c w3 2000).mono ?_
  rintro e w4 ⟨s,bm,rfl,hE,_,_,_,_⟩
  have HE4:=Hd (HE3.out.trans hE)
  clear hE HE3
  go_wp2_with fail
  refine (apart_c w4 (HC.out.ext HE4.out) _ [] (.inl ⟨none,0,rfl,rfl⟩) (by simp)).mono ?_
  rintro e w5 ⟨b,rfl,_,hE⟩
  have HE5:=Hd (HE4.out.trans hE)
  clear hE HE4
  cases fw with
  | false =>
   go_wp2_with fail
   go_ret2
   exact .inl ⟨rfl,HE5.out,fun h=>HNO.out h.2.1⟩
  | true =>
   go_wp2_with fail
   go_ret2
   exact .inl ⟨rfl,HE5.out,fun h=>HNO.out h.2.1⟩
 have HCL:=Hd hcl
 clear hcl
 go_wp2_with fail
 refine (nodes_ok w2 _ l (HC.out.ext HE2.out) (HV.out.ext HE2.out) HCL.out).mono ?_
 rintro e w3 ⟨u3,n3,rfl,hR⟩
 have hR:SRow w2 w3 u3 n3 (textsL l):=hR
 obtain⟨L,hL⟩:∃ L,L=textsL l:=⟨_,rfl⟩
 have hlen:=textsL_len HCL.out
 have HTL:=Hd hL
 rw[←hL]at hR hlen
 have hln:L.length=n3:=by have:=hR.len;simpa using this
 have hrd:=hR.rd
 obtain⟨a3,c3,e3⟩:=hR.sl
 have HE3:=Hd (HE2.out.trans hR.ext)
 subst e3
 have HL3:=Hd hrd
 subst hln
 clear hR hrd HE2 hL
 go_wp2_with fail
 refine (snew_c w3 2000).mono ?_
 rintro e w4 ⟨s,bm,rfl,hE,hS,hb1,hb2,hb3⟩
 have HE4:=Hd (HE3.out.trans hE)
 have HZ:=Hd (And.intro HE3.out.size hb1)
 have HZS:=Hd (And.intro hb2 hb3)
 have HS4:=Hd (show StoreAt w4 s bm 2000 []from hS)
 have HL4:=Hd (HL3.out.ext hE)
 clear hE hS HE3 HL3 hb1 hb2 hb3
 go_wp2_with fail
 refine (apart_c w4 (HC.out.ext HE4.out) _ L HL4.out (by omega)).mono ?_
 rintro e w5 ⟨b,rfl,hb,hE⟩
 have HE5:=Hd (HE4.out.trans hE)
 have HS5:=Hd (HS4.out.ext hE)
 have HL5:=Hd (HL4.out.ext hE)
 have HB:=Hd hb
 clear hE HE4 HS4 HL4 hb
 cases fw with
 | false =>
  go_wp2_with fail
  go_ret2
  exact .inl ⟨rfl,HE5.out,fun h=>by have:=HFW.out;rw[h.1]at this;cases this⟩
 | true =>
  cases b with
  | false =>
   go_wp2_with fail
   go_ret2
   refine .inl ⟨rfl,HE5.out,fun h=>?_⟩
   have:=HB.out.2 (by rw[HTL.out];exact h.2.2)
   cases this
  | true =>
   have HI:=Hd (show InjL (textsL l) by rw[←HTL.out];exact HB.out.1 rfl)
   have HSH:=Hd (show ShutL L by rw[HTL.out];exact texts_shut w HCL.out (by have:=textsL_len HCL.out;exact Nat.le_trans this (by decide)))
   have HTP:=Hd (show L[0]?=some (trieT l).text by rw[HTL.out];exact (texts HCL.out).head)
   obtain⟨tp,htp⟩:∃ tp,tp=(trieT l).text:=⟨_,rfl⟩
   rw[←htp]at HTP
   have HTX:=Hd htp
   clear htp
   go_wp2_with fail
   have HAN:=Hd (any_nodesQ HSH.out.node)
   refine (add_gen w5 (HC.out.ext HE5.out) (HEE.out.ext HE5.out) s bm 2000 [] HS5.out _ L HL5.out False HAN.out (by have:=textsL_len HCL.out;rw[HTL.out];omega) tp HTP.out (by decide) (by decide) (by simp) (fun x hx=>by cases hx) (fun x hx=>by cases hx)).mono ?_
   rintro e w6 hP
   rw[HTL.out]at hP
   have hpart:=part_all [] HCL.out
   rcases hP with⟨k,hwhy,_,_,_⟩ |⟨top,G,M,htop,hY⟩
   ·have h1:=(hpart.why w hwhy).2
    have h2:=textsL_len HCL.out
    simp at h1
    omega
   have htp2:top=(trieT l).text:=by have:=hpart.head;rw[htop]at this;exact Option.some.inj this
   subst htp2
   have hK:=hpart.add w5 HI.out (Kp.none _) (fun _ h=>h) (by have:=textsL_len HCL.out;omega) hY
   have hre:=hY.res
   subst hre
   have HF:=Hd (And.intro hY.st hK)
   have hk6:=hY.kp
   have HE6:=Hd (HE5.out.trans' hk6 (fun z hz e=>by
    rcases e with e | e
    ·have:=HZ.out;omega
    ·simp at e))
   have HSW:=Hd (And.intro HE5.out.size hk6.size)
   clear hY hK hk6 htop hpart
   go_wp2_with fail
   go_ret2
   exact .inr ⟨s,bm,_,rfl,⟨HE6.out,HF.out.1,⟨w5,HF.out.2⟩,HFW.out.symm,HI.out,HCL.out,by have:=HZ.out;omega,by have:=HZ.out;have:=HZS.out;omega,HZS.out.2,fun x hx=>by
    rcases HF.out.2.blk x hx with h | h
    ·simp at h
    ·have:=HSW.out;omega⟩⟩
end
section
open Go Go.RowKit
end
section
open Go Go.RowKit
attribute [local go_sem] Oper.semAt_some
def NodesR(l:List Pair)(w:World)(e:Ending)(w':World):Prop:=∃ a n c k L,e=.returned (.tuple #[.slice a n c,.int .i64 k])∧SRow w w' (.slice a n c) n L∧n=L.length∧n≤121∧k=checkN l∧(checkN l=0→L=textsL l)
theorem nodes_row(w:World)(hc:Cubes w)(v:Value)(l:List Pair)(hv:RdP w v l)(hn:l.length≤9223372036854775807)(hs:SmallP l) :
  Calls Tryz.prog 26 #[v] w (NodesR l w):=by
 by_cases h:checkN l=0
 ·refine (nodes_ok w v l hc hv h).mono ?_
  rintro e w' ⟨u,n,rfl,hR⟩
  have hR:SRow w w' u n (textsL l):=hR
  have hln:(textsL l).length=n:=by have:=hR.len;simpa using this
  obtain⟨a,c,rfl⟩:=hR.sl
  exact⟨a,n,c,0,_,rfl,hR,hln.symm,by rw[←hln];exact textsL_len h,h.symm,fun _=>rfl⟩
 ·refine (nodes_bad w v l hv hn hs h).mono ?_
  rintro e w' ⟨rfl,hE⟩
  exact⟨none,0,0,checkN l,[],rfl,ORow.nil _ _ hE,rfl,by omega,rfl,fun h0=>absurd h0 h⟩
theorem SRow.past{F:BSet}{w0 w w':World}{v:Value}{n:Nat}{xs:List ByteArray}(h:SRow w0 w v n xs)(k:Keeps F w w')(hF:∀ b,F b→w0.heap.size≤b→w.heap.size≤b):w'.ownsRow 0 9 1 v n (xs.map Value.string):=
 own_keeps h.own k fun b hb hf=>by have:=h.new b hb;have:=h.lt b hb;have:=hF b hf;omega
theorem own_open{W:World}{a:Option Addr}{n c:Nat}{xs:List ByteArray}(h:W.ownsRow 0 9 1 (.slice a n c) n (xs.map Value.string))(hn:0 < n):∃ g,a=some ⟨g,0,none⟩∧∀ (j:Nat) t,xs[j]?=some t→W.cell? ⟨g,j,none⟩=some (.string t):=by
 obtain⟨h1,⟨h2,h3⟩ |⟨g,cap,cur,h2,h3⟩⟩:=h
 ·omega
 ·obtain⟨rfl,_,_⟩:=Value.slice.inj h2
  refine⟨g,rfl,fun j t ht=>?_⟩
  have h:W.ownsRow 0 9 1 (.slice (some ⟨g,0,none⟩) n c) n (xs.map Value.string):=⟨h1,.inr ⟨g,cap,cur,h2,h3⟩⟩
  have q:=h.cells (g:=g) rfl j (.string t) (by rw[List.getElem?_map,ht];rfl)
  rwa [Addr.add_lit,Nat.zero_add]at q
structure Tst(W0 W:World)(s bm:Nat)(room:Int)(U:List ByteArray)(S:List Nd5)(n:Nat):Prop where
 ext:Ext W0 W
 st:StoreAt W s bm room S
 kp:Kp U S
 len:S.length≤n
 bnew:W0.heap.size≤bm
 new:∀ x∈S,W0.heap.size≤x.2.1
 hb:∀ x∈S,x.2.2.held≤n
theorem Tst.grow{W0 W W':World}{s bm:Nat}{room:Int}{U:List ByteArray}{S:List Nd5}{n:Nat}(h:Tst W0 W s bm room U S n)(k:Ext W W'):Tst W0 W' s bm room U S n:=
 ⟨h.ext.trans k,h.st.ext k,h.kp,h.len,h.bnew,h.new,h.hb⟩
theorem Tst.bds{W0 W:World}{s bm:Nat}{room:Int}{U:List ByteArray}{S:List Nd5}{n:Nat}(h:Tst W0 W s bm room U S n)(hn:n≤5000):S.length≤100000∧(∀ x∈S,0≤x.2.2.used∧x.2.2.used≤1000000000)∧(∀ x∈S,0≤x.2.2.held∧x.2.2.held≤1000000000):=
 ⟨by have:=h.len;omega,h.kp.bd (by have:=h.len;omega),fun x hx=>⟨h.kp.cnt.held x hx,by have:=h.hb x hx;omega⟩⟩
theorem Tst.add{W0 W W':World}{s bm:Nat}{room:Int}{U:List ByteArray}{S S':List Nd5}{n k:Nat}{m:List Pair}{L:List ByteArray}{e:Ending}(h:Tst W0 W s bm room U S n)(hL:L.length≤k)(h1:1≤k)(hY:ComY W s bm room U S m L e W' S'):Tst W0 W' s bm room U S' (n+k):=
 ⟨h.ext.trans' hY.kp (fun z hz e=>by
  rcases e with e | e
  ·have:=h.bnew;omega
  ·obtain⟨y,hy,e⟩:=List.mem_map.1 e
   have:=h.new y hy;omega),hY.st,hY.add.kp,by have:=hY.add.len;have:=h.len;omega,h.bnew,fun x hx=>by
  rcases hY.add.blk x hx with e | e
  ·obtain⟨y,hy,e⟩:=List.mem_map.1 e
   have:=h.new y hy;omega
  ·have:=h.ext.size;omega,fun x hx=>by
   have:=hY.add.bd n (by omega) h.hb x hx
   omega⟩
theorem Tst.keep{W0 W W':World}{s bm:Nat}{room:Int}{U:List ByteArray}{S:List Nd5}{n:Nat}(h:Tst W0 W s bm room U S n)(k:Keeps (fun z=>z=bm∨z∈S.map (·.2.1)) W W'):Keeps (fun z=>W0.heap.size≤z) W W':=
 k.mono fun z _ e=>by
  rcases e with rfl | e
  ·exact h.bnew
  ·obtain⟨y,hy,e⟩:=List.mem_map.1 e
   have:=h.new y hy
   show W0.heap.size≤z;omega
end
section
open Go Go.RowKit
theorem addS_at(S G:List Nd5)(M:List ByteArray)(top:ByteArray)(k:Key):atL (addS S G M top) k=(atL (S++picks G (frK S M)) k).map (bothU ((frK S M).flatMap (refsO G)) (shaB top)):=by
 rw[addS_is];exact heldO_map (bothU ((frK S M).flatMap (refsO G)) (shaB top)) (fun _=>rfl) _ k
theorem addS_old{S G:List Nd5}{M:List ByteArray}{top:ByteArray}{k:Key}{x:Nd5}(h:atL S k=some x):atL (addS S G M top) k=some (bothU ((frK S M).flatMap (refsO G)) (shaB top) x):=by
 rw[addS_at]
 unfold atL at h ⊢
 rw[List.find?_append,h];rfl
theorem addS_has{S G:List Nd5}{M:List ByteArray}{top t:ByteArray}(h:HasS S t):HasS (addS S G M top) t:=by
 obtain⟨x,h1,h2⟩:=h
 exact⟨_,addS_old h1,h2⟩
theorem addS_hasM{S G:List Nd5}{M:List ByteArray}{top:ByteArray}{l:List Pair}(h:HasM S l):HasM (addS S G M top) l:=⟨h.ok,fun x hx=>addS_has (h.has x hx)⟩
section
variable {w:World} {s bm:Nat} {room:Int} {S:List Nd5} {L:List ByteArray} {top:ByteArray} {G:List Nd5} {M:List ByteArray} {e:Ending} {w':World}
theorem AddY.nodesS(h:AddY w s bm room S L top G M e w')(hN:∀ x∈S,∃ n,IsNode x.2.2.text n):∀ x∈addS S G M top,∃ n,IsNode x.2.2.text n:=fun x hx=>by
 rw[addS_is]at hx
 obtain⟨z,hz,rfl⟩:=List.mem_map.1 hx
 rcases List.mem_append.1 hz with hz | hz
 ·exact hN z hz
 ·obtain⟨t,ht,_,e⟩:=given_is h.given (picks_mem hz).1
  obtain⟨n,hn⟩:=h.nodes t ht
  refine⟨n,?_⟩
  show IsNode z.2.2.text n
  rw[e];exact hn
theorem AddY.heldTop(h:AddY w s bm room S L top G M e w')(h0:∀ x∈S,0≤x.2.2.held):1≤heldO (atL (addS S G M top) (shaB top).data.toList):=by
 have h1:=s1_has2 h.path (r:=shaB top) (by rw[h.path.is];exact List.mem_cons_self)
 obtain⟨y,hy⟩:=Option.isSome_iff_exists.1 h1
 rw[addS_at,hy]
 obtain⟨y1,y2⟩:=atL_mem hy
 show 1≤y.2.2.held+((cK [shaB top] y.1:Nat):Int)
 have h2:0≤y.2.2.held:=by
  rcases List.mem_append.1 y1 with h3 | h3
  ·exact h0 y h3
  ·obtain⟨t,_,_,e⟩:=given_is h.given (picks_mem h3).1
   rw[e];exact Int.le_refl _
 rw[cK_single,y2,if_pos rfl]
 omega
theorem AddY.lenS(h:AddY w s bm room S L top G M e w')(hr:(S.length:Int)≤room):((addS S G M top).length:Int)≤room:=by
 have h1:=h.fits
 have h2:=len_add (S:=S) (G:=G) (M:=M) (top:=top)
 omega
theorem AddY.len2(h:AddY w s bm room S L top G M e w'):(addS S G M top).length≤S.length+L.length:=by
 have h1:=len_add (S:=S) (G:=G) (M:=M) (top:=top)
 have h2:=frK_len2 (S:=S) (M:=M) (fun x hx=>h.path.at' hx)
 have h3:=(readG_all L).2.2
 rw[←h.given,List.length_map]at h3
 omega
end
end
section
open Go Go.RowKit
attribute [local go_sem] Oper.semAt_some
theorem shashes_c(w:World)(s bm:Nat)(room:Int)(L:List Nd5)(h:StoreAt w s bm room L)(hl:L.length≤1000000):Calls Tryz.prog 28 #[.pointer (some ⟨s,0,none⟩)] w fun e w'=>∃ v,e=.returned v∧SRow w w' v L.length (baL (sortS (L.map (·.1)))):=by
 have q1:=h.st.cell (i:=1) (v:=.map (some bm)) (by rfl)
 obtain⟨es,ck,hm,hmv⟩:=h.mp.mp
 have hln:=run_len_map Tryz.ES Tryz.uMapIt hm
 have hel:es.length=L.length:=hmv.lenL
 rw[hel]at hln
 obtain⟨i0,hi,hz0,hz1,hz2⟩:=info_parts Tryz.infoS1
 obtain⟨w1,hmk0,hown,hgr⟩:=run_make_own (P:=Tryz.prog) (w:=w) w.heap.size 34 9 i0 _ 1 Tryz.sStrs.ht hi hz0 hz1 .i64 .i64 L.length (by rw[hz2];omega) (by unfold maxLen;omega) (Nat.le_refl _)
 have k1:Ext w w1:=Keeps.of_grown hgr (fun _ e=>by cases e)
 have hr1:=ORow.made w hown hgr
 have q1':=cell_ext q1 k1
 have hm1:=hm.keeps k1 (fun g=>g)
 have hrg:=run_range Tryz.ES Tryz.uMapIt hm1
 have HM:=Hd hmv
 have K1:=Hd k1
 have HR1:=Hd hr1
 have HM0:=Hd hm
 clear h hown hgr hm hmv hi hz0 hz1 hz2 k1 hr1 hm1
 go_enter Tryz.func28,Tryz.ntmps28
 go_wp2_with fail
 obtain⟨r,hr⟩:∃ r,r=w1.heap.size:=⟨_,rfl⟩
 have HR:=Hd hr
 rw[←hr]
 clear hr
 go_loopw [3] (fun v wr=>HaRel w r bm ck es v wr) (fun v _=>L.length - slN v)
 case atStart =>
  have hz:=K1.out.size
  refine⟨[],⟨HR1.out.mono ((ExtR w1).alloc _),?_,fun x hx=>(by cases hx),List.nodup_nil,fun b hb e=>?_⟩⟩
  ·rw[HR.out];exact Blk.new w1 _
  ·have:=HR1.out.lt b hb
   rw[HR.out]at e;omega
 case round =>
  obtain⟨sn,hS⟩:=hrel
  obtain⟨ad,cp,rfl⟩:=hS.row.sl
  have hMr:=(HM0.out).keeps hS.row.ext (fun g=>g)
  have hsnl:sn.length≤es.length:=hS.len
  rcases run_next Tryz.ES hMr hS.it HM.out.lt 0 with⟨hl0,hnx⟩ |⟨x,hxl,w2,hnx,hr2,hk2⟩
  ·have hp:=hS.done hl0 HM.out.born
   have hln2:sn.length=L.length:=by rw[hp.length_eq,hel]
   have hks:sortS (sn.map (·.1))=sortS (L.map (·.1)):=by
    rw[sortS_perm (hp.map _),HM.out.keysL]
   have HKS:=Hd hks
   have HRW:=Hd (show ORow 9 1 w wr (.slice ad sn.length cp) sn.length ((sn.map (·.1)).map encStr)from hS.row)
   have HLN:=Hd hln2
   clear hS hMr hp hks hln2 hl0 hmk0
   go_wp2_with fail
   refine (sort_s HRW.out (by rw[HLN.out];exact hl)).mono ?_
   rintro e w3 ⟨rfl,hs3⟩
   rw[HKS.out]at hs3
   rw[HLN.out]at hs3 ⊢
   have HS3:=Hd hs3
   clear hs3 HRW HLN
   go_wp2_with fail
   go_ret
   refine⟨_,rfl,?_⟩
   unfold SRow
   rw[baL_map]
   exact HS3.out
  ·have hrw:w.heap.size≤r:=by rw[HR.out];exact K1.out.size
   have hbm:=HM0.out.lt
   have hM2:=hMr.keeps hk2 (fun e=>by have e:bm=r:=e;omega)
   have hxm:x∈es:=(List.mem_filter.1 hxl).1
   have hnb:x.2.2 ∉ sn.map (·.2.2):=by have:=(List.mem_filter.1 hxl).2;simpa [bornK]using this
   have hen:=run_entry Tryz.ES hM2 hxm hr2 HM.out.born
   have hnd2:((sn++[x]).map (·.2.2)).Nodup:=by
    rw[List.map_append,List.nodup_append]
    exact⟨hS.nd,by simp,fun a ha b hb e=>by simp at hb;subst hb;subst e;exact hnb ha⟩
   have hsb2:∀ y∈sn++[x],y∈es:=fun y hy=>by
    rcases List.mem_append.1 hy with hy | hy
    ·exact hS.sub y hy
    ·simp at hy;exact hy ▸ hxm
   have hlt2:sn.length+1≤L.length:=by
    have:=List.Nodup.length_le_of_subset (nodup_of _ hnd2) (fun y hy=>hsb2 y hy)
    rw[hel]at this;simpa using this
   have hrow2:ORow 9 1 w w2 (.slice ad sn.length cp) sn.length (keyS sn):=hS.row.keeps hk2 (fun b hb e=>hS.ne b hb e) (fun b hb e=>by have e:b=r:=e;omega)
   have hr2':Blk w2 r (.mapIter (some bm) ck (bornK (sn++[x])) ck):=by
    have e:bornK (sn++[x])=(bornK sn).push x.2.2:=by unfold bornK;simp
    rw[e];exact hr2
   have HS2:=Hd (And.intro hnd2 (And.intro hsb2 hS.ne))
   have HRW:=Hd hrow2
   have HIT:=Hd hr2'
   have hm1:sn.length+1≤maxLen:=by unfold maxLen;omega
   have hm2:(sn.length+1) * 16≤140737488355328:=by omega
   have hrl:=hr2.lt
   obtain⟨kx,hkx⟩:∃ kx,kx=x.1:=⟨_,rfl⟩
   have HKX:=Hd hkx
   have hen':(Instr.entry (.pointer (some ⟨r,0,none⟩))).run Tryz.prog w2=.ok (.tuple #[encStr kx,x.2.1]) w2:=by rw[hkx];exact hen
   have hnx':(Instr.next (.pointer (some ⟨r,0,none⟩)) false 0).run Tryz.prog wr=.ok (.tuple #[.bool true,encStr kx,x.2.1]) w2:=by rw[hkx];exact hnx
   obtain⟨n,hn⟩:∃ n,n=sn.length:=⟨_,rfl⟩
   have HN:=Hd hn
   rw[←hn]at hm1 hm2 hlt2 hrow2 HRW HS2 ⊢
   clear hS hMr hM2 hxl hr2 hk2 hxm hnb hen hnd2 hsb2 hrow2 hr2' hmk0 hnx hkx hsnl hn
   unfold encStr at hen' hnx'
   go_wp2_with (at_builtin;refine wpList_app Tryz.sStrs (HRW.out.mono ((ExtR w2).alloc _)) (.tmp 20) (.tmp 22) rfl rfl rfl (news_blk (Blk.new w2 _)) (news:=[encStr kx]) (by intro u hu;simp at hu;rcases hu with rfl;rfl) rfl rfl hm1 hm2 ?_;intro v' w' r1 r2 r3)
   have HX:=Hd (And.intro r1 (And.intro r2 r3))
   obtain⟨ad',cp',rfl⟩:=r1.sl
   clear r1 r2 r3
   go_wp2_with fail
   go_roundw
   case rel =>
    obtain⟨r1,r2,r3⟩:=HX.out
    have hal:=((ExtR w2).alloc (.cells #[.string ⟨kx.toArray⟩] 9)).size
    refine⟨sn++[x],?_,?_,HS2.out.2.1,HS2.out.1,?_⟩
    ·have e:keyS (sn++[x])=keyS sn++[encStr kx]:=by unfold keyS;simp[HKX.out]
     rw[e,List.length_append, ←HN.out]
     exact r1
    ·refine (HIT.out.alloc _).keeps r2 (fun e=>HS2.out.2.2 r e rfl)
    ·intro b hb e
     rcases r3 with r3 | r3
     ·exact HS2.out.2.2 b (r3 ▸ hb) e
     ·have:=r3 b hb;omega
   case measure=>simp[slN];omega
end
section
open Go Go.RowKit
def Sm5Rel(w:World)(l m:List Pair)(v:Value)(wr:World):Prop:=∃ i:Nat,i≤l.length∧v=.int .i64 i∧Ext w wr∧l.take i=m.take i
theorem same_c(w:World)(v u:Value)(l m:List Pair)(hv:RdP w v l)(hu:RdP w u m)(hn:l.length≤1000000)(hn2:m.length≤1000000):Calls Tryz.prog 21 #[v,u] w fun e w'=>e=.returned (.bool (sameL l m))∧Ext w w':=by
 obtain⟨a,c,hsl⟩:=hv.sl
 obtain⟨a',c',hsl'⟩:=hu.sl
 have HV:=Hd hv
 have HU:=Hd hu
 subst hsl
 subst hsl'
 clear hv hu
 by_cases hlen:l.length=m.length
 ·have hq:((l.length:Int) ==(m.length:Int))=true:=by simp;omega
  have hq3:((l.length:Int) !=(m.length:Int))=false:=by simp;omega
  have HLN:=Hd hlen
  obtain⟨n,hnn⟩:∃ n,n=l.length:=⟨_,rfl⟩
  rw[←hlen, ←hnn]
  rw[←hnn]at hn
  have HN:=Hd hnn
  clear hq hq3 hlen hnn hn2
  go_enter Tryz.func21,Tryz.ntmps21
  go_wp2_with fail
  go_loopw [5] (fun i wr=>Sm5Rel w l m i wr) (fun i _=>n - (intOf i).toNat)
  case atStart=>exact⟨0,by omega,rfl,ExtR w,by simp⟩
  case round =>
   obtain⟨i,hi,rfl,hE,hall⟩:=hrel
   have HE:=Hd hE
   have HALL:=Hd hall
   have hi:i≤n:=by rw[HN.out];exact hi
   clear hE hall
   by_cases hlt:i < n
   ·have hl1:i < l.length:=by have:=HN.out;omega
    have hl2:i < m.length:=by have:=HN.out;have:=HLN.out;omega
    rcases HV.out with⟨_,_,_,h0⟩ |⟨b,o,c1,hh,hb,hc,hcell⟩
    ·rw[h0]at hl1;cases hl1
    rcases HU.out with⟨_,_,_,h0⟩ |⟨b',o',c2,hh',hb',hc',hcell'⟩
    ·rw[h0]at hl2;cases hl2
    obtain⟨rfl,hx1,hx2⟩:=Value.slice.inj hh
    obtain⟨rfl,hx3,hx4⟩:=Value.slice.inj hh'
    obtain⟨p,hp⟩:∃ p,l[i]?=some p:=⟨_,List.getElem?_eq_getElem hl1⟩
    obtain⟨q,hq⟩:∃ q,m[i]?=some q:=⟨_,List.getElem?_eq_getElem hl2⟩
    obtain⟨q1,q2⟩:=hcell i p hp
    obtain⟨q3,q4⟩:=hcell' i q hq
    have hla:∀ w1,Ext wr w1→(Instr.loadAt 72 (.pointer (some ⟨b,o+i * 2,none⟩))).run Tryz.prog w1=.ok (.agg #[.string p.1,.string p.2]) w1:=fun w1 h1=>load_pair (cell_ext q1 (HE.out.trans h1)) (cell_ext q2 (HE.out.trans h1))
    have hlb:∀ w1,Ext wr w1→(Instr.loadAt 72 (.pointer (some ⟨b',o'+i * 2,none⟩))).run Tryz.prog w1=.ok (.agg #[.string q.1,.string q.2]) w1:=fun w1 h1=>load_pair (cell_ext q3 (HE.out.trans h1)) (cell_ext q4 (HE.out.trans h1))
    have hnp:=fun w=>neq_pair p.1 p.2 q.1 q.2 w
    have HLA:=Hd hla
    have HLB:=Hd hlb
    have HNP:=Hd hnp
    have HP:=Hd hp
    have HQ:=Hd hq
    have b1:(i:Int) < (n:Int):=by omega
    clear hcell hcell' hh hh' hx1 hx2 hx3 hx4 hp hq q1 q2 q3 q4 hla hlb hnp hl1 hl2 hc hc'
    go_wp2_with fail
    refine wp_region_mixK [0,1,2,3,4,5,6,7,8] Ext ExtR ExtT (by kernel_rfl) (by kernel_rfl) (by kernel_rfl) ?_
    iterate 3 (refine mixk_pure _ rfl (by kernel_rfl) rfl rfl (fun K hK=>?_);go_big_quiet_op;refine hK _ ?_;clear hK K)
    refine mixk_load ⟨b,o+i * 2,none⟩ _ rfl (by kernel_rfl) rfl rfl (fun w1 h1=>HLA.out w1 ((drewE wr).trans h1)) ?_
    simp only[Act.put,sA,sB,sC]
    iterate 3 (refine mixk_pure _ rfl (by kernel_rfl) rfl rfl (fun K hK=>?_);go_big_quiet_op;refine hK _ ?_;clear hK K)
    refine mixk_load ⟨b',o'+i * 2,none⟩ _ rfl (by kernel_rfl) rfl rfl (fun w1 h1=>HLB.out w1 ((drewE wr).trans h1)) ?_
    simp only[Act.put,sA,sB,sC]
    refine mixk_val _ (.bool (!eqP p q)) rfl (by kernel_rfl) rfl (fun w1 h1=>exec_bin rfl rfl (by kernel_rfl) (HNP.out w1)) ?_
    simp only[Act.put,sA,sB,sC]
    refine mixk_end (by kernel_rfl) (fun w3 he=>?_)
    have HE3:=Hd ((HE.out.trans (drewE wr)).trans he)
    clear he
    cases hpq:eqP p q with
    | true =>
     have hpe:=(eqP_iff p q).1 hpq
     have HT:=Hd (show l.take (i+1)=m.take (i+1) by rw[List.take_add_one,List.take_add_one,HP.out,HQ.out,HALL.out,hpe])
     clear hpq hpe
     go_wp2_with fail
     go_roundw
     case rel=>exact⟨i+1,by have:=HN.out;omega,by go_num,HE3.out,HT.out⟩
     case measure=>simp[intOf];omega
    | false =>
     have HF:=Hd (show sameL l m=false by
      cases hs:sameL l m with
      | false=>rfl
      | true =>
       have e:=(sameL_iff l m).1 hs
       have e1:=HP.out
       rw[e,HQ.out]at e1
       rw[←Option.some.inj e1,(eqP_iff q q).2 rfl]at hpq;cases hpq)
     clear hpq
     go_wp2_with fail
     go_ret
     exact⟨by rw[HF.out];rfl,HE3.out⟩
   ·have hin:i=n:=by omega
    have HF:=Hd (show sameL l m=true by
     rw[sameL_iff]
     have:=HALL.out
     rw[hin,HN.out,List.take_length,HLN.out,List.take_length]at this;exact this)
    go_wp2_with fail
    go_ret
    exact⟨by rw[HF.out];rfl,HE.out⟩
 ·have hq:((l.length:Int) ==(m.length:Int))=false:=by simp;omega
  have hq3:((l.length:Int) !=(m.length:Int))=true:=by simp;omega
  have hq2:¬(l.length:Int)=(m.length:Int):=by omega
  have HF:=Hd (show sameL l m=false by
   cases hs:sameL l m with
   | false=>rfl
   | true=>exact absurd (by rw[(sameL_iff l m).1 hs]) hlen)
  go_enter Tryz.func21,Tryz.ntmps21
  go_wp2_with fail
  go_ret
  exact⟨by rw[HF.out];rfl,ExtR w⟩
end
section
open Go Go.RowKit
attribute [local go_sem] Oper.semAt_some
def SmRel(w:World)(n:Nat)(iv:Value)(W:World)(l m:List ByteArray):Prop:=∃ i:Nat,i≤n∧iv=.int .i64 i∧l.take i=m.take i∧Ext w W
theorem same2_c(w:World)(v u:Value)(l m:List ByteArray)(hv:RdS w v l)(hu:RdS w u m)(hn:l.length≤1000000)(hn2:m.length≤1000000):Calls Tryz.prog 22 #[v,u] w fun e w'=>e=.returned (.bool (decide (l=m)))∧Ext w w':=by
 obtain⟨a,c,rfl,_⟩:=hv.slice
 obtain⟨a2,c2,rfl,_⟩:=hu.slice
 have HV:=Hd hv
 have HU:=Hd hu
 clear hv hu
 by_cases hl:l.length=m.length
 ·have hli:(l.length:Int)=(m.length:Int):=by omega
  obtain⟨n,hn0⟩:∃ n,n=l.length:=⟨_,rfl⟩
  have hml:m.length=n:=by omega
  have HML:=Hd hml
  have HNL:=Hd hn0
  rw[hml, ←hn0]
  rw[←hn0]at hn
  clear hli hl hml hn0 hn2
  go_enter Tryz.func22,Tryz.ntmps22
  go_wp2_with fail
  go_loopw [5] (fun iv wr=>SmRel w n iv wr l m) (fun iv _=>n - (intOf iv).toNat)
  case atStart=>exact⟨0,Nat.zero_le _,rfl,rfl,ExtR w⟩
  case round =>
   obtain⟨i,hi,rfl,htk,hE⟩:=hrel
   have HE:=Hd hE
   have HTK:=Hd htk
   clear hE htk
   by_cases hlt:i < n
   ·have b1:(i:Int) < (n:Int):=by omega
    have hl1:i < l.length:=by have:=HNL.out;omega
    have hl2:i < m.length:=by have:=HML.out;omega
    obtain⟨x,hx⟩:∃ x,l[i]?=some x:=⟨_,List.getElem?_eq_getElem hl1⟩
    obtain⟨y,hy⟩:∃ y,m[i]?=some y:=⟨_,List.getElem?_eq_getElem hl2⟩
    have hVn:RdS w (.slice a n c) l:=by have:=HV.out;rwa [←HNL.out]at this
    have hUn:RdS w (.slice a2 n c2) m:=by have:=HU.out;rwa [HML.out]at this
    have hq1:∃ ba oa,a=some ⟨ba,oa,none⟩∧wr.cell? ⟨ba,oa+i,none⟩=some (.string x):=by
     rcases HV.out with⟨_,_,_,h0⟩ |⟨bq,oq,cq,hh,_,_,hcell⟩
     ·rw[h0]at hl1;cases hl1
     ·exact⟨bq,oq,(Value.slice.inj hh).1,cell_ext (hcell i x hx) HE.out⟩
    have hq2:∃ ba oa,a2=some ⟨ba,oa,none⟩∧wr.cell? ⟨ba,oa+i,none⟩=some (.string y):=by
     rcases HU.out with⟨_,_,_,h0⟩ |⟨bq,oq,cq,hh,_,_,hcell⟩
     ·rw[h0]at hl2;cases hl2
     ·exact⟨bq,oq,(Value.slice.inj hh).1,cell_ext (hcell i y hy) HE.out⟩
    obtain⟨ba,oa,rfl,hq1⟩:=hq1
    obtain⟨ba',oa',rfl,hq2⟩:=hq2
    have HX:=Hd hx
    have HY:=Hd hy
    have Q1:=Hd hq1
    have Q2:=Hd hq2
    clear hVn hUn hl1 hl2 hx hy hq1 hq2
    go_wp2_with fail
    refine wp_region_mixK [0,1,2,3,4,5,6,7,8] Ext ExtR ExtT (by kernel_rfl) (by kernel_rfl) (by kernel_rfl) ?_
    iterate 3 (refine mixk_pure _ rfl (by kernel_rfl) rfl rfl (fun K hK=>?_);go_big_quiet_op;refine hK _ ?_;clear hK K)
    refine mixk_load ⟨ba,oa+i,none⟩ _ rfl (by kernel_rfl) rfl rfl (fun w1 h1=>run_load_plain Tryz.underlying9 rfl (cell_ext Q1.out ((drewE wr).trans h1))) ?_
    simp only[Act.put,sA,sB,sC]
    iterate 3 (refine mixk_pure _ rfl (by kernel_rfl) rfl rfl (fun K hK=>?_);go_big_quiet_op;refine hK _ ?_;clear hK K)
    refine mixk_load ⟨ba',oa'+i,none⟩ _ rfl (by kernel_rfl) rfl rfl (fun w1 h1=>run_load_plain Tryz.underlying9 rfl (cell_ext Q2.out ((drewE wr).trans h1))) ?_
    simp only[Act.put,sA,sB,sC]
    (refine mixk_pure _ rfl (by kernel_rfl) rfl rfl (fun K hK=>?_);go_big_quiet_op;refine hK _ ?_;clear hK K)
    refine mixk_end (by kernel_rfl) (fun w3 he=>?_)
    have HE3:=Hd (HE.out.trans ((drewE wr).trans he))
    clear he HE Q1 Q2
    by_cases hxy:x=y
    ·subst hxy
     have hne:(!x.toList == x.toList)=false:=by simp
     rw[hne]
     clear hne
     have HT:=Hd (show l.take (i+1)=m.take (i+1) by rw[List.take_add_one,List.take_add_one,HX.out,HY.out,HTK.out])
     go_wp2_with fail
     go_roundw
     case rel=>exact⟨i+1,by omega,by go_num,HT.out,HE3.out⟩
     case measure=>simp[intOf];omega
    ·have hne:(!x.toList == y.toList)=true:=by
      have:¬ x.toList=y.toList:=fun e=>hxy (toList_inj e)
      simpa using this
     rw[hne]
     clear hne
     have HN:=Hd (show decide (l=m)=false from decide_eq_false (fun e=>by
      have h1:=HX.out;rw[e,HY.out]at h1;exact hxy (Option.some.inj h1).symm))
     go_wp2_with fail
     go_ret
     exact⟨by rw[HN.out];rfl,HE3.out⟩
   ·have hie:i=n:=by omega
    have HD:=Hd (show decide (l=m)=true from decide_eq_true (by
     have h1:=HTK.out
     rw[hie,List.take_of_length_le (by rw[←HNL.out];exact Nat.le_refl _),List.take_of_length_le (by rw[HML.out];exact Nat.le_refl _)]at h1
     exact h1))
    go_wp2_with fail
    go_ret
    exact⟨by rw[HD.out];rfl,HE.out⟩
 ·have HL:=Hd (show decide (l=m)=false from decide_eq_false (fun e=>hl (by rw[e])))
  have hb:((l.length:Int) ==(m.length:Int))=false:=by simp;omega
  have hb2:¬(l.length:Int)=(m.length:Int):=by omega
  rw[HL.out]
  go_enter Tryz.func22,Tryz.ntmps22
  go_wp2_with fail
  go_ret
  exact⟨rfl,ExtR w⟩
end
section
open Go Go.RowKit
def shortC(c:Chg):Bool:=decide (c.key.size≤20) && decide (c.value.size≤100)
def fewC(l:List Chg):Bool:=l.all shortC && decide (l.length≤45)
def FwRelC(w:World)(l:List Chg)(i:Value)(wr:World):Prop:=∃ k:Nat,k≤l.length∧k≤46∧i=.int .i64 k∧Ext w wr∧(l.take k).all shortC=true
theorem all_stepC{l:List Chg}{k:Nat}{p:Chg}(h:l[k]?=some p):(l.take (k+1)).all shortC=((l.take k).all shortC && shortC p):=by
 rw[List.take_add_one,h,List.all_append];simp
theorem all_notC{l:List Chg}{k:Nat}{p:Chg}(h:l[k]?=some p)(hb:shortC p=false):fewC l=false:=by
 unfold fewC
 have:l.all shortC=false:=by
  rw[Bool.eq_false_iff];intro h2
  have:=List.all_eq_true.1 h2 p (List.mem_of_getElem? h)
  rw[hb]at this;cases this
 rw[this];rfl
theorem fewc_c(w:World)(v:Value)(l:List Chg)(hv:RdC w v l)(hn:l.length≤9223372036854775807)(hs:∀ p∈l,p.key.size≤9223372036854775807∧p.value.size≤9223372036854775807) :
  Calls Tryz.prog 24 #[v] w fun e w'=>e=.returned (.bool (fewC l))∧Ext w w':=by
 have HV:=Hd hv
 have HS:=Hd hs
 obtain⟨a,c,hsl⟩:=hv.sl
 subst hsl
 clear hv hs
 obtain⟨R,hR⟩:∃ R,R=fewC l:=⟨_,rfl⟩
 rw[←hR]
 have HR:=Hd hR
 clear hR
 go_enter Tryz.func24,Tryz.ntmps24
 go_wp2_with fail
 go_loopw [3] (fun i wr=>FwRelC w l i wr) (fun i _=>l.length - (intOf i).toNat)
 case atStart=>exact⟨0,by omega,by omega,rfl,ExtR w,rfl⟩
 case round =>
  obtain⟨k,hk,hk6,rfl,hE,hall⟩:=hrel
  have HE:=Hd hE
  have HALL:=Hd hall
  clear hE hall
  by_cases hlt:k < l.length
  ·have b1:(k:Int) < (l.length:Int):=by omega
   by_cases h45:k≤45
   ·have b2:(k:Int)≤45:=by omega
    obtain⟨p,hp⟩:∃ p,l[k]?=some p:=⟨_,List.getElem?_eq_getElem hlt⟩
    rcases HV.out with⟨_,_,_,h0⟩ |⟨b,o,c1,hh,hb,hc,hcell⟩
    ·rw[h0]at hlt;cases hlt
    cases hh
    obtain⟨q1,q2,q3⟩:=hcell k p hp
    have q1:=cell_ext q1 HE.out
    have q2:=cell_ext q2 HE.out
    have q3:=cell_ext q3 HE.out
    have hsp:=HS.out p (List.mem_of_getElem? hp)
    have HP:=Hd hp
    obtain⟨x,y,gn⟩:=p
    simp only at q1 q2 q3 hsp
    clear hcell hb hc hp
    by_cases hx:20 < x.size
    ·have b3:(20:Int) < (x.size:Int):=by omega
     have HF:=Hd (show R=false by rw[HR.out];exact all_notC HP.out (by unfold shortC;simp;omega))
     clear hx
     go_wp2_with fail
     go_ret
     exact⟨by rw[HF.out];rfl,HE.out⟩
    ·have b3:¬(20:Int) < (x.size:Int):=by omega
     by_cases hy:100 < y.size
     ·have b4:(100:Int) < (y.size:Int):=by omega
      have HF:=Hd (show R=false by rw[HR.out];exact all_notC HP.out (by unfold shortC;simp;omega))
      clear hx hy
      go_wp2_with fail
      go_ret
      exact⟨by rw[HF.out];rfl,HE.out⟩
     ·have b4:¬(100:Int) < (y.size:Int):=by omega
      have HG:=Hd (show (l.take (k+1)).all shortC=true by rw[all_stepC HP.out,HALL.out];unfold shortC;simp;omega)
      clear hx hy
      go_wp2_with fail
      go_roundw
      case rel=>exact⟨k+1,by omega,by omega,by go_num,HE.out,HG.out⟩
      case measure=>simp[intOf];omega
   ·have b2:¬(k:Int)≤45:=by omega
    have b3:¬(l.length:Int)≤45:=by omega
    have HF:=Hd (show R=false by rw[HR.out];unfold fewC;simp;omega)
    clear h45
    go_wp2_with fail
    go_ret
    exact⟨by rw[HF.out];rfl,HE.out⟩
  ·have hkl:k=l.length:=by omega
   have b1:¬(k:Int) < (l.length:Int):=by omega
   have hall:=HALL.out
   rw[hkl,List.take_length]at hall
   by_cases h45:l.length≤45
   ·have b2:(l.length:Int)≤45:=by omega
    have HF:=Hd (show R=true by rw[HR.out];unfold fewC;rw[hall];simp;omega)
    clear hkl hall h45
    go_wp2_with fail
    go_ret
    exact⟨by rw[HF.out];rfl,HE.out⟩
   ·have b2:¬(l.length:Int)≤45:=by omega
    have HF:=Hd (show R=false by rw[HR.out];unfold fewC;simp;omega)
    clear hkl hall h45
    go_wp2_with fail
    go_ret
    exact⟨by rw[HF.out];rfl,HE.out⟩
end
end Go.Proofs.YtpaacnhboilkkaaGreatDoor
