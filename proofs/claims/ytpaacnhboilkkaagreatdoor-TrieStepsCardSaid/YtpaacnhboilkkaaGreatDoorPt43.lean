/- Parts of the proof, one behind the other: ComB, TriB, WayE, FolA, TriC, FolB, TWorks, TWorksB, HoldK, NewA, StepPl, TGonePl, NodesR. Each is under no condition but those that it states. -/
import Derived.Test.YtpaacnhboilkkaaGreatDoorPt40
import Derived.Test.YtpaacnhboilkkaaGreatDoorPt42
import Derived.Test.YtpaacnhboilkkaaGreatDoorPt38
import Derived.Test.YtpaacnhboilkkaaGreatDoorPt22
import Derived.Test.YtpaacnhboilkkaaGreatDoorPt39
import Derived.Test.YtpaacnhboilkkaaGreatDoorPt34
namespace Go.Proofs.YtpaacnhboilkkaaGreatDoor
set_option linter.unusedSimpArgs false
set_option linter.unusedVariables false
set_option maxRecDepth 100000
set_option maxHeartbeats 16000000
section
open Go Go.RowKit
theorem flat_below{m:List Pair}(h:checkN m=0):flatT (trieT m)=(trieT m).text :: belowM m:=by
 rw[below_is h];show flatT (.mk _ _)=_;rw[flatT];rfl
theorem part_new(S:List Nd5){m:List Pair}(h:checkN m=0):Part S m (newM S m):=
 ⟨h,rfl,fun t ht=>(firsts_mem _ _).2 (new_mem h ht),fun t ht=>by
  have ht:=(firsts_mem (flatT (trieT m)) t).1 ht
  rw[flat_below h]at ht
  unfold newM
  rcases List.mem_cons.1 ht with rfl | ht
  ·exact .inl List.mem_cons_self
  ·cases hl:lackB S t with
   | true=>exact .inl (List.mem_cons_of_mem _ (List.mem_filter.2 ⟨(firsts_mem _ _).2 ht,hl⟩))
   | false =>
    refine .inr (has_iff.1 ?_)
    unfold lackB at hl
    unfold ky
    cases ha:atL S (shaB t).data.toList with
    | none=>rw[ha]at hl;cases hl
    | some x=>rfl⟩
theorem AddK.ahead{w w1:World}{U:List ByteArray}{S:List Nd5}{m:List Pair}{L:List ByteArray}{S':List Nd5}(h:AddK w1 U S m L S')(hw:w.heap.size≤w1.heap.size):AddK w U S m L S':=
 ⟨h.kp,h.key,h.held,h.sum,h.len,fun x hx=>(h.blk x hx).imp id (fun e=>Nat.le_trans hw e),h.bd⟩
structure ComY(w:World)(s bm:Nat)(room:Int)(U:List ByteArray)(S:List Nd5)(m:List Pair)(L:List ByteArray)(e:Ending)(w':World)(S':List Nd5):Prop where
 res:e=.returned (.tuple #[.string (rootM m),.int .i64 0])
 st:StoreAt w' s bm room S'
 add:AddK w U S m L S'
 kp:Keeps (fun z=>z=bm∨z∈S.map (·.2.1)) w w'
 fits:(S'.length:Int)≤room∨room < S.length
def ComF(w:World)(room:Int)(S:List Nd5)(L:List ByteArray)(e:Ending)(w':World):Prop:=e=.returned (.tuple #[.string ⟨#[]⟩,.int .i64 3])∧Ext w w'∧room < (S.length:Int)+(L.length:Int)
theorem addgen_y(w0 w:World){U:List ByteArray}(hU:InjL U){S:List Nd5}(hK:Kp U S){m:List Pair}{L:List ByteArray}(hp:Part S m L)(hs:∀ t∈textsL m,t∈U)(hl:L.length≤1000){s bm:Nat}{room:Int}{e:Ending}{w':World}(hE:Ext w0 w)(h:AddGen False w s bm room S L e w') :
  ComF w0 room S L e w'∨∃ S',ComY w0 s bm room U S m L e w' S':=by
 rcases h with⟨k,hwhy,_,rfl,hE2⟩ |⟨top,G,M,htop,hY⟩
 ·obtain⟨rfl,h3⟩:=hp.why w hwhy
  exact .inl ⟨rfl,hE.trans hE2,h3⟩
 ·have htp:top=(trieT m).text:=by have:=hp.head;rw[htop]at this;exact Option.some.inj this
  subst htp
  refine .inr ⟨_,hY.res,hY.st,(hp.add w hU hK hs hl hY).ahead hE.size,(hE.mono (fun _ _ e=>e.elim)).trans hY.kp,?_⟩
  have h1:=hY.fits
  have h2:=len_add (S:=S) (G:=G) (M:=M) (top:=(trieT m).text)
  have h2:(bumpH (shaB (trieT m).text).data.toList (bumps ((frK S M).flatMap (refsO G)) (S++picks G (frK S M)))).length≤S.length+(frK S M).length:=h2
  omega
theorem com_y(w:World){U:List ByteArray}(hU:InjL U){S:List Nd5}(hK:Kp U S){l:List Pair}{cs:List Chg}(h0:applyE l cs=0)(hs:∀ t∈textsL (afterM l cs),t∈U){s bm:Nat}{room:Int}{e:Ending}{w':World}(h:ComP w s bm room S l cs e w') :
  ComF w room S (newM S (afterM l cs)) e w'∨∃ S',ComY w s bm room U S (afterM l cs) (newM S (afterM l cs)) e w' S':=by
 rcases h with⟨h1,_⟩ |⟨_,w1,hE,h⟩
 ·exact absurd h0 h1
 ·have hc:checkN (afterM l cs)=0:=after_check h0
  exact addgen_y w w1 hU hK (part_new S hc) hs (by have:=new_len (S:=S) hc;omega) hE h
theorem com_room(w:World){U:List ByteArray}(hU:InjL U){S:List Nd5}(hK:Kp U S){l:List Pair}{cs:List Chg}(h0:applyE l cs=0)(hs:∀ t∈textsL (afterM l cs),t∈U){s bm:Nat}{room:Int}{e:Ending}{w':World}(h:ComP w s bm room S l cs e w')(hr:(S.length:Int)+((newM S (afterM l cs)).length:Int)≤room) :
  ∃ S',ComY w s bm room U S (afterM l cs) (newM S (afterM l cs)) e w' S':=by
 rcases com_y w hU hK h0 hs h with⟨_,_,h3⟩ | h3
 ·omega
 ·exact h3
theorem AddK.more{w:World}{U:List ByteArray}(hU:InjL U){S:List Nd5}{m:List Pair}{L:List ByteArray}{S':List Nd5}(h:AddK w U S m L S'){l:List Pair}(hl:∀ t∈textsL l,t∈U)(hM:HasM S l):HasM S' l:=
 h.kp.has w hU hM.ok hl ((h.key _).2 (.inl (by
  obtain⟨x,hx,_⟩:=hM.has _ (text_mem _)
  exact has_iff.1 (by rw[hx];rfl))))
theorem AddK.has{w:World}{U:List ByteArray}(hU:InjL U){S:List Nd5}{m:List Pair}{L:List ByteArray}{S':List Nd5}(h:AddK w U S m L S')(hm:checkN m=0)(hl:∀ t∈textsL m,t∈U):HasM S' m:=
 h.kp.has w hU hm hl ((h.key _).2 (.inr ⟨_,List.mem_of_getElem? (texts hm).head,rfl⟩))
end
section
open Go Go.RowKit
attribute [local go_sem] Oper.semAt_some
theorem drewNE(w:World)(n:Nat):Ext w (w.drewN n):=(ExtR w).drewN n
def FoRel(z g L:Nat)(v:Value)(W:World)(S:List Nd5)(A:List ByteArray)(V:Option ByteArray)(okv pv:Value)(wr:World):Prop:=
 ∃ (p:ByteArray) (T:List ByteArray) (v':Value),pv=.string p∧MetTo z g v W wr v' T∧v'.ownBlock≠some L ∧
  ((okv=.bool true∧∃ f l,RowsOk f l∧validN p=true∧p.size≤2000∧T++wayL f l p=A∧valL l p=V∧Blk wr L (.cells (nodeF (buildT f) l).cells.toArray 144)∧(∀ x∈flatT (buildT (f+1) l),32≤x.size→HasS S x)) ∨
  (okv=.bool false∧T=A∧V=none))
def foM:Value→Value→Nat | .bool true,pv=>strSz pv+1 | _,_=>0
def folV:Option ByteArray→Value | some u=>.tuple #[.string u,.int .i64 0] | none=>.tuple #[.string ⟨#[]⟩,.int .i64 9]
def FoPost(z g:Nat)(v:Value)(W:World)(A:List ByteArray)(V:Option ByteArray)(e:Ending)(w':World):Prop:=e=.returned (folV V)∧∃ v',MetTo z g v W w' v' A
theorem follow8_c(w0 W:World)(s bm:Nat)(room:Int)(S:List Nd5)(hs:StoreAt w0 s bm room S)(hE0:Ext w0 W)(g:Nat)(v:Value)(h:MetAt w0.heap.size g v [] W)(l:List Pair)(hM:HasM S l)(key:ByteArray)(hk:key.size≤1000) :
  Calls Tryz.prog 60 #[.pointer (some ⟨s,0,none⟩),.string (shaB (trieT l).text),.string key,.func (.func 63) #[] #[.pointer (some ⟨g,0,none⟩)]] W (FoPost w0.heap.size g v W ((trieT l).text :: wayL 12 (rowsL l) (pathB key)) (valL (rowsL l) (pathB key))):=by
 have HS:=Hd hs
 have HE0:=Hd hE0
 have HM:=Hd h
 have hrows:=rows_ok (check_ok hM.ok)
 have HROWS:=Hd hrows
 have hgood:=(good 12 (rowsL l) hrows).1
 obtain⟨n,hn⟩:∃ n,n=nodeF (buildT 12) (rowsL l):=⟨_,rfl⟩
 rw[←hn]at hgood
 have hat:=at8_c w0 W s bm room S hs hE0 g v [] h (by simp) (trieT l).text (hM.has _ (text_mem _)) 12 n hgood (by rw[hn];rfl)
 have HAT:=Hd hat
 have HL:=Hd (n.cells_len (hgood.one (inlP 12)).refs)
 have HAS:=Hd hM.has
 have HN:=Hd hn
 have HK:=Hd hk
 obtain⟨A,hA⟩:∃ A,A=(trieT l).text :: wayL 12 (rowsL l) (pathB key):=⟨_,rfl⟩
 obtain⟨V,hV⟩:∃ V,V=valL (rowsL l) (pathB key):=⟨_,rfl⟩
 have HA:=Hd hA
 have HV:=Hd hV
 rw[←hA, ←hV]
 obtain⟨k0,hk0⟩:∃ k,k=shaB (trieT l).text:=⟨_,rfl⟩
 rw[←hk0]at HAT ⊢
 clear hs hE0 h hrows hgood hn hat hM hk hA hV hk0
 go_enter Tryz.func60,Tryz.ntmps60
 go_wp2_with fail
 refine HAT.out.mono ?_
 rintro e w1 ⟨rfl,v1,hT1⟩
 have HT1:=Hd hT1
 clear hT1
 unfold NodeT.V
 go_wp2_with (first |(refine wpList_new Tryz.allocNode rfl rfl ?_;intro W5 hB5 hE5;refine wpList_fill (vs:=n.cells) rfl rfl rfl rfl hB5 (by rw[HL.out];rfl) (by rw[HL.out];exact Tryz.szNode) n.one ?_;intro W6 hB6 hE6))
 refine (path_c _ key (by have:=HK.out;omega)).mono ?_
 rintro e w7 ⟨rfl,hE⟩
 have hX6:Ext w1 W6:=hE5.trans' hE6 (fun x hx e=>by have e:x=w1.heap.size:=e;omega)
 have HT7:=Hd ((HT1.out.ext hX6).ext hE)
 have HB7:=Hd (hB6.keeps hE (fun h=>h))
 have HLN:=Hd (show w1.heap.size≠g∧v1.ownBlock≠some w1.heap.size from⟨by have:=HT1.out.at'.var.lt;omega,fun e=>by have:=(HT1.out.at'.own _ e).2.2;omega⟩)
 have HLW:=Hd (show W.heap.size≤w1.heap.size from HT1.out.kp.size)
 obtain⟨L,hL⟩:∃ L,L=w1.heap.size:=⟨_,rfl⟩
 rw[←hL]at HB7 HLN HLW ⊢
 clear hL hE hX6 hB5 hE5 hB6 hE6
 obtain⟨pk,hpk⟩:∃ pk,pk=pathB key:=⟨_,rfl⟩
 have HPK:=Hd hpk
 rw[←hpk]
 clear hpk
 go_wp2_with fail
 go_loopw [11,12] (fun okv pv wr=>FoRel w0.heap.size g L v W S A V okv pv wr) (fun okv pv _=>foM okv pv)
 case atStart =>
  refine⟨pk,_,v1,rfl,HT7.out,HLN.out.2,.inl ⟨rfl,12,rowsL l,HROWS.out,by rw[HPK.out];exact path_valid key,by rw[HPK.out,path_size];have:=HK.out;omega,?_,by rw[HPK.out, ←HV.out],by rw[←HN.out];exact HB7.out,fun x hx _=>HAS.out x hx⟩⟩
  rw[HA.out,HPK.out];rfl
 case round =>
  obtain⟨p,T,v',rfl,hT,hown,hc⟩:=hrel
  have HT:=Hd hT
  have HOW:=Hd hown
  have HE:=Hd (HT.out.ext0 HM.out HE0.out (Nat.le_refl _))
  clear hT hown
  rcases hc with⟨rfl,f,l',h1,h2,h3,h4,h5,h6,h7⟩ |⟨rfl,h1,h2⟩
  case inr =>
   have HF:=Hd (And.intro h1 h2)
   clear h1 h2
   go_wp2_with fail
   go_ret2
   refine⟨by rw[HF.out.2];rfl,v',?_⟩
   rw[←HF.out.1];exact HT.out
  case inl =>
   have HC:=Hd (And.intro h1 (And.intro h2 (And.intro h3 (And.intro h4 (And.intro h5 h7)))))
   have hgd:=(good f l' h1).1
   obtain⟨⟨k,pa,va,rs⟩,hn⟩:∃ n,n=nodeF (buildT f) l':=⟨_,rfl⟩
   rw[←hn]at hgd h6
   have HGD:=Hd hgd
   have HB:=Hd h6
   have HNN:=Hd hn
   have hk3:k≤3:=(hgd.one (inlP f)).kind
   have hrs:rs.length=16:=(hgd.one (inlP f)).refs
   have hps:pa.size≤12:=(hgd.one (inlP f)).path
   have HRS:=Hd hrs
   have HCL:=Hd (NodeT.cells_len ⟨k,pa,va,rs⟩ hrs)
   have hE7:p.size≤1000000:=by omega
   have q0:=h6.cellL (i:=0) (v:=.int .i64 k) (by rfl)
   have q1:=h6.cellL (i:=1) (v:=.string pa) (by rfl)
   have q2:=h6.cellL (i:=2) (v:=.string va) (by rfl)
   have Q3:=Hd (show ∀ i r,rs[i]?=some r→wr.cell? ⟨L,3+i,none⟩=some (.string r)from fun i r hi=>h6.cellL (i:=3+i) (v:=.string r) (by
    show (_ :: _ :: _ :: rs.map Value.string)[3+i]?=_
    rw[show 3+i=i+1+1+1 by omega]
    simp[hi]))
   clear hn hrs h1 h2 h4 h5 h6 h7 hgd
   have hem:(⟨#[]⟩:ByteArray).toList.isEmpty=true:=by rw[ByteArray.toList_eq];rfl
   cases hg:goL l' p with
   | none =>
    obtain⟨s1,s2⟩:=go_none HC.out.1 HC.out.2.1 hg
    rw[←HNN.out]at s1 s2
    have hwn:wayL f l' p=[]:=by
     cases f with
     | zero=>rfl
     | succ f=>exact way_none hg
    have HTA:=Hd (show T=A by rw[←HC.out.2.2.2.1,hwn,List.append_nil])
    have HVV:=Hd (show V=claimN ⟨k,pa,va,rs⟩ p by rw[s2,HC.out.2.2.2.2.1])
    clear hwn hg s2
    cases hcl:claimN ⟨k,pa,va,rs⟩ p with
    | some u =>
     rw[hcl]at HVV
     have HST:=Hd (step_is hcl)
     clear s1 hcl
     rcases HST.out with⟨rfl,rfl,rfl⟩ |⟨rfl,rfl,rfl,hz⟩
     ·have q0':wr.cell? ⟨L,0,none⟩=some (.int .i64 1):=q0
      clear q0
      go_wp2_with fail
      go_ret2
      refine⟨by rw[HVV.out];rfl,v',by rw[←HTA.out];exact HT.out⟩
     ·have q0':wr.cell? ⟨L,0,none⟩=some (.int .i64 3):=q0
      have hve:va.toList.isEmpty=false:=by
       rw[Bool.eq_false_iff]
       intro e
       rw[List.isEmpty_iff,ByteArray.toList_eq]at e
       exact hz (by rw[←size_list,e];rfl)
      clear q0
      go_wp2_with fail
      go_ret2
      refine⟨by rw[HVV.out];rfl,v',by rw[←HTA.out];exact HT.out⟩
    | none =>
     rw[hcl]at HVV
     have HNO:=Hd (step_no HGD.out HC.out.2.1 s1 hcl)
     clear s1 hcl
     rcases HNO.out with rfl |⟨rfl,hne⟩ |⟨rfl,hpre⟩ |⟨rfl,rfl,rfl⟩ |⟨rfl,x,t,hx,hr⟩
     ·have q0':wr.cell? ⟨L,0,none⟩=some (.int .i64 0):=q0
      clear q0
      go_wp2_with fail
      refine (hash_empty _).mono ?_
      rintro e w2 ⟨rfl,hE⟩
      have HE2:Hid (Ext wr w2):=Hd (by first | exact hE | exact (drewNE _ _).trans hE)
      clear hE
      go_wp2_with fail
      refine (inl_empty w2).mono ?_
      rintro e w3 ⟨rfl,hE⟩
      have HE3:=Hd (HE2.out.trans hE)
      have hB3:=HB.out.keeps HE3.out (fun h=>h)
      clear hE HE2
      unfold NodeT.V
      go_wp2_with (refine wpList_fill (vs:=emptyN.cells) rfl rfl rfl rfl hB3 (by rw[HCL.out];rfl) (by first | exact Tryz.szNode |(rw[HCL.out];exact Tryz.szNode)) emptyN.one ?_;intro W8 hB8 hE8)
      go_roundw
      case rel=>exact⟨_,T,v',rfl,(HT.out.ext HE3.out).fill hE8 HLN.out.1 HOW.out HLW.out,HOW.out,.inr ⟨rfl,HTA.out,HVV.out⟩⟩
      case measure=>simp[foM]
     ·have q0':wr.cell? ⟨L,0,none⟩=some (.int .i64 1):=q0
      have hne:=toList_ne hne
      clear q0
      go_wp2_with fail
      refine (hash_empty _).mono ?_
      rintro e w2 ⟨rfl,hE⟩
      have HE2:Hid (Ext wr w2):=Hd (by first | exact hE | exact (drewNE _ _).trans hE)
      clear hE
      go_wp2_with fail
      refine (inl_empty w2).mono ?_
      rintro e w3 ⟨rfl,hE⟩
      have HE3:=Hd (HE2.out.trans hE)
      have hB3:=HB.out.keeps HE3.out (fun h=>h)
      clear hE HE2
      unfold NodeT.V
      go_wp2_with (refine wpList_fill (vs:=emptyN.cells) rfl rfl rfl rfl hB3 (by rw[HCL.out];rfl) (by first | exact Tryz.szNode |(rw[HCL.out];exact Tryz.szNode)) emptyN.one ?_;intro W8 hB8 hE8)
      go_roundw
      case rel=>exact⟨_,T,v',rfl,(HT.out.ext HE3.out).fill hE8 HLN.out.1 HOW.out HLW.out,HOW.out,.inr ⟨rfl,HTA.out,HVV.out⟩⟩
      case measure=>simp[foM]
     ·have q0':wr.cell? ⟨L,0,none⟩=some (.int .i64 2):=q0
      have HPR:=Hd hpre
      clear q0 hpre
      go_wp2_with fail
      refine (hasPrefix_c _ p pa (by omega) (by omega)).mono ?_
      rintro e w1' ⟨rfl,hw1⟩
      rw[hw1]
      clear hw1
      rw[HPR.out]
      go_wp2_with fail
      refine (hash_empty _).mono ?_
      rintro e w2 ⟨rfl,hE⟩
      have HE2:Hid (Ext wr w2):=Hd (by first | exact hE | exact (drewNE _ _).trans hE)
      clear hE
      go_wp2_with fail
      refine (inl_empty w2).mono ?_
      rintro e w3 ⟨rfl,hE⟩
      have HE3:=Hd (HE2.out.trans hE)
      have hB3:=HB.out.keeps HE3.out (fun h=>h)
      clear hE HE2
      unfold NodeT.V
      go_wp2_with (refine wpList_fill (vs:=emptyN.cells) rfl rfl rfl rfl hB3 (by rw[HCL.out];rfl) (by first | exact Tryz.szNode |(rw[HCL.out];exact Tryz.szNode)) emptyN.one ?_;intro W8 hB8 hE8)
      go_roundw
      case rel=>exact⟨_,T,v',rfl,(HT.out.ext HE3.out).fill hE8 HLN.out.1 HOW.out HLW.out,HOW.out,.inr ⟨rfl,HTA.out,HVV.out⟩⟩
      case measure=>simp[foM]
     ·have q0':wr.cell? ⟨L,0,none⟩=some (.int .i64 3):=q0
      clear q0
      go_wp2_with fail
      refine (hash_empty _).mono ?_
      rintro e w2 ⟨rfl,hE⟩
      have HE2:Hid (Ext wr w2):=Hd (by first | exact hE | exact (drewNE _ _).trans hE)
      clear hE
      go_wp2_with fail
      refine (inl_empty w2).mono ?_
      rintro e w3 ⟨rfl,hE⟩
      have HE3:=Hd (HE2.out.trans hE)
      have hB3:=HB.out.keeps HE3.out (fun h=>h)
      clear hE HE2
      unfold NodeT.V
      go_wp2_with (refine wpList_fill (vs:=emptyN.cells) rfl rfl rfl rfl hB3 (by rw[HCL.out];rfl) (by first | exact Tryz.szNode |(rw[HCL.out];exact Tryz.szNode)) emptyN.one ?_;intro W8 hB8 hE8)
      go_roundw
      case rel=>exact⟨_,T,v',rfl,(HT.out.ext HE3.out).fill hE8 HLN.out.1 HOW.out HLW.out,HOW.out,.inr ⟨rfl,HTA.out,HVV.out⟩⟩
      case measure=>simp[foM]
     ·have q0':wr.cell? ⟨L,0,none⟩=some (.int .i64 3):=q0
      obtain⟨h0,hx0⟩:=first_is hx
      have hx16:x.toNat < 16:=nib_lt (p:=(p,p)) HC.out.2.1 hx
      have q3:=Q3.out _ _ hr
      rw[←hx0]at q3 hx16
      have hpe:p.toList.isEmpty=false:=by
       rw[Bool.eq_false_iff]
       intro e
       rw[List.isEmpty_iff,ByteArray.toList_eq]at e
       rw[hx]at e;cases e
      have c1:(0:Int) < (p.size:Int):=by omega
      have c2:((p[0]'h0).toNat:Int) < 16:=by omega
      have c3:(1:Int)≤(p.size:Int):=by omega
      clear q0 hx hr hx0
      go_wp2_with fail
      go_quiet (fail)
      go_wp2_with fail
      refine (hash_empty _).mono ?_
      rintro e w2 ⟨rfl,hE⟩
      have HE2:Hid (Ext wr w2):=Hd (by first | exact hE | exact (drewNE _ _).trans hE)
      clear hE
      go_wp2_with fail
      refine (inl_empty w2).mono ?_
      rintro e w3 ⟨rfl,hE⟩
      have HE3:=Hd (HE2.out.trans hE)
      have hB3:=HB.out.keeps HE3.out (fun h=>h)
      clear hE HE2
      unfold NodeT.V
      go_wp2_with (refine wpList_fill (vs:=emptyN.cells) rfl rfl rfl rfl hB3 (by rw[HCL.out];rfl) (by first | exact Tryz.szNode |(rw[HCL.out];exact Tryz.szNode)) emptyN.one ?_;intro W8 hB8 hE8)
      go_roundw
      case rel=>exact⟨_,T,v',rfl,(HT.out.ext HE3.out).fill hE8 HLN.out.1 HOW.out HLW.out,HOW.out,.inr ⟨rfl,HTA.out,HVV.out⟩⟩
      case measure=>simp[foM]
   | some mq =>
    obtain⟨m,q⟩:=mq
    cases f with
    | zero=>rw[way_zero HC.out.1]at hg;cases hg
    | succ f =>
     have hK:=go_some HC.out.1 HC.out.2.1 hg
     have hst:=(good f m hK.rows).2.1 hK.ne
     have hpos:=ref_pos hK.rows hK.ne
     have hstep:=hK.step
     rw[←HNN.out]at hstep
     have hy:=step_yes HGD.out HC.out.2.1 hstep hpos
     have hway:=way_some (f:=f) hg
     obtain⟨tx,htx⟩:∃ tx,tx=(buildT (f+1) m).text:=⟨_,rfl⟩
     obtain⟨m',hm'⟩:∃ m',m'=nodeF (buildT f) m:=⟨_,rfl⟩
     obtain⟨rt,hrt⟩:∃ rt,rt=refB (buildT (f+1) m).text:=⟨_,rfl⟩
     have HMM:=Hd hm'
     have HMG:=Hd (show GoodW (InlD f) m' by rw[hm'];exact hst.good)
     have HML:=Hd (m'.cells_len (HMG.out.one (inlP f)).refs)
     have HTX:=Hd (show tx=nodeB m' by rw[htx,hm'];exact hst.text)
     rw[←hrt]at hy
     have HY:=Hd hy
     have HK2:=Hd hK
     have HTN:=Hd (show T.length≤100000 by have h8:=congrArg List.length HC.out.2.2.2.1;rw[HA.out,List.length_append,List.length_cons]at h8;have:=way_len 12 (rowsL l) (pathB key);omega)
     by_cases hz:(buildT (f+1) m).text.size < 32
     ·have hI:=hst.may.2 hz
      obtain⟨qh,h1,h2⟩:=(inlP (f+1)).nohash _ _ hI
      rw[←hrt]at h1 h2 hI
      have HH:=Hd (And.intro h1 h2)
      have HRZ:=Hd (show rt.size≤1000000000 by rw[hrt,refB_small hz];omega)
      have HIN:=Hd (fun w=>(inlP (f+1)).inl _ _ hI w)
      rw[←hm']at HIN
      have HWY:=Hd (show wayL (f+1) l' p=wayL f m q by rw[hway];unfold bigs;rw[if_pos hz];rfl)
      clear hK hst hpos hstep hy hway htx hm' hrt hI h1 h2 hz hg
      rcases HY.out with⟨rfl,hpre,hr,rfl,hle⟩ |⟨rfl,x,t,hx,hr,rfl⟩
      ·have q0':wr.cell? ⟨L,0,none⟩=some (.int .i64 2):=q0
       have HPR:=Hd hpre
       have q3:=Q3.out 0 _ hr
       have c1:(pa.size:Int)≤(p.size:Int):=by omega
       clear q0 hpre hr hle
       go_wp2_with fail
       refine (hasPrefix_c _ p pa (by omega) (by omega)).mono ?_
       rintro e w1' ⟨rfl,hw1⟩
       rw[hw1]
       clear hw1
       rw[HPR.out]
       go_wp2_with fail
       go_quiet (fail)
       go_wp2_with fail
       refine (hash_c _ rt qh HRZ.out HH.out.1).mono ?_
       rintro e w2 ⟨rfl,hE⟩
       rw[HH.out.2]
       have HE2:Hid (Ext wr w2):=Hd (by first | exact hE | exact (drewNE _ _).trans hE)
       clear hE
       unfold optV
       go_wp2_with fail
       refine (HIN.out w2).mono ?_
       rintro e w3 ⟨rfl,hE⟩
       have HE3:=Hd (HE2.out.trans hE)
       have hB3:=HB.out.keeps HE3.out (fun h=>h)
       clear hE HE2
       unfold NodeT.V
       go_wp2_with (refine wpList_fill (vs:=m'.cells) rfl rfl rfl rfl hB3 (by rw[HCL.out,HML.out]) (by rw[HML.out];exact Tryz.szNode) m'.one ?_;intro W8 hB8 hE8)
       go_roundw
       case rel=>exact⟨_,T,v',rfl,(HT.out.ext HE3.out).fill hE8 HLN.out.1 HOW.out HLW.out,HOW.out,.inl ⟨rfl,f,m,HK2.out.rows,HK2.out.valid,by have:=HK2.out.less;have:=HC.out.2.2.1;omega,by rw[←HWY.out];exact HC.out.2.2.2.1,by rw[HK2.out.find];exact HC.out.2.2.2.2.1,by rw[←HMM.out];exact hB8,fun x hx h32=>HC.out.2.2.2.2.2 x (HK2.out.flat x hx h32) h32⟩⟩
       case measure=>have h9:=HK2.out.less;simp only[foM,strSz];omega
      ·have q0':wr.cell? ⟨L,0,none⟩=some (.int .i64 3):=q0
       obtain⟨h0,hx0⟩:=first_is hx
       have hx16:x.toNat < 16:=nib_lt (p:=(p,p)) HC.out.2.1 hx
       have q3:=Q3.out _ _ hr
       rw[←hx0]at q3 hx16
       have hpe:p.toList.isEmpty=false:=by
        rw[Bool.eq_false_iff]
        intro e
        rw[List.isEmpty_iff,ByteArray.toList_eq]at e
        rw[hx]at e;cases e
       have c1:(0:Int) < (p.size:Int):=by omega
       have c2:((p[0]'h0).toNat:Int) < 16:=by omega
       have c3:(1:Int)≤(p.size:Int):=by omega
       clear q0 hx hr hx0
       go_wp2_with fail
       go_quiet (fail)
       go_wp2_with fail
       refine (hash_c _ rt qh HRZ.out HH.out.1).mono ?_
       rintro e w2 ⟨rfl,hE⟩
       rw[HH.out.2]
       have HE2:Hid (Ext wr w2):=Hd (by first | exact hE | exact (drewNE _ _).trans hE)
       clear hE
       unfold optV
       go_wp2_with fail
       refine (HIN.out w2).mono ?_
       rintro e w3 ⟨rfl,hE⟩
       have HE3:=Hd (HE2.out.trans hE)
       have hB3:=HB.out.keeps HE3.out (fun h=>h)
       clear hE HE2
       unfold NodeT.V
       go_wp2_with (refine wpList_fill (vs:=m'.cells) rfl rfl rfl rfl hB3 (by rw[HCL.out,HML.out]) (by rw[HML.out];exact Tryz.szNode) m'.one ?_;intro W8 hB8 hE8)
       go_roundw
       case rel=>exact⟨_,T,v',rfl,(HT.out.ext HE3.out).fill hE8 HLN.out.1 HOW.out HLW.out,HOW.out,.inl ⟨rfl,f,m,HK2.out.rows,HK2.out.valid,by have:=HK2.out.less;have:=HC.out.2.2.1;omega,by rw[←HWY.out];exact HC.out.2.2.2.1,by rw[HK2.out.find];exact HC.out.2.2.2.2.1,by rw[←HMM.out];exact hB8,fun x hx h32=>HC.out.2.2.2.2.2 x (HK2.out.flat x hx h32) h32⟩⟩
       case measure=>have h9:=HK2.out.less;simp only[foM,strSz];omega
     ·obtain⟨qh,h1,h2⟩:=hash_text (shaB tx) (shaB_size _)
      have hrt2:rt=textB (shaB tx):=by rw[hrt,refB_big hz,htx]
      rw[←hrt2]at h1 h2
      have HH:=Hd (And.intro h1 h2)
      have HRZ:=Hd (show rt.size≤1000000000 by rw[hrt2];have:=textB_size (shaB tx);have:=shaB_size tx;omega)
      have HWY:=Hd (show wayL (f+1) l' p=tx :: wayL f m q by rw[hway,htx];unfold bigs;rw[if_neg hz];rfl)
      have HHS:=Hd (show HasS S tx from HC.out.2.2.2.2.2 tx (by rw[htx];exact hK.flat _ (text_mem _) (by omega)) (by rw[htx];omega))
      clear hK hst hpos hstep hy hway htx hm' hrt h1 h2 hz hg hrt2
      rcases HY.out with⟨rfl,hpre,hr,rfl,hle⟩ |⟨rfl,x,t,hx,hr,rfl⟩
      ·have q0':wr.cell? ⟨L,0,none⟩=some (.int .i64 2):=q0
       have HPR:=Hd hpre
       have q3:=Q3.out 0 _ hr
       have c1:(pa.size:Int)≤(p.size:Int):=by omega
       clear q0 hpre hr hle
       go_wp2_with fail
       refine (hasPrefix_c _ p pa (by omega) (by omega)).mono ?_
       rintro e w1' ⟨rfl,hw1⟩
       rw[hw1]
       clear hw1
       rw[HPR.out]
       go_wp2_with fail
       go_quiet (fail)
       go_wp2_with fail
       refine (hash_c _ rt qh HRZ.out HH.out.1).mono ?_
       rintro e w2 ⟨rfl,hE⟩
       rw[HH.out.2]
       have HE2:Hid (Ext wr w2):=Hd (by first | exact hE | exact (drewNE _ _).trans hE)
       have HT2:=Hd (HT.out.ext HE2.out)
       clear hE
       unfold optV
       go_wp2_with fail
       refine (at8_c w0 w2 s bm room S HS.out (HE.out.trans HE2.out) g v' T HT2.out.at' (by have:=HTN.out;omega) tx HHS.out f m' HMG.out HTX.out).mono ?_
       rintro e w3 ⟨rfl,v3,hT3⟩
       have hB3:=hT3.blk (HB.out.keeps HE2.out (fun h=>h)) HLN.out.1 HOW.out
       have HOW3:=Hd (show v3.ownBlock≠some L from fun e=>by
        rcases hT3.sub L e with e | e
        ·exact HOW.out e
        ·have:=HB.out.lt;have:=HE2.out.size;omega)
       have HT3:=Hd (HT2.out.trans hT3)
       clear hT3 HE2 HT2
       unfold NodeT.V
       go_wp2_with (refine wpList_fill (vs:=m'.cells) rfl rfl rfl rfl hB3 (by rw[HCL.out,HML.out]) (by rw[HML.out];exact Tryz.szNode) m'.one ?_;intro W8 hB8 hE8)
       go_roundw
       case rel=>exact⟨_,_,v3,rfl,HT3.out.fill hE8 HLN.out.1 HOW3.out HLW.out,HOW3.out,.inl ⟨rfl,f,m,HK2.out.rows,HK2.out.valid,by have:=HK2.out.less;have:=HC.out.2.2.1;omega,by have h9:=HC.out.2.2.2.1;rw[HWY.out]at h9;rw[List.append_assoc];exact h9,by rw[HK2.out.find];exact HC.out.2.2.2.2.1,by rw[←HMM.out];exact hB8,fun x hx h32=>HC.out.2.2.2.2.2 x (HK2.out.flat x hx h32) h32⟩⟩
       case measure=>have h9:=HK2.out.less;simp only[foM,strSz];omega
      ·have q0':wr.cell? ⟨L,0,none⟩=some (.int .i64 3):=q0
       obtain⟨h0,hx0⟩:=first_is hx
       have hx16:x.toNat < 16:=nib_lt (p:=(p,p)) HC.out.2.1 hx
       have q3:=Q3.out _ _ hr
       rw[←hx0]at q3 hx16
       have hpe:p.toList.isEmpty=false:=by
        rw[Bool.eq_false_iff]
        intro e
        rw[List.isEmpty_iff,ByteArray.toList_eq]at e
        rw[hx]at e;cases e
       have c1:(0:Int) < (p.size:Int):=by omega
       have c2:((p[0]'h0).toNat:Int) < 16:=by omega
       have c3:(1:Int)≤(p.size:Int):=by omega
       clear q0 hx hr hx0
       go_wp2_with fail
       go_quiet (fail)
       go_wp2_with fail
       refine (hash_c _ rt qh HRZ.out HH.out.1).mono ?_
       rintro e w2 ⟨rfl,hE⟩
       rw[HH.out.2]
       have HE2:Hid (Ext wr w2):=Hd (by first | exact hE | exact (drewNE _ _).trans hE)
       have HT2:=Hd (HT.out.ext HE2.out)
       clear hE
       unfold optV
       go_wp2_with fail
       refine (at8_c w0 w2 s bm room S HS.out (HE.out.trans HE2.out) g v' T HT2.out.at' (by have:=HTN.out;omega) tx HHS.out f m' HMG.out HTX.out).mono ?_
       rintro e w3 ⟨rfl,v3,hT3⟩
       have hB3:=hT3.blk (HB.out.keeps HE2.out (fun h=>h)) HLN.out.1 HOW.out
       have HOW3:=Hd (show v3.ownBlock≠some L from fun e=>by
        rcases hT3.sub L e with e | e
        ·exact HOW.out e
        ·have:=HB.out.lt;have:=HE2.out.size;omega)
       have HT3:=Hd (HT2.out.trans hT3)
       clear hT3 HE2 HT2
       unfold NodeT.V
       go_wp2_with (refine wpList_fill (vs:=m'.cells) rfl rfl rfl rfl hB3 (by rw[HCL.out,HML.out]) (by rw[HML.out];exact Tryz.szNode) m'.one ?_;intro W8 hB8 hE8)
       go_roundw
       case rel=>exact⟨_,_,v3,rfl,HT3.out.fill hE8 HLN.out.1 HOW3.out HLW.out,HOW3.out,.inl ⟨rfl,f,m,HK2.out.rows,HK2.out.valid,by have:=HK2.out.less;have:=HC.out.2.2.1;omega,by have h9:=HC.out.2.2.2.1;rw[HWY.out]at h9;rw[List.append_assoc];exact h9,by rw[HK2.out.find];exact HC.out.2.2.2.2.1,by rw[←HMM.out];exact hB8,fun x hx h32=>HC.out.2.2.2.2.2 x (HK2.out.flat x hx h32) h32⟩⟩
       case measure=>have h9:=HK2.out.less;simp only[foM,strSz];omega
end
section
open Go Go.RowKit
theorem step_ref{d:Nat}{n:NodeT}{p r q:ByteArray}(hg:GoodW (InlD d) n)(hp:validN p=true)(hs:stepN n p=(r,q))(hr:r.size≠0):MayP (InlD d) r∧q.size < p.size∧validN q=true:=by
 obtain⟨k,pa,va,rs⟩:=n
 have hy:=step_yes hg hp hs hr
 rcases hy with⟨rfl,h1,h2,rfl,h3⟩ |⟨rfl,x,t,h1,h2,rfl⟩
 ·cases hg with
  | ext p' r' a1 a2 a3 =>
   have e:r'=r:=Option.some.inj h2
   subst e
   have hps:1≤pa.size:=by
    unfold NodeT.pathOk at a1
    simp only[Bool.and_eq_true,decide_eq_true_eq]at a1
    exact a1.1.1
   refine⟨a3.imp id (fun ⟨m,h,_⟩=>⟨m,h⟩),by rw[ext_size];omega,valid_ext hp _ _⟩
 ·cases hg with
  | branch v rs a1 a2 a3 a4 =>
   have hps:0 < p.size:=by
    have:=congrArg List.length h1
    rw[size_list]at this;simp at this;omega
   exact⟨a3 r (List.mem_of_getElem? h2) hr,by rw[ext_size];omega,valid_ext hp _ _⟩
end
section
open Go Go.RowKit
attribute [local go_sem] Oper.semAt_some
theorem get1_c(W:World)(x:ByteArray):Calls Tryz.prog 61 #[.string x] W fun e w'=>e=.returned (.tuple #[])∧w'=W:=by
 go_enter Tryz.func61,Tryz.ntmps61
 go_wp2_with fail
 refine bodyPost_end (results_none rfl _ _ _) rfl ?_
 exact⟨rfl,rfl⟩
theorem at_get(W:World)(s bm:Nat)(room:Int)(S:List Nd5)(hs:StoreAt W s bm room S)(k:ByteArray)(y:Nd5)(hy:atL S k.data.toList=some y)(f:Nat)(n:NodeT)(hg:GoodW (InlD f) n)(ht:y.2.2.text=nodeB n) :
  Calls Tryz.prog 108 #[.pointer (some ⟨s,0,none⟩),.string k,.func (.func 61) #[] #[]] W fun e w'=>e=.returned (.tuple #[n.V,.bool true])∧Ext W w':=by
 have hn:=(hg.one (inlP f)).refs
 have HN:=Hd hn
 have HG:=Hd hg
 have HL:=Hd (n.cells_len hn)
 have hsg:=fun w (h:StoreAt w s bm room S)=>sget_c w s bm room S k h
 rw[hy]at hsg
 simp only[Option.map_some,optV]at hsg
 have HSG:=Hd hsg
 have HS:=Hd hs
 obtain⟨t,htt⟩:∃ t,t=y.2.2.text:=⟨_,rfl⟩
 rw[←htt]at HSG ht
 have HT:=Hd ht
 clear hsg hs hg ht hn hy htt
 go_enter Tryz.func108,Tryz.ntmps108
 go_wp2_with (refine wpList_new Tryz.allocNode rfl rfl ?_;intro W1 hB1 hE1)
 refine (HSG.out W1 (HS.out.ext hE1)).mono ?_
 rintro e w3 ⟨rfl,hE⟩
 have HB3:=Hd (hB1.keeps hE (fun h=>h))
 have HE3:=Hd (hE1.trans hE)
 clear hE hB1 hE1
 go_wp2_with fail
 refine (get1_c w3 t).mono ?_
 rintro e w4 ⟨rfl,rfl⟩
 go_wp2_with fail
 rw[HT.out]
 refine (get_c4 (inlP f) w4 n HG.out).mono ?_
 rintro e w5 ⟨rfl,hE⟩
 rw[←HT.out]
 have hB5r:=HB3.out.keeps hE (fun h=>h)
 have HE5:=Hd hE
 clear hE HB3
 unfold NodeT.V
 go_wp2_with (first |(refine wpList_new Tryz.allocNode rfl rfl ?_;intro W5 hB5 hE5;refine wpList_fill (vs:=n.cells) rfl rfl rfl rfl hB5 (by rw[HL.out];rfl) (by rw[HL.out];exact Tryz.szNode) n.one ?_;intro W6 hB6 hE6;have hB56:=(hB5r.keeps hE5 (fun h=>h)).keeps hE6 (by have:=hB5r.lt;omega)) |(refine wpList_load_known 144 (.tmp 10) rfl rfl _ _ rfl (run_load_api _ _ n HN.out hB6) ?_) |(refine wpList_fill (vs:=n.cells) rfl rfl rfl rfl hB56 (by rw[HL.out];rfl) (by rw[HL.out];exact Tryz.szNode) n.one ?_;intro W8 hB8 hE8))
 refine bodyPost_ret (results_cell_tmp rfl rfl rfl (run_loadVar_api W8 _ n HN.out hB8)) rfl ?_
 have hX6:Ext W W6:=(((HE3.out.trans HE5.out).trans hE5)).trans' hE6 (fun x hx e=>by have e:x=w5.heap.size:=e;have:=HE5.out.size;have:=HE3.out.size;omega)
 exact⟨rfl,hX6.trans' hE8 (fun x hx e=>by have e:x=W.heap.size:=e;omega)⟩
noncomputable def folN(S:List Nd5):Nat→NodeT→ByteArray→Option ByteArray
 | 0,_,_=>none
 | f+1,n,p=>match claimN n p with
  | some u=>some u
  | none=>if (stepN n p).1.size=0 then none else (gRef S (stepN n p).1).bind fun m=>folN S f m (stepN n p).2
theorem fol_some{S:List Nd5}{f:Nat}{n:NodeT}{p u:ByteArray}(h:claimN n p=some u):folN S (f+1) n p=some u:=by
 rw[folN,h]
theorem fol_none{S:List Nd5}{f:Nat}{n:NodeT}{p:ByteArray}(h:claimN n p=none):folN S (f+1) n p=if (stepN n p).1.size=0 then none else (gRef S (stepN n p).1).bind fun m=>folN S f m (stepN n p).2:=by
 rw[folN,h]
def FgRel(W:World)(L:Nat)(S:List Nd5)(V:Option ByteArray)(okv pv:Value)(wr:World):Prop:=
 ∃ (p:ByteArray),pv=.string p∧Ext W wr ∧
  ((okv=.bool true∧∃ f d n,GoodW (InlD d) n∧validN p=true∧p.size≤2000∧p.size < f∧folN S f n p=V∧Blk wr L (.cells n.cells.toArray 144)) ∨
  (okv=.bool false∧V=none))
theorem fillF{W W' W'':World}{L:Nat}(h:Ext W W')(e:Keeps (fun b=>b=L) W' W'')(h3:W.heap.size≤L):Ext W W'':=
 h.trans' e (fun x hx y=>by have y:x=L:=y;omega)
theorem follow_get(W:World)(s bm:Nat)(room:Int)(S:List Nd5)(hs:StoreAt W s bm room S)(hN:NodesS S)(root:ByteArray)(y:Nd5)(hy:atL S root.data.toList=some y)(key:ByteArray)(hk:key.size≤1000) :
  Calls Tryz.prog 60 #[.pointer (some ⟨s,0,none⟩),.string root,.string key,.func (.func 61) #[] #[]] W fun e w'=>e=.returned (folV (folN S ((pathB key).size+1) (nodeOf y.2.2.text) (pathB key)))∧Ext W w':=by
 have HNS:=Hd hN
 have HS:=Hd hs
 obtain⟨n0,hn0⟩:=hN y (atL_mem hy).1
 obtain⟨ht,d,hg⟩:=nodeOf_is hn0
 obtain⟨n,hn⟩:∃ n,n=nodeOf y.2.2.text:=⟨_,rfl⟩
 rw[←hn]at ht hg ⊢
 have HG:=Hd hg
 have hat:=at_get W s bm room S hs root y hy d n hg ht
 have HAT:=Hd hat
 have HL:=Hd (n.cells_len (hg.one (inlP d)).refs)
 have HK:=Hd hk
 obtain⟨V,hV⟩:∃ V,V=folN S ((pathB key).size+1) n (pathB key):=⟨_,rfl⟩
 have HV:=Hd hV
 rw[←hV]
 clear hs hg hn hat hk hV hN hy hn0 ht
 go_enter Tryz.func60,Tryz.ntmps60
 go_wp2_with fail
 refine HAT.out.mono ?_
 rintro e w1 ⟨rfl,hE1⟩
 have HE1:=Hd hE1
 clear hE1
 unfold NodeT.V
 go_wp2_with (first |(refine wpList_new Tryz.allocNode rfl rfl ?_;intro W5 hB5 hE5;refine wpList_fill (vs:=n.cells) rfl rfl rfl rfl hB5 (by rw[HL.out];rfl) (by rw[HL.out];exact Tryz.szNode) n.one ?_;intro W6 hB6 hE6))
 refine (path_c _ key (by have:=HK.out;omega)).mono ?_
 rintro e w7 ⟨rfl,hE⟩
 have hX6:Ext w1 W6:=hE5.trans' hE6 (fun x hx e=>by have e:x=w1.heap.size:=e;omega)
 have HT7:=Hd ((HE1.out.trans hX6).trans hE)
 have HB7:=Hd (hB6.keeps hE (fun h=>h))
 have HLW:=Hd (show W.heap.size≤w1.heap.size from HE1.out.size)
 obtain⟨L,hL⟩:∃ L,L=w1.heap.size:=⟨_,rfl⟩
 rw[←hL]at HB7 HLW ⊢
 clear hL hE hX6 hB5 hE5 hB6 hE6
 obtain⟨pk,hpk⟩:∃ pk,pk=pathB key:=⟨_,rfl⟩
 have HPK:=Hd hpk
 rw[←hpk]
 clear hpk
 go_wp2_with fail
 go_loopw [11,12] (fun okv pv wr=>FgRel W L S V okv pv wr) (fun okv pv _=>foM okv pv)
 case atStart =>
  exact⟨pk,rfl,HT7.out,.inl ⟨rfl,pk.size+1,d,n,HG.out,by rw[HPK.out];exact path_valid key,by rw[HPK.out,path_size];have:=HK.out;omega,Nat.lt_succ_self _,by rw[HPK.out, ←HV.out],HB7.out⟩⟩
 case round =>
  obtain⟨p,rfl,hT,hc⟩:=hrel
  have HE:=Hd hT
  clear hT
  rcases hc with⟨rfl,f0,dn,m0,h1,h2,h3,h3f,h4,h6⟩ |⟨rfl,h2⟩
  case inr =>
   have HF:=Hd h2
   clear h2
   go_wp2_with fail
   go_ret2
   exact⟨by rw[HF.out];rfl,HE.out⟩
  case inl =>
   obtain⟨f,rfl⟩:∃ f,f0=f+1:=⟨f0 - 1,by omega⟩
   obtain⟨k,pa,va,rs⟩:=m0
   have HC:=Hd (And.intro h2 (And.intro h3 h3f))
   have HFO:=Hd h4
   have HGD:=Hd h1
   have HB:=Hd h6
   have hk3:k≤3:=(h1.one (inlP dn)).kind
   have hrs:rs.length=16:=(h1.one (inlP dn)).refs
   have hps:pa.size≤12:=(h1.one (inlP dn)).path
   have HRS:=Hd hrs
   have HCL:=Hd (NodeT.cells_len ⟨k,pa,va,rs⟩ hrs)
   have hE7:p.size≤1000000:=by omega
   have q0:=h6.cellL (i:=0) (v:=.int .i64 k) (by rfl)
   have q1:=h6.cellL (i:=1) (v:=.string pa) (by rfl)
   have q2:=h6.cellL (i:=2) (v:=.string va) (by rfl)
   have Q3:=Hd (show ∀ i r,rs[i]?=some r→wr.cell? ⟨L,3+i,none⟩=some (.string r)from fun i r hi=>h6.cellL (i:=3+i) (v:=.string r) (by
    show (_ :: _ :: _ :: rs.map Value.string)[3+i]?=_
    rw[show 3+i=i+1+1+1 by omega]
    simp[hi]))
   clear hrs h1 h2 h3 h3f h4 h6
   have hem:(⟨#[]⟩:ByteArray).toList.isEmpty=true:=by rw[ByteArray.toList_eq];rfl
   cases hcl:claimN ⟨k,pa,va,rs⟩ p with
   | some u =>
    have HVV:=Hd (show V=some u by rw[←HFO.out,fol_some hcl])
    have HST:=Hd (step_is hcl)
    clear hcl
    rcases HST.out with⟨rfl,rfl,rfl⟩ |⟨rfl,rfl,rfl,hz⟩
    ·have q0':wr.cell? ⟨L,0,none⟩=some (.int .i64 1):=q0
     clear q0
     go_wp2_with fail
     go_ret2
     exact⟨by rw[HVV.out];rfl,HE.out⟩
    ·have q0':wr.cell? ⟨L,0,none⟩=some (.int .i64 3):=q0
     have hve:va.toList.isEmpty=false:=by
      rw[Bool.eq_false_iff]
      intro e
      rw[List.isEmpty_iff,ByteArray.toList_eq]at e
      exact hz (by rw[←size_list,e];rfl)
     clear q0
     go_wp2_with fail
     go_ret2
     exact⟨by rw[HVV.out];rfl,HE.out⟩
   | none =>
    have hfo:=HFO.out
    rw[fol_none hcl]at hfo
    obtain⟨r,q,hsp⟩:∃ r q,stepN ⟨k,pa,va,rs⟩ p=(r,q):=⟨_,_,rfl⟩
    rw[hsp]at hfo
    simp only at hfo
    by_cases hr0:r.size=0
    ·rw[if_pos hr0]at hfo
     have hre:=ba_empty hr0
     rw[hre]at hsp
     have HNO:=Hd (step_no HGD.out HC.out.1 hsp hcl)
     have HVV:=Hd hfo.symm
     clear hcl hfo hsp hr0 hre
     rcases HNO.out with rfl |⟨rfl,hne⟩ |⟨rfl,hpre⟩ |⟨rfl,rfl,rfl⟩ |⟨rfl,x,t,hx,hr⟩
     ·have q0':wr.cell? ⟨L,0,none⟩=some (.int .i64 0):=q0
      clear q0
      go_wp2_with fail
      refine (hash_empty _).mono ?_
      rintro e w2 ⟨rfl,hE⟩
      have HE2:Hid (Ext wr w2):=Hd (by first | exact hE | exact (drewNE _ _).trans hE)
      clear hE
      go_wp2_with fail
      refine (inl_empty w2).mono ?_
      rintro e w3 ⟨rfl,hE⟩
      have HE3:=Hd (HE2.out.trans hE)
      have hB3:=HB.out.keeps HE3.out (fun h=>h)
      clear hE HE2
      unfold NodeT.V
      go_wp2_with (refine wpList_fill (vs:=emptyN.cells) rfl rfl rfl rfl hB3 (by rw[HCL.out];rfl) (by first | exact Tryz.szNode |(rw[HCL.out];exact Tryz.szNode)) emptyN.one ?_;intro W8 hB8 hE8)
      go_roundw
      case rel=>exact⟨_,rfl,fillF (HE.out.trans HE3.out) hE8 HLW.out,.inr ⟨rfl,HVV.out⟩⟩
      case measure=>simp[foM]
     ·have q0':wr.cell? ⟨L,0,none⟩=some (.int .i64 1):=q0
      have hne:=toList_ne hne
      clear q0
      go_wp2_with fail
      refine (hash_empty _).mono ?_
      rintro e w2 ⟨rfl,hE⟩
      have HE2:Hid (Ext wr w2):=Hd (by first | exact hE | exact (drewNE _ _).trans hE)
      clear hE
      go_wp2_with fail
      refine (inl_empty w2).mono ?_
      rintro e w3 ⟨rfl,hE⟩
      have HE3:=Hd (HE2.out.trans hE)
      have hB3:=HB.out.keeps HE3.out (fun h=>h)
      clear hE HE2
      unfold NodeT.V
      go_wp2_with (refine wpList_fill (vs:=emptyN.cells) rfl rfl rfl rfl hB3 (by rw[HCL.out];rfl) (by first | exact Tryz.szNode |(rw[HCL.out];exact Tryz.szNode)) emptyN.one ?_;intro W8 hB8 hE8)
      go_roundw
      case rel=>exact⟨_,rfl,fillF (HE.out.trans HE3.out) hE8 HLW.out,.inr ⟨rfl,HVV.out⟩⟩
      case measure=>simp[foM]
     ·have q0':wr.cell? ⟨L,0,none⟩=some (.int .i64 2):=q0
      have HPR:=Hd hpre
      clear q0 hpre
      go_wp2_with fail
      refine (hasPrefix_c _ p pa (by omega) (by omega)).mono ?_
      rintro e w1' ⟨rfl,hw1⟩
      rw[hw1]
      clear hw1
      rw[HPR.out]
      go_wp2_with fail
      refine (hash_empty _).mono ?_
      rintro e w2 ⟨rfl,hE⟩
      have HE2:Hid (Ext wr w2):=Hd (by first | exact hE | exact (drewNE _ _).trans hE)
      clear hE
      go_wp2_with fail
      refine (inl_empty w2).mono ?_
      rintro e w3 ⟨rfl,hE⟩
      have HE3:=Hd (HE2.out.trans hE)
      have hB3:=HB.out.keeps HE3.out (fun h=>h)
      clear hE HE2
      unfold NodeT.V
      go_wp2_with (refine wpList_fill (vs:=emptyN.cells) rfl rfl rfl rfl hB3 (by rw[HCL.out];rfl) (by first | exact Tryz.szNode |(rw[HCL.out];exact Tryz.szNode)) emptyN.one ?_;intro W8 hB8 hE8)
      go_roundw
      case rel=>exact⟨_,rfl,fillF (HE.out.trans HE3.out) hE8 HLW.out,.inr ⟨rfl,HVV.out⟩⟩
      case measure=>simp[foM]
     ·have q0':wr.cell? ⟨L,0,none⟩=some (.int .i64 3):=q0
      clear q0
      go_wp2_with fail
      refine (hash_empty _).mono ?_
      rintro e w2 ⟨rfl,hE⟩
      have HE2:Hid (Ext wr w2):=Hd (by first | exact hE | exact (drewNE _ _).trans hE)
      clear hE
      go_wp2_with fail
      refine (inl_empty w2).mono ?_
      rintro e w3 ⟨rfl,hE⟩
      have HE3:=Hd (HE2.out.trans hE)
      have hB3:=HB.out.keeps HE3.out (fun h=>h)
      clear hE HE2
      unfold NodeT.V
      go_wp2_with (refine wpList_fill (vs:=emptyN.cells) rfl rfl rfl rfl hB3 (by rw[HCL.out];rfl) (by first | exact Tryz.szNode |(rw[HCL.out];exact Tryz.szNode)) emptyN.one ?_;intro W8 hB8 hE8)
      go_roundw
      case rel=>exact⟨_,rfl,fillF (HE.out.trans HE3.out) hE8 HLW.out,.inr ⟨rfl,HVV.out⟩⟩
      case measure=>simp[foM]
     ·have q0':wr.cell? ⟨L,0,none⟩=some (.int .i64 3):=q0
      obtain⟨h0,hx0⟩:=first_is hx
      have hx16:x.toNat < 16:=nib_lt (p:=(p,p)) HC.out.1 hx
      have q3:=Q3.out _ _ hr
      rw[←hx0]at q3 hx16
      have hpe:p.toList.isEmpty=false:=by
       rw[Bool.eq_false_iff]
       intro e
       rw[List.isEmpty_iff,ByteArray.toList_eq]at e
       rw[hx]at e;cases e
      have c1:(0:Int) < (p.size:Int):=by omega
      have c2:((p[0]'h0).toNat:Int) < 16:=by omega
      have c3:(1:Int)≤(p.size:Int):=by omega
      clear q0 hx hr hx0
      go_wp2_with fail
      go_quiet (fail)
      go_wp2_with fail
      refine (hash_empty _).mono ?_
      rintro e w2 ⟨rfl,hE⟩
      have HE2:Hid (Ext wr w2):=Hd (by first | exact hE | exact (drewNE _ _).trans hE)
      clear hE
      go_wp2_with fail
      refine (inl_empty w2).mono ?_
      rintro e w3 ⟨rfl,hE⟩
      have HE3:=Hd (HE2.out.trans hE)
      have hB3:=HB.out.keeps HE3.out (fun h=>h)
      clear hE HE2
      unfold NodeT.V
      go_wp2_with (refine wpList_fill (vs:=emptyN.cells) rfl rfl rfl rfl hB3 (by rw[HCL.out];rfl) (by first | exact Tryz.szNode |(rw[HCL.out];exact Tryz.szNode)) emptyN.one ?_;intro W8 hB8 hE8)
      go_roundw
      case rel=>exact⟨_,rfl,fillF (HE.out.trans HE3.out) hE8 HLW.out,.inr ⟨rfl,HVV.out⟩⟩
      case measure=>simp[foM]
    ·rw[if_neg hr0]at hfo
     have HFR:=Hd hfo
     obtain⟨hmay,hless,hval⟩:=step_ref HGD.out HC.out.1 hsp hr0
     have HLV:=Hd (And.intro hless hval)
     have HRZ:=Hd (show r.size≤1000000000 by have:=hmay.size (inlP dn);omega)
     have HY:=Hd (step_yes HGD.out HC.out.1 hsp hr0)
     have hany:=fun w=>hash_any w r HRZ.out
     rcases hmay with hh |⟨m,hi⟩
     case inr =>
      cases dn with
      | zero=>exact hi.elim
      | succ dn =>
      have hhr:=hashR_inl (inlP (dn+1)) hi
      have HVN:=Hd (show folN S f m q=V by
       rw[←HFR.out];unfold gRef;rw[hhr];show _=folN S f (inlOf r) q;rw[inlOf_is W hi])
      have HIN:=Hd (fun w=>(inlP (dn+1)).inl _ _ hi w)
      have HMG:=Hd hi.1
      have HML:=Hd (m.cells_len (hi.1.one (inlP dn)).refs)
      rw[hashA_R,hhr]at hany
      simp only[optV]at hany
      have HH:=Hd hany
      clear hany hhr hi hcl hfo hless hval hr0 hsp
      rcases HY.out with⟨rfl,hpre,hr,rfl,hle⟩ |⟨rfl,x,t,hx,hr,rfl⟩
      ·have q0':wr.cell? ⟨L,0,none⟩=some (.int .i64 2):=q0
       have HPR:=Hd hpre
       have q3:=Q3.out 0 _ hr
       have c1:(pa.size:Int)≤(p.size:Int):=by omega
       clear q0 hpre hr hle
       go_wp2_with fail
       refine (hasPrefix_c _ p pa (by omega) (by omega)).mono ?_
       rintro e w1' ⟨rfl,hw1⟩
       rw[hw1]
       clear hw1
       rw[HPR.out]
       go_wp2_with fail
       go_quiet (fail)
       go_wp2_with fail
       refine (HH.out _).mono ?_
       rintro e w2 ⟨rfl,hE⟩
       have HE2:Hid (Ext wr w2):=Hd (by first | exact hE | exact (drewNE _ _).trans hE)
       clear hE
       go_wp2_with fail
       refine (HIN.out w2).mono ?_
       rintro e w3 ⟨rfl,hE⟩
       have HE3:=Hd (HE2.out.trans hE)
       have hB3:=HB.out.keeps HE3.out (fun h=>h)
       clear hE HE2
       unfold NodeT.V
       go_wp2_with (refine wpList_fill (vs:=m.cells) rfl rfl rfl rfl hB3 (by rw[HCL.out,HML.out]) (by rw[HML.out];exact Tryz.szNode) m.one ?_;intro W8 hB8 hE8)
       go_roundw
       case rel=>exact⟨_,rfl,fillF (HE.out.trans HE3.out) hE8 HLW.out,.inl ⟨rfl,f,dn,m,HMG.out,HLV.out.2,by have:=HLV.out.1;have:=HC.out.2.1;omega,by have:=HLV.out.1;have:=HC.out.2.2;omega,HVN.out,hB8⟩⟩
       case measure=>have h9:=HLV.out.1;simp only[foM,strSz];omega
      ·have q0':wr.cell? ⟨L,0,none⟩=some (.int .i64 3):=q0
       obtain⟨h0,hx0⟩:=first_is hx
       have hx16:x.toNat < 16:=nib_lt (p:=(p,p)) HC.out.1 hx
       have q3:=Q3.out _ _ hr
       rw[←hx0]at q3 hx16
       have hpe:p.toList.isEmpty=false:=by
        rw[Bool.eq_false_iff]
        intro e
        rw[List.isEmpty_iff,ByteArray.toList_eq]at e
        rw[hx]at e;cases e
       have c1:(0:Int) < (p.size:Int):=by omega
       have c2:((p[0]'h0).toNat:Int) < 16:=by omega
       have c3:(1:Int)≤(p.size:Int):=by omega
       clear q0 hx hr hx0
       go_wp2_with fail
       go_quiet (fail)
       go_wp2_with fail
       refine (HH.out _).mono ?_
       rintro e w2 ⟨rfl,hE⟩
       have HE2:Hid (Ext wr w2):=Hd (by first | exact hE | exact (drewNE _ _).trans hE)
       clear hE
       go_wp2_with fail
       refine (HIN.out w2).mono ?_
       rintro e w3 ⟨rfl,hE⟩
       have HE3:=Hd (HE2.out.trans hE)
       have hB3:=HB.out.keeps HE3.out (fun h=>h)
       clear hE HE2
       unfold NodeT.V
       go_wp2_with (refine wpList_fill (vs:=m.cells) rfl rfl rfl rfl hB3 (by rw[HCL.out,HML.out]) (by rw[HML.out];exact Tryz.szNode) m.one ?_;intro W8 hB8 hE8)
       go_roundw
       case rel=>exact⟨_,rfl,fillF (HE.out.trans HE3.out) hE8 HLW.out,.inl ⟨rfl,f,dn,m,HMG.out,HLV.out.2,by have:=HLV.out.1;have:=HC.out.2.1;omega,by have:=HLV.out.1;have:=HC.out.2.2;omega,HVN.out,hB8⟩⟩
       case measure=>have h9:=HLV.out.1;simp only[foM,strSz];omega
     case inl =>
      obtain⟨h,h1,h2⟩:=hh
      have hhr:hashR r=some h:=by rw[h2];exact hashR_text h1
      rw[hashA_R,hhr]at hany
      simp only[optV]at hany
      have HH:=Hd hany
      have hgr:gRef S r=gHash S h:=by unfold gRef;rw[hhr];rfl
      rw[hgr]at HFR
      cases ha:atL S h.data.toList with
      | none =>
       have HVV:=Hd (show V=none by rw[←HFR.out];unfold gHash;rw[ha];rfl)
       have HAT2:=Hd (fun w (e:Ext W w)=>at8_no w s bm room S (HS.out.ext e) (.func (.func 61) #[] #[]) h ha)
       clear hany hhr h1 h2 hcl hfo hless hval hr0 hsp hgr ha
       rcases HY.out with⟨rfl,hpre,hr,rfl,hle⟩ |⟨rfl,x,t,hx,hr,rfl⟩
       ·have q0':wr.cell? ⟨L,0,none⟩=some (.int .i64 2):=q0
        have HPR:=Hd hpre
        have q3:=Q3.out 0 _ hr
        have c1:(pa.size:Int)≤(p.size:Int):=by omega
        clear q0 hpre hr hle
        go_wp2_with fail
        refine (hasPrefix_c _ p pa (by omega) (by omega)).mono ?_
        rintro e w1' ⟨rfl,hw1⟩
        rw[hw1]
        clear hw1
        rw[HPR.out]
        go_wp2_with fail
        go_quiet (fail)
        go_wp2_with fail
        refine (HH.out _).mono ?_
        rintro e w2 ⟨rfl,hE⟩
        have HE2:Hid (Ext wr w2):=Hd (by first | exact hE | exact (drewNE _ _).trans hE)
        clear hE
        go_wp2_with fail
        refine (HAT2.out w2 (HE.out.trans HE2.out)).mono ?_
        rintro e w3 ⟨rfl,hE⟩
        have HE3:=Hd (HE2.out.trans hE)
        have hB3:=HB.out.keeps HE3.out (fun h=>h)
        clear hE HE2
        unfold NodeT.V
        go_wp2_with (refine wpList_fill (vs:=emptyN.cells) rfl rfl rfl rfl hB3 (by rw[HCL.out];rfl) (by first | exact Tryz.szNode |(rw[HCL.out];exact Tryz.szNode)) emptyN.one ?_;intro W8 hB8 hE8)
        go_roundw
        case rel=>exact⟨_,rfl,fillF (HE.out.trans HE3.out) hE8 HLW.out,.inr ⟨rfl,HVV.out⟩⟩
        case measure=>simp[foM]
       ·have q0':wr.cell? ⟨L,0,none⟩=some (.int .i64 3):=q0
        obtain⟨h0,hx0⟩:=first_is hx
        have hx16:x.toNat < 16:=nib_lt (p:=(p,p)) HC.out.1 hx
        have q3:=Q3.out _ _ hr
        rw[←hx0]at q3 hx16
        have hpe:p.toList.isEmpty=false:=by
         rw[Bool.eq_false_iff]
         intro e
         rw[List.isEmpty_iff,ByteArray.toList_eq]at e
         rw[hx]at e;cases e
        have c1:(0:Int) < (p.size:Int):=by omega
        have c2:((p[0]'h0).toNat:Int) < 16:=by omega
        have c3:(1:Int)≤(p.size:Int):=by omega
        clear q0 hx hr hx0
        go_wp2_with fail
        go_quiet (fail)
        go_wp2_with fail
        refine (HH.out _).mono ?_
        rintro e w2 ⟨rfl,hE⟩
        have HE2:Hid (Ext wr w2):=Hd (by first | exact hE | exact (drewNE _ _).trans hE)
        clear hE
        go_wp2_with fail
        refine (HAT2.out w2 (HE.out.trans HE2.out)).mono ?_
        rintro e w3 ⟨rfl,hE⟩
        have HE3:=Hd (HE2.out.trans hE)
        have hB3:=HB.out.keeps HE3.out (fun h=>h)
        clear hE HE2
        unfold NodeT.V
        go_wp2_with (refine wpList_fill (vs:=emptyN.cells) rfl rfl rfl rfl hB3 (by rw[HCL.out];rfl) (by first | exact Tryz.szNode |(rw[HCL.out];exact Tryz.szNode)) emptyN.one ?_;intro W8 hB8 hE8)
        go_roundw
        case rel=>exact⟨_,rfl,fillF (HE.out.trans HE3.out) hE8 HLW.out,.inr ⟨rfl,HVV.out⟩⟩
        case measure=>simp[foM]
      | some y2 =>
       obtain⟨n2,hn2⟩:=HNS.out y2 (atL_mem ha).1
       obtain⟨ht2,d2,hg2⟩:=nodeOf_is hn2
       have hvn:folN S f (nodeOf y2.2.2.text) q=V:=by rw[←HFR.out];unfold gHash;rw[ha];rfl
       obtain⟨m,hm⟩:∃ m,m=nodeOf y2.2.2.text:=⟨_,rfl⟩
       rw[←hm]at ht2 hg2 hvn
       have HVN:=Hd hvn
       have HAT2:=Hd (fun w (e:Ext W w)=>at_get w s bm room S (HS.out.ext e) h y2 ha d2 m hg2 ht2)
       have HMG:=Hd hg2
       have HML:=Hd (m.cells_len (hg2.one (inlP d2)).refs)
       clear hany hhr h1 h2 hcl hfo hless hval hr0 hsp hgr ha hn2 ht2 hg2 hvn hm
       rcases HY.out with⟨rfl,hpre,hr,rfl,hle⟩ |⟨rfl,x,t,hx,hr,rfl⟩
       ·have q0':wr.cell? ⟨L,0,none⟩=some (.int .i64 2):=q0
        have HPR:=Hd hpre
        have q3:=Q3.out 0 _ hr
        have c1:(pa.size:Int)≤(p.size:Int):=by omega
        clear q0 hpre hr hle
        go_wp2_with fail
        refine (hasPrefix_c _ p pa (by omega) (by omega)).mono ?_
        rintro e w1' ⟨rfl,hw1⟩
        rw[hw1]
        clear hw1
        rw[HPR.out]
        go_wp2_with fail
        go_quiet (fail)
        go_wp2_with fail
        refine (HH.out _).mono ?_
        rintro e w2 ⟨rfl,hE⟩
        have HE2:Hid (Ext wr w2):=Hd (by first | exact hE | exact (drewNE _ _).trans hE)
        clear hE
        go_wp2_with fail
        refine (HAT2.out w2 (HE.out.trans HE2.out)).mono ?_
        rintro e w3 ⟨rfl,hE⟩
        have HE3:=Hd (HE2.out.trans hE)
        have hB3:=HB.out.keeps HE3.out (fun h=>h)
        clear hE HE2
        unfold NodeT.V
        go_wp2_with (refine wpList_fill (vs:=m.cells) rfl rfl rfl rfl hB3 (by rw[HCL.out,HML.out]) (by rw[HML.out];exact Tryz.szNode) m.one ?_;intro W8 hB8 hE8)
        go_roundw
        case rel=>exact⟨_,rfl,fillF (HE.out.trans HE3.out) hE8 HLW.out,.inl ⟨rfl,f,d2,m,HMG.out,HLV.out.2,by have:=HLV.out.1;have:=HC.out.2.1;omega,by have:=HLV.out.1;have:=HC.out.2.2;omega,HVN.out,hB8⟩⟩
        case measure=>have h9:=HLV.out.1;simp only[foM,strSz];omega
       ·have q0':wr.cell? ⟨L,0,none⟩=some (.int .i64 3):=q0
        obtain⟨h0,hx0⟩:=first_is hx
        have hx16:x.toNat < 16:=nib_lt (p:=(p,p)) HC.out.1 hx
        have q3:=Q3.out _ _ hr
        rw[←hx0]at q3 hx16
        have hpe:p.toList.isEmpty=false:=by
         rw[Bool.eq_false_iff]
         intro e
         rw[List.isEmpty_iff,ByteArray.toList_eq]at e
         rw[hx]at e;cases e
        have c1:(0:Int) < (p.size:Int):=by omega
        have c2:((p[0]'h0).toNat:Int) < 16:=by omega
        have c3:(1:Int)≤(p.size:Int):=by omega
        clear q0 hx hr hx0
        go_wp2_with fail
        go_quiet (fail)
        go_wp2_with fail
        refine (HH.out _).mono ?_
        rintro e w2 ⟨rfl,hE⟩
        have HE2:Hid (Ext wr w2):=Hd (by first | exact hE | exact (drewNE _ _).trans hE)
        clear hE
        go_wp2_with fail
        refine (HAT2.out w2 (HE.out.trans HE2.out)).mono ?_
        rintro e w3 ⟨rfl,hE⟩
        have HE3:=Hd (HE2.out.trans hE)
        have hB3:=HB.out.keeps HE3.out (fun h=>h)
        clear hE HE2
        unfold NodeT.V
        go_wp2_with (refine wpList_fill (vs:=m.cells) rfl rfl rfl rfl hB3 (by rw[HCL.out,HML.out]) (by rw[HML.out];exact Tryz.szNode) m.one ?_;intro W8 hB8 hE8)
        go_roundw
        case rel=>exact⟨_,rfl,fillF (HE.out.trans HE3.out) hE8 HLW.out,.inl ⟨rfl,f,d2,m,HMG.out,HLV.out.2,by have:=HLV.out.1;have:=HC.out.2.1;omega,by have:=HLV.out.1;have:=HC.out.2.2;omega,HVN.out,hB8⟩⟩
        case measure=>have h9:=HLV.out.1;simp only[foM,strSz];omega
def wayN(l:List Pair)(key:ByteArray):List ByteArray:=(trieT l).text :: wayL 12 (rowsL l) (pathB key)
def PathP(N:List ByteArray)(w:World)(e:Ending)(w':World):Prop:=∃ a c,e=.returned (.tuple #[.slice a N.length c,.int .i64 0])∧SRow w w' (.slice a N.length c) N.length N
theorem path8_c(W:World)(s bm:Nat)(room:Int)(S:List Nd5)(hs:StoreAt W s bm room S)(l:List Pair)(hM:HasM S l)(key:ByteArray)(hk:key.size≤1000) :
  Calls Tryz.prog 20 #[.pointer (some ⟨s,0,none⟩),.string (shaB (trieT l).text),.string key] W (PathP (wayN l key) W):=by
 obtain⟨k0,hk0⟩:∃ k,k=shaB (trieT l).text:=⟨_,rfl⟩
 have HK0:=Hd hk0
 have HS:=Hd hs
 have HM:=Hd hM
 have HK:=Hd hk
 obtain⟨N,hN⟩:∃ N,N=wayN l key:=⟨_,rfl⟩
 have HN:=Hd hN
 rw[←hk0, ←hN]
 clear hk0 hs hM hk hN
 go_enter Tryz.func20,Tryz.ntmps20
 go_wp2_with fail
 have hE:Ext W (W.alloc (.cells #[.slice none 0 0] 34)):=(ExtR W).alloc _
 have hB:=Blk.new W (.cells #[.slice none 0 0] 34)
 have hM0:MetAt W.heap.size W.heap.size (.slice none 0 0) [] (W.alloc (.cells #[.slice none 0 0] 34)):=⟨Nat.le_refl _,hB,⟨0,rfl,.inl ⟨rfl,rfl⟩⟩,fun b hb=>by cases hb⟩
 have hF:=follow8_c W _ s bm room S HS.out hE W.heap.size (.slice none 0 0) hM0 l HM.out key HK.out
 rw[←HK0.out]at hF
 have HM0:=Hd hM0
 have HE:=Hd hE
 obtain⟨V,hV⟩:∃ V,V=valL (rowsL l) (pathB key):=⟨_,rfl⟩
 rw[←hV]at hF
 clear hB hM0 hE hV
 refine hF.mono ?_
 rintro e w2 ⟨rfl,v',hT⟩
 have HT:=Hd hT
 obtain⟨n,hn⟩:=hT.at'.row
 have hn2:n=(wayN l key).length:=by have:=hn.1;simpa [wayN]using this.symm
 subst hn2
 obtain⟨a,c,hv'⟩:=row_slice hn
 have q:=hT.at'.var.cell (i:=0) (v:=v') (by rfl)
 have HO:=Hd hn
 have hfin:SRow W w2 v' (wayN l key).length (wayN l key):=⟨⟨a,c,hv'⟩,hn,hT.ext0 HM0.out HE.out (Nat.le_refl _),fun b hb=>(hT.at'.own b hb).1⟩
 have HF:=Hd hfin
 subst hv'
 rw[←HN.out]at q HF
 clear hF hT hn hfin HO HT
 cases V with
 | none =>
  unfold folV
  go_wp2_with fail
  go_ret2
  exact⟨_,_,rfl,HF.out⟩
 | some u =>
  unfold folV
  go_wp2_with fail
  go_ret2
  exact⟨_,_,rfl,HF.out⟩
theorem fol_map(w:World)(S:List Nd5):∀ (f:Nat) (l:List Pair) (p:ByteArray) (g:Nat),RowsOk f l→validN p=true→p.size < g→(∀ x∈flatT (buildT (f+1) l),32≤x.size→HasS S x)→folN S g (nodeF (buildT f) l) p=valL l p:=by
 intro f
 induction f with
 | zero =>
  intro l p g h hp hg hS
  obtain⟨g,rfl⟩:∃ k,g=k+1:=⟨g - 1,by omega⟩
  obtain⟨s1,s2⟩:=go_none h hp (way_zero h)
  rw[←s2]
  cases hc:claimN (nodeF (buildT 0) l) p with
  | some u=>rw[fol_some hc]
  | none=>rw[fol_none hc,s1];rfl
 | succ f ih =>
  intro l p g h hp hg hS
  obtain⟨g,rfl⟩:∃ k,g=k+1:=⟨g - 1,by omega⟩
  cases hgo:goL l p with
  | none =>
   obtain⟨s1,s2⟩:=go_none h hp hgo
   rw[←s2]
   cases hc:claimN (nodeF (buildT (f+1)) l) p with
   | some u=>rw[fol_some hc]
   | none=>rw[fol_none hc,s1];rfl
  | some mq =>
   obtain⟨m,q⟩:=mq
   have hK:=go_some h hp hgo
   rw[fol_none hK.no,hK.step,if_neg (ref_pos hK.rows hK.ne),gRef_kid w hK.rows hK.ne (fun hz=>hS _ (hK.flat _ (text_mem _) hz) hz)]
   show folN S g (nodeF (buildT f) m) q=_
   rw[ih m q g hK.rows hK.valid (by have:=hK.less;omega) (fun x hx hz=>hS x (hK.flat x hx hz) hz),hK.find]
theorem follow_no(W:World)(s bm:Nat)(room:Int)(S:List Nd5)(hs:StoreAt W s bm room S)(root key:ByteArray)(f:FuncId)(bs:Array Value)(ha:atL S root.data.toList=none) :
  Calls Tryz.prog 60 #[.pointer (some ⟨s,0,none⟩),.string root,.string key,.func (.func f) #[] bs] W fun e w'=>e=.returned (.tuple #[.string ⟨#[]⟩,.int .i64 4])∧Ext W w':=by
 have HAT:=Hd (at8_no W s bm room S hs (.func (.func f) #[] bs) root ha)
 clear hs ha
 go_enter Tryz.func60,Tryz.ntmps60
 go_wp2_with fail
 refine HAT.out.mono ?_
 rintro e w1 ⟨rfl,hE⟩
 have HE:=Hd hE
 clear hE
 unfold NodeT.V
 go_wp2_with (first |(refine wpList_new Tryz.allocNode rfl rfl ?_;intro W5 hB5 hE5;refine wpList_fill (vs:=emptyN.cells) rfl rfl rfl rfl hB5 rfl Tryz.szNode emptyN.one ?_;intro W6 hB6 hE6))
 go_ret2
 have hX6:Ext W W6:=(HE.out.trans hE5).trans' hE6 (fun x hx e=>by have e:x=w1.heap.size:=e;have:=HE.out.size;omega)
 exact⟨rfl,hX6⟩
theorem get8_any(W:World)(s bm:Nat)(room:Int)(S:List Nd5)(hs:StoreAt W s bm room S)(hN:NodesS S)(root:ByteArray)(y:Nd5)(hy:atL S root.data.toList=some y)(key:ByteArray)(hk:key.size≤1000) :
  Calls Tryz.prog 17 #[.pointer (some ⟨s,0,none⟩),.string root,.string key] W fun e w'=>e=.returned (folV (folN S ((pathB key).size+1) (nodeOf y.2.2.text) (pathB key)))∧Ext W w':=by
 have HF:=Hd (follow_get W s bm room S hs hN root y hy key hk)
 obtain⟨V,hV⟩:∃ V,V=folN S ((pathB key).size+1) (nodeOf y.2.2.text) (pathB key):=⟨_,rfl⟩
 rw[←hV]at HF ⊢
 clear hV hs hN hy hk
 go_enter Tryz.func17,Tryz.ntmps17
 go_wp2_with fail
 refine HF.out.mono ?_
 rintro e w2 ⟨rfl,hE⟩
 have HE:=Hd hE
 clear hE
 cases V with
 | none =>
  unfold folV
  go_wp2_with fail
  go_ret2
  exact⟨rfl,HE.out⟩
 | some u =>
  unfold folV
  go_wp2_with fail
  go_ret2
  exact⟨rfl,HE.out⟩
theorem get8_c(W:World)(s bm:Nat)(room:Int)(S:List Nd5)(hs:StoreAt W s bm room S)(hN:NodesS S)(l:List Pair)(hM:HasM S l)(key:ByteArray)(hk:key.size≤1000) :
  Calls Tryz.prog 17 #[.pointer (some ⟨s,0,none⟩),.string (shaB (trieT l).text),.string key] W fun e w'=>e=.returned (folV (valL (rowsL l) (pathB key)))∧Ext W w':=by
 obtain⟨y,hy1,hy2⟩:=hM.has _ (text_mem _)
 have hy1:atL S (shaB (trieT l).text).data.toList=some y:=hy1
 have h1:=get8_any W s bm room S hs hN (shaB (trieT l).text) y hy1 key hk
 have hrows:=rows_ok (check_ok hM.ok)
 have hI:IsNode (trieT l).text (nodeF (buildT 12) (rowsL l)):=⟨rfl,12,(good 12 (rowsL l) hrows).1⟩
 have e:nodeOf y.2.2.text=nodeF (buildT 12) (rowsL l):=by rw[hy2];exact isNode_inj W (nodeOf_is hI) hI
 rw[e,fol_map W S 12 (rowsL l) (pathB key) _ hrows (path_valid key) (by omega) (fun x hx _=>hM.has x hx)]at h1
 exact h1
theorem get8_no(W:World)(s bm:Nat)(room:Int)(S:List Nd5)(hs:StoreAt W s bm room S)(root key:ByteArray)(ha:atL S root.data.toList=none) :
  Calls Tryz.prog 17 #[.pointer (some ⟨s,0,none⟩),.string root,.string key] W fun e w'=>e=.returned (.tuple #[.string ⟨#[]⟩,.int .i64 4])∧Ext W w':=by
 have HF:=Hd (follow_no W s bm room S hs root key 61 #[] ha)
 clear hs ha
 go_enter Tryz.func17,Tryz.ntmps17
 go_wp2_with fail
 refine HF.out.mono ?_
 rintro e w2 ⟨rfl,hE⟩
 have HE:=Hd hE
 clear hE
 go_wp2_with fail
 go_ret2
 exact⟨rfl,HE.out⟩
def twP:List Pair:=[(⟨#[97]⟩,⟨#[49]⟩),(⟨#[98]⟩,⟨#[50]⟩)]
def twQ:List Pair:=[(⟨#[98]⟩,⟨#[50]⟩)]
def twC:List Chg:=[⟨⟨#[97]⟩,⟨#[49]⟩,false⟩,⟨⟨#[98]⟩,⟨#[50]⟩,false⟩]
def twD:List Chg:=[⟨⟨#[97]⟩,⟨#[]⟩,true⟩]
theorem tw_nil:checkN ([]:List Pair)=0:=by decide +kernel
theorem tw_p:checkN twP=0:=by decide +kernel
theorem tw_q:checkN twQ=0:=by decide +kernel
theorem sort_self{m:List Pair}(h:checkN m=0):sortM m=m:=rises_ext (sortM_rises (check_okL h).2.nodup) (check_okL h).2 (look_sort m)
theorem tw_e1:applyE [] twC=0:=by decide +kernel
theorem tw_a1:afterM [] twC=twP:=by unfold afterM;rw[show applyM [] twC=twP by decide +kernel,sort_self tw_p]
theorem tw_e2:applyE twP twD=0:=by decide +kernel
theorem tw_a2:afterM twP twD=twQ:=by unfold afterM;rw[show applyM twP twD=twQ by decide +kernel,sort_self tw_q]
theorem tw_e3:applyE twQ []=0:=by decide +kernel
theorem tw_a3:afterM twQ []=twQ:=by unfold afterM;rw[show applyM twQ []=twQ by decide +kernel,sort_self tw_q]
def twU:List ByteArray:=[(trieT []).text,(trieT twP).text,(trieT twQ).text]
theorem tw_t0:textsL []=[(trieT []).text]:=by decide +kernel
theorem tw_t1:textsL twP=[(trieT twP).text]:=by decide +kernel
theorem tw_t2:textsL twQ=[(trieT twQ).text]:=by decide +kernel
theorem tw_i0:∀ t∈textsL [],t∈twU:=by rw[tw_t0];intro t ht;rw[List.mem_singleton.1 ht];simp[twU]
theorem tw_i1:∀ t∈textsL twP,t∈twU:=by rw[tw_t1];intro t ht;rw[List.mem_singleton.1 ht];simp[twU]
theorem tw_i2:∀ t∈textsL twQ,t∈twU:=by rw[tw_t2];intro t ht;rw[List.mem_singleton.1 ht];simp[twU]
theorem tw_inj:InjL twU:=by unfold InjL;decide +kernel
theorem tw_nodes:NodeL twU:=fun t ht=>by
 unfold twU at ht
 rcases List.mem_cons.1 ht with rfl | ht
 ·exact texts_nodes tw_nil _ (by rw[tw_t0];simp)
 rcases List.mem_cons.1 ht with rfl | ht
 ·exact texts_nodes tw_p _ (by rw[tw_t1];simp)
 ·rw[List.mem_singleton.1 ht];exact texts_nodes tw_q _ (by rw[tw_t2];simp)
theorem tw_text0:(trieT []).text=⟨#[128]⟩:=by decide +kernel
theorem tw_b1:belowM twP=[]:=by rw[below_is tw_p];decide +kernel
theorem tw_b2:belowM twQ=[]:=by rw[below_is tw_q];decide +kernel
theorem new_one{S:List Nd5}{m:List Pair}(h:belowM m=[]):newM S m=[(trieT m).text]:=by unfold newM;rw[h];rfl
theorem tw_v1:valL (rowsL twP) (pathB ⟨#[97]⟩)=some ⟨#[49]⟩:=by decide +kernel
theorem tw_v2:valL (rowsL twQ) (pathB ⟨#[97]⟩)=none:=by decide +kernel
theorem tw_w:wayN twQ ⟨#[98]⟩=[(trieT twQ).text]:=by decide +kernel
theorem tw_ne:(ky (trieT twQ).text=ky (trieT []).text)=False∧(ky (trieT twQ).text=ky (trieT twP).text)=False:=by
 constructor <;>(apply eq_false;decide +kernel)
theorem tw_csm:∀ c∈twC,c.key.size≤9223372036854775807∧c.value.size≤9223372036854775807:=by unfold twC;simp;decide
theorem tw_dsm:∀ c∈twD,c.key.size≤9223372036854775807∧c.value.size≤9223372036854775807:=by unfold twD;simp;decide
theorem rdc_litT(w:World)(xs:List Chg)(T:TypeId):RdC (w.alloc (.cells (cellsC xs).toArray T)) (.slice (some ⟨w.heap.size,0,none⟩) xs.length xs.length) xs:=
 .inr ⟨w.heap.size,0,xs.length,rfl,by simp,Nat.le_refl _,fun j x hx=>by
  obtain⟨e1,e2,e3⟩:=cellsC_getT xs j x hx
  exact⟨by rw[Nat.zero_add];exact (Blk.new w _).cellL e1,by rw[Nat.zero_add];exact (Blk.new w _).cellL e2,by rw[Nat.zero_add];exact (Blk.new w _).cellL e3⟩⟩
theorem rdp_litT(w:World)(xs:List Pair)(T:TypeId):RdP (w.alloc (.cells (cellsP xs).toArray T)) (.slice (some ⟨w.heap.size,0,none⟩) xs.length xs.length) xs:=by
 refine .inr ⟨_,0,_,rfl,(Blk.new w _).lt,Nat.le_refl _,fun j x hx=>?_⟩
 obtain⟨h1,h2⟩:=cellsP_get xs j x hx
 exact⟨by rw[Nat.zero_add];exact (Blk.new w _).cellL h1,by rw[Nat.zero_add];exact (Blk.new w _).cellL h2⟩
theorem key32{U:List ByteArray}{S:List Nd5}(h:Kp U S){k:ByteArray}(hk:k.size≠32):atL S k.data.toList=none:=by
 cases ha:atL S k.data.toList with
 | none=>rfl
 | some y =>
  obtain⟨y1,y2⟩:=atL_mem ha
  obtain⟨t,_,e,_⟩:=h.is y y1
  have h1:=congrArg List.length (y2.symm.trans e)
  have h2:(ky t).length=32:=shaB_size t
  rw[h2,size_list]at h1
  exact absurd h1 hk
theorem empty_c(w:World)(hc:Cubes w):Calls Tryz.prog 59 #[] w fun e w'=>e=.returned (.string (rootM []))∧Ext w w':=by
 have HR:=Hd (root_ok w (.slice none 0 0) [] hc (.inl ⟨none,0,rfl,rfl⟩) tw_nil)
 have HRD:=Hd (show shaB (trieT []).text=rootM []from rfl)
 rw[HRD.out]at HR
 obtain⟨rt,hrt⟩:∃ rt,rt=rootM []:=⟨_,rfl⟩
 rw[←hrt]at HR ⊢
 clear HRD hrt hc
 go_enter Tryz.func59,Tryz.ntmps59
 go_wp2_with fail
 refine HR.out.mono ?_
 rintro e w1 ⟨rfl,hE⟩
 have HE:=Hd hE
 clear hE
 go_wp2_with fail
 go_ret
 exact⟨rfl,HE.out⟩
theorem tw_eq:(rootM [] == rootM [])=true∧(rootM twQ == rootM twQ)=true:=by
 constructor <;>(rw[ba_beq];exact decide_eq_true rfl)
theorem tw_part0:Part [] [] [(⟨#[128]⟩:ByteArray)]:=by
 have h:=part_all [] tw_nil
 rw[tw_t0,tw_text0]at h;exact h
structure TwS(w0 W:World)(s bm:Nat)(S:List Nd5)(n:Nat):Prop where
 ext:Ext w0 W
 st:StoreAt W s bm 100 S
 kp:Kp twU S
 len:S.length≤n
 bnew:w0.heap.size≤bm
 new:∀ x∈S,w0.heap.size≤x.2.1
 hb:∀ x∈S,x.2.2.held≤n
theorem TwS.grow{w0 W W':World}{s bm:Nat}{S:List Nd5}{n:Nat}(h:TwS w0 W s bm S n)(k:Ext W W'):TwS w0 W' s bm S n:=
 ⟨h.ext.trans k,h.st.ext k,h.kp,h.len,h.bnew,h.new,h.hb⟩
theorem TwS.bds{w0 W:World}{s bm:Nat}{S:List Nd5}{n:Nat}(h:TwS w0 W s bm S n)(hn:n≤5):S.length≤100000∧(∀ x∈S,0≤x.2.2.used∧x.2.2.used≤1000000000)∧(∀ x∈S,0≤x.2.2.held∧x.2.2.held≤1000000000):=
 ⟨by have:=h.len;omega,h.kp.bd (by have:=h.len;omega),fun x hx=>⟨h.kp.cnt.held x hx,by have:=h.hb x hx;omega⟩⟩
theorem TwS.nodes{w0 W:World}{s bm:Nat}{S:List Nd5}{n:Nat}(h:TwS w0 W s bm S n):NodesS S:=h.kp.nodes tw_nodes
theorem TwS.add{w0 W W':World}{s bm:Nat}{S S':List Nd5}{n:Nat}{m:List Pair}{L:List ByteArray}{e:Ending}(h:TwS w0 W s bm S n)(hL:L.length=1)(hY:ComY W s bm 100 twU S m L e W' S'):TwS w0 W' s bm S' (n+1):=
 ⟨h.ext.trans' hY.kp (fun z hz e=>by
  rcases e with e | e
  ·have:=h.bnew;omega
  ·obtain⟨y,hy,e⟩:=List.mem_map.1 e
   have:=h.new y hy;omega),hY.st,hY.add.kp,by have:=hY.add.len;have:=h.len;omega,h.bnew,fun x hx=>by
  rcases hY.add.blk x hx with e | e
  ·obtain⟨y,hy,e⟩:=List.mem_map.1 e
   have:=h.new y hy;omega
  ·have:=h.ext.size;omega,fun x hx=>by
   have:=hY.add.bd n (by omega) h.hb x hx
   omega⟩
theorem works8_c(w:World)(hc:Cubes w)(he:ErrT w):Calls Tryz.prog 15 #[] w fun e w'=>e=.returned (.bool true)∧Ext w w':=by
 have HC:=Hd hc
 have HEE:=Hd he
 clear hc he
 go_enter Tryz.func15,Tryz.ntmps15
 go_wp2_with fail
 refine (snew_c w 100).mono ?_
 rintro e w1 ⟨s,bm,rfl,hE,hS,hb1,hb2,hb3⟩
 have HS1:=Hd (show TwS w w1 s bm [] 0 from⟨hE,hS,Kp.none _,Nat.le_refl _,hb1,(fun x hx=>by cases hx),(fun x hx=>by cases hx)⟩)
 clear hE hS hb1 hb2 hb3
 have hcv:∀ W:World,(convert 89 9 (.slice (some ⟨W.heap.size,0,none⟩) 1 1)).run Tryz.prog (W.alloc (.cells #[.int .u8 128] 5))=.ok (.string ⟨#[128]⟩) (W.alloc (.cells #[.int .u8 128] 5)):=fun W =>
  run_string_row (l:=[128]) _ Tryz.uBytes Tryz.uU8 Tryz.uStr (World.ownsRow_lit W #[.int .u8 128] 1 (Nat.zero_le _) (by unfold maxLen;omega) rfl)
 go_wp2_with fail
 have hx2:=((ExtR w1).alloc (.cells #[.int .u8 128] 5)).alloc (.cells #[.string ⟨#[128]⟩] 9)
 have hrs:RdS ((w1.alloc (.cells #[.int .u8 128] 5)).alloc (.cells #[.string ⟨#[128]⟩] 9)) (.slice (some ⟨w1.heap.size+1,0,none⟩) 1 1) [⟨#[128]⟩]:=by
  have:=rds_lit (w1.alloc (.cells #[.int .u8 128] 5)) [⟨#[128]⟩] 9
  rwa [World.size_alloc]at this
 have HS2:=Hd (HS1.out.grow hx2)
 refine (add_gen _ (HC.out.ext HS2.out.ext) (HEE.out.ext HS2.out.ext) s bm 100 [] HS2.out.st _ [⟨#[128]⟩] hrs False (any_nodesQ (fun t ht=>by
  obtain⟨n,hn⟩:=texts_nodes tw_nil t (by rw[tw_t0,tw_text0];exact ht)
  exact⟨n,hn⟩)) (by simp) ⟨#[128]⟩ rfl (by decide) (by decide) (by simp) (fun x hx=>by cases hx) (fun x hx=>by cases hx)).mono ?_
 intro e w3 hA
 rcases addgen_y _ _ tw_inj (Kp.none twU) tw_part0 tw_i0 (by simp) (ExtR _) hA with⟨_,_,h3⟩ |⟨S3,hY⟩
 ·simp at h3
 have hre:=hY.res
 subst hre
 have HS3:=Hd (HS2.out.add rfl hY)
 have HM3:=Hd (hY.add.has tw_inj tw_nil tw_i0)
 have HH3:=Hd (show heldO (atL S3 (ky (trieT twQ).text))=0 by rw[hY.add.held,if_neg (by rw[tw_ne.1];exact fun e=>e)];rfl)
 clear hA hY hrs hx2 HS1 HS2
 go_wp2_with fail
 refine (empty_c w3 (HC.out.ext HS3.out.ext)).mono ?_
 rintro e w4 ⟨rfl,hE⟩
 have HS4:=Hd (HS3.out.grow hE)
 clear hE HS3
 go_wp2_with fail
 have hx4:=(ExtR w4).alloc (.cells (cellsC twC).toArray 66)
 have HS5:=Hd (HS4.out.grow hx4)
 have hb:=HS5.out.bds (by decide)
 refine (commit_c _ (HC.out.ext HS5.out.ext) (HEE.out.ext HS5.out.ext) s bm 100 S3 HS5.out.st HS5.out.nodes [] HM3.out _ twC (rdc_litT w4 twC 66) (by decide) tw_csm (by decide) (by decide) hb.1 hb.2.1 hb.2.2).mono ?_
 intro e w6 hCo
 obtain⟨S6,hY⟩:=com_room _ tw_inj HS5.out.kp tw_e1 (by rw[tw_a1];exact tw_i1) hCo (by rw[tw_a1,new_one tw_b1];have:=HS5.out.len;simp;omega)
 rw[tw_a1,new_one tw_b1]at hY
 have hre:=hY.res
 subst hre
 have HS6:=Hd (HS5.out.add rfl hY)
 have HM6:=Hd (hY.add.has tw_inj tw_p tw_i1)
 have HH6:=Hd (show heldO (atL S6 (ky (trieT twQ).text))=0 by rw[hY.add.held,HH3.out,if_neg (by rw[tw_ne.2];exact fun e=>e)];rfl)
 clear hb hCo hY hx4 HS4 HS5 HM3
 go_wp2_with fail
 have hx4:=(ExtR w6).alloc (.cells (cellsC twD).toArray 66)
 have HS7:=Hd (HS6.out.grow hx4)
 have hb:=HS7.out.bds (by decide)
 refine (commit_c _ (HC.out.ext HS7.out.ext) (HEE.out.ext HS7.out.ext) s bm 100 S6 HS7.out.st HS7.out.nodes twP HM6.out _ twD (rdc_litT w6 twD 66) (by decide) tw_dsm (by decide) (by decide) hb.1 hb.2.1 hb.2.2).mono ?_
 intro e w8 hCo
 obtain⟨S8,hY⟩:=com_room _ tw_inj HS7.out.kp tw_e2 (by rw[tw_a2];exact tw_i2) hCo (by rw[tw_a2,new_one tw_b2];have:=HS7.out.len;simp;omega)
 rw[tw_a2,new_one tw_b2]at hY
 have hre:=hY.res
 subst hre
 have HS8:=Hd (HS7.out.add rfl hY)
 have HH8:=Hd (show heldO (atL S8 (ky (trieT twQ).text))=1 by rw[hY.add.held,HH6.out,if_pos rfl];rfl)
 have HM8:=Hd (And.intro (hY.add.more tw_inj tw_i1 HM6.out) (hY.add.has tw_inj tw_q tw_i2))
 clear hb hCo hY hx4 HS6 HS7 HM6
 go_wp2_with fail
 refine (get8_c w8 s bm 100 S8 HS8.out.st HS8.out.nodes twP HM8.out.1 ⟨#[97]⟩ (by decide)).mono ?_
 rintro e w9 ⟨rfl,hE⟩
 have HS9:=Hd (HS8.out.grow hE)
 rw[tw_v1]
 clear hE HS8
 unfold folV
 go_wp2_with fail
 refine (get8_c w9 s bm 100 S8 HS9.out.st HS9.out.nodes twQ HM8.out.2 ⟨#[97]⟩ (by decide)).mono ?_
 rintro e w10 ⟨rfl,hE⟩
 have HS10:=Hd (HS9.out.grow hE)
 rw[tw_v2]
 clear hE HS9
 unfold folV
 go_wp2_with fail
 refine (get8_no w10 s bm 100 S8 HS10.out.st ⟨#[120]⟩ ⟨#[97]⟩ (key32 HS10.out.kp (by decide))).mono ?_
 rintro e w11 ⟨rfl,hE⟩
 have HS11:=Hd (HS10.out.grow hE)
 clear hE HS10
 go_wp2_with fail
 have hx4:=(ExtR w11).alloc (.cells (cellsP twQ).toArray 72)
 have HS12:=Hd (HS11.out.grow hx4)
 refine (root_ok _ _ twQ (HC.out.ext HS12.out.ext) (rdp_litT w11 twQ 72) tw_q).mono ?_
 rintro e w13 ⟨rfl,hE⟩
 rw[show shaB (trieT twQ).text=rootM twQ from rfl]
 have HS13:=Hd (HS12.out.grow hE)
 clear hE hx4 HS11 HS12
 go_wp2_with fail
 refine (tall_c w13 s bm 100 S8 HS13.out.st HS13.out.nodes twP HM8.out.1).mono ?_
 rintro e w14 ⟨v14,rfl,hR⟩
 have HS14:=Hd (HS13.out.grow hR.ext)
 obtain⟨a14,c14,rfl⟩:=hR.sl
 clear hR HS13
 go_wp2_with fail
 have hP:=path8_c w14 s bm 100 S8 HS14.out.st twQ HM8.out.2 ⟨#[98]⟩ (by decide)
 rw[tw_w,show shaB (trieT twQ).text=rootM twQ from rfl]at hP
 refine hP.mono ?_
 rintro e w15 ⟨a15,c15,rfl,hR⟩
 have HS15:=Hd (HS14.out.grow hR.ext)
 clear hR hP HS14
 go_wp2_with fail
 refine (upd_c w15 (HC.out.ext HS15.out.ext) (HEE.out.ext HS15.out.ext) s bm 100 S8 HS15.out.st HS15.out.nodes twQ HM8.out.2 (.slice none 0 0) [] (.inl ⟨none,0,rfl,rfl⟩) (by decide) (fun c hc=>by cases hc)).mono ?_
 intro e w16 hU
 unfold UpdP at hU
 rw[if_pos tw_e3,tw_a3,new_one tw_b2]at hU
 obtain⟨r,rfl,hR⟩:=hU
 have HS16:=Hd (HS15.out.grow hR.ext)
 obtain⟨a16,c16,rfl⟩:=hR.sl
 clear hR HS15
 go_wp2_with fail
 refine (empty_c w16 (HC.out.ext HS16.out.ext)).mono ?_
 rintro e w17 ⟨rfl,hE⟩
 have HS17:=Hd (HS16.out.grow hE)
 have hq:=tw_eq
 obtain⟨hq0,hq2⟩:=hq
 clear hE HS16
 go_wp2_with fail
 have hH:=sheld_c w17 s bm 100 S8 (rootM twQ) HS17.out.st
 rw[show heldO (atL S8 (rootM twQ).data.toList)=1 from HH8.out]at hH
 refine hH.mono ?_
 rintro e w18 ⟨rfl,hE⟩
 have HS18:=Hd (HS17.out.grow hE)
 clear hE HS17 hH
 go_wp2_with fail
 go_ret
 exact⟨rfl,HS18.out.ext⟩
structure HoldK(l:List Pair)(w:World)(s bm:Nat)(S:List Nd5)(w':World):Prop where
 ext:Ext w w'
 st:StoreAt w' s bm 2000 S
 add:∃ W,AddK W (textsL l) [] l (textsL l) S
 few:fewB l=true
 inj:InjL (textsL l)
 ok:checkN l=0
 bnew:w.heap.size≤bm
 snew:w.heap.size≤s
 ne:s≠bm
 new:∀ x∈S,w.heap.size≤x.2.1
def HoldYesK(l:List Pair)(w:World)(e:Ending)(w':World):Prop:=∃ s bm S,e=.returned (.tuple #[.pointer (some ⟨s,0,none⟩),.string (shaB (trieT l).text)])∧HoldK l w s bm S w'
def HoldPK(l:List Pair)(w:World)(e:Ending)(w':World):Prop:=HoldNo l w e w'∨HoldYesK l w e w'
theorem HoldK.key{l:List Pair}{w w':World}{s bm:Nat}{S:List Nd5}(h:HoldK l w s bm S w')(k:Key):k∈S.map (·.1)↔∃ t∈textsL l,k=ky t:=by
 obtain⟨W,hA⟩:=h.add
 rw[hA.key];simp
theorem HoldK.kp{l:List Pair}{w w':World}{s bm:Nat}{S:List Nd5}(h:HoldK l w s bm S w'):Kp (textsL l) S:=by
 obtain⟨W,hA⟩:=h.add
 exact hA.kp
theorem HoldK.has{l:List Pair}{w w':World}{s bm:Nat}{S:List Nd5}(h:HoldK l w s bm S w'):HasM S l:=
 h.kp.has w h.inj h.ok (fun _ h=>h) ((h.key _).2 ⟨_,List.mem_of_getElem? (texts h.ok).head,rfl⟩)
theorem HoldK.held{l:List Pair}{w w':World}{s bm:Nat}{S:List Nd5}(h:HoldK l w s bm S w')(k:Key):heldO (atL S k)=if k=ky (trieT l).text then 1 else 0:=by
 obtain⟨W,hA⟩:=h.add
 rw[hA.held]
 show (0:Int)+_=_
 omega
theorem HoldK.len{l:List Pair}{w w':World}{s bm:Nat}{S:List Nd5}(h:HoldK l w s bm S w'):S.length≤121:=by
 obtain⟨W,hA⟩:=h.add
 have h1:=hA.len
 have h2:=textsL_len h.ok
 simp at h1
 omega
theorem HoldK.hb{l:List Pair}{w w':World}{s bm:Nat}{S:List Nd5}(h:HoldK l w s bm S w'):∀ x∈S,x.2.2.held≤1:=by
 obtain⟨W,hA⟩:=h.add
 exact hA.bd 0 (by omega) (fun x hx=>by cases hx)
theorem hold08_k(w:World)(hc:Cubes w)(he:ErrT w)(v:Value)(l:List Pair)(hv:RdP w v l)(hn:l.length≤9223372036854775807)(hs:SmallP l) :
  Calls Tryz.prog 16 #[v] w (HoldPK l w):=by
 have HC:=Hd hc
 have HEE:=Hd he
 have HV:=Hd hv
 have HS:=Hd hs
 have HN:=Hd hn
 obtain⟨a,c,hsl⟩:=hv.sl
 subst hsl
 clear hc hv hs hn he
 go_enter Tryz.func16,Tryz.ntmps16
 go_wp2_with fail
 refine (few5_c w _ l HV.out HN.out HS.out).mono ?_
 rintro e w2 ⟨rfl,hE⟩
 have HE2:=Hd hE
 clear hE
 obtain⟨fw,hfw⟩:∃ fw,fw=fewB l:=⟨_,rfl⟩
 have HFW:=Hd hfw
 rw[←hfw]
 clear hfw
 by_cases hcl:checkN l=0
 case neg =>
  go_wp2_with fail
  refine (nodes_bad w2 _ l (HV.out.ext HE2.out) HN.out HS.out hcl).mono ?_
  rintro e w3 ⟨rfl,hE⟩
  have HE3:=Hd (HE2.out.trans hE)
  have HNO:=Hd hcl
  obtain⟨x,hx⟩:∃ x,x=checkN l:=⟨_,rfl⟩
  rw[←hx]at hcl ⊢
  have hne:(x == 0)=false:=by simpa using hcl
  have hne2:(x != 0)=true:=by simpa using hcl
  clear hcl hx hE HE2
  go_wp2_with fail
  refine (snew_c w3 2000).mono ?_
  rintro e w4 ⟨s,bm,rfl,hE,_,_,_,_⟩
  have HE4:=Hd (HE3.out.trans hE)
  clear hE HE3
  go_wp2_with fail
  refine (apart_c w4 (HC.out.ext HE4.out) _ [] (.inl ⟨none,0,rfl,rfl⟩) (by simp)).mono ?_
  rintro e w5 ⟨b,rfl,_,hE⟩
  have HE5:=Hd (HE4.out.trans hE)
  clear hE HE4
  cases fw with
  | false =>
   go_wp2_with fail
   go_ret2
   exact .inl ⟨rfl,HE5.out,fun h=>HNO.out h.2.1⟩
  | true =>
   go_wp2_with fail
   go_ret2
   exact .inl ⟨rfl,HE5.out,fun h=>HNO.out h.2.1⟩
 have HCL:=Hd hcl
 clear hcl
 go_wp2_with fail
 refine (nodes_ok w2 _ l (HC.out.ext HE2.out) (HV.out.ext HE2.out) HCL.out).mono ?_
 rintro e w3 ⟨u3,n3,rfl,hR⟩
 have hR:SRow w2 w3 u3 n3 (textsL l):=hR
 obtain⟨L,hL⟩:∃ L,L=textsL l:=⟨_,rfl⟩
 have hlen:=textsL_len HCL.out
 have HTL:=Hd hL
 rw[←hL]at hR hlen
 have hln:L.length=n3:=by have:=hR.len;simpa using this
 have hrd:=hR.rd
 obtain⟨a3,c3,e3⟩:=hR.sl
 have HE3:=Hd (HE2.out.trans hR.ext)
 subst e3
 have HL3:=Hd hrd
 subst hln
 clear hR hrd HE2 hL
 go_wp2_with fail
 refine (snew_c w3 2000).mono ?_
 rintro e w4 ⟨s,bm,rfl,hE,hS,hb1,hb2,hb3⟩
 have HE4:=Hd (HE3.out.trans hE)
 have HZ:=Hd (And.intro HE3.out.size hb1)
 have HZS:=Hd (And.intro hb2 hb3)
 have HS4:=Hd (show StoreAt w4 s bm 2000 []from hS)
 have HL4:=Hd (HL3.out.ext hE)
 clear hE hS HE3 HL3 hb1 hb2 hb3
 go_wp2_with fail
 refine (apart_c w4 (HC.out.ext HE4.out) _ L HL4.out (by omega)).mono ?_
 rintro e w5 ⟨b,rfl,hb,hE⟩
 have HE5:=Hd (HE4.out.trans hE)
 have HS5:=Hd (HS4.out.ext hE)
 have HL5:=Hd (HL4.out.ext hE)
 have HB:=Hd hb
 clear hE HE4 HS4 HL4 hb
 cases fw with
 | false =>
  go_wp2_with fail
  go_ret2
  exact .inl ⟨rfl,HE5.out,fun h=>by have:=HFW.out;rw[h.1]at this;cases this⟩
 | true =>
  cases b with
  | false =>
   go_wp2_with fail
   go_ret2
   refine .inl ⟨rfl,HE5.out,fun h=>?_⟩
   have:=HB.out.2 (by rw[HTL.out];exact h.2.2)
   cases this
  | true =>
   have HI:=Hd (show InjL (textsL l) by rw[←HTL.out];exact HB.out.1 rfl)
   have HSH:=Hd (show ShutL L by rw[HTL.out];exact texts_shut w HCL.out (by have:=textsL_len HCL.out;exact Nat.le_trans this (by decide)))
   have HTP:=Hd (show L[0]?=some (trieT l).text by rw[HTL.out];exact (texts HCL.out).head)
   obtain⟨tp,htp⟩:∃ tp,tp=(trieT l).text:=⟨_,rfl⟩
   rw[←htp]at HTP
   have HTX:=Hd htp
   clear htp
   go_wp2_with fail
   have HAN:=Hd (any_nodesQ HSH.out.node)
   refine (add_gen w5 (HC.out.ext HE5.out) (HEE.out.ext HE5.out) s bm 2000 [] HS5.out _ L HL5.out False HAN.out (by have:=textsL_len HCL.out;rw[HTL.out];omega) tp HTP.out (by decide) (by decide) (by simp) (fun x hx=>by cases hx) (fun x hx=>by cases hx)).mono ?_
   rintro e w6 hP
   rw[HTL.out]at hP
   have hpart:=part_all [] HCL.out
   rcases hP with⟨k,hwhy,_,_,_⟩ |⟨top,G,M,htop,hY⟩
   ·have h1:=(hpart.why w hwhy).2
    have h2:=textsL_len HCL.out
    simp at h1
    omega
   have htp2:top=(trieT l).text:=by have:=hpart.head;rw[htop]at this;exact Option.some.inj this
   subst htp2
   have hK:=hpart.add w5 HI.out (Kp.none _) (fun _ h=>h) (by have:=textsL_len HCL.out;omega) hY
   have hre:=hY.res
   subst hre
   have HF:=Hd (And.intro hY.st hK)
   have hk6:=hY.kp
   have HE6:=Hd (HE5.out.trans' hk6 (fun z hz e=>by
    rcases e with e | e
    ·have:=HZ.out;omega
    ·simp at e))
   have HSW:=Hd (And.intro HE5.out.size hk6.size)
   clear hY hK hk6 htop hpart
   go_wp2_with fail
   go_ret2
   exact .inr ⟨s,bm,_,rfl,⟨HE6.out,HF.out.1,⟨w5,HF.out.2⟩,HFW.out.symm,HI.out,HCL.out,by have:=HZ.out;omega,by have:=HZ.out;have:=HZS.out;omega,HZS.out.2,fun x hx=>by
    rcases HF.out.2.blk x hx with h | h
    ·simp at h
    ·have:=HSW.out;omega⟩⟩
end
section
open Go Go.RowKit
noncomputable def allT(P:PA):List ByteArray:=textP P :: underP P
theorem bigs_big{t:ByteArray}(h:32≤t.size):t∈bigs t:=by
 unfold bigs;rw[if_neg (by omega)];exact List.mem_singleton.2 rfl
theorem under_ext{q:ByteArray}{n:PA}{t:ByteArray}:t∈underP (.ext q n)↔t∈bigs (textP n)∨t∈underP n:=by
 rw[underP,List.mem_append]
theorem under_br{v:ByteArray}{ks:Nat→PA}{t:ByteArray}:t∈underP (.br v ks)↔∃ i,i < 16∧(ks i).isNil=false∧(t∈bigs (textP (ks i))∨t∈underP (ks i)):=by
 rw[underP,List.mem_flatMap]
 constructor
 ·rintro⟨i,hi,h⟩
  cases hn:(ks i).isNil with
  | true=>rw[hn,if_pos rfl]at h;cases h
  | false =>
   rw[hn,if_neg (by decide),List.mem_append]at h
   exact⟨i,List.mem_range.1 hi,hn,h⟩
 ·rintro⟨i,hi,hn,h⟩
  refine⟨i,List.mem_range.2 hi,?_⟩
  rw[hn,if_neg (by decide),List.mem_append]
  exact h
theorem under_big:∀ (P:PA) {t:ByteArray},t∈underP P→32≤t.size
 | .nil,t,h=>by rw[underP]at h;cases h
 | .no,t,h=>by rw[underP]at h;cases h
 | .leaf _ _,t,h=>by rw[underP]at h;cases h
 | .ext q n,t,h=>by
  rcases under_ext.1 h with h | h
  ·exact (bigs_mem h).2
  ·exact under_big n h
 | .br v ks,t,h=>by
  obtain⟨i,_,_,h | h⟩:=under_br.1 h
  ·exact (bigs_mem h).2
  ·exact under_big (ks i) h
theorem kid_below{v:ByteArray}{ks:Nat→PA}{i:Nat}(hi:i < 16)(hn:(ks i).isNil=false){t:ByteArray}(h:t∈allT (ks i))(hb:32≤t.size):t∈underP (.br v ks):=by
 refine under_br.2 ⟨i,hi,hn,?_⟩
 rcases List.mem_cons.1 h with rfl | h
 ·exact .inl (bigs_big hb)
 ·exact .inr h
theorem next_below{q:ByteArray}{n:PA}{t:ByteArray}(h:t∈allT n)(hb:32≤t.size):t∈underP (.ext q n):=by
 refine under_ext.2 ?_
 rcases List.mem_cons.1 h with rfl | h
 ·exact .inl (bigs_big hb)
 ·exact .inr h
theorem under_join{a:ByteArray}{P:PA}{t:ByteArray}(h:t∈underP (joinP a P)):t∈allT P:=by
 unfold joinP at h
 by_cases h0:a.size=0
 ·rw[if_pos h0]at h;exact List.mem_cons_of_mem _ h
 rw[if_neg h0]at h
 cases P with
 | nil =>
  have h:t∈underP .no:=h
  rw[underP]at h;cases h
 | no =>
  have h:t∈underP .no:=h
  rw[underP]at h;cases h
 | leaf q v =>
  have h:t∈underP (.leaf (a++q) v):=h
  rw[underP]at h;cases h
 | ext q n =>
  have h:t∈underP (.ext (a++q) n):=h
  exact List.mem_cons_of_mem _ (under_ext.2 (under_ext.1 h))
 | br v ks =>
  have h:t∈underP (.ext a (.br v ks)):=h
  rcases under_ext.1 h with h | h
  ·rw[(bigs_mem h).1];exact List.mem_cons_self
  ·exact List.mem_cons_of_mem _ h
def NewU(P Q:PA)(k:Nat):Prop:=∃ N:List ByteArray,N.length≤k∧∀ t∈underP Q,t∈allT P∨t∈N
theorem NewU.mono{P Q:PA}{k m:Nat}(h:NewU P Q k)(hk:k≤m):NewU P Q m:=by
 obtain⟨N,h1,h2⟩:=h
 exact⟨N,Nat.le_trans h1 hk,h2⟩
theorem NewU.same(P:PA)(k:Nat):NewU P P k:=⟨[],Nat.zero_le _,fun t h=>.inl (List.mem_cons_of_mem _ h)⟩
theorem NewU.none{P Q:PA}(h:underP Q=[])(k:Nat):NewU P Q k:=⟨[],Nat.zero_le _,fun t ht=>by rw[h]at ht;cases ht⟩
theorem NewU.ext{q:ByteArray}{n R:PA}{k:Nat}(h:NewU n R k):NewU (.ext q n) (joinP q R) (k+1):=by
 obtain⟨N,h1,h2⟩:=h
 refine⟨textP R :: N,by simp;omega,fun t ht=>?_⟩
 have hb:=under_big _ ht
 rcases List.mem_cons.1 (under_join ht)with rfl | h
 ·exact .inr List.mem_cons_self
 ·rcases h2 t h with h | h
  ·exact .inl (List.mem_cons_of_mem _ (next_below h hb))
  ·exact .inr (List.mem_cons_of_mem _ h)
theorem NewU.kid{v u:ByteArray}{ks:Nat→PA}{i:Nat}{R:PA}{k:Nat}(hi:∀ j,(ks j).isNil=false→j < 16)(h:NewU (ks i) R k)(hi16:i < 16):NewU (.br v ks) (.br u (setK ks i R)) (k+1):=by
 obtain⟨N,h1,h2⟩:=h
 refine⟨textP R :: N,by simp;omega,fun t ht=>?_⟩
 have hb:=under_big _ ht
 obtain⟨j,hj,hn,h⟩:=under_br.1 ht
 by_cases e:j=i
 ·subst e
  rw[setK_same]at h hn
  have h:t∈allT R:=by
   rcases h with h | h
   ·rw[(bigs_mem h).1];exact List.mem_cons_self
   ·exact List.mem_cons_of_mem _ h
  rcases List.mem_cons.1 h with rfl | h
  ·exact .inr List.mem_cons_self
  ·rcases h2 t h with h | h
   ·cases hnk:(ks j).isNil with
    | true =>
     rw[isNil_eq hnk]at h
     have h:t∈[textP .nil]++underP .nil:=h
     rw[underP,textP,List.append_nil,List.mem_singleton]at h
     subst h
     exact absurd hb (by decide)
    | false=>exact .inl (List.mem_cons_of_mem _ (kid_below hj hnk h hb))
   ·exact .inr (List.mem_cons_of_mem _ h)
 ·rw[setK_ne _ _ e]at h hn
  exact .inl (List.mem_cons_of_mem _ (under_br.2 ⟨j,hj,hn,h⟩))
theorem put_new:∀ (P:PA),(CanP P∨P=.no∨P=.nil)→∀ (p u:ByteArray),validN p=true→NewU P (putP P p u) (p.size+3)
 | .nil,_,p,u,_=>NewU.none (by rw[putP,underP]) _
 | .no,_,p,u,_=>NewU.none (by rw[putP,underP]) _
 | .leaf q v,h,p,u,hv=>by
  unfold putP
  by_cases e:p=q
  ·rw[if_pos e];exact NewU.none (by rw[underP]) _
  rw[if_neg e]
  obtain⟨x1,e1⟩:∃ x,x=q.extract (commonN q p) q.size:=⟨_,rfl⟩
  obtain⟨x2,e2⟩:∃ x,x=p.extract (commonN q p) p.size:=⟨_,rfl⟩
  rw[←e1, ←e2]
  obtain⟨B,hB⟩:∃ B,B=addK (addK (.br ⟨#[]⟩ fun _=>.nil) x1 v) x2 u:=⟨_,rfl⟩
  rw[←hB]
  refine⟨[textP B,textP (.leaf (restB x1) v),textP (.leaf (restB x2) u)],by simp,fun t ht=>.inr ?_⟩
  rcases List.mem_cons.1 (under_join ht)with h | h
  ·rw[h];exact List.mem_cons_self
  ·have leafk:∀ (a b:ByteArray),(t∈bigs (textP (.leaf a b))∨t∈underP (.leaf a b))→t=textP (.leaf a b):=fun a b h=>by
    rcases h with h | h
    ·exact (bigs_mem h).1
    ·rw[underP]at h;cases h
   rw[hB,addK_br]at h
   by_cases z1:x1.size=0
   ·rw[if_pos z1,addK_br]at h
    by_cases z2:x2.size=0
    ·rw[if_pos z2]at h
     obtain⟨_,_,hn,_⟩:=under_br.1 h;cases hn
    ·rw[if_neg z2]at h
     obtain⟨j,_,hn,h⟩:=under_br.1 h
     unfold setK at h hn
     by_cases ej:j=headN x2
     ·rw[if_pos ej]at h;rw[leafk _ _ h];simp
     ·rw[if_neg ej]at hn;cases hn
   ·rw[if_neg z1,addK_br]at h
    by_cases z2:x2.size=0
    ·rw[if_pos z2]at h
     obtain⟨j,_,hn,h⟩:=under_br.1 h
     unfold setK at h hn
     by_cases ej:j=headN x1
     ·rw[if_pos ej]at h;rw[leafk _ _ h];simp
     ·rw[if_neg ej]at hn;cases hn
    ·rw[if_neg z2]at h
     obtain⟨j,_,hn,h⟩:=under_br.1 h
     unfold setK at h hn
     by_cases ej:j=headN x2
     ·rw[if_pos ej]at h;rw[leafk _ _ h];simp
     ·rw[if_neg ej]at h hn
      by_cases ek:j=headN x1
      ·rw[if_pos ek]at h;rw[leafk _ _ h];simp
      ·rw[if_neg ek]at hn;cases hn
 | .ext q n,h,p,u,hv=>by
  have hc:CanP (.ext q n):=by
   rcases h with h | h | h
   ·exact h
   ·cases h
   ·cases h
  have hq0:q.size≠0:=hc.1
  unfold putP
  have hle:=common_le q p
  by_cases hf:commonN q p=q.size
  ·rw[if_pos hf]
   have hv2:validN (p.extract (commonN q p) p.size)=true:=by
    rw[valid_all]at hv ⊢
    intro x hx
    rw[ext_l]at hx
    exact hv x (List.mem_of_mem_drop hx)
   have ih:=put_new n (.inl hc.2.2.2) (p.extract (commonN q p) p.size) u hv2
   refine ih.ext.mono ?_
   rw[ByteArray.size_extract]
   omega
  ·rw[if_neg hf]
   obtain⟨x2,e2⟩:∃ x,x=p.extract (commonN q p) p.size:=⟨_,rfl⟩
   obtain⟨hd,ehd⟩:∃ x,x=headN (q.extract (commonN q p) q.size):=⟨_,rfl⟩
   obtain⟨J,hJ⟩:∃ J,J=joinP (q.extract (commonN q p+1) q.size) n:=⟨_,rfl⟩
   rw[←e2, ←ehd, ←hJ]
   obtain⟨B,hB⟩:∃ B,B=addK (.br ⟨#[]⟩ (setK (fun _=>.nil) hd J)) x2 u:=⟨_,rfl⟩
   rw[←hB]
   refine⟨[textP B,textP J,textP (.leaf (restB x2) u)],by simp,fun t ht=>?_⟩
   have hb:=under_big _ ht
   have kidJ:(t∈bigs (textP J)∨t∈underP J)→t∈allT (.ext q n)∨t∈[textP B,textP J,textP (.leaf (restB x2) u)]:=fun h=>by
    rcases h with h | h
    ·rw[(bigs_mem h).1];exact .inr (by simp)
    ·rw[hJ]at h
     exact .inl (List.mem_cons_of_mem _ (next_below (under_join h) hb))
   rcases List.mem_cons.1 (under_join ht)with h | h
   ·rw[h];exact .inr (by simp)
   ·rw[hB,addK_br]at h
    by_cases z2:x2.size=0
    ·rw[if_pos z2]at h
     obtain⟨j,_,hn,h⟩:=under_br.1 h
     unfold setK at h hn
     by_cases ej:j=hd
     ·rw[if_pos ej]at h;exact kidJ h
     ·rw[if_neg ej]at hn;cases hn
    ·rw[if_neg z2]at h
     obtain⟨j,_,hn,h⟩:=under_br.1 h
     unfold setK at h hn
     by_cases ej:j=headN x2
     ·rw[if_pos ej]at h
      rcases h with h | h
      ·rw[(bigs_mem h).1];exact .inr (by simp)
      ·rw[underP]at h;cases h
     ·rw[if_neg ej]at h hn
      by_cases ek:j=hd
      ·rw[if_pos ek]at h;exact kidJ h
      ·rw[if_neg ek]at hn;cases hn
 | .br v ks,h,p,u,hv=>by
  have hc:CanP (.br v ks):=by
   rcases h with h | h | h
   ·exact h
   ·cases h
   ·cases h
  unfold putP
  by_cases h0:p.size=0
  ·rw[if_pos h0]
   exact⟨[],Nat.zero_le _,fun t ht=>.inl (List.mem_cons_of_mem _ (under_br.2 (under_br.1 ht)))⟩
  ·rw[if_neg h0]
   have ih:=put_new (ks (headN p)) (by
    cases hn:(ks (headN p)).isNil with
    | true=>exact .inr (.inr (isNil_eq hn))
    | false=>exact .inl (hc.2.1 _ hn)) (restB p) u (valid_rest hv)
   refine (NewU.kid hc.1 ih (head_lt hv h0)).mono ?_
   unfold restB
   rw[ByteArray.size_extract]
   omega
theorem under_least{v:ByteArray}{ks:Nat→PA}(hi:∀ j,(ks j).isNil=false→j < 16)(hc:∀ j,(ks j).isNil=false→CanP (ks j)){t:ByteArray}(h:t∈underP (leastP v ks)):t∈underP (.br v ks):=by
 have hb:=under_big _ h
 unfold leastP at h
 cases e:idxK ks with
 | nil =>
  rw[e]at h
  simp only at h
  by_cases hz:v.size=0
  ·rw[if_pos hz,underP]at h;cases h
  ·rw[if_neg hz,underP]at h;cases h
 | cons i r =>
  rw[e]at h
  cases r with
  | nil =>
   simp only at h
   by_cases hz:v.size=0
   ·rw[if_pos hz]at h
    have hm:i∈idxK ks:=by rw[e];exact List.mem_cons_self
    have hn:=(idx_mem ⟨hi,hc⟩).1 hm
    exact kid_below (hi i hn) hn (under_join h) hb
   ·rw[if_neg hz]at h;exact h
  | cons j r=>exact h
theorem NewU.unNo{P R:PA}{k:Nat}(h:NewU P R k):NewU P (Go.Proofs.YtpaacnhboilkkaaGreatDoor.unNo R) k:=by
 unfold Go.Proofs.YtpaacnhboilkkaaGreatDoor.unNo
 cases e:R.isNo with
 | true=>rw[if_pos rfl];exact NewU.none (by rw[underP]) _
 | false=>rw[if_neg (by decide)];exact h
theorem drop_new:∀ (P:PA),CanP P→∀ (p:ByteArray),validN p=true→NewU P (dropP P p) (p.size+3)
 | .nil,h,_,_=>h.elim
 | .no,h,_,_=>h.elim
 | .leaf q v,h,p,hv=>by
  unfold dropP
  by_cases e:p=q
  ·rw[if_pos e];exact NewU.none (by rw[underP]) _
  ·rw[if_neg e];exact NewU.same _ _
 | .ext q n,h,p,hv=>by
  unfold dropP
  cases hp:preB q p with
  | false=>rw[if_neg (by decide)];exact NewU.same _ _
  | true =>
   rw[if_pos rfl]
   have hv2:validN (p.extract q.size p.size)=true:=by
    rw[valid_all]at hv ⊢
    intro x hx
    rw[ext_l]at hx
    exact hv x (List.mem_of_mem_drop hx)
   have hle:q.size≤p.size:=pre_size hp
   have hq0:q.size≠0:=h.1
   refine (drop_new n h.2.2.2 _ hv2).ext.mono ?_
   rw[ByteArray.size_extract]
   omega
 | .br v ks,h,p,hv=>by
  unfold dropP
  by_cases h0:p.size=0
  ·rw[if_pos h0]
   exact⟨[],Nat.zero_le _,fun t ht=>.inl (List.mem_cons_of_mem _ (under_br.2 (under_br.1 (under_least h.1 h.2.1 ht))))⟩
  ·rw[if_neg h0]
   cases hn:(ks (headN p)).isNil with
   | true=>rw[if_pos rfl];exact NewU.same _ _
   | false =>
    rw[if_neg (by decide)]
    have hhl:=head_lt hv h0
    have hd:=drop_ok (ks (headN p)) (h.2.1 _ hn) (restB p) (valid_rest hv)
    have ih:=(drop_new (ks (headN p)) (h.2.1 _ hn) (restB p) (valid_rest hv)).unNo
    have hk:=NewU.kid (v:=v) (u:=v) h.1 ih hhl
    obtain⟨N,n1,n2⟩:=hk
    have hone:OneB (setK ks (headN p) (Go.Proofs.YtpaacnhboilkkaaGreatDoor.unNo (dropP (ks (headN p)) (restB p)))):=by
     rcases hd.1 with e | e
     ·rw[e];exact OneB.cut ⟨h.1,h.2.1⟩ _
     ·have:Go.Proofs.YtpaacnhboilkkaaGreatDoor.unNo (dropP (ks (headN p)) (restB p))=dropP (ks (headN p)) (restB p):=by unfold Go.Proofs.YtpaacnhboilkkaaGreatDoor.unNo;rw[can_no e,if_neg (by decide)]
      rw[this];exact OneB.set ⟨h.1,h.2.1⟩ hhl e
    refine⟨N,?_,fun t ht=>n2 t (under_least hone.1 hone.2 ht)⟩
    unfold restB at n1
    rw[ByteArray.size_extract]at n1
    omega
theorem step_new{P:PA}(hP:P=.no∨CanP P){c:Chg}(hc:c.bad=false):NewU P (stepPA P c) 15:=by
 have hk:=good_key hc
 have hps:(pathB c.key).size≤12:=by rw[path_size];omega
 unfold stepPA
 cases hg:c.gone with
 | true =>
  rw[if_pos rfl]
  rcases hP with rfl | hP
  ·exact NewU.none (by rw[dropP,underP]) _
  ·exact (drop_new P hP _ (path_valid _)).mono (by omega)
 | false =>
  rw[if_neg (by decide)]
  exact (put_new P (hP.elim (fun e=>.inr (.inl e)) .inl) _ _ (path_valid _)).mono (by omega)
theorem new_few{S:List Nd5}{l m:List Pair}(hM:HasM S l)(hm:checkN m=0){c:Chg}(h:Makes l m [c]):(newM S m).length≤16:=by
 have hc:c.bad=false:=by have:=h.fine;simpa using this
 have hf:=fold_map hM.ok hm h
 have hf:stepPA (partP 13 (rowsL l)) c=partP 13 (rowsL m):=hf
 have hn:=step_new (part_top (rows_ok (check_ok hM.ok))) hc
 rw[hf]at hn
 obtain⟨N,n1,n2⟩:=hn
 obtain⟨_,p2,p3⟩:=part_texts 12 (rowsL l) (rows_ok (check_ok hM.ok))
 have hall:∀ t∈allT (partP 13 (rowsL l)),HasS S t:=fun t ht=>by
  refine hM.has t ?_
  have e:flatT (trieT l)=(trieT l).text :: belowM l:=by rw[below_is hM.ok];show flatT (.mk _ _)=_;rw[flatT];rfl
  rw[e]
  rcases List.mem_cons.1 ht with h | h
  ·rw[h,p2];exact List.mem_cons_self
  ·exact List.mem_cons_of_mem _ h
 unfold newM
 rw[List.length_cons]
 have hnd:(freshU S (belowM m)).Nodup:=(firsts_nodup _).filter _
 have hsub:∀ t∈freshU S (belowM m),t∈N:=fun t ht=>by
  unfold freshU at ht
  obtain⟨h1,h2⟩:=List.mem_filter.1 ht
  rcases n2 t ((firsts_mem _ _).1 h1)with h | h
  ·obtain⟨x,hx,_⟩:=hall t h
   have hx:atL S (shaB t).data.toList=some x:=hx
   unfold lackB at h2
   rw[hx]at h2;cases h2
  ·exact h
 have:=List.Nodup.length_le_of_subset hnd hsub
 omega
def stepsM(l:List Pair)(cs:List Chg)(i:Nat):List Pair:=(cs.take i).foldl (fun m c=>afterM m [c]) l
def StepsOk(l:List Pair)(cs:List Chg)(i:Nat):Prop:=∀ j c,j < i→cs[j]?=some c→applyE (stepsM l cs j) [c]=0
theorem steps_succ{l:List Pair}{cs:List Chg}{i:Nat}{c:Chg}(h:cs[i]?=some c):stepsM l cs (i+1)=afterM (stepsM l cs i) [c]:=by
 unfold stepsM;rw[take_at h,List.foldl_append];rfl
theorem steps_more{l:List Pair}{cs:List Chg}{i:Nat}{c:Chg}(h:StepsOk l cs i)(hc:cs[i]?=some c)(h0:applyE (stepsM l cs i) [c]=0):StepsOk l cs (i+1):=fun j d hj hd=>by
 by_cases e:j=i
 ·subst e
  rw[hc]at hd
  rw[←Option.some.inj hd];exact h0
 ·exact h j d (by omega) hd
theorem steps_look{l:List Pair}{cs:List Chg}(hl:checkN l=0):∀ i,i≤cs.length→StepsOk l cs i→checkN (stepsM l cs i)=0∧(cs.take i).any Chg.bad=false∧∀ k,look (stepsM l cs i) k=(cs.take i).foldl (lastC k) (look l k)
 | 0,_,_=>⟨hl,rfl,fun _=>rfl⟩
 | i+1,hi,h=>by
  obtain⟨c,hc⟩:∃ c,cs[i]?=some c:=⟨_,List.getElem?_eq_getElem (by omega)⟩
  obtain⟨h1,h2,h3⟩:=steps_look hl i (by omega) (fun j d hj hd=>h j d (by omega) hd)
  have h0:=h i c (by omega) hc
  have hb:=(apply_parts h0).2.1
  rw[steps_succ hc,take_at hc]
  refine⟨after_check h0,?_,fun k=>?_⟩
  ·rw[List.any_append,h2,hb];rfl
  ·rw[List.foldl_append, ←h3 k]
   exact look_after h1 [c] k
theorem map_ext{l m:List Pair}(hl:checkN l=0)(hm:checkN m=0)(h:∀ k,look l k=look m k):l=m:=rises_ext (check_okL hl).2 (check_okL hm).2 h
theorem steps_all{l:List Pair}{cs:List Chg}(hl:checkN l=0)(h:StepsOk l cs cs.length):applyE l cs=0∧afterM l cs=stepsM l cs cs.length:=by
 obtain⟨h1,h2,h3⟩:=steps_look hl cs.length (Nat.le_refl _) h
 rw[List.take_length]at h2 h3
 have hlk:∀ k,look (sortM (applyM l cs)) k=look (stepsM l cs cs.length) k:=fun k=>by
  rw[h3 k];exact look_after hl cs k
 have e:sortM (applyM l cs)=stepsM l cs cs.length:=rises_ext (sortM_rises (apply_nodup l cs)) (check_okL h1).2 hlk
 refine⟨?_,e⟩
 have hlen:(applyM l cs).length≤40:=by
  rw[←sortM_len,e];exact (check_ok h1).len
 unfold applyE
 rw[if_neg (by omega),if_neg (by rw[h2];decide),if_neg (by omega)]
theorem makes_one{m:List Pair}{c:Chg}(h:applyE m [c]=0):Makes m (afterM m [c]) [c]:=by
 obtain⟨h1,h2,_⟩:=apply_parts h
 have hl:∀ k,look (afterM m [c]) k=lastC k (look m k) c:=fun k=>look_after h1 [c] k
 refine⟨by simp,fun d hd=>?_,fun k hk=>?_,h2⟩
 ·rw[List.mem_singleton.1 hd,hl]
  unfold lastC Chg.o
  rw[if_pos rfl]
 ·rw[hl]
  unfold lastC
  rw[if_neg (fun e=>hk c (by simp) e.symm)]
def stepsU(l:List Pair)(cs:List Chg)(i:Nat):List ByteArray:=textsL l++(List.range i).flatMap fun j=>textsL (stepsM l cs (j+1))
theorem stepsU_succ(l:List Pair)(cs:List Chg)(i:Nat):stepsU l cs (i+1)=stepsU l cs i++textsL (stepsM l cs (i+1)):=by
 unfold stepsU
 rw[List.range_succ,List.flatMap_append, ←List.append_assoc]
 simp
theorem stepsU_in{l:List Pair}{cs:List Chg}{i j:Nat}(h:j≤i){t:ByteArray}(ht:t∈textsL (stepsM l cs j)):t∈stepsU l cs i:=by
 unfold stepsU
 cases j with
 | zero=>exact List.mem_append_left _ ht
 | succ j=>exact List.mem_append_right _ (List.mem_flatMap.2 ⟨j,List.mem_range.2 (by omega),ht⟩)
theorem stepsU_len{l:List Pair}{cs:List Chg}(hl:checkN l=0):∀ i,i≤cs.length→StepsOk l cs i→(stepsU l cs i).length≤121 * (i+1)
 | 0,_,_=>by
  have:=textsL_len hl
  unfold stepsU;simp;omega
 | i+1,hi,h=>by
  have ih:=stepsU_len hl i (by omega) (fun j d hj hd=>h j d (by omega) hd)
  have h2:=textsL_len (steps_look hl (i+1) hi h).1
  rw[stepsU_succ,List.length_append]
  omega
theorem stepsU_nodes{l:List Pair}{cs:List Chg}(hl:checkN l=0){i:Nat}(hi:i≤cs.length)(h:StepsOk l cs i):NodeL (stepsU l cs i):=fun t ht=>by
 unfold stepsU at ht
 rcases List.mem_append.1 ht with ht | ht
 ·exact texts_nodes hl t ht
 ·obtain⟨j,hj,ht⟩:=List.mem_flatMap.1 ht
  have hj:=List.mem_range.1 hj
  exact texts_nodes (steps_look hl (j+1) (by omega) (fun a d ha hd=>h a d (by omega) hd)).1 t ht
def goneL(l:List Pair)(key:ByteArray):List Pair:=l.filter fun p=>decide (p.k≠key.data.toList)
theorem look_gone(key:ByteArray)(k:List UInt8):∀ l:List Pair,look (goneL l key) k=if k=key.data.toList then none else look l k
 | []=>by unfold goneL;simp[look]
 | p :: l=>by
  have ih:=look_gone key k l
  unfold goneL at ih ⊢
  rw[List.filter_cons]
  by_cases h:p.k=key.data.toList
  ·rw[if_neg (by simpa using h),ih,look_cons]
   by_cases hk:k=key.data.toList
   ·rw[if_pos hk,if_pos hk]
   ·rw[if_neg hk,if_neg hk,if_neg (fun e=>hk (e.trans h))]
  ·rw[if_pos (by simpa using h),look_cons,look_cons,ih]
   by_cases hk:k=p.k
   ·rw[if_pos hk,if_neg (fun e=>h (hk.symm.trans e)),if_pos hk]
   ·rw[if_neg hk,if_neg hk]
theorem gone_check{l:List Pair}(hl:checkN l=0)(key:ByteArray):checkN (goneL l key)=0:=by
 have h1:=check_okL hl
 refine ok_check (fun p hp=>h1.1 p (List.mem_filter.1 hp).1) (List.Pairwise.sublist List.filter_sublist h1.2) ?_
 have:=List.length_filter_le (fun p:Pair=>decide (p.k≠key.data.toList)) l
 have h2:=(check_ok hl).len
 unfold goneL
 omega
def goneC(key:ByteArray):Chg:=⟨key,⟨#[]⟩,true⟩
theorem gone_makes{l:List Pair}(hl:checkN l=0){key:ByteArray}(h1:1≤key.size)(h6:key.size≤6):Makes l (goneL l key) [goneC key]:=by
 refine⟨by simp,fun d hd=>?_,fun k hk=>?_,?_⟩
 ·rw[List.mem_singleton.1 hd]
  show look (goneL l key) key.data.toList=none
  rw[look_gone,if_pos rfl]
 ·rw[look_gone,if_neg (fun e=>hk (goneC key) (by simp) e.symm)]
 ·have h2:keyedB key=true:=decide_eq_true ⟨by omega,h6⟩
  unfold Chg.bad goneC
  simp[h2]
  rfl
theorem gone_after{l:List Pair}(hl:checkN l=0){key:ByteArray}(h1:1≤key.size)(h6:key.size≤6):applyE l [goneC key]=0∧afterM l [goneC key]=goneL l key:=
 (gone_makes hl h1 h6).after hl (gone_check hl key)
theorem gone_same{l:List Pair}(hl:checkN l=0){key:ByteArray}(h:look l key.data.toList=none):goneL l key=l:=
 map_ext (gone_check hl key) hl fun k=>by
  rw[look_gone]
  by_cases hk:k=key.data.toList
  ·rw[if_pos hk,hk,h]
  ·rw[if_neg hk]
theorem back_makes{l:List Pair}(hl:checkN l=0){key v:ByteArray}(h:look l key.data.toList=some v):Makes (goneL l key) l [⟨key,v,false⟩]:=by
 refine⟨by simp,fun d hd=>?_,fun k hk=>?_,?_⟩
 ·rw[List.mem_singleton.1 hd]
  show look l key.data.toList=some v
  exact h
 ·rw[look_gone,if_neg (fun e=>hk ⟨key,v,false⟩ (by simp) e.symm)]
 ·obtain⟨p,hp,e1,e2⟩:=look_mem h
  have:=put_ok (map_okP hl p hp)
  have e1:p.1=key:=ba_data e1
  rw[e1,e2]at this
  simpa using this
theorem back_after{l:List Pair}(hl:checkN l=0){key v:ByteArray}(h:look l key.data.toList=some v):applyE (goneL l key) [⟨key,v,false⟩]=0∧afterM (goneL l key) [⟨key,v,false⟩]=l:=
 (back_makes hl h).after (gone_check hl key) hl
theorem val_key(l:List Pair)(k:ByteArray):valL (rowsL l) (pathB k)=look l k.data.toList:=by rw[val_find,val_look]
theorem root_one(w:World){S:List Nd5}{l m:List Pair}(hl:HasM S l)(hm:HasM S m)(h:rootM l=rootM m):l=m:=by
 obtain⟨y,y1,y2⟩:=hl.has _ (text_mem _)
 obtain⟨z,z1,z2⟩:=hm.has _ (text_mem _)
 have y1:atL S (rootM l).data.toList=some y:=y1
 have z1:atL S (rootM m).data.toList=some z:=z1
 rw[h,z1]at y1
 have e:=Option.some.inj y1
 have et:(trieT l).text=(trieT m).text:=by rw[←y2, ←z2,e]
 have hrl:=rows_ok (check_ok hl.ok)
 have hrm:=rows_ok (check_ok hm.ok)
 have hI:IsNode (trieT l).text (nodeF (buildT 12) (rowsL l)):=⟨rfl,12,(good 12 (rowsL l) hrl).1⟩
 have hJ:IsNode (trieT m).text (nodeF (buildT 12) (rowsL m)):=⟨rfl,12,(good 12 (rowsL m) hrm).1⟩
 rw[et]at hI
 have en:=isNode_inj w hI hJ
 refine map_ext hl.ok hm.ok fun k=>?_
 have h1:=fol_map w S 12 (rowsL l) (pathB ⟨k.toArray⟩) ((pathB ⟨k.toArray⟩).size+1) hrl (path_valid _) (by omega) (fun x hx _=>hl.has x hx)
 have h2:=fol_map w S 12 (rowsL m) (pathB ⟨k.toArray⟩) ((pathB ⟨k.toArray⟩).size+1) hrm (path_valid _) (by omega) (fun x hx _=>hm.has x hx)
 rw[en,h2,val_key,val_key]at h1
 exact h1.symm
end
section
open Go Go.RowKit
attribute [local go_sem] Oper.semAt_some
def NodesR(l:List Pair)(w:World)(e:Ending)(w':World):Prop:=∃ a n c k L,e=.returned (.tuple #[.slice a n c,.int .i64 k])∧SRow w w' (.slice a n c) n L∧n=L.length∧n≤121∧k=checkN l∧(checkN l=0→L=textsL l)
theorem nodes_row(w:World)(hc:Cubes w)(v:Value)(l:List Pair)(hv:RdP w v l)(hn:l.length≤9223372036854775807)(hs:SmallP l) :
  Calls Tryz.prog 26 #[v] w (NodesR l w):=by
 by_cases h:checkN l=0
 ·refine (nodes_ok w v l hc hv h).mono ?_
  rintro e w' ⟨u,n,rfl,hR⟩
  have hR:SRow w w' u n (textsL l):=hR
  have hln:(textsL l).length=n:=by have:=hR.len;simpa using this
  obtain⟨a,c,rfl⟩:=hR.sl
  exact⟨a,n,c,0,_,rfl,hR,hln.symm,by rw[←hln];exact textsL_len h,h.symm,fun _=>rfl⟩
 ·refine (nodes_bad w v l hv hn hs h).mono ?_
  rintro e w' ⟨rfl,hE⟩
  exact⟨none,0,0,checkN l,[],rfl,ORow.nil _ _ hE,rfl,by omega,rfl,fun h0=>absurd h0 h⟩
theorem wpList_appS{ops:Array Oper}{rest:List Oper}{d:Option Tmp}{ty:TypeId}{pos:String}{af:Array Edge}{a:Act}{w0 w1 w:World}{Q:Exit→Act→World→Prop}{s x:Operand}{v pv:Value}{n m N:Nat}{xs:List Value}{ys:List ByteArray}
  (hR:ORow 9 1 w0 w v n xs) (hP:SRow w1 w pv m ys) (hN:n+m=N) (hs:a.eval s=v) (hx:a.eval x=pv) (h63:N≤1000000)
  (h:∀ v' w',ORow 9 1 w0 w' v' N (xs++ys.map Value.string)→wpList Tryz.prog ops Q rest (a.put d v') w') :
  wpList Tryz.prog ops Q (⟨d,.call { callee:=.builtin .append,args:=#[s,x],argTypes:=#[34,34] },ty,pos,af,none⟩ :: rest) a w:=by
 subst hN
 obtain⟨h1,⟨rfl,h3⟩ |⟨g,cap,cur,rfl,h3,h4,h5,h6,h7⟩⟩:=hP.own
 ·have hys:ys=[]:=by
   have:=hP.len
   rw[h3]at this
   exact List.eq_nil_of_length_eq_zero (by simpa using this)
  subst hys
  obtain⟨ad,c,rfl⟩:=hR.sl
  have hle:n≤c:=by
   obtain⟨_,⟨e,e2⟩ |⟨g,cap,cur,e,_,_,k5,_⟩⟩:=hR.own
   ·omega
   ·obtain⟨_,_,e⟩:=Value.slice.inj e;omega
  refine wpList_app0 Tryz.sStrs hs hx hle (h _ _ ?_)
  subst h3
  simpa using hR
 ·exact wpList_app Tryz.sStrs hR s x rfl hs hx (fun j u hj=>hP.own.cells (g:=g) rfl j u hj) (fun u hu=>by obtain⟨y,_,rfl⟩:=List.mem_map.1 hu;rfl) (by have:=hP.len;simpa using this) rfl (by unfold maxLen;omega) (by omega) (fun v' w' r1 _ _=>h v' w' r1)
end
end Go.Proofs.YtpaacnhboilkkaaGreatDoor
