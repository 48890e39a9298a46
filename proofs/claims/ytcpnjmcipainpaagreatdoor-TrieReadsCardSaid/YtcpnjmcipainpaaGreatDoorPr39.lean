/- Lemmas; each is under no condition but those that it states. -/
import Derived.Test.YtcpnjmcipainpaaGreatDoorPr38
namespace Go.Proofs.YtcpnjmcipainpaaGreatDoor
set_option linter.unusedSimpArgs false
set_option linter.unusedVariables false
set_option maxRecDepth 100000
set_option maxHeartbeats 16000000
open Go Go.RowKit
theorem jow{m:List Pair}(h:jaG m=0):jaF (jaL m)=(jaL m).text :: belowM m:=by
 rw[jg4 h];show jaF (.mk _ _)=_;rw[jaF];rfl
theorem jtx(S:List Nd5){m:List Pair}(h:jaG m=0):Part S m (newM S m):=
 ⟨h,rfl,fun t ht=>(ja9 _ _).2 (jqU h ht),fun t ht=>by
  have ht:=(ja9 (jaF (jaL m)) t).1 ht;rw[jow h]at ht;unfold newM;rcases List.mem_cons.1 ht with rfl | ht
  ·exact .inl List.mem_cons_self
  ·cases hl:lackB S t with
   | true=>exact .inl (List.mem_cons_of_mem _ (List.mem_filter.2 ⟨(ja9 _ _).2 ht,hl⟩))
   | false =>
    refine .inr (jes.1 ?_);unfold lackB at hl;unfold ky;cases ha:atL S (shaB t).data.toList with
    | none=>rw[ha]at hl;cases hl
    | some x=>rfl⟩
theorem AddK.ahead{w w1:World}{U:List vB}{S:List Nd5}{m:List Pair}{L:List vB}{S':List Nd5}(h:AddK w1 U S m L S')(hw:w.heap.size<=w1.heap.size):AddK w U S m L S':=
 ⟨h.kp,h.key,h.held,h.sum,h.len,fun x hx=>(h.blk x hx).imp id (fun e=>Nat.le_trans hw e),h.bd⟩
structure ComY(w:World)(s bm:Nat)(room:Int)(U:List vB)(S:List Nd5)(m:List Pair)(L:List vB)(e:Ending)(w':World)(S':List Nd5):Prop where
 res:e=.returned (.tuple #[.string (rootM m),.int .i64 0])
 st:jaT w' s bm room S'
 add:AddK w U S m L S'
 kp:jae (fun z=>z=bm\/z∈S.map (·.2.1)) w w'
 fits:(S'.length:Int)<=room\/room < S.length
def ComF(w:World)(room:Int)(S:List Nd5)(L:List vB)(e:Ending)(w':World):Prop:=e=.returned (.tuple #[.string ⟨#[]⟩,.int .i64 3])/\Ext w w'/\room < (S.length:Int)+(L.length:Int)
theorem jmQ(w0 w:World){U:List vB}(hU:InjL U){S:List Nd5}(hK:Kp U S){m:List Pair}{L:List vB}(hp:Part S m L)(hs:∀ t∈jbz m,t∈U)(hl:L.length<=1000){s bm:Nat}{room:Int}{e:Ending}{w':World}(hE:Ext w0 w)(h:jmP False w s bm room S L e w') :
  ComF w0 room S L e w'\/∃ S',ComY w0 s bm room U S m L e w' S':=by
 rcases h with⟨k,hwhy,_,rfl,hE2⟩ |⟨top,G,M,htop,hY⟩
 ·obtain⟨rfl,h3⟩:=hp.why w hwhy
  exact .inl ⟨rfl,hE.trans hE2,h3⟩
 ·have htp:top=(jaL m).text:=by have:=hp.head;rw[htop]at this;exact Option.some.inj this
  subst htp;refine .inr ⟨_,hY.res,hY.st,(hp.add w hU hK hs hl hY).ahead hE.size,(hE.mono (fun _ _ e=>e.elim)).trans hY.kp,?_⟩;have h1:=hY.fits;have h2:=jqx (S:=S) (G:=G) (M:=M) (top:=(jaL m).text);have h2:(jjm (shaB (jaL m).text).data.toList (jen ((frK S M).flatMap (jb3 G)) (S++jcN G (frK S M)))).length<=S.length+(frK S M).length:=h2;omega
theorem jyG(w:World){U:List vB}(hU:InjL U){S:List Nd5}(hK:Kp U S){l:List Pair}{cs:List Chg}(h0:jbs l cs=0)(hs:∀ t∈jbz (jbQ l cs),t∈U){s bm:Nat}{room:Int}{e:Ending}{w':World}(h:ComP w s bm room S l cs e w') :
  ComF w room S (newM S (jbQ l cs)) e w'\/∃ S',ComY w s bm room U S (jbQ l cs) (newM S (jbQ l cs)) e w' S':=by
 rcases h with⟨h1,_⟩ |⟨_,w1,hE,h⟩
 ·exact absurd h0 h1
 ·have hc:jaG (jbQ l cs)=0:=jft h0
  exact jmQ w w1 hU hK (jtx S hc) hs (by have:=jqT (S:=S) hc;omega) hE h
theorem jm1(w:World){U:List vB}(hU:InjL U){S:List Nd5}(hK:Kp U S){l:List Pair}{cs:List Chg}(h0:jbs l cs=0)(hs:∀ t∈jbz (jbQ l cs),t∈U){s bm:Nat}{room:Int}{e:Ending}{w':World}(h:ComP w s bm room S l cs e w')(hr:(S.length:Int)+((newM S (jbQ l cs)).length:Int)<=room) :
  ∃ S',ComY w s bm room U S (jbQ l cs) (newM S (jbQ l cs)) e w' S':=by
 rcases jyG w hU hK h0 hs h with⟨_,_,h3⟩ | h3
 ·omega
 ·exact h3
theorem AddK.more{w:World}{U:List vB}(hU:InjL U){S:List Nd5}{m:List Pair}{L:List vB}{S':List Nd5}(h:AddK w U S m L S'){l:List Pair}(hl:∀ t∈jbz l,t∈U)(hM:HasM S l):HasM S' l:=
 h.kp.has w hU hM.ok hl ((h.key _).2 (.inl (by
  obtain⟨x,hx,_⟩:=hM.has _ (jdK _)
  exact jes.1 (by rw[hx];rfl))))
theorem AddK.has{w:World}{U:List vB}(hU:InjL U){S:List Nd5}{m:List Pair}{L:List vB}{S':List Nd5}(h:AddK w U S m L S')(hm:jaG m=0)(hl:∀ t∈jbz m,t∈U):HasM S' m:=
 h.kp.has w hU hm hl ((h.key _).2 (.inr ⟨_,List.mem_of_getElem? (jkb hm).head,rfl⟩))
section
attribute [local go_sem] Oper.semAt_some
theorem jcD(w:World)(n:Nat):Ext w (w.drewN n):=(ExtR w).drewN n
def jyi(z g L:Nat)(v:Value)(W:World)(S:List Nd5)(A:List vB)(V:Option vB)(okv pv:Value)(wr:World):Prop:=
 ∃ (p:vB) (T:List vB) (v':Value),pv=.string p/\jdL z g v W wr v' T/\v'.ownBlock≠some L /\
  ((okv=.bool true/\∃ f l,jaA f l/\jat p=true/\p.size<=2000/\T++wayL f l p=A/\valL l p=V/\Blk wr L (.cells (jav (jac f) l).cells.toArray 144)/\(∀ x∈jaF (jac (f+1) l),32<=x.size->HasS S x)) \/
  (okv=.bool false/\T=A/\V=none))
def foM:Value->Value->Nat | .bool true,pv=>jik pv+1 | _,_=>0
def folV:Option vB->Value | some u=>.tuple #[.string u,.int .i64 0] | none=>.tuple #[.string ⟨#[]⟩,.int .i64 9]
def jwt(z g:Nat)(v:Value)(W:World)(A:List vB)(V:Option vB)(e:Ending)(w':World):Prop:=e=.returned (folV V)/\∃ v',jdL z g v W w' v' A
theorem jqe(w0 W:World)(s bm:Nat)(room:Int)(S:List Nd5)(hs:jaT w0 s bm room S)(hE0:Ext w0 W)(g:Nat)(v:Value)(h:jgk w0.heap.size g v [] W)(l:List Pair)(hM:HasM S l)(key:vB)(hk:key.size<=1000) :
  vQ 69 #[.pointer (some ⟨s,0,none⟩),.string (shaB (jaL l).text),.string key,.func (.func 72) #[] #[.pointer (some ⟨g,0,none⟩)]] W (jwt w0.heap.size g v W ((jaL l).text :: wayL 12 (jaO l) (ja5 key)) (valL (jaO l) (ja5 key))):=by
 have HS:=Hd hs;have HE0:=Hd hE0;have HM:=Hd h;have hrows:=jbA (jaP hM.ok);have HROWS:=Hd hrows;have hgood:=(good 12 (jaO l) hrows).1
 obtain⟨n,hn⟩:=vE (jav (jac 12) (jaO l))
 rw[<-hn]at hgood;have hat:=juV w0 W s bm room S hs hE0 g v [] h (by simp) (jaL l).text (hM.has _ (jdK _)) 12 n hgood (by rw[hn];rfl);have HAT:=Hd hat;have HL:=Hd (n.cells_len (hgood.one (inlP 12)).refs);have HAS:=Hd hM.has;have HN:=Hd hn;have HK:=Hd hk
 obtain⟨A,hA⟩:=vE ((jaL l).text :: wayL 12 (jaO l) (ja5 key))
 obtain⟨V,hV⟩:=vE (valL (jaO l) (ja5 key))
 have HA:=Hd hA;have HV:=Hd hV;rw[<-hA, <-hV]
 obtain⟨k0,hk0⟩:∃ k,k=shaB (jaL l).text:=⟨_,rfl⟩
 rw[<-hk0]at HAT ⊢;clear hs hE0 h hrows hgood hn hat hM hk hA hV hk0;go_enter Tryz.func69,Tryz.ntmps69;go_wp2_with fail
 refine HAT.o.mono ?_;rintro e w1 ⟨rfl,v1,hT1⟩;have HT1:=Hd hT1;clear hT1;unfold jad.V;go_wp2_with (first |(refine jah Tryz.allocNode rfl rfl ?_;intro W5 hB5 hE5;refine jag (vs:=n.cells) rfl rfl rfl rfl hB5 (by rw[HL.o];rfl) (by rw[HL.o];exact Tryz.szNode) n.one ?_;intro W6 hB6 hE6))
 refine vC (ji0 _ key (by have:=HK.o;omega)) fun w7 hE=>?_;have hX6:Ext w1 W6:=hE5.trans' hE6 (fun x hx e=>by have e:x=w1.heap.size:=e;omega);have HT7:=Hd ((HT1.o.ext hX6).ext hE);have HB7:=Hd (hB6.keeps hE (fun h=>h));have HLN:=Hd (show w1.heap.size≠g/\v1.ownBlock≠some w1.heap.size from⟨by have:=HT1.o.at'.var.lt;omega,fun e=>by have:=(HT1.o.at'.own _ e).2.2;omega⟩);have HLW:Hid (W.heap.size<=w1.heap.size):=HT1.o.kp.size
 obtain⟨L,hL⟩:=vE w1.heap.size
 rw[<-hL]at HB7 HLN HLW ⊢;clear hL hE hX6 hB5 hE5 hB6 hE6
 obtain⟨pk,hpk⟩:=vE (ja5 key)
 have HPK:=Hd hpk;rw[<-hpk];clear hpk;go_wp2_with fail
 go_loopw [11,12] (fun okv pv wr=>jyi w0.heap.size g L v W S A V okv pv wr) (fun okv pv _=>foM okv pv)
 case atStart =>
  refine⟨pk,_,v1,rfl,HT7.o,HLN.o.2,.inl ⟨rfl,12,jaO l,HROWS.o,by rw[HPK.o];exact jch key,by rw[HPK.o,jdz];have:=HK.o;omega,?_,by rw[HPK.o, <-HV.o],by rw[<-HN.o];exact HB7.o,fun x hx _=>HAS.o x hx⟩⟩
  rw[HA.o,HPK.o];rfl
 case round =>
  obtain⟨p,T,v',rfl,hT,hown,hc⟩:=hrel
  have HT:=Hd hT;have HOW:=Hd hown;have HE:=Hd (HT.o.ext0 HM.o HE0.o (Nat.le_refl _));clear hT hown;rcases hc with⟨rfl,f,l',h1,h2,h3,h4,h5,h6,h7⟩ |⟨rfl,h1,h2⟩
  case inr =>
   have HF:=Hd (And.intro h1 h2);clear h1 h2;go_wp2_with fail
   go_ret2
   refine⟨by rw[HF.o.2];rfl,v',?_⟩
   rw[<-HF.o.1];exact HT.o
  case inl =>
   have HC:=Hd (And.intro h1 (And.intro h2 (And.intro h3 (And.intro h4 (And.intro h5 h7)))));have hgd:=(good f l' h1).1
   obtain⟨⟨k,pa,va,rs⟩,hn⟩:∃ n,n=jav (jac f) l':=⟨_,rfl⟩
   rw[<-hn]at hgd h6;have HGD:=Hd hgd;have HB:=Hd h6;have HNN:=Hd hn;have hk3:k<=3:=(hgd.one (inlP f)).kind;have hrs:rs.length=16:=(hgd.one (inlP f)).refs;have hps:pa.size<=12:=(hgd.one (inlP f)).path;have HRS:=Hd hrs;have HCL:=Hd (jad.cells_len ⟨k,pa,va,rs⟩ hrs);have hE7:p.size<=1000000:=by omega
   have q0:=h6.cellL (i:=0) (v:=.int .i64 k) vF;have q1:=h6.cellL (i:=1) (v:=.string pa) vF;have q2:=h6.cellL (i:=2) (v:=.string va) vF;have Q3:=Hd (show ∀ i r,rs[i]?=some r->wr.cell? ⟨L,3+i,none⟩=some (.string r)from fun i r hi=>h6.cellL (i:=3+i) (v:=.string r) (by
    show (_ :: _ :: _ :: rs.map Value.string)[3+i]?=_;rw[show 3+i=i+1+1+1 by omega];simp[hi]))
   clear hn hrs h1 h2 h4 h5 h6 h7 hgd;have hem:(⟨#[]⟩:vB).toList.isEmpty=true:=by rw[ByteArray.toList_eq];rfl
   cases hg:goL l' p with
   | none =>
    obtain⟨s1,s2⟩:=jhO HC.o.1 HC.o.2.1 hg
    rw[<-HNN.o]at s1 s2;have hwn:wayL f l' p=[]:=by
     cases f with
     | zero=>rfl
     | succ f=>exact jfo hg
    have HTA:=Hd (show T=A by rw[<-HC.o.2.2.2.1,hwn,List.append_nil]);have HVV:=Hd (show V=jcP ⟨k,pa,va,rs⟩ p by rw[s2,HC.o.2.2.2.2.1]);clear hwn hg s2;cases hcl:jcP ⟨k,pa,va,rs⟩ p with
    | some u =>
     rw[hcl]at HVV;have HST:=Hd (jrQ hcl);clear s1 hcl;rcases HST.o with⟨rfl,rfl,rfl⟩ |⟨rfl,rfl,rfl,hz⟩
     ·have q0':wr.cell? ⟨L,0,none⟩=some (.int .i64 1):=q0
      clear q0;go_wp2_with fail
      go_ret2
      refine⟨by rw[HVV.o];rfl,v',by rw[<-HTA.o];exact HT.o⟩
     ·have q0':wr.cell? ⟨L,0,none⟩=some (.int .i64 3):=q0
      have hve:va.toList.isEmpty=false:=by
       rw[Bool.eq_false_iff];intro e;rw[List.isEmpty_iff,ByteArray.toList_eq]at e;exact hz (by rw[<-jaC,e];rfl)
      clear q0;go_wp2_with fail
      go_ret2
      refine⟨by rw[HVV.o];rfl,v',by rw[<-HTA.o];exact HT.o⟩
    | none =>
     rw[hcl]at HVV;have HNO:=Hd (jrR HGD.o HC.o.2.1 s1 hcl);clear s1 hcl;rcases HNO.o with rfl |⟨rfl,hne⟩ |⟨rfl,hpre⟩ |⟨rfl,rfl,rfl⟩ |⟨rfl,x,t,hx,hr⟩
     ·have q0':wr.cell? ⟨L,0,none⟩=some (.int .i64 0):=q0
      clear q0;go_wp2_with fail
      refine vC (jbY _) fun w2 hE=>?_;have HE2:Hid (Ext wr w2):=Hd (by first | exact hE | exact (jcD _ _).trans hE);clear hE;go_wp2_with fail
      refine vC (jcn w2) fun w3 hE=>?_;have HE3:=Hd (HE2.o.trans hE);have hB3:=HB.o.keeps HE3.o (fun h=>h);clear hE HE2;unfold jad.V;go_wp2_with (refine jag (vs:=jar.cells) rfl rfl rfl rfl hB3 (by rw[HCL.o];rfl) (by first | exact Tryz.szNode |(rw[HCL.o];exact Tryz.szNode)) jar.one ?_;intro W8 hB8 hE8)
      go_roundw
      case rel=>exact⟨_,T,v',rfl,(HT.o.ext HE3.o).fill hE8 HLN.o.1 HOW.o HLW.o,HOW.o,.inr ⟨rfl,HTA.o,HVV.o⟩⟩
      case measure=>simp[foM]
     ·have q0':wr.cell? ⟨L,0,none⟩=some (.int .i64 1):=q0
      have hne:=jeg hne;clear q0;go_wp2_with fail
      refine vC (jbY _) fun w2 hE=>?_;have HE2:Hid (Ext wr w2):=Hd (by first | exact hE | exact (jcD _ _).trans hE);clear hE;go_wp2_with fail
      refine vC (jcn w2) fun w3 hE=>?_;have HE3:=Hd (HE2.o.trans hE);have hB3:=HB.o.keeps HE3.o (fun h=>h);clear hE HE2;unfold jad.V;go_wp2_with (refine jag (vs:=jar.cells) rfl rfl rfl rfl hB3 (by rw[HCL.o];rfl) (by first | exact Tryz.szNode |(rw[HCL.o];exact Tryz.szNode)) jar.one ?_;intro W8 hB8 hE8)
      go_roundw
      case rel=>exact⟨_,T,v',rfl,(HT.o.ext HE3.o).fill hE8 HLN.o.1 HOW.o HLW.o,HOW.o,.inr ⟨rfl,HTA.o,HVV.o⟩⟩
      case measure=>simp[foM]
     ·have q0':wr.cell? ⟨L,0,none⟩=some (.int .i64 2):=q0
      have HPR:=Hd hpre;clear q0 hpre;go_wp2_with fail
      refine (jcA _ p pa vO vO).mono ?_;rintro e w1' ⟨rfl,hw1⟩;rw[hw1];clear hw1;rw[HPR.o];go_wp2_with fail
      refine vC (jbY _) fun w2 hE=>?_;have HE2:Hid (Ext wr w2):=Hd (by first | exact hE | exact (jcD _ _).trans hE);clear hE;go_wp2_with fail
      refine vC (jcn w2) fun w3 hE=>?_;have HE3:=Hd (HE2.o.trans hE);have hB3:=HB.o.keeps HE3.o (fun h=>h);clear hE HE2;unfold jad.V;go_wp2_with (refine jag (vs:=jar.cells) rfl rfl rfl rfl hB3 (by rw[HCL.o];rfl) (by first | exact Tryz.szNode |(rw[HCL.o];exact Tryz.szNode)) jar.one ?_;intro W8 hB8 hE8)
      go_roundw
      case rel=>exact⟨_,T,v',rfl,(HT.o.ext HE3.o).fill hE8 HLN.o.1 HOW.o HLW.o,HOW.o,.inr ⟨rfl,HTA.o,HVV.o⟩⟩
      case measure=>simp[foM]
     ·have q0':wr.cell? ⟨L,0,none⟩=some (.int .i64 3):=q0
      clear q0;go_wp2_with fail
      refine vC (jbY _) fun w2 hE=>?_;have HE2:Hid (Ext wr w2):=Hd (by first | exact hE | exact (jcD _ _).trans hE);clear hE;go_wp2_with fail
      refine vC (jcn w2) fun w3 hE=>?_;have HE3:=Hd (HE2.o.trans hE);have hB3:=HB.o.keeps HE3.o (fun h=>h);clear hE HE2;unfold jad.V;go_wp2_with (refine jag (vs:=jar.cells) rfl rfl rfl rfl hB3 (by rw[HCL.o];rfl) (by first | exact Tryz.szNode |(rw[HCL.o];exact Tryz.szNode)) jar.one ?_;intro W8 hB8 hE8)
      go_roundw
      case rel=>exact⟨_,T,v',rfl,(HT.o.ext HE3.o).fill hE8 HLN.o.1 HOW.o HLW.o,HOW.o,.inr ⟨rfl,HTA.o,HVV.o⟩⟩
      case measure=>simp[foM]
     ·have q0':wr.cell? ⟨L,0,none⟩=some (.int .i64 3):=q0
      obtain⟨h0,hx0⟩:=jcw hx
      have hx16:x.toNat < 16:=jcL (p:=(p,p)) HC.o.2.1 hx;have q3:=Q3.o _ _ hr;rw[<-hx0]at q3 hx16;have hpe:p.toList.isEmpty=false:=by
       rw[Bool.eq_false_iff];intro e;rw[List.isEmpty_iff,ByteArray.toList_eq]at e;rw[hx]at e;cases e
      have c1:(0:Int) < (p.size:Int):=by omega
      have c2:((p[0]'h0).toNat:Int) < 16:=by omega
      have c3:(1:Int)<=(p.size:Int):=by omega
      clear q0 hx hr hx0;go_wp2_with fail
      go_quiet (fail)
      go_wp2_with fail
      refine vC (jbY _) fun w2 hE=>?_;have HE2:Hid (Ext wr w2):=Hd (by first | exact hE | exact (jcD _ _).trans hE);clear hE;go_wp2_with fail
      refine vC (jcn w2) fun w3 hE=>?_;have HE3:=Hd (HE2.o.trans hE);have hB3:=HB.o.keeps HE3.o (fun h=>h);clear hE HE2;unfold jad.V;go_wp2_with (refine jag (vs:=jar.cells) rfl rfl rfl rfl hB3 (by rw[HCL.o];rfl) (by first | exact Tryz.szNode |(rw[HCL.o];exact Tryz.szNode)) jar.one ?_;intro W8 hB8 hE8)
      go_roundw
      case rel=>exact⟨_,T,v',rfl,(HT.o.ext HE3.o).fill hE8 HLN.o.1 HOW.o HLW.o,HOW.o,.inr ⟨rfl,HTA.o,HVV.o⟩⟩
      case measure=>simp[foM]
   | some mq =>
    obtain⟨m,q⟩:=mq
    cases f with
    | zero=>rw[jn4 HC.o.1]at hg;cases hg
    | succ f =>
     have hK:=jgC HC.o.1 HC.o.2.1 hg;have hst:=(good f m hK.rows).2.1 hK.ne;have hpos:=jj0 hK.rows hK.ne;have hstep:=hK.step;rw[<-HNN.o]at hstep;have hy:=jka HGD.o HC.o.2.1 hstep hpos;have hway:=jhm (f:=f) hg
     obtain⟨tx,htx⟩:=vE (jac (f+1) m).text
     obtain⟨m',hm'⟩:∃ m',m'=jav (jac f) m:=⟨_,rfl⟩
     obtain⟨rt,hrt⟩:=vE (refB (jac (f+1) m).text)
     have HMM:=Hd hm';have HMG:=Hd (show jbx (InlD f) m' by rw[hm'];exact hst.good);have HML:=Hd (m'.cells_len (HMG.o.one (inlP f)).refs);have HTX:=Hd (show tx=jaN m' by rw[htx,hm'];exact hst.text);rw[<-hrt]at hy;have HY:=Hd hy;have HK2:=Hd hK;have HTN:=Hd (show T.length<=100000 by have h8:=congrArg List.length HC.o.2.2.2.1;rw[HA.o,List.length_append,List.length_cons]at h8;have:=jmN 12 (jaO l) (ja5 key);omega)
     by_cases hz:(jac (f+1) m).text.size < 32
     ·have hI:=hst.may.2 hz
      obtain⟨qh,h1,h2⟩:=(inlP (f+1)).nohash _ _ hI
      rw[<-hrt]at h1 h2 hI;have HH:=Hd (And.intro h1 h2);have HRZ:=Hd (show rt.size<=1000000000 by rw[hrt,joW hz];omega);have HIN:=Hd (fun w=>(inlP (f+1)).inl _ _ hI w);rw[<-hm']at HIN;have HWY:=Hd (show wayL (f+1) l' p=wayL f m q by rw[hway];unfold bigs;rw[if_pos hz];rfl);clear hK hst hpos hstep hy hway htx hm' hrt hI h1 h2 hz hg;rcases HY.o with⟨rfl,hpre,hr,rfl,hle⟩ |⟨rfl,x,t,hx,hr,rfl⟩
      ·have q0':wr.cell? ⟨L,0,none⟩=some (.int .i64 2):=q0
       have HPR:=Hd hpre;have q3:=Q3.o 0 _ hr;have c1:(pa.size:Int)<=(p.size:Int):=by omega
       clear q0 hpre hr hle;go_wp2_with fail
       refine (jcA _ p pa vO vO).mono ?_;rintro e w1' ⟨rfl,hw1⟩;rw[hw1];clear hw1;rw[HPR.o];go_wp2_with fail
       go_quiet (fail)
       go_wp2_with fail
       refine vC (jd0 _ rt qh HRZ.o HH.o.1) fun w2 hE=>?_;rw[HH.o.2];have HE2:Hid (Ext wr w2):=Hd (by first | exact hE | exact (jcD _ _).trans hE);clear hE;unfold optV;go_wp2_with fail
       refine vC (HIN.o w2) fun w3 hE=>?_;have HE3:=Hd (HE2.o.trans hE);have hB3:=HB.o.keeps HE3.o (fun h=>h);clear hE HE2;unfold jad.V;go_wp2_with (refine jag (vs:=m'.cells) rfl rfl rfl rfl hB3 (by rw[HCL.o,HML.o]) (by rw[HML.o];exact Tryz.szNode) m'.one ?_;intro W8 hB8 hE8)
       go_roundw
       case rel=>exact⟨_,T,v',rfl,(HT.o.ext HE3.o).fill hE8 HLN.o.1 HOW.o HLW.o,HOW.o,.inl ⟨rfl,f,m,HK2.o.rows,HK2.o.valid,by have:=HK2.o.less;have:=HC.o.2.2.1;omega,by rw[<-HWY.o];exact HC.o.2.2.2.1,by rw[HK2.o.find];exact HC.o.2.2.2.2.1,by rw[<-HMM.o];exact hB8,fun x hx h32=>HC.o.2.2.2.2.2 x (HK2.o.flat x hx h32) h32⟩⟩
       case measure=>have h9:=HK2.o.less;simp only[foM,jik];omega
      ·have q0':wr.cell? ⟨L,0,none⟩=some (.int .i64 3):=q0
       obtain⟨h0,hx0⟩:=jcw hx
       have hx16:x.toNat < 16:=jcL (p:=(p,p)) HC.o.2.1 hx;have q3:=Q3.o _ _ hr;rw[<-hx0]at q3 hx16;have hpe:p.toList.isEmpty=false:=by
        rw[Bool.eq_false_iff];intro e;rw[List.isEmpty_iff,ByteArray.toList_eq]at e;rw[hx]at e;cases e
       have c1:(0:Int) < (p.size:Int):=by omega
       have c2:((p[0]'h0).toNat:Int) < 16:=by omega
       have c3:(1:Int)<=(p.size:Int):=by omega
       clear q0 hx hr hx0;go_wp2_with fail
       go_quiet (fail)
       go_wp2_with fail
       refine vC (jd0 _ rt qh HRZ.o HH.o.1) fun w2 hE=>?_;rw[HH.o.2];have HE2:Hid (Ext wr w2):=Hd (by first | exact hE | exact (jcD _ _).trans hE);clear hE;unfold optV;go_wp2_with fail
       refine vC (HIN.o w2) fun w3 hE=>?_;have HE3:=Hd (HE2.o.trans hE);have hB3:=HB.o.keeps HE3.o (fun h=>h);clear hE HE2;unfold jad.V;go_wp2_with (refine jag (vs:=m'.cells) rfl rfl rfl rfl hB3 (by rw[HCL.o,HML.o]) (by rw[HML.o];exact Tryz.szNode) m'.one ?_;intro W8 hB8 hE8)
       go_roundw
       case rel=>exact⟨_,T,v',rfl,(HT.o.ext HE3.o).fill hE8 HLN.o.1 HOW.o HLW.o,HOW.o,.inl ⟨rfl,f,m,HK2.o.rows,HK2.o.valid,by have:=HK2.o.less;have:=HC.o.2.2.1;omega,by rw[<-HWY.o];exact HC.o.2.2.2.1,by rw[HK2.o.find];exact HC.o.2.2.2.2.1,by rw[<-HMM.o];exact hB8,fun x hx h32=>HC.o.2.2.2.2.2 x (HK2.o.flat x hx h32) h32⟩⟩
       case measure=>have h9:=HK2.o.less;simp only[foM,jik];omega
     ·obtain⟨qh,h1,h2⟩:=jf1 (shaB tx) (jbF _)
      have hrt2:rt=jao (shaB tx):=by rw[hrt,jjZ hz,htx]
      rw[<-hrt2]at h1 h2;have HH:=Hd (And.intro h1 h2);have HRZ:=Hd (show rt.size<=1000000000 by rw[hrt2];have:=jaK (shaB tx);have:=jbF tx;omega);have HWY:=Hd (show wayL (f+1) l' p=tx :: wayL f m q by rw[hway,htx];unfold bigs;rw[if_neg hz];rfl);have HHS:Hid (HasS S tx):=(HC.o.2.2.2.2.2 tx (by rw[htx];exact hK.flat _ (jdK _) vO) (by rw[htx];omega));clear hK hst hpos hstep hy hway htx hm' hrt h1 h2 hz hg hrt2;rcases HY.o with⟨rfl,hpre,hr,rfl,hle⟩ |⟨rfl,x,t,hx,hr,rfl⟩
      ·have q0':wr.cell? ⟨L,0,none⟩=some (.int .i64 2):=q0
       have HPR:=Hd hpre;have q3:=Q3.o 0 _ hr;have c1:(pa.size:Int)<=(p.size:Int):=by omega
       clear q0 hpre hr hle;go_wp2_with fail
       refine (jcA _ p pa vO vO).mono ?_;rintro e w1' ⟨rfl,hw1⟩;rw[hw1];clear hw1;rw[HPR.o];go_wp2_with fail
       go_quiet (fail)
       go_wp2_with fail
       refine vC (jd0 _ rt qh HRZ.o HH.o.1) fun w2 hE=>?_;rw[HH.o.2];have HE2:Hid (Ext wr w2):=Hd (by first | exact hE | exact (jcD _ _).trans hE);have HT2:=Hd (HT.o.ext HE2.o);clear hE;unfold optV;go_wp2_with fail
       refine (juV w0 w2 s bm room S HS.o (HE.o.trans HE2.o) g v' T HT2.o.at' (by have:=HTN.o;omega) tx HHS.o f m' HMG.o HTX.o).mono ?_;rintro e w3 ⟨rfl,v3,hT3⟩;have hB3:=hT3.blk (HB.o.keeps HE2.o (fun h=>h)) HLN.o.1 HOW.o;have HOW3:=Hd (show v3.ownBlock≠some L from fun e=>by
        rcases hT3.sub L e with e | e
        ·exact HOW.o e
        ·have:=HB.o.lt;have:=HE2.o.size;omega)
       have HT3:=Hd (HT2.o.trans hT3);clear hT3 HE2 HT2;unfold jad.V;go_wp2_with (refine jag (vs:=m'.cells) rfl rfl rfl rfl hB3 (by rw[HCL.o,HML.o]) (by rw[HML.o];exact Tryz.szNode) m'.one ?_;intro W8 hB8 hE8)
       go_roundw
       case rel=>exact⟨_,_,v3,rfl,HT3.o.fill hE8 HLN.o.1 HOW3.o HLW.o,HOW3.o,.inl ⟨rfl,f,m,HK2.o.rows,HK2.o.valid,by have:=HK2.o.less;have:=HC.o.2.2.1;omega,by have h9:=HC.o.2.2.2.1;rw[HWY.o]at h9;rw[List.append_assoc];exact h9,by rw[HK2.o.find];exact HC.o.2.2.2.2.1,by rw[<-HMM.o];exact hB8,fun x hx h32=>HC.o.2.2.2.2.2 x (HK2.o.flat x hx h32) h32⟩⟩
       case measure=>have h9:=HK2.o.less;simp only[foM,jik];omega
      ·have q0':wr.cell? ⟨L,0,none⟩=some (.int .i64 3):=q0
       obtain⟨h0,hx0⟩:=jcw hx
       have hx16:x.toNat < 16:=jcL (p:=(p,p)) HC.o.2.1 hx;have q3:=Q3.o _ _ hr;rw[<-hx0]at q3 hx16;have hpe:p.toList.isEmpty=false:=by
        rw[Bool.eq_false_iff];intro e;rw[List.isEmpty_iff,ByteArray.toList_eq]at e;rw[hx]at e;cases e
       have c1:(0:Int) < (p.size:Int):=by omega
       have c2:((p[0]'h0).toNat:Int) < 16:=by omega
       have c3:(1:Int)<=(p.size:Int):=by omega
       clear q0 hx hr hx0;go_wp2_with fail
       go_quiet (fail)
       go_wp2_with fail
       refine vC (jd0 _ rt qh HRZ.o HH.o.1) fun w2 hE=>?_;rw[HH.o.2];have HE2:Hid (Ext wr w2):=Hd (by first | exact hE | exact (jcD _ _).trans hE);have HT2:=Hd (HT.o.ext HE2.o);clear hE;unfold optV;go_wp2_with fail
       refine (juV w0 w2 s bm room S HS.o (HE.o.trans HE2.o) g v' T HT2.o.at' (by have:=HTN.o;omega) tx HHS.o f m' HMG.o HTX.o).mono ?_;rintro e w3 ⟨rfl,v3,hT3⟩;have hB3:=hT3.blk (HB.o.keeps HE2.o (fun h=>h)) HLN.o.1 HOW.o;have HOW3:=Hd (show v3.ownBlock≠some L from fun e=>by
        rcases hT3.sub L e with e | e
        ·exact HOW.o e
        ·have:=HB.o.lt;have:=HE2.o.size;omega)
       have HT3:=Hd (HT2.o.trans hT3);clear hT3 HE2 HT2;unfold jad.V;go_wp2_with (refine jag (vs:=m'.cells) rfl rfl rfl rfl hB3 (by rw[HCL.o,HML.o]) (by rw[HML.o];exact Tryz.szNode) m'.one ?_;intro W8 hB8 hE8)
       go_roundw
       case rel=>exact⟨_,_,v3,rfl,HT3.o.fill hE8 HLN.o.1 HOW3.o HLW.o,HOW3.o,.inl ⟨rfl,f,m,HK2.o.rows,HK2.o.valid,by have:=HK2.o.less;have:=HC.o.2.2.1;omega,by have h9:=HC.o.2.2.2.1;rw[HWY.o]at h9;rw[List.append_assoc];exact h9,by rw[HK2.o.find];exact HC.o.2.2.2.2.1,by rw[<-HMM.o];exact hB8,fun x hx h32=>HC.o.2.2.2.2.2 x (HK2.o.flat x hx h32) h32⟩⟩
       case measure=>have h9:=HK2.o.less;simp only[foM,jik];omega
end
theorem jtY{d:Nat}{n:jad}{p r q:vB}(hg:jbx (InlD d) n)(hp:jat p=true)(hs:jez n p=(r,q))(hr:r.size≠0):MayP (InlD d) r/\q.size < p.size/\jat q=true:=by
 obtain⟨k,pa,va,rs⟩:=n
 have hy:=jka hg hp hs hr;rcases hy with⟨rfl,h1,h2,rfl,h3⟩ |⟨rfl,x,t,h1,h2,rfl⟩
 ·cases hg with
  | ext p' r' a1 a2 a3 =>
   have e:r'=r:=Option.some.inj h2;subst e;have hps:1<=pa.size:=by
    unfold jad.pathOk at a1;simp only[Bool.and_eq_true,decide_eq_true_eq]at a1;exact a1.1.1
   refine⟨a3.imp id (fun ⟨m,h,_⟩=>⟨m,h⟩),by rw[jaR];omega,jbg hp _ _⟩
 ·cases hg with
  | branch v rs a1 a2 a3 a4 =>
   have hps:0 < p.size:=by
    have:=congrArg List.length h1
    rw[jaC]at this;simp at this;omega
   exact⟨a3 r (List.mem_of_getElem? h2) hr,by rw[jaR];omega,jbg hp _ _⟩
section
attribute [local go_sem] Oper.semAt_some
theorem jxn(W:World)(x:vB):vQ 70 #[.string x] W fun e w'=>e=.returned (.tuple #[])/\w'=W:=by
 go_enter Tryz.func70,Tryz.ntmps70;go_wp2_with fail
 refine bodyPost_end (results_none rfl _ _ _) rfl ?_
 exact⟨rfl,rfl⟩
theorem juh(W:World)(s bm:Nat)(room:Int)(S:List Nd5)(hs:jaT W s bm room S)(k:vB)(y:Nd5)(hy:atL S k.data.toList=some y)(f:Nat)(n:jad)(hg:jbx (InlD f) n)(ht:y.2.2.text=jaN n) :
  vR 116 #[.pointer (some ⟨s,0,none⟩),.string k,.func (.func 70) #[] #[]] W (.tuple #[n.V,.bool true]):=by
 have hn:=(hg.one (inlP f)).refs;have HN:=Hd hn;have HG:=Hd hg;have HL:=Hd (n.cells_len hn);have hsg:=fun w (h:jaT w s bm room S)=>jja w s bm room S k h;rw[hy]at hsg;simp only[Option.map_some,optV]at hsg;have HSG:=Hd hsg;have HS:=Hd hs
 obtain⟨t,htt⟩:=vE y.2.2.text
 rw[<-htt]at HSG ht;have HT:=Hd ht;clear hsg hs hg ht hn hy htt;go_enter Tryz.func116,Tryz.ntmps116;go_wp2_with (refine jah Tryz.allocNode rfl rfl ?_;intro W1 hB1 hE1)
 refine vC (HSG.o W1 (HS.o.ext hE1)) fun w3 hE=>?_;have HB3:=Hd (hB1.keeps hE (fun h=>h));have HE3:=Hd (hE1.trans hE);clear hE hB1 hE1;go_wp2_with fail
 refine (jxn w3 t).mono ?_;rintro e w4 ⟨rfl,rfl⟩;go_wp2_with fail
 rw[HT.o];refine vC (jhN (inlP f) w4 n HG.o) fun w5 hE=>?_;rw[<-HT.o];have hB5r:=HB3.o.keeps hE (fun h=>h);have HE5:=Hd hE;clear hE HB3;unfold jad.V;go_wp2_with (first |(refine jah Tryz.allocNode rfl rfl ?_;intro W5 hB5 hE5;refine jag (vs:=n.cells) rfl rfl rfl rfl hB5 (by rw[HL.o];rfl) (by rw[HL.o];exact Tryz.szNode) n.one ?_;intro W6 hB6 hE6;have hB56:=(hB5r.keeps hE5 (fun h=>h)).keeps hE6 (by have:=hB5r.lt;omega)) |(refine jaf 144 (.tmp 10) rfl rfl _ _ rfl (jan _ _ n HN.o hB6) ?_) |(refine jag (vs:=n.cells) rfl rfl rfl rfl hB56 (by rw[HL.o];rfl) (by rw[HL.o];exact Tryz.szNode) n.one ?_;intro W8 hB8 hE8))
 refine bodyPost_ret (jax rfl rfl rfl (jap W8 _ n HN.o hB8)) rfl ?_;have hX6:Ext W W6:=(((HE3.o.trans HE5.o).trans hE5)).trans' hE6 (fun x hx e=>by have e:x=w5.heap.size:=e;have:=HE5.o.size;have:=HE3.o.size;omega)
 exact⟨rfl,hX6.trans' hE8 (fun x hx e=>by have e:x=W.heap.size:=e;omega)⟩
noncomputable def folN(S:List Nd5):Nat->jad->vB->Option vB
 | 0,_,_=>none
 | f+1,n,p=>match jcP n p with
  | some u=>some u
  | none=>if (jez n p).1.size=0 then none else (gRef S (jez n p).1).bind fun m=>folN S f m (jez n p).2
theorem jjx{S:List Nd5}{f:Nat}{n:jad}{p u:vB}(h:jcP n p=some u):folN S (f+1) n p=some u:=by
 rw[folN,h]
theorem jg8{S:List Nd5}{f:Nat}{n:jad}{p:vB}(h:jcP n p=none):folN S (f+1) n p=if (jez n p).1.size=0 then none else (gRef S (jez n p).1).bind fun m=>folN S f m (jez n p).2:=by
 rw[folN,h]
def jyh(W:World)(L:Nat)(S:List Nd5)(V:Option vB)(okv pv:Value)(wr:World):Prop:=
 ∃ (p:vB),pv=.string p/\Ext W wr /\
  ((okv=.bool true/\∃ f d n,jbx (InlD d) n/\jat p=true/\p.size<=2000/\p.size < f/\folN S f n p=V/\Blk wr L (.cells n.cells.toArray 144)) \/
  (okv=.bool false/\V=none))
theorem jhL{W W' W'':World}{L:Nat}(h:Ext W W')(e:jae (fun b=>b=L) W' W'')(h3:W.heap.size<=L):Ext W W'':=
 h.trans' e (fun x hx y=>by have y:x=L:=y;omega)
theorem joy(W:World)(s bm:Nat)(room:Int)(S:List Nd5)(hs:jaT W s bm room S)(hN:jeK S)(root:vB)(y:Nd5)(hy:atL S root.data.toList=some y)(key:vB)(hk:key.size<=1000) :
  vR 69 #[.pointer (some ⟨s,0,none⟩),.string root,.string key,.func (.func 70) #[] #[]] W (folV (folN S ((ja5 key).size+1) (nodeOf y.2.2.text) (ja5 key))):=by
 have HNS:=Hd hN;have HS:=Hd hs
 obtain⟨n0,hn0⟩:=hN y (ja6 hy).1
 obtain⟨ht,d,hg⟩:=jb9 hn0
 obtain⟨n,hn⟩:=vE (nodeOf y.2.2.text)
 rw[<-hn]at ht hg ⊢;have HG:=Hd hg;have hat:=juh W s bm room S hs root y hy d n hg ht;have HAT:=Hd hat;have HL:=Hd (n.cells_len (hg.one (inlP d)).refs);have HK:=Hd hk
 obtain⟨V,hV⟩:=vE (folN S ((ja5 key).size+1) n (ja5 key))
 have HV:=Hd hV;rw[<-hV];clear hs hg hn hat hk hV hN hy hn0 ht;go_enter Tryz.func69,Tryz.ntmps69;go_wp2_with fail
 refine HAT.o.mono ?_;rintro e w1 ⟨rfl,hE1⟩;have HE1:=Hd hE1;clear hE1;unfold jad.V;go_wp2_with (first |(refine jah Tryz.allocNode rfl rfl ?_;intro W5 hB5 hE5;refine jag (vs:=n.cells) rfl rfl rfl rfl hB5 (by rw[HL.o];rfl) (by rw[HL.o];exact Tryz.szNode) n.one ?_;intro W6 hB6 hE6))
 refine vC (ji0 _ key (by have:=HK.o;omega)) fun w7 hE=>?_;have hX6:Ext w1 W6:=hE5.trans' hE6 (fun x hx e=>by have e:x=w1.heap.size:=e;omega);have HT7:=Hd ((HE1.o.trans hX6).trans hE);have HB7:=Hd (hB6.keeps hE (fun h=>h));have HLW:Hid (W.heap.size<=w1.heap.size):=HE1.o.size
 obtain⟨L,hL⟩:=vE w1.heap.size
 rw[<-hL]at HB7 HLW ⊢;clear hL hE hX6 hB5 hE5 hB6 hE6
 obtain⟨pk,hpk⟩:=vE (ja5 key)
 have HPK:=Hd hpk;rw[<-hpk];clear hpk;go_wp2_with fail
 go_loopw [11,12] (fun okv pv wr=>jyh W L S V okv pv wr) (fun okv pv _=>foM okv pv)
 case atStart =>
  exact⟨pk,rfl,HT7.o,.inl ⟨rfl,pk.size+1,d,n,HG.o,by rw[HPK.o];exact jch key,by rw[HPK.o,jdz];have:=HK.o;omega,Nat.lt_succ_self _,by rw[HPK.o, <-HV.o],HB7.o⟩⟩
 case round =>
  obtain⟨p,rfl,hT,hc⟩:=hrel
  have HE:=Hd hT;clear hT;rcases hc with⟨rfl,f0,dn,m0,h1,h2,h3,h3f,h4,h6⟩ |⟨rfl,h2⟩
  case inr =>
   have HF:=Hd h2;clear h2;go_wp2_with fail
   go_ret2
   exact⟨by rw[HF.o];rfl,HE.o⟩
  case inl =>
   obtain⟨f,rfl⟩:∃ f,f0=f+1:=⟨f0 - 1,by omega⟩
   obtain⟨k,pa,va,rs⟩:=m0
   have HC:=Hd (And.intro h2 (And.intro h3 h3f));have HFO:=Hd h4;have HGD:=Hd h1;have HB:=Hd h6;have hk3:k<=3:=(h1.one (inlP dn)).kind;have hrs:rs.length=16:=(h1.one (inlP dn)).refs;have hps:pa.size<=12:=(h1.one (inlP dn)).path;have HRS:=Hd hrs;have HCL:=Hd (jad.cells_len ⟨k,pa,va,rs⟩ hrs);have hE7:p.size<=1000000:=by omega
   have q0:=h6.cellL (i:=0) (v:=.int .i64 k) vF;have q1:=h6.cellL (i:=1) (v:=.string pa) vF;have q2:=h6.cellL (i:=2) (v:=.string va) vF;have Q3:=Hd (show ∀ i r,rs[i]?=some r->wr.cell? ⟨L,3+i,none⟩=some (.string r)from fun i r hi=>h6.cellL (i:=3+i) (v:=.string r) (by
    show (_ :: _ :: _ :: rs.map Value.string)[3+i]?=_;rw[show 3+i=i+1+1+1 by omega];simp[hi]))
   clear hrs h1 h2 h3 h3f h4 h6;have hem:(⟨#[]⟩:vB).toList.isEmpty=true:=by rw[ByteArray.toList_eq];rfl
   cases hcl:jcP ⟨k,pa,va,rs⟩ p with
   | some u =>
    have HVV:=Hd (show V=some u by rw[<-HFO.o,jjx hcl]);have HST:=Hd (jrQ hcl);clear hcl;rcases HST.o with⟨rfl,rfl,rfl⟩ |⟨rfl,rfl,rfl,hz⟩
    ·have q0':wr.cell? ⟨L,0,none⟩=some (.int .i64 1):=q0
     clear q0;go_wp2_with fail
     go_ret2
     exact⟨by rw[HVV.o];rfl,HE.o⟩
    ·have q0':wr.cell? ⟨L,0,none⟩=some (.int .i64 3):=q0
     have hve:va.toList.isEmpty=false:=by
      rw[Bool.eq_false_iff];intro e;rw[List.isEmpty_iff,ByteArray.toList_eq]at e;exact hz (by rw[<-jaC,e];rfl)
     clear q0;go_wp2_with fail
     go_ret2
     exact⟨by rw[HVV.o];rfl,HE.o⟩
   | none =>
    have hfo:=HFO.o;rw[jg8 hcl]at hfo
    obtain⟨r,q,hsp⟩:∃ r q,jez ⟨k,pa,va,rs⟩ p=(r,q):=⟨_,_,rfl⟩
    rw[hsp]at hfo;simp only at hfo
    by_cases hr0:r.size=0
    ·rw[if_pos hr0]at hfo
     have hre:=jbh hr0;rw[hre]at hsp;have HNO:=Hd (jrR HGD.o HC.o.1 hsp hcl);have HVV:=Hd hfo.symm;clear hcl hfo hsp hr0 hre;rcases HNO.o with rfl |⟨rfl,hne⟩ |⟨rfl,hpre⟩ |⟨rfl,rfl,rfl⟩ |⟨rfl,x,t,hx,hr⟩
     ·have q0':wr.cell? ⟨L,0,none⟩=some (.int .i64 0):=q0
      clear q0;go_wp2_with fail
      refine vC (jbY _) fun w2 hE=>?_;have HE2:Hid (Ext wr w2):=Hd (by first | exact hE | exact (jcD _ _).trans hE);clear hE;go_wp2_with fail
      refine vC (jcn w2) fun w3 hE=>?_;have HE3:=Hd (HE2.o.trans hE);have hB3:=HB.o.keeps HE3.o (fun h=>h);clear hE HE2;unfold jad.V;go_wp2_with (refine jag (vs:=jar.cells) rfl rfl rfl rfl hB3 (by rw[HCL.o];rfl) (by first | exact Tryz.szNode |(rw[HCL.o];exact Tryz.szNode)) jar.one ?_;intro W8 hB8 hE8)
      go_roundw
      case rel=>exact⟨_,rfl,jhL (HE.o.trans HE3.o) hE8 HLW.o,.inr ⟨rfl,HVV.o⟩⟩
      case measure=>simp[foM]
     ·have q0':wr.cell? ⟨L,0,none⟩=some (.int .i64 1):=q0
      have hne:=jeg hne;clear q0;go_wp2_with fail
      refine vC (jbY _) fun w2 hE=>?_;have HE2:Hid (Ext wr w2):=Hd (by first | exact hE | exact (jcD _ _).trans hE);clear hE;go_wp2_with fail
      refine vC (jcn w2) fun w3 hE=>?_;have HE3:=Hd (HE2.o.trans hE);have hB3:=HB.o.keeps HE3.o (fun h=>h);clear hE HE2;unfold jad.V;go_wp2_with (refine jag (vs:=jar.cells) rfl rfl rfl rfl hB3 (by rw[HCL.o];rfl) (by first | exact Tryz.szNode |(rw[HCL.o];exact Tryz.szNode)) jar.one ?_;intro W8 hB8 hE8)
      go_roundw
      case rel=>exact⟨_,rfl,jhL (HE.o.trans HE3.o) hE8 HLW.o,.inr ⟨rfl,HVV.o⟩⟩
      case measure=>simp[foM]
     ·have q0':wr.cell? ⟨L,0,none⟩=some (.int .i64 2):=q0
      have HPR:=Hd hpre;clear q0 hpre;go_wp2_with fail
      refine (jcA _ p pa vO vO).mono ?_;rintro e w1' ⟨rfl,hw1⟩;rw[hw1];clear hw1;rw[HPR.o];go_wp2_with fail
      refine vC (jbY _) fun w2 hE=>?_;have HE2:Hid (Ext wr w2):=Hd (by first | exact hE | exact (jcD _ _).trans hE);clear hE;go_wp2_with fail
      refine vC (jcn w2) fun w3 hE=>?_;have HE3:=Hd (HE2.o.trans hE);have hB3:=HB.o.keeps HE3.o (fun h=>h);clear hE HE2;unfold jad.V;go_wp2_with (refine jag (vs:=jar.cells) rfl rfl rfl rfl hB3 (by rw[HCL.o];rfl) (by first | exact Tryz.szNode |(rw[HCL.o];exact Tryz.szNode)) jar.one ?_;intro W8 hB8 hE8)
      go_roundw
      case rel=>exact⟨_,rfl,jhL (HE.o.trans HE3.o) hE8 HLW.o,.inr ⟨rfl,HVV.o⟩⟩
      case measure=>simp[foM]
     ·have q0':wr.cell? ⟨L,0,none⟩=some (.int .i64 3):=q0
      clear q0;go_wp2_with fail
      refine vC (jbY _) fun w2 hE=>?_;have HE2:Hid (Ext wr w2):=Hd (by first | exact hE | exact (jcD _ _).trans hE);clear hE;go_wp2_with fail
      refine vC (jcn w2) fun w3 hE=>?_;have HE3:=Hd (HE2.o.trans hE);have hB3:=HB.o.keeps HE3.o (fun h=>h);clear hE HE2;unfold jad.V;go_wp2_with (refine jag (vs:=jar.cells) rfl rfl rfl rfl hB3 (by rw[HCL.o];rfl) (by first | exact Tryz.szNode |(rw[HCL.o];exact Tryz.szNode)) jar.one ?_;intro W8 hB8 hE8)
      go_roundw
      case rel=>exact⟨_,rfl,jhL (HE.o.trans HE3.o) hE8 HLW.o,.inr ⟨rfl,HVV.o⟩⟩
      case measure=>simp[foM]
     ·have q0':wr.cell? ⟨L,0,none⟩=some (.int .i64 3):=q0
      obtain⟨h0,hx0⟩:=jcw hx
      have hx16:x.toNat < 16:=jcL (p:=(p,p)) HC.o.1 hx;have q3:=Q3.o _ _ hr;rw[<-hx0]at q3 hx16;have hpe:p.toList.isEmpty=false:=by
       rw[Bool.eq_false_iff];intro e;rw[List.isEmpty_iff,ByteArray.toList_eq]at e;rw[hx]at e;cases e
      have c1:(0:Int) < (p.size:Int):=by omega
      have c2:((p[0]'h0).toNat:Int) < 16:=by omega
      have c3:(1:Int)<=(p.size:Int):=by omega
      clear q0 hx hr hx0;go_wp2_with fail
      go_quiet (fail)
      go_wp2_with fail
      refine vC (jbY _) fun w2 hE=>?_;have HE2:Hid (Ext wr w2):=Hd (by first | exact hE | exact (jcD _ _).trans hE);clear hE;go_wp2_with fail
      refine vC (jcn w2) fun w3 hE=>?_;have HE3:=Hd (HE2.o.trans hE);have hB3:=HB.o.keeps HE3.o (fun h=>h);clear hE HE2;unfold jad.V;go_wp2_with (refine jag (vs:=jar.cells) rfl rfl rfl rfl hB3 (by rw[HCL.o];rfl) (by first | exact Tryz.szNode |(rw[HCL.o];exact Tryz.szNode)) jar.one ?_;intro W8 hB8 hE8)
      go_roundw
      case rel=>exact⟨_,rfl,jhL (HE.o.trans HE3.o) hE8 HLW.o,.inr ⟨rfl,HVV.o⟩⟩
      case measure=>simp[foM]
    ·rw[if_neg hr0]at hfo
     have HFR:=Hd hfo
     obtain⟨hmay,hless,hval⟩:=jtY HGD.o HC.o.1 hsp hr0
     have HLV:=Hd (And.intro hless hval);have HRZ:=Hd (show r.size<=1000000000 by have:=hmay.size (inlP dn);omega);have HY:=Hd (jka HGD.o HC.o.1 hsp hr0);have hany:=fun w=>jff w r HRZ.o;rcases hmay with hh |⟨m,hi⟩
     case inr =>
      cases dn with
      | zero=>exact hi.elim
      | succ dn =>
      have hhr:=jdw (inlP (dn+1)) hi;have HVN:=Hd (show folN S f m q=V by
       rw[<-HFR.o];unfold gRef;rw[hhr];show _=folN S f (inlOf r) q;rw[jjF W hi])
      have HIN:=Hd (fun w=>(inlP (dn+1)).inl _ _ hi w);have HMG:=Hd hi.1;have HML:=Hd (m.cells_len (hi.1.one (inlP dn)).refs);rw[jhP,hhr]at hany;simp only[optV]at hany;have HH:=Hd hany;clear hany hhr hi hcl hfo hless hval hr0 hsp;rcases HY.o with⟨rfl,hpre,hr,rfl,hle⟩ |⟨rfl,x,t,hx,hr,rfl⟩
      ·have q0':wr.cell? ⟨L,0,none⟩=some (.int .i64 2):=q0
       have HPR:=Hd hpre;have q3:=Q3.o 0 _ hr;have c1:(pa.size:Int)<=(p.size:Int):=by omega
       clear q0 hpre hr hle;go_wp2_with fail
       refine (jcA _ p pa vO vO).mono ?_;rintro e w1' ⟨rfl,hw1⟩;rw[hw1];clear hw1;rw[HPR.o];go_wp2_with fail
       go_quiet (fail)
       go_wp2_with fail
       refine vC (HH.o _) fun w2 hE=>?_;have HE2:Hid (Ext wr w2):=Hd (by first | exact hE | exact (jcD _ _).trans hE);clear hE;go_wp2_with fail
       refine vC (HIN.o w2) fun w3 hE=>?_;have HE3:=Hd (HE2.o.trans hE);have hB3:=HB.o.keeps HE3.o (fun h=>h);clear hE HE2;unfold jad.V;go_wp2_with (refine jag (vs:=m.cells) rfl rfl rfl rfl hB3 (by rw[HCL.o,HML.o]) (by rw[HML.o];exact Tryz.szNode) m.one ?_;intro W8 hB8 hE8)
       go_roundw
       case rel=>exact⟨_,rfl,jhL (HE.o.trans HE3.o) hE8 HLW.o,.inl ⟨rfl,f,dn,m,HMG.o,HLV.o.2,by have:=HLV.o.1;have:=HC.o.2.1;omega,by have:=HLV.o.1;have:=HC.o.2.2;omega,HVN.o,hB8⟩⟩
       case measure=>have h9:=HLV.o.1;simp only[foM,jik];omega
      ·have q0':wr.cell? ⟨L,0,none⟩=some (.int .i64 3):=q0
       obtain⟨h0,hx0⟩:=jcw hx
       have hx16:x.toNat < 16:=jcL (p:=(p,p)) HC.o.1 hx;have q3:=Q3.o _ _ hr;rw[<-hx0]at q3 hx16;have hpe:p.toList.isEmpty=false:=by
        rw[Bool.eq_false_iff];intro e;rw[List.isEmpty_iff,ByteArray.toList_eq]at e;rw[hx]at e;cases e
       have c1:(0:Int) < (p.size:Int):=by omega
       have c2:((p[0]'h0).toNat:Int) < 16:=by omega
       have c3:(1:Int)<=(p.size:Int):=by omega
       clear q0 hx hr hx0;go_wp2_with fail
       go_quiet (fail)
       go_wp2_with fail
       refine vC (HH.o _) fun w2 hE=>?_;have HE2:Hid (Ext wr w2):=Hd (by first | exact hE | exact (jcD _ _).trans hE);clear hE;go_wp2_with fail
       refine vC (HIN.o w2) fun w3 hE=>?_;have HE3:=Hd (HE2.o.trans hE);have hB3:=HB.o.keeps HE3.o (fun h=>h);clear hE HE2;unfold jad.V;go_wp2_with (refine jag (vs:=m.cells) rfl rfl rfl rfl hB3 (by rw[HCL.o,HML.o]) (by rw[HML.o];exact Tryz.szNode) m.one ?_;intro W8 hB8 hE8)
       go_roundw
       case rel=>exact⟨_,rfl,jhL (HE.o.trans HE3.o) hE8 HLW.o,.inl ⟨rfl,f,dn,m,HMG.o,HLV.o.2,by have:=HLV.o.1;have:=HC.o.2.1;omega,by have:=HLV.o.1;have:=HC.o.2.2;omega,HVN.o,hB8⟩⟩
       case measure=>have h9:=HLV.o.1;simp only[foM,jik];omega
     case inl =>
      obtain⟨h,h1,h2⟩:=hh
      have hhr:jcB r=some h:=by rw[h2];exact jdZ h1
      rw[jhP,hhr]at hany;simp only[optV]at hany;have HH:=Hd hany;have hgr:gRef S r=gHash S h:=by unfold gRef;rw[hhr];rfl
      rw[hgr]at HFR;cases ha:atL S h.data.toList with
      | none =>
       have HVV:=Hd (show V=none by rw[<-HFR.o];unfold gHash;rw[ha];rfl);have HAT2:=Hd (fun w (e:Ext W w)=>jpx w s bm room S (HS.o.ext e) (.func (.func 70) #[] #[]) h ha);clear hany hhr h1 h2 hcl hfo hless hval hr0 hsp hgr ha;rcases HY.o with⟨rfl,hpre,hr,rfl,hle⟩ |⟨rfl,x,t,hx,hr,rfl⟩
       ·have q0':wr.cell? ⟨L,0,none⟩=some (.int .i64 2):=q0
        have HPR:=Hd hpre;have q3:=Q3.o 0 _ hr;have c1:(pa.size:Int)<=(p.size:Int):=by omega
        clear q0 hpre hr hle;go_wp2_with fail
        refine (jcA _ p pa vO vO).mono ?_;rintro e w1' ⟨rfl,hw1⟩;rw[hw1];clear hw1;rw[HPR.o];go_wp2_with fail
        go_quiet (fail)
        go_wp2_with fail
        refine vC (HH.o _) fun w2 hE=>?_;have HE2:Hid (Ext wr w2):=Hd (by first | exact hE | exact (jcD _ _).trans hE);clear hE;go_wp2_with fail
        refine vC (HAT2.o w2 (HE.o.trans HE2.o)) fun w3 hE=>?_;have HE3:=Hd (HE2.o.trans hE);have hB3:=HB.o.keeps HE3.o (fun h=>h);clear hE HE2;unfold jad.V;go_wp2_with (refine jag (vs:=jar.cells) rfl rfl rfl rfl hB3 (by rw[HCL.o];rfl) (by first | exact Tryz.szNode |(rw[HCL.o];exact Tryz.szNode)) jar.one ?_;intro W8 hB8 hE8)
        go_roundw
        case rel=>exact⟨_,rfl,jhL (HE.o.trans HE3.o) hE8 HLW.o,.inr ⟨rfl,HVV.o⟩⟩
        case measure=>simp[foM]
       ·have q0':wr.cell? ⟨L,0,none⟩=some (.int .i64 3):=q0
        obtain⟨h0,hx0⟩:=jcw hx
        have hx16:x.toNat < 16:=jcL (p:=(p,p)) HC.o.1 hx;have q3:=Q3.o _ _ hr;rw[<-hx0]at q3 hx16;have hpe:p.toList.isEmpty=false:=by
         rw[Bool.eq_false_iff];intro e;rw[List.isEmpty_iff,ByteArray.toList_eq]at e;rw[hx]at e;cases e
        have c1:(0:Int) < (p.size:Int):=by omega
        have c2:((p[0]'h0).toNat:Int) < 16:=by omega
        have c3:(1:Int)<=(p.size:Int):=by omega
        clear q0 hx hr hx0;go_wp2_with fail
        go_quiet (fail)
        go_wp2_with fail
        refine vC (HH.o _) fun w2 hE=>?_;have HE2:Hid (Ext wr w2):=Hd (by first | exact hE | exact (jcD _ _).trans hE);clear hE;go_wp2_with fail
        refine vC (HAT2.o w2 (HE.o.trans HE2.o)) fun w3 hE=>?_;have HE3:=Hd (HE2.o.trans hE);have hB3:=HB.o.keeps HE3.o (fun h=>h);clear hE HE2;unfold jad.V;go_wp2_with (refine jag (vs:=jar.cells) rfl rfl rfl rfl hB3 (by rw[HCL.o];rfl) (by first | exact Tryz.szNode |(rw[HCL.o];exact Tryz.szNode)) jar.one ?_;intro W8 hB8 hE8)
        go_roundw
        case rel=>exact⟨_,rfl,jhL (HE.o.trans HE3.o) hE8 HLW.o,.inr ⟨rfl,HVV.o⟩⟩
        case measure=>simp[foM]
      | some y2 =>
       obtain⟨n2,hn2⟩:=HNS.o y2 (ja6 ha).1
       obtain⟨ht2,d2,hg2⟩:=jb9 hn2
       have hvn:folN S f (nodeOf y2.2.2.text) q=V:=by rw[<-HFR.o];unfold gHash;rw[ha];rfl
       obtain⟨m,hm⟩:=vE (nodeOf y2.2.2.text)
       rw[<-hm]at ht2 hg2 hvn;have HVN:=Hd hvn;have HAT2:=Hd (fun w (e:Ext W w)=>juh w s bm room S (HS.o.ext e) h y2 ha d2 m hg2 ht2);have HMG:=Hd hg2;have HML:=Hd (m.cells_len (hg2.one (inlP d2)).refs);clear hany hhr h1 h2 hcl hfo hless hval hr0 hsp hgr ha hn2 ht2 hg2 hvn hm;rcases HY.o with⟨rfl,hpre,hr,rfl,hle⟩ |⟨rfl,x,t,hx,hr,rfl⟩
       ·have q0':wr.cell? ⟨L,0,none⟩=some (.int .i64 2):=q0
        have HPR:=Hd hpre;have q3:=Q3.o 0 _ hr;have c1:(pa.size:Int)<=(p.size:Int):=by omega
        clear q0 hpre hr hle;go_wp2_with fail
        refine (jcA _ p pa vO vO).mono ?_;rintro e w1' ⟨rfl,hw1⟩;rw[hw1];clear hw1;rw[HPR.o];go_wp2_with fail
        go_quiet (fail)
        go_wp2_with fail
        refine vC (HH.o _) fun w2 hE=>?_;have HE2:Hid (Ext wr w2):=Hd (by first | exact hE | exact (jcD _ _).trans hE);clear hE;go_wp2_with fail
        refine vC (HAT2.o w2 (HE.o.trans HE2.o)) fun w3 hE=>?_;have HE3:=Hd (HE2.o.trans hE);have hB3:=HB.o.keeps HE3.o (fun h=>h);clear hE HE2;unfold jad.V;go_wp2_with (refine jag (vs:=m.cells) rfl rfl rfl rfl hB3 (by rw[HCL.o,HML.o]) (by rw[HML.o];exact Tryz.szNode) m.one ?_;intro W8 hB8 hE8)
        go_roundw
        case rel=>exact⟨_,rfl,jhL (HE.o.trans HE3.o) hE8 HLW.o,.inl ⟨rfl,f,d2,m,HMG.o,HLV.o.2,by have:=HLV.o.1;have:=HC.o.2.1;omega,by have:=HLV.o.1;have:=HC.o.2.2;omega,HVN.o,hB8⟩⟩
        case measure=>have h9:=HLV.o.1;simp only[foM,jik];omega
       ·have q0':wr.cell? ⟨L,0,none⟩=some (.int .i64 3):=q0
        obtain⟨h0,hx0⟩:=jcw hx
        have hx16:x.toNat < 16:=jcL (p:=(p,p)) HC.o.1 hx;have q3:=Q3.o _ _ hr;rw[<-hx0]at q3 hx16;have hpe:p.toList.isEmpty=false:=by
         rw[Bool.eq_false_iff];intro e;rw[List.isEmpty_iff,ByteArray.toList_eq]at e;rw[hx]at e;cases e
        have c1:(0:Int) < (p.size:Int):=by omega
        have c2:((p[0]'h0).toNat:Int) < 16:=by omega
        have c3:(1:Int)<=(p.size:Int):=by omega
        clear q0 hx hr hx0;go_wp2_with fail
        go_quiet (fail)
        go_wp2_with fail
        refine vC (HH.o _) fun w2 hE=>?_;have HE2:Hid (Ext wr w2):=Hd (by first | exact hE | exact (jcD _ _).trans hE);clear hE;go_wp2_with fail
        refine vC (HAT2.o w2 (HE.o.trans HE2.o)) fun w3 hE=>?_;have HE3:=Hd (HE2.o.trans hE);have hB3:=HB.o.keeps HE3.o (fun h=>h);clear hE HE2;unfold jad.V;go_wp2_with (refine jag (vs:=m.cells) rfl rfl rfl rfl hB3 (by rw[HCL.o,HML.o]) (by rw[HML.o];exact Tryz.szNode) m.one ?_;intro W8 hB8 hE8)
        go_roundw
        case rel=>exact⟨_,rfl,jhL (HE.o.trans HE3.o) hE8 HLW.o,.inl ⟨rfl,f,d2,m,HMG.o,HLV.o.2,by have:=HLV.o.1;have:=HC.o.2.1;omega,by have:=HLV.o.1;have:=HC.o.2.2;omega,HVN.o,hB8⟩⟩
        case measure=>have h9:=HLV.o.1;simp only[foM,jik];omega
def wayN(l:List Pair)(key:vB):List vB:=(jaL l).text :: wayL 12 (jaO l) (ja5 key)
def jyp(N:List vB)(w:World)(e:Ending)(w':World):Prop:=∃ a c,e=.returned (.tuple #[.slice a N.length c,.int .i64 0])/\SRow w w' (.slice a N.length c) N.length N
theorem jrh(W:World)(s bm:Nat)(room:Int)(S:List Nd5)(hs:jaT W s bm room S)(l:List Pair)(hM:HasM S l)(key:vB)(hk:key.size<=1000) :
  vQ 20 #[.pointer (some ⟨s,0,none⟩),.string (shaB (jaL l).text),.string key] W (jyp (wayN l key) W):=by
 obtain⟨k0,hk0⟩:∃ k,k=shaB (jaL l).text:=⟨_,rfl⟩
 have HK0:=Hd hk0;have HS:=Hd hs;have HM:=Hd hM;have HK:=Hd hk
 obtain⟨N,hN⟩:=vE (wayN l key)
 have HN:=Hd hN;rw[<-hk0, <-hN];clear hk0 hs hM hk hN;go_enter Tryz.func20,Tryz.ntmps20;go_wp2_with fail
 have hE:Ext W (W.alloc (.cells #[.slice none 0 0] 34)):=(ExtR W).alloc _;have hB:=Blk.new W (.cells #[.slice none 0 0] 34);have hM0:jgk W.heap.size W.heap.size (.slice none 0 0) [] (W.alloc (.cells #[.slice none 0 0] 34)):=⟨Nat.le_refl _,hB,⟨0,rfl,.inl ⟨rfl,rfl⟩⟩,fun b hb=>by cases hb⟩;have hF:=jqe W _ s bm room S HS.o hE W.heap.size (.slice none 0 0) hM0 l HM.o key HK.o;rw[<-HK0.o]at hF;have HM0:=Hd hM0;have HE:=Hd hE
 obtain⟨V,hV⟩:=vE (valL (jaO l) (ja5 key))
 rw[<-hV]at hF;clear hB hM0 hE hV;refine hF.mono ?_;rintro e w2 ⟨rfl,v',hT⟩;have HT:=Hd hT
 obtain⟨n,hn⟩:=hT.at'.row
 have hn2:n=(wayN l key).length:=by have:=hn.1;simpa [wayN]using this.symm
 subst hn2
 obtain⟨a,c,hv'⟩:=jaJ hn
 have q:=hT.at'.var.cell (i:=0) (v:=v') vF;have HO:=Hd hn;have hfin:SRow W w2 v' (wayN l key).length (wayN l key):=⟨⟨a,c,hv'⟩,hn,hT.ext0 HM0.o HE.o (Nat.le_refl _),fun b hb=>(hT.at'.own b hb).1⟩;have HF:=Hd hfin;subst hv';rw[<-HN.o]at q HF;clear hF hT hn hfin HO HT;cases V with
 | none =>
  unfold folV;go_wp2_with fail
  go_ret2
  exact⟨_,_,rfl,HF.o⟩
 | some u =>
  unfold folV;go_wp2_with fail
  go_ret2
  exact⟨_,_,rfl,HF.o⟩
theorem jvi(w:World)(S:List Nd5):∀ (f:Nat) (l:List Pair) (p:vB) (g:Nat),jaA f l->jat p=true->p.size < g->(∀ x∈jaF (jac (f+1) l),32<=x.size->HasS S x)->folN S g (jav (jac f) l) p=valL l p:=by
 intro f;induction f with
 | zero =>
  intro l p g h hp hg hS
  obtain⟨g,rfl⟩:∃ k,g=k+1:=⟨g - 1,by omega⟩
  obtain⟨s1,s2⟩:=jhO h hp (jn4 h)
  rw[<-s2];cases hc:jcP (jav (jac 0) l) p with
  | some u=>rw[jjx hc]
  | none=>rw[jg8 hc,s1];rfl
 | succ f ih =>
  intro l p g h hp hg hS
  obtain⟨g,rfl⟩:∃ k,g=k+1:=⟨g - 1,by omega⟩
  cases hgo:goL l p with
  | none =>
   obtain⟨s1,s2⟩:=jhO h hp hgo
   rw[<-s2];cases hc:jcP (jav (jac (f+1)) l) p with
   | some u=>rw[jjx hc]
   | none=>rw[jg8 hc,s1];rfl
  | some mq =>
   obtain⟨m,q⟩:=mq
   have hK:=jgC h hp hgo;rw[jg8 hK.no,hK.step,if_neg (jj0 hK.rows hK.ne),jjz w hK.rows hK.ne (fun hz=>hS _ (hK.flat _ (jdK _) hz) hz)];show folN S g (jav (jac f) m) q=_;rw[ih m q g hK.rows hK.valid (by have:=hK.less;omega) (fun x hx hz=>hS x (hK.flat x hx hz) hz),hK.find]
theorem jqf(W:World)(s bm:Nat)(room:Int)(S:List Nd5)(hs:jaT W s bm room S)(root key:vB)(f:FuncId)(bs:Array Value)(ha:atL S root.data.toList=none) :
  vR 69 #[.pointer (some ⟨s,0,none⟩),.string root,.string key,.func (.func f) #[] bs] W (.tuple #[.string ⟨#[]⟩,.int .i64 4]):=by
 have HAT:=Hd (jpx W s bm room S hs (.func (.func f) #[] bs) root ha);clear hs ha;go_enter Tryz.func69,Tryz.ntmps69;go_wp2_with fail
 refine HAT.o.mono ?_;rintro e w1 ⟨rfl,hE⟩;have HE:=Hd hE;clear hE;unfold jad.V;go_wp2_with (first |(refine jah Tryz.allocNode rfl rfl ?_;intro W5 hB5 hE5;refine jag (vs:=jar.cells) rfl rfl rfl rfl hB5 rfl Tryz.szNode jar.one ?_;intro W6 hB6 hE6))
 go_ret2;have hX6:Ext W W6:=(HE.o.trans hE5).trans' hE6 (fun x hx e=>by have e:x=w1.heap.size:=e;have:=HE.o.size;omega)
 exact⟨rfl,hX6⟩
theorem jsY(W:World)(s bm:Nat)(room:Int)(S:List Nd5)(hs:jaT W s bm room S)(hN:jeK S)(root:vB)(y:Nd5)(hy:atL S root.data.toList=some y)(key:vB)(hk:key.size<=1000) :
  vR 17 #[.pointer (some ⟨s,0,none⟩),.string root,.string key] W (folV (folN S ((ja5 key).size+1) (nodeOf y.2.2.text) (ja5 key))):=by
 have HF:=Hd (joy W s bm room S hs hN root y hy key hk)
 obtain⟨V,hV⟩:=vE (folN S ((ja5 key).size+1) (nodeOf y.2.2.text) (ja5 key))
 rw[<-hV]at HF ⊢;clear hV hs hN hy hk;go_enter Tryz.func17,Tryz.ntmps17;go_wp2_with fail
 refine HF.o.mono ?_;rintro e w2 ⟨rfl,hE⟩;have HE:=Hd hE;clear hE;cases V with
 | none =>
  unfold folV;go_wp2_with fail
  go_ret2
  exact⟨rfl,HE.o⟩
 | some u =>
  unfold folV;go_wp2_with fail
  go_ret2
  exact⟨rfl,HE.o⟩
theorem jqg(W:World)(s bm:Nat)(room:Int)(S:List Nd5)(hs:jaT W s bm room S)(hN:jeK S)(l:List Pair)(hM:HasM S l)(key:vB)(hk:key.size<=1000) :
  vR 17 #[.pointer (some ⟨s,0,none⟩),.string (shaB (jaL l).text),.string key] W (folV (valL (jaO l) (ja5 key))):=by
 obtain⟨y,hy1,hy2⟩:=hM.has _ (jdK _)
 have hy1:atL S (shaB (jaL l).text).data.toList=some y:=hy1;have h1:=jsY W s bm room S hs hN (shaB (jaL l).text) y hy1 key hk;have hrows:=jbA (jaP hM.ok);have hI:jbK (jaL l).text (jav (jac 12) (jaO l)):=⟨rfl,12,(good 12 (jaO l) hrows).1⟩;have e:nodeOf y.2.2.text=jav (jac 12) (jaO l):=by rw[hy2];exact jdm W (jb9 hI) hI
 rw[e,jvi W S 12 (jaO l) (ja5 key) _ hrows (jch key) vO (fun x hx _=>hM.has x hx)]at h1;exact h1
theorem jvj(W:World)(s bm:Nat)(room:Int)(S:List Nd5)(hs:jaT W s bm room S)(root key:vB)(ha:atL S root.data.toList=none) :
  vR 17 #[.pointer (some ⟨s,0,none⟩),.string root,.string key] W (.tuple #[.string ⟨#[]⟩,.int .i64 4]):=by
 have HF:=Hd (jqf W s bm room S hs root key 70 #[] ha);clear hs ha;go_enter Tryz.func17,Tryz.ntmps17;go_wp2_with fail
 refine HF.o.mono ?_;rintro e w2 ⟨rfl,hE⟩;have HE:=Hd hE;clear hE;go_wp2_with fail
 go_ret2
 exact⟨rfl,HE.o⟩
def twP:List Pair:=[(⟨#[97]⟩,⟨#[49]⟩),(⟨#[98]⟩,⟨#[50]⟩)]
def twQ:List Pair:=[(⟨#[98]⟩,⟨#[50]⟩)]
def twC:List Chg:=[⟨⟨#[97]⟩,⟨#[49]⟩,false⟩,⟨⟨#[98]⟩,⟨#[50]⟩,false⟩]
def twD:List Chg:=[⟨⟨#[97]⟩,⟨#[]⟩,true⟩]
theorem jlK:jaG ([]:List Pair)=0:=by decide +kernel
theorem tw_p:jaG twP=0:=by decide +kernel
theorem tw_q:jaG twQ=0:=by decide +kernel
theorem jij{m:List Pair}(h:jaG m=0):jcO m=m:=jly (jii (jfT h).2.nodup) (jfT h).2 (jqA m)
theorem jy2:jbs [] twC=0:=by decide +kernel
theorem jwc:jbQ [] twC=twP:=by unfold jbQ;rw[show jdW [] twC=twP by decide +kernel,jij tw_p]
theorem jy3:jbs twP twD=0:=by decide +kernel
theorem jwd:jbQ twP twD=twQ:=by unfold jbQ;rw[show jdW twP twD=twQ by decide +kernel,jij tw_q]
theorem jy4:jbs twQ []=0:=by decide +kernel
theorem jy1:jbQ twQ []=twQ:=by unfold jbQ;rw[show jdW twQ []=twQ by decide +kernel,jij tw_q]
def twU:List vB:=[(jaL []).text,(jaL twP).text,(jaL twQ).text]
theorem jt5:jbz []=[(jaL []).text]:=by decide +kernel
theorem jx7:jbz twP=[(jaL twP).text]:=by decide +kernel
theorem jx8:jbz twQ=[(jaL twQ).text]:=by decide +kernel
theorem jx4:∀ t∈jbz [],t∈twU:=by rw[jt5];intro t ht;rw[List.mem_singleton.1 ht];simp[twU]
theorem jwf:∀ t∈jbz twP,t∈twU:=by rw[jx7];intro t ht;rw[List.mem_singleton.1 ht];simp[twU]
theorem jx5:∀ t∈jbz twQ,t∈twU:=by rw[jx8];intro t ht;rw[List.mem_singleton.1 ht];simp[twU]
theorem jiq:InjL twU:=by unfold InjL;decide +kernel
theorem jt3:jwE twU:=fun t ht=>by
 unfold twU at ht;rcases List.mem_cons.1 ht with rfl | ht
 ·exact jdD jlK _ (by rw[jt5];simp)
 rcases List.mem_cons.1 ht with rfl | ht
 ·exact jdD tw_p _ (by rw[jx7];simp)
 ·rw[List.mem_singleton.1 ht];exact jdD tw_q _ (by rw[jx8];simp)
theorem jnZ:(jaL []).text=⟨#[128]⟩:=by decide +kernel
theorem jx1:belowM twP=[]:=by rw[jg4 tw_p];decide +kernel
theorem jwe:belowM twQ=[]:=by rw[jg4 tw_q];decide +kernel
theorem jhX{S:List Nd5}{m:List Pair}(h:belowM m=[]):newM S m=[(jaL m).text]:=by unfold newM;rw[h];rfl
theorem jy6:valL (jaO twP) (ja5 ⟨#[97]⟩)=some ⟨#[49]⟩:=by decide +kernel
theorem jy7:valL (jaO twQ) (ja5 ⟨#[97]⟩)=none:=by decide +kernel
theorem tw_w:wayN twQ ⟨#[98]⟩=[(jaL twQ).text]:=by decide +kernel
theorem jx6:(ky (jaL twQ).text=ky (jaL []).text)=False/\(ky (jaL twQ).text=ky (jaL twP).text)=False:=by
 constructor <;>(apply eq_false;decide +kernel)
theorem jx2:∀ c∈twC,c.key.size<=9223372036854775807/\c.value.size<=9223372036854775807:=by unfold twC;simp;decide
theorem jx3:∀ c∈twD,c.key.size<=9223372036854775807/\c.value.size<=9223372036854775807:=by unfold twD;simp;decide
theorem jnG(w:World)(xs:List Chg)(T:TypeId):RdC (w.alloc (.cells (jeB xs).toArray T)) (.slice (some ⟨w.heap.size,0,none⟩) xs.length xs.length) xs:=
 .inr ⟨w.heap.size,0,xs.length,rfl,by simp,Nat.le_refl _,fun j x hx=>by
  obtain⟨e1,e2,e3⟩:=jfx xs j x hx
  exact⟨by rw[Nat.zero_add];exact (Blk.new w _).cellL e1,by rw[Nat.zero_add];exact (Blk.new w _).cellL e2,by rw[Nat.zero_add];exact (Blk.new w _).cellL e3⟩⟩
theorem jtF(w:World)(xs:List Pair)(T:TypeId):RdP (w.alloc (.cells (jdX xs).toArray T)) (.slice (some ⟨w.heap.size,0,none⟩) xs.length xs.length) xs:=by
 refine .inr ⟨_,0,_,rfl,(Blk.new w _).lt,Nat.le_refl _,fun j x hx=>?_⟩
 obtain⟨h1,h2⟩:=je8 xs j x hx
 exact⟨by rw[Nat.zero_add];exact (Blk.new w _).cellL h1,by rw[Nat.zero_add];exact (Blk.new w _).cellL h2⟩
theorem jyJ{U:List vB}{S:List Nd5}(h:Kp U S){k:vB}(hk:k.size≠32):atL S k.data.toList=none:=by
 cases ha:atL S k.data.toList with
 | none=>rfl
 | some y =>
  obtain⟨y1,y2⟩:=ja6 ha
  obtain⟨t,_,e,_⟩:=h.is y y1
  have h1:=congrArg List.length (y2.symm.trans e);have h2:(ky t).length=32:=jbF t;rw[h2,jaC]at h1;exact absurd h1 hk
theorem jp7(w:World)(hc:jb2 w):vR 67 #[] w (.string (rootM [])):=by
 have HR:=Hd (jmE w (.slice none 0 0) [] hc (.inl ⟨none,0,rfl,rfl⟩) jlK);have HRD:=Hd (show shaB (jaL []).text=rootM []from rfl);rw[HRD.o]at HR
 obtain⟨rt,hrt⟩:=vE (rootM [])
 rw[<-hrt]at HR ⊢;clear HRD hrt hc;go_enter Tryz.func67,Tryz.ntmps67;go_wp2_with fail
 refine HR.o.mono ?_;rintro e w1 ⟨rfl,hE⟩;have HE:=Hd hE;clear hE;go_wp2_with fail
 go_ret
 exact⟨rfl,HE.o⟩
theorem jy5:(rootM [] == rootM [])=true/\(rootM twQ == rootM twQ)=true:=by
 constructor <;>(rw[jeM];exact decide_eq_true rfl)
theorem jt4:Part [] [] [(⟨#[128]⟩:vB)]:=by
 have h:=jnA [] jlK;rw[jt5,jnZ]at h;exact h
structure TwS(w0 W:World)(s bm:Nat)(S:List Nd5)(n:Nat):Prop where
 ext:Ext w0 W
 st:jaT W s bm 100 S
 kp:Kp twU S
 len:S.length<=n
 bnew:w0.heap.size<=bm
 new:∀ x∈S,w0.heap.size<=x.2.1
 hb:∀ x∈S,x.2.2.held<=n
theorem TwS.grow{w0 W W':World}{s bm:Nat}{S:List Nd5}{n:Nat}(h:TwS w0 W s bm S n)(k:Ext W W'):TwS w0 W' s bm S n:=
 ⟨h.ext.trans k,h.st.ext k,h.kp,h.len,h.bnew,h.new,h.hb⟩
theorem TwS.bds{w0 W:World}{s bm:Nat}{S:List Nd5}{n:Nat}(h:TwS w0 W s bm S n)(hn:n<=5):S.length<=100000/\(∀ x∈S,0<=x.2.2.used/\x.2.2.used<=1000000000)/\(∀ x∈S,0<=x.2.2.held/\x.2.2.held<=1000000000):=
 ⟨by have:=h.len;omega,h.kp.bd (by have:=h.len;omega),fun x hx=>⟨h.kp.cnt.held x hx,by have:=h.hb x hx;omega⟩⟩
theorem TwS.nodes{w0 W:World}{s bm:Nat}{S:List Nd5}{n:Nat}(h:TwS w0 W s bm S n):jeK S:=h.kp.nodes jt3
theorem TwS.add{w0 W W':World}{s bm:Nat}{S S':List Nd5}{n:Nat}{m:List Pair}{L:List vB}{e:Ending}(h:TwS w0 W s bm S n)(hL:L.length=1)(hY:ComY W s bm 100 twU S m L e W' S'):TwS w0 W' s bm S' (n+1):=
 ⟨h.ext.trans' hY.kp (fun z hz e=>by
  rcases e with e | e
  ·have:=h.bnew;omega
  ·obtain⟨y,hy,e⟩:=List.mem_map.1 e
   have:=h.new y hy;omega),hY.st,hY.add.kp,by have:=hY.add.len;have:=h.len;omega,h.bnew,fun x hx=>by
  rcases hY.add.blk x hx with e | e
  ·obtain⟨y,hy,e⟩:=List.mem_map.1 e
   have:=h.new y hy;omega
  ·have:=h.ext.size;omega,fun x hx=>by
   have:=hY.add.bd n vO h.hb x hx
   omega⟩
theorem jt9(w:World)(hc:jb2 w)(he:ErrT w):vR 15 #[] w (.bool true):=by
 have HC:=Hd hc;have HEE:=Hd he;clear hc he;go_enter Tryz.func15,Tryz.ntmps15;go_wp2_with fail
 refine (jrN w 100).mono ?_;rintro e w1 ⟨s,bm,rfl,hE,hS,hb1,hb2,hb3⟩;have HS1:=Hd (show TwS w w1 s bm [] 0 from⟨hE,hS,Kp.none _,Nat.le_refl _,hb1,(fun x hx=>by cases hx),(fun x hx=>by cases hx)⟩);clear hE hS hb1 hb2 hb3;have hcv:∀ W:World,(convert 92 9 (.slice (some ⟨W.heap.size,0,none⟩) 1 1)).run Tryz.prog (W.alloc (.cells #[.int .u8 128] 5))=.ok (.string ⟨#[128]⟩) (W.alloc (.cells #[.int .u8 128] 5)):=fun W =>
  jbl (l:=[128]) _ Tryz.uBytes Tryz.uU8 Tryz.uStr (World.ownsRow_lit W #[.int .u8 128] 1 (Nat.zero_le _) (by unfold maxLen;omega) rfl)
 go_wp2_with fail
 have hx2:=((ExtR w1).alloc (.cells #[.int .u8 128] 5)).alloc (.cells #[.string ⟨#[128]⟩] 9);have hrs:RdS ((w1.alloc (.cells #[.int .u8 128] 5)).alloc (.cells #[.string ⟨#[128]⟩] 9)) (.slice (some ⟨w1.heap.size+1,0,none⟩) 1 1) [⟨#[128]⟩]:=by
  have:=jdb (w1.alloc (.cells #[.int .u8 128] 5)) [⟨#[128]⟩] 9
  rwa [World.size_alloc]at this
 have HS2:=Hd (HS1.o.grow hx2);refine (jlW _ (HC.o.ext HS2.o.ext) (HEE.o.ext HS2.o.ext) s bm 100 [] HS2.o.st _ [⟨#[128]⟩] hrs False (jgn (fun t ht=>by
  obtain⟨n,hn⟩:=jdD jlK t (by rw[jt5,jnZ];exact ht)
  exact⟨n,hn⟩)) (by simp) ⟨#[128]⟩ rfl vI vI (by simp) (fun x hx=>by cases hx) (fun x hx=>by cases hx)).mono ?_
 intro e w3 hA;rcases jmQ _ _ jiq (Kp.none twU) jt4 jx4 (by simp) (ExtR _) hA with⟨_,_,h3⟩ |⟨S3,hY⟩
 ·simp at h3
 have hre:=hY.res;subst hre;have HS3:=Hd (HS2.o.add rfl hY);have HM3:=Hd (hY.add.has jiq jlK jx4);have HH3:=Hd (show jmo (atL S3 (ky (jaL twQ).text))=0 by rw[hY.add.held,if_neg (by rw[jx6.1];exact fun e=>e)];rfl);clear hA hY hrs hx2 HS1 HS2;go_wp2_with fail
 refine vC (jp7 w3 (HC.o.ext HS3.o.ext)) fun w4 hE=>?_;have HS4:=Hd (HS3.o.grow hE);clear hE HS3;go_wp2_with fail
 have hx4:=(ExtR w4).alloc (.cells (jeB twC).toArray 86);have HS5:=Hd (HS4.o.grow hx4);have hb:=HS5.o.bds vI;refine (jm2 _ (HC.o.ext HS5.o.ext) (HEE.o.ext HS5.o.ext) s bm 100 S3 HS5.o.st HS5.o.nodes [] HM3.o _ twC (jnG w4 twC 86) vI jx2 vI vI hb.1 hb.2.1 hb.2.2).mono ?_;intro e w6 hCo
 obtain⟨S6,hY⟩:=jm1 _ jiq HS5.o.kp jy2 (by rw[jwc];exact jwf) hCo (by rw[jwc,jhX jx1];have:=HS5.o.len;simp;omega)
 rw[jwc,jhX jx1]at hY;have hre:=hY.res;subst hre;have HS6:=Hd (HS5.o.add rfl hY);have HM6:=Hd (hY.add.has jiq tw_p jwf);have HH6:=Hd (show jmo (atL S6 (ky (jaL twQ).text))=0 by rw[hY.add.held,HH3.o,if_neg (by rw[jx6.2];exact fun e=>e)];rfl);clear hb hCo hY hx4 HS4 HS5 HM3;go_wp2_with fail
 have hx4:=(ExtR w6).alloc (.cells (jeB twD).toArray 86);have HS7:=Hd (HS6.o.grow hx4);have hb:=HS7.o.bds vI;refine (jm2 _ (HC.o.ext HS7.o.ext) (HEE.o.ext HS7.o.ext) s bm 100 S6 HS7.o.st HS7.o.nodes twP HM6.o _ twD (jnG w6 twD 86) vI jx3 vI vI hb.1 hb.2.1 hb.2.2).mono ?_;intro e w8 hCo
 obtain⟨S8,hY⟩:=jm1 _ jiq HS7.o.kp jy3 (by rw[jwd];exact jx5) hCo (by rw[jwd,jhX jwe];have:=HS7.o.len;simp;omega)
 rw[jwd,jhX jwe]at hY;have hre:=hY.res;subst hre;have HS8:=Hd (HS7.o.add rfl hY);have HH8:=Hd (show jmo (atL S8 (ky (jaL twQ).text))=1 by rw[hY.add.held,HH6.o,if_pos rfl];rfl);have HM8:=Hd (And.intro (hY.add.more jiq jwf HM6.o) (hY.add.has jiq tw_q jx5));clear hb hCo hY hx4 HS6 HS7 HM6;go_wp2_with fail
 refine vC (jqg w8 s bm 100 S8 HS8.o.st HS8.o.nodes twP HM8.o.1 ⟨#[97]⟩ vI) fun w9 hE=>?_;have HS9:=Hd (HS8.o.grow hE);rw[jy6];clear hE HS8;unfold folV;go_wp2_with fail
 refine vC (jqg w9 s bm 100 S8 HS9.o.st HS9.o.nodes twQ HM8.o.2 ⟨#[97]⟩ vI) fun w10 hE=>?_;have HS10:=Hd (HS9.o.grow hE);rw[jy7];clear hE HS9;unfold folV;go_wp2_with fail
 refine vC (jvj w10 s bm 100 S8 HS10.o.st ⟨#[120]⟩ ⟨#[97]⟩ (jyJ HS10.o.kp vI)) fun w11 hE=>?_;have HS11:=Hd (HS10.o.grow hE);clear hE HS10;go_wp2_with fail
 have hx4:=(ExtR w11).alloc (.cells (jdX twQ).toArray 95);have HS12:=Hd (HS11.o.grow hx4);refine vC (jmE _ _ twQ (HC.o.ext HS12.o.ext) (jtF w11 twQ 95) tw_q) fun w13 hE=>?_;rw[show shaB (jaL twQ).text=rootM twQ from rfl];have HS13:=Hd (HS12.o.grow hE);clear hE hx4 HS11 HS12;go_wp2_with fail
 refine (jux w13 s bm 100 S8 HS13.o.st HS13.o.nodes twP HM8.o.1).mono ?_;rintro e w14 ⟨v14,rfl,hR⟩;have HS14:=Hd (HS13.o.grow hR.ext)
 obtain⟨a14,c14,rfl⟩:=hR.sl
 clear hR HS13;go_wp2_with fail
 have hP:=jrh w14 s bm 100 S8 HS14.o.st twQ HM8.o.2 ⟨#[98]⟩ vI;rw[tw_w,show shaB (jaL twQ).text=rootM twQ from rfl]at hP;refine hP.mono ?_;rintro e w15 ⟨a15,c15,rfl,hR⟩;have HS15:=Hd (HS14.o.grow hR.ext);clear hR hP HS14;go_wp2_with fail
 refine (jya w15 (HC.o.ext HS15.o.ext) (HEE.o.ext HS15.o.ext) s bm 100 S8 HS15.o.st HS15.o.nodes twQ HM8.o.2 (.slice none 0 0) [] (.inl ⟨none,0,rfl,rfl⟩) vI (fun c hc=>by cases hc)).mono ?_;intro e w16 hU;unfold UpdP at hU;rw[if_pos jy4,jy1,jhX jwe]at hU
 obtain⟨r,rfl,hR⟩:=hU
 have HS16:=Hd (HS15.o.grow hR.ext)
 obtain⟨a16,c16,rfl⟩:=hR.sl
 clear hR HS15;go_wp2_with fail
 refine vC (jp7 w16 (HC.o.ext HS16.o.ext)) fun w17 hE=>?_;have HS17:=Hd (HS16.o.grow hE);have hq:=jy5
 obtain⟨hq0,hq2⟩:=hq
 clear hE HS16;go_wp2_with fail
 have hH:=jv5 w17 s bm 100 S8 (rootM twQ) HS17.o.st;rw[show jmo (atL S8 (rootM twQ).data.toList)=1 from HH8.o]at hH;refine hH.mono ?_;rintro e w18 ⟨rfl,hE⟩;have HS18:=Hd (HS17.o.grow hE);clear hE HS17 hH;go_wp2_with fail
 go_ret
 exact⟨rfl,HS18.o.ext⟩
structure jlS(l:List Pair)(w:World)(s bm:Nat)(S:List Nd5)(w':World):Prop where
 ext:Ext w w'
 st:jaT w' s bm 2000 S
 add:∃ W,AddK W (jbz l) [] l (jbz l) S
 few:fewB l=true
 inj:InjL (jbz l)
 ok:jaG l=0
 bnew:w.heap.size<=bm
 snew:w.heap.size<=s
 ne:s≠bm
 new:∀ x∈S,w.heap.size<=x.2.1
def jsb(l:List Pair)(w:World)(e:Ending)(w':World):Prop:=∃ s bm S,e=.returned (.tuple #[.pointer (some ⟨s,0,none⟩),.string (shaB (jaL l).text)])/\jlS l w s bm S w'
def jwx(l:List Pair)(w:World)(e:Ending)(w':World):Prop:=jww l w e w'\/jsb l w e w'
theorem jlS.key{l:List Pair}{w w':World}{s bm:Nat}{S:List Nd5}(h:jlS l w s bm S w')(k:Key):k∈S.map (·.1)↔∃ t∈jbz l,k=ky t:=by
 obtain⟨W,hA⟩:=h.add
 rw[hA.key];simp
theorem jlS.kp{l:List Pair}{w w':World}{s bm:Nat}{S:List Nd5}(h:jlS l w s bm S w'):Kp (jbz l) S:=by
 obtain⟨W,hA⟩:=h.add
 exact hA.kp
theorem jlS.has{l:List Pair}{w w':World}{s bm:Nat}{S:List Nd5}(h:jlS l w s bm S w'):HasM S l:=
 h.kp.has w h.inj h.ok (fun _ h=>h) ((h.key _).2 ⟨_,List.mem_of_getElem? (jkb h.ok).head,rfl⟩)
theorem js5(w:World)(hc:jb2 w)(he:ErrT w)(v:Value)(l:List Pair)(hv:RdP w v l)(hn:l.length<=9223372036854775807)(hs:jud l) :
  vQ 16 #[v] w (jwx l w):=by
 have HC:=Hd hc;have HEE:=Hd he;have HV:=Hd hv;have HS:=Hd hs;have HN:=Hd hn
 obtain⟨a,c,rfl⟩:=hv.sl;clear hc hv hs hn he;go_enter Tryz.func16,Tryz.ntmps16;go_wp2_with fail
 refine vC (jxj w _ l HV.o HN.o HS.o) fun w2 hE=>?_;have HE2:=Hd hE;clear hE
 obtain⟨fw,hfw⟩:=vE (fewB l)
 have HFW:=Hd hfw;rw[<-hfw];clear hfw
 by_cases hcl:jaG l=0
 case neg =>
  go_wp2_with fail
  refine vC (jq3 w2 _ l (HV.o.ext HE2.o) HN.o HS.o hcl) fun w3 hE=>?_;have HE3:=Hd (HE2.o.trans hE);have HNO:=Hd hcl
  obtain⟨x,hx⟩:=vE (jaG l)
  rw[<-hx]at hcl ⊢;have hne:(x == 0)=false:=by simpa using hcl
  have hne2:(x != 0)=true:=by simpa using hcl
  clear hcl hx hE HE2;go_wp2_with fail
  refine (jrN w3 2000).mono ?_;rintro e w4 ⟨s,bm,rfl,hE,_,_,_,_⟩;have HE4:=Hd (HE3.o.trans hE);clear hE HE3;go_wp2_with fail
  refine (jpu w4 (HC.o.ext HE4.o) _ [] (.inl ⟨none,0,rfl,rfl⟩) (by simp)).mono ?_;rintro e w5 ⟨b,rfl,_,hE⟩;have HE5:=Hd (HE4.o.trans hE);clear hE HE4;cases fw with
  | false =>
   go_wp2_with fail
   go_ret2;exact .inl ⟨rfl,HE5.o,fun h=>HNO.o h.2.1⟩
  | true =>
   go_wp2_with fail
   go_ret2;exact .inl ⟨rfl,HE5.o,fun h=>HNO.o h.2.1⟩
 have HCL:=Hd hcl;clear hcl;go_wp2_with fail
 refine (jtp w2 _ l (HC.o.ext HE2.o) (HV.o.ext HE2.o) HCL.o).mono ?_;rintro e w3 ⟨u3,n3,rfl,hR⟩;have hR:SRow w2 w3 u3 n3 (jbz l):=hR
 obtain⟨L,hL⟩:=vE (jbz l)
 have hlen:=jef HCL.o;have HTL:=Hd hL;rw[<-hL]at hR hlen;have hln:L.length=n3:=by have:=hR.len;simpa using this
 have hrd:=hR.rd
 obtain⟨a3,c3,e3⟩:=hR.sl
 have HE3:=Hd (HE2.o.trans hR.ext);subst e3;have HL3:=Hd hrd;subst hln;clear hR hrd HE2 hL;go_wp2_with fail
 refine (jrN w3 2000).mono ?_;rintro e w4 ⟨s,bm,rfl,hE,hS,hb1,hb2,hb3⟩;have HE4:=Hd (HE3.o.trans hE);have HZ:=Hd (And.intro HE3.o.size hb1);have HZS:=Hd (And.intro hb2 hb3);have HS4:=Hd (show jaT w4 s bm 2000 []from hS);have HL4:=Hd (HL3.o.ext hE);clear hE hS HE3 HL3 hb1 hb2 hb3;go_wp2_with fail
 refine (jpu w4 (HC.o.ext HE4.o) _ L HL4.o vO).mono ?_;rintro e w5 ⟨b,rfl,hb,hE⟩;have HE5:=Hd (HE4.o.trans hE);have HS5:=Hd (HS4.o.ext hE);have HL5:=Hd (HL4.o.ext hE);have HB:=Hd hb;clear hE HE4 HS4 HL4 hb;cases fw with
 | false =>
  go_wp2_with fail
  go_ret2;exact .inl ⟨rfl,HE5.o,fun h=>by have:=HFW.o;rw[h.1]at this;cases this⟩
 | true =>
  cases b with
  | false =>
   go_wp2_with fail
   go_ret2;refine .inl ⟨rfl,HE5.o,fun h=>?_⟩
   have:=HB.o.2 (by rw[HTL.o];exact h.2.2)
   cases this
  | true =>
   have HI:=Hd (show InjL (jbz l) by rw[<-HTL.o];exact HB.o.1 rfl);have HSH:=Hd (show jwM L by rw[HTL.o];exact jo6 w HCL.o (by have:=jef HCL.o;exact Nat.le_trans this vI));have HTP:=Hd (show L[0]?=some (jaL l).text by rw[HTL.o];exact (jkb HCL.o).head)
   obtain⟨tp,htp⟩:=vE (jaL l).text
   rw[<-htp]at HTP;have HTX:=Hd htp;clear htp;go_wp2_with fail
   have HAN:=Hd (jgn HSH.o.node);refine (jlW w5 (HC.o.ext HE5.o) (HEE.o.ext HE5.o) s bm 2000 [] HS5.o _ L HL5.o False HAN.o (by have:=jef HCL.o;rw[HTL.o];omega) tp HTP.o vI vI (by simp) (fun x hx=>by cases hx) (fun x hx=>by cases hx)).mono ?_;rintro e w6 hP;rw[HTL.o]at hP;have hpart:=jnA [] HCL.o;rcases hP with⟨k,hwhy,_,_,_⟩ |⟨top,G,M,htop,hY⟩
   ·have h1:=(hpart.why w hwhy).2
    have h2:=jef HCL.o;simp at h1;omega
   have htp2:top=(jaL l).text:=by have:=hpart.head;rw[htop]at this;exact Option.some.inj this
   subst htp2;have hK:=hpart.add w5 HI.o (Kp.none _) (fun _ h=>h) (by have:=jef HCL.o;omega) hY;have hre:=hY.res;subst hre;have HF:=Hd (And.intro hY.st hK);have hk6:=hY.kp;have HE6:=Hd (HE5.o.trans' hk6 (fun z hz e=>by
    rcases e with e | e
    ·have:=HZ.o;omega
    ·simp at e))
   have HSW:=Hd (And.intro HE5.o.size hk6.size);clear hY hK hk6 htop hpart;go_wp2_with fail
   go_ret2;exact .inr ⟨s,bm,_,rfl,⟨HE6.o,HF.o.1,⟨w5,HF.o.2⟩,HFW.o.symm,HI.o,HCL.o,by have:=HZ.o;omega,by have:=HZ.o;have:=HZS.o;omega,HZS.o.2,fun x hx=>by
    rcases HF.o.2.blk x hx with h | h
    ·simp at h
    ·have:=HSW.o;omega⟩⟩
theorem jcZ(x:UInt32)(s n:Nat)(hs:s+n=32)(hn:0 < n)(hn2:n < 32):bits .or .u32 ((x.toNat:Int) / (2:Int) ^ n) ((x.toNat:Int) * (2:Int) ^ s % (4294967296:Int))=((rotW x (UInt32.ofNat n)).toNat:Int):=by
 have e1:(x.toNat:Int) * (2:Int) ^ s % (4294967296:Int)=((x <<< (32 - UInt32.ofNat n)).toNat:Int):=by
  rw[UInt32.toNat_shiftLeft];have h1:(32 - UInt32.ofNat n).toNat=s:=by
   rw[UInt32.toNat_sub_of_le]
   ·rw[UInt32.toNat_ofNat'];show 32 - n % 2 ^ 32=s;omega
   ·rw[UInt32.le_iff_toNat_le,UInt32.toNat_ofNat'];show n % 2 ^ 32<=32;omega
  rw[h1,Nat.mod_eq_of_lt (show s < 32 by omega),Nat.shiftLeft_eq]
  simp
 have e2:(x.toNat:Int) / (2:Int) ^ n=((x >>> UInt32.ofNat n).toNat:Int):=by
  rw[UInt32.toNat_shiftRight];rw[UInt32.toNat_ofNat',Nat.mod_eq_of_lt (show n < 2 ^ 32 by omega),Nat.mod_eq_of_lt hn2,Nat.shiftRight_eq_div_pow]
  simp
 rw[e1,e2,jfP,UInt32.or_comm];rfl
theorem jyT(w:World)(x:UInt32):vQ 185 #[wv x,.int .u64 2] w fun e w'=>e=.returned (wv (rotW x 2))/\w=w':=by
 have HR:=Hd (jcZ x 30 2 vI vI vI);unfold wv;go_enter Tryz.func185,Tryz.ntmps185;go_wp2;go_ret;have h2:bits .or .u32 ((x.toNat:Int) / (4:Int)) ((x.toNat:Int) * (1073741824:Int) % (4294967296:Int))=((rotW x 2).toNat:Int):=HR.o
 exact⟨congrArg (fun z=>Ending.returned (Value.int .u32 z)) h2,rfl⟩
theorem jyU(w:World)(x:UInt32):vQ 185 #[wv x,.int .u64 6] w fun e w'=>e=.returned (wv (rotW x 6))/\w=w':=by
 have HR:=Hd (jcZ x 26 6 vI vI vI);unfold wv;go_enter Tryz.func185,Tryz.ntmps185;go_wp2;go_ret;have h2:bits .or .u32 ((x.toNat:Int) / (64:Int)) ((x.toNat:Int) * (67108864:Int) % (4294967296:Int))=((rotW x 6).toNat:Int):=HR.o
 exact⟨congrArg (fun z=>Ending.returned (Value.int .u32 z)) h2,rfl⟩
theorem jyV(w:World)(x:UInt32):vQ 185 #[wv x,.int .u64 7] w fun e w'=>e=.returned (wv (rotW x 7))/\w=w':=by
 have HR:=Hd (jcZ x 25 7 vI vI vI);unfold wv;go_enter Tryz.func185,Tryz.ntmps185;go_wp2;go_ret;have h2:bits .or .u32 ((x.toNat:Int) / (128:Int)) ((x.toNat:Int) * (33554432:Int) % (4294967296:Int))=((rotW x 7).toNat:Int):=HR.o
 exact⟨congrArg (fun z=>Ending.returned (Value.int .u32 z)) h2,rfl⟩
theorem jxL(w:World)(x:UInt32):vQ 185 #[wv x,.int .u64 11] w fun e w'=>e=.returned (wv (rotW x 11))/\w=w':=by
 have HR:=Hd (jcZ x 21 11 vI vI vI);unfold wv;go_enter Tryz.func185,Tryz.ntmps185;go_wp2;go_ret;have h2:bits .or .u32 ((x.toNat:Int) / (2048:Int)) ((x.toNat:Int) * (2097152:Int) % (4294967296:Int))=((rotW x 11).toNat:Int):=HR.o
 exact⟨congrArg (fun z=>Ending.returned (Value.int .u32 z)) h2,rfl⟩
theorem jxM(w:World)(x:UInt32):vQ 185 #[wv x,.int .u64 13] w fun e w'=>e=.returned (wv (rotW x 13))/\w=w':=by
 have HR:=Hd (jcZ x 19 13 vI vI vI);unfold wv;go_enter Tryz.func185,Tryz.ntmps185;go_wp2;go_ret;have h2:bits .or .u32 ((x.toNat:Int) / (8192:Int)) ((x.toNat:Int) * (524288:Int) % (4294967296:Int))=((rotW x 13).toNat:Int):=HR.o
 exact⟨congrArg (fun z=>Ending.returned (Value.int .u32 z)) h2,rfl⟩
theorem jxN(w:World)(x:UInt32):vQ 185 #[wv x,.int .u64 17] w fun e w'=>e=.returned (wv (rotW x 17))/\w=w':=by
 have HR:=Hd (jcZ x 15 17 vI vI vI);unfold wv;go_enter Tryz.func185,Tryz.ntmps185;go_wp2;go_ret;have h2:bits .or .u32 ((x.toNat:Int) / (131072:Int)) ((x.toNat:Int) * (32768:Int) % (4294967296:Int))=((rotW x 17).toNat:Int):=HR.o
 exact⟨congrArg (fun z=>Ending.returned (Value.int .u32 z)) h2,rfl⟩
theorem jxO(w:World)(x:UInt32):vQ 185 #[wv x,.int .u64 18] w fun e w'=>e=.returned (wv (rotW x 18))/\w=w':=by
 have HR:=Hd (jcZ x 14 18 vI vI vI);unfold wv;go_enter Tryz.func185,Tryz.ntmps185;go_wp2;go_ret;have h2:bits .or .u32 ((x.toNat:Int) / (262144:Int)) ((x.toNat:Int) * (16384:Int) % (4294967296:Int))=((rotW x 18).toNat:Int):=HR.o
 exact⟨congrArg (fun z=>Ending.returned (Value.int .u32 z)) h2,rfl⟩
theorem jxP(w:World)(x:UInt32):vQ 185 #[wv x,.int .u64 19] w fun e w'=>e=.returned (wv (rotW x 19))/\w=w':=by
 have HR:=Hd (jcZ x 13 19 vI vI vI);unfold wv;go_enter Tryz.func185,Tryz.ntmps185;go_wp2;go_ret;have h2:bits .or .u32 ((x.toNat:Int) / (524288:Int)) ((x.toNat:Int) * (8192:Int) % (4294967296:Int))=((rotW x 19).toNat:Int):=HR.o
 exact⟨congrArg (fun z=>Ending.returned (Value.int .u32 z)) h2,rfl⟩
theorem jxQ(w:World)(x:UInt32):vQ 185 #[wv x,.int .u64 22] w fun e w'=>e=.returned (wv (rotW x 22))/\w=w':=by
 have HR:=Hd (jcZ x 10 22 vI vI vI);unfold wv;go_enter Tryz.func185,Tryz.ntmps185;go_wp2;go_ret;have h2:bits .or .u32 ((x.toNat:Int) / (4194304:Int)) ((x.toNat:Int) * (1024:Int) % (4294967296:Int))=((rotW x 22).toNat:Int):=HR.o
 exact⟨congrArg (fun z=>Ending.returned (Value.int .u32 z)) h2,rfl⟩
theorem jxR(w:World)(x:UInt32):vQ 185 #[wv x,.int .u64 25] w fun e w'=>e=.returned (wv (rotW x 25))/\w=w':=by
 have HR:=Hd (jcZ x 7 25 vI vI vI);unfold wv;go_enter Tryz.func185,Tryz.ntmps185;go_wp2;go_ret;have h2:bits .or .u32 ((x.toNat:Int) / (33554432:Int)) ((x.toNat:Int) * (128:Int) % (4294967296:Int))=((rotW x 25).toNat:Int):=HR.o
 exact⟨congrArg (fun z=>Ending.returned (Value.int .u32 z)) h2,rfl⟩
theorem jha{s:vB}{k:Nat}(h:k < s.size):s.data.toList.getD k 0=s[k]:=by
 rw[List.getD_eq_getElem?_getD,List.getElem?_eq_getElem (show k < s.data.toList.length from h)];rfl
theorem jv1(w:World)(s:vB)(k:Nat)(h:4 * k+3 < s.size)(hs:s.size<=1000000):vR 184 #[.string s,.int .i64 k] w (wv (jeE s.data.toList k)):=by
 have c0:(0:Int)<=4 * (k:Int):=by omega
 have c1:(0:Int)<=4 * (k:Int)+1:=by omega
 have c2:(0:Int)<=4 * (k:Int)+2:=by omega
 have c3:(0:Int)<=4 * (k:Int)+3:=by omega
 have d0:4 * (k:Int) < (s.size:Int):=by omega
 have d1:4 * (k:Int)+1 < (s.size:Int):=by omega
 have d2:4 * (k:Int)+2 < (s.size:Int):=by omega
 have d3:4 * (k:Int)+3 < (s.size:Int):=by omega
 have n0:(4 * (k:Int)).toNat=4 * k:=by omega
 have n1:(4 * (k:Int)+1).toNat=4 * k+1:=by omega
 have n2:(4 * (k:Int)+2).toNat=4 * k+2:=by omega
 have n3:(4 * (k:Int)+3).toNat=4 * k+3:=by omega
 have HW:=Hd (show jeE s.data.toList k=beW (s[4 * k]'(by omega)) (s[4 * k+1]'(by omega)) (s[4 * k+2]'(by omega)) (s[4 * k+3]'(by omega)) by unfold jeE;rw[jha,jha,jha,jha]);go_enter Tryz.func184,Tryz.ntmps184;go_wp2_with fail
 refine jai [0,1,2,3,4,5,6,7,8,9,10,11,12,13,14,15,16,17,18,19,20,21,22,23,24,25,26,27,28,29] Ext ExtR ExtT vY vY vY ?_;iterate 30 refine vK ?_
 refine qKE (fun w1 he=>?_);have HX:=Hd ((jaj w).trans he);have hbe:=jw0 (s[4 * k]'(by omega)) (s[4 * k+1]'(by omega)) (s[4 * k+2]'(by omega)) (s[4 * k+3]'(by omega));rw[<-HW.o]at hbe;rw[hbe];clear hbe he;go_wp2_with fail
 go_ret
 exact⟨rfl,HX.o⟩
def jiS:W8:=⟨0x6a09e667,0xbb67ae85,0x3c6ef372,0xa54ff53a,0x510e527f,0x9b05688c,0x1f83d9ab,0x5be0cd19⟩
def Tab3(w:World)(e:Ending)(w':World):Prop:=∃ b1 b2,e=.returned (.tuple #[.slice (some ⟨b1,0,none⟩) 8 8,.slice (some ⟨b2,0,none⟩) 64 64])/\w.heap.size<=b1/\w.heap.size<=b2/\b1≠b2/\Ext w w'/\Blk w' b1 (.cells (jiS.words.map wv).toArray 206)/\Blk w' b2 (.cells (jeC.map wv).toArray 206)
theorem jt0(w:World):vQ 139 #[] w (Tab3 w):=by
 go_enter Tryz.func139,Tryz.ntmps139;go_wp2_with fail
 go_ret2;have hb:∀ {W:World} {b:Nat} {c d:Array Value} {T:TypeId},c=d->Blk W b (.cells c T)->Blk W b (.cells d T):=fun e h=>e ▸ h;have hz:∀ o,(w.alloc o).heap.size=w.heap.size+1:=fun o=>by simp
 refine⟨w.heap.size,w.heap.size+1,rfl,Nat.le_refl _,Nat.le_succ _,by omega,((ExtR w).alloc _).alloc _,hb ?_ (Blk.alloc (Blk.new w _) _),hb ?_ (hz _ ▸ Blk.new (w.alloc _) _)⟩
 ·kernel_rfl
 ·kernel_rfl
end
theorem jif{P:Program}(w:World){t ty e:TypeId}{i:TypeInfo}{z:Value}{size bytes:Nat}(ht:P.underlying t=some (.slice e))(hi:P.info? e=some i)(hz:i.zero=some z)
  (hsize:i.size=size) (hby:i.bytes=bytes) (hzs:z.cells.size=size) (hsz:0 < size)
  {v:Value} {n:Nat} {xs:List Value} (hown:w.ownsRow 0 e size v n xs)
  {a:Addr} {m c:Nat} {news:List Value} (hl:news.length=m * size) (hnews:∀ j u,news[j]?=some u->w.cell? (a.add j)=some u) (h1:∀ u∈news,u.oneCell'=true)
  (h63:n+m<=maxLen) (hbytes:(n+m) * bytes<=140737488355328) :
  ∃ v' w',(Builtin.append_ #[t,t] ty #[v,.slice (some a) m c]).run P w=.ok v' w'/\w'.ownsRow 0 e size v' (n+m) (xs++news)/\jae (fun b=>v.ownBlock=some b) w w' /\
   (v'.ownBlock=v.ownBlock\/∀ b,v'.ownBlock=some b->w.heap.size<=b)/\w'.ownsRow 0 e size v n xs:=by
 have up:∀ {B:Nat} {w':World} {v':Value} {k:Nat} {ys:List Value},w'.ownsRow B e size v' k ys->w'.ownsRow 0 e size v' k ys:=by
  rintro B w' v' k ys ⟨h1,h2 |⟨g,cap,cur,h2,_,h3⟩⟩
  ·exact⟨h1,.inl h2⟩
  ·exact⟨h1,.inr ⟨g,cap,cur,h2,Nat.zero_le _,h3⟩⟩
 have lo:∀ {B:Nat} {w':World} {v':Value} {k:Nat} {ys:List Value},w'.ownsRow B e size v' k ys->∀ b,v'.ownBlock=some b->B<=b:=by
  intro B w' v' k ys h b hb;exact (World.ownsRow.lt h b hb).1
 have hown':=hown
 obtain⟨hxl,⟨rfl,rfl⟩ |⟨g,cap,cur,rfl,_,hg,hnc,hcm,hcs,hct⟩⟩:=hown
 ·obtain⟨v',w',hr,r1,r2,_⟩:=run_append_own (P:=P) w w.heap.size t ty e i z size bytes ht hi hz hsize hby hzs hsz (.slice none 0 0) 0 xs ⟨hxl,.inl ⟨rfl,rfl⟩⟩ a m c news hl hnews h1 h63 hbytes (Nat.le_refl _)
  exact⟨v',w',hr,up r1,jae.of_grown r2 (fun r e _=>e),.inr (lo r1),⟨hxl,.inl ⟨rfl,rfl⟩⟩⟩
 ·by_cases hroom:n+m<=cap
  ·obtain⟨w',hr,r1,r2⟩:=run_append_fits (P:=P) w 0 t ty e i size ht hi hsize g n cap xs hown' a m c news hl hnews h1 hroom
   refine⟨_,w',hr,r1,jae.of_grown r2 (fun r e _=>e),.inl rfl,?_⟩
   obtain⟨k1,⟨k2,_⟩ |⟨g',cap',cur',k2,_,k4,k5,k6,k7,k8⟩⟩:=r1
   ·cases k2
   ·obtain⟨e1,_,e3⟩:=Value.slice.inj k2
    have e1:=congrArg Addr.block (Option.some.inj e1);have e1:g=g':=e1;subst e1 e3
    refine⟨hxl,.inr ⟨g,cap,cur',rfl,Nat.zero_le _,k4,hnc,k6,k7,?_⟩⟩
    have h:=congrArg (List.take (n * size)) k8;rw[List.take_take,Nat.min_eq_left (Nat.mul_le_mul_right _ vO),List.take_left' hxl]at h;exact h
  ·have holds:∀ j u,xs[j]?=some u->w.cell? ((⟨g,0,none⟩:Addr).add j)=some u:=World.ownsRow.cells hown' rfl
   obtain⟨v',w',hr,r1,r2⟩:=run_append_arg_grows (P:=P) w t ty e i z size bytes ht hi hz hsize hby hzs hsz ⟨g,0,none⟩ n cap xs hxl holds a m c news hl hnews vO h63 hbytes
   exact⟨v',w',hr,up r1,jae.of_grown r2 (fun r e _=>by cases e),.inr (lo r1),jbe hown' (jae.of_grown r2 (fun r e _=>by cases e))⟩
theorem jwh{P:Program}{t T:TypeId}{sz by':Nat}(I:jeF P t T sz by'){w0 w:World}{v:Value}{n:Nat}{xs:List Value}{o:Oper}{a:Act}{g m c:Nat}{news:List Value}{K:Act->World->Prop}{Q:Exit->Act->World->Prop}(hR:ORow T sz w0 w v n xs)(s x:Operand)(hs:a.eval s=v)(hx:a.eval x=.slice (some ⟨g,0,none⟩) m c)(hB:∀ j u,news[j]?=some u->w.cell? ((⟨g,0,none⟩:Addr).add j)=some u)(h1:∀ u∈news,u.oneCell'=true)(hl:news.length=m * sz)
  (ho:o.op=Op.call { callee:=Callee.builtin Builtin.append,args:=#[s,x],argTypes:=#[t,t] }) (h63:n+m<=maxLen) (hby:(n+m) * by'<=140737488355328)
  (h:∀ v' w',ORow T sz w0 w' v' (n+m) (xs++news)->jae (fun b=>v.ownBlock=some b) w w'->(v'.ownBlock=v.ownBlock\/∀ b,v'.ownBlock=some b->w.heap.size<=b)->ORow T sz w0 w' v n xs->K (a.put o.dst v') w'):o.wp P a w K Q:=by
 obtain⟨i,z,e1,e2,e3,e4,e5⟩:=I.hi
 obtain⟨v',w',hrun,r1,r2,r3,r4⟩:=jif (P:=P) w (t:=t) (ty:=o.type) I.ht e1 e2 e3 e4 e5 I.hsz hR.own (c:=c) hl hB h1 h63 hby
 unfold Oper.wp;simp[execOp,ho,resolve,invoke,builtin,hs,hx,hrun,Result.andThen];exact h v' w' (hR.step r1 r2 r3) r2 r3 ⟨hR.sl,r4,jgw hR.ext hR.new r2,hR.new⟩
theorem jle{w:World}{B B':Nat}{T T':TypeId}{sz sz':Nat}{v v':Value}{n n':Nat}{xs xs':List Value}(h:w.ownsRow B T sz v n xs)(k:w.ownsRow B' T' sz' v' n' xs')(hT:T≠T'):∀ b,v.ownBlock=some b->¬ v'.ownBlock=some b:=by
 intro b hb hb'
 obtain⟨_,h2 |⟨g,cap,cur,h2,_,h4,_⟩⟩:=h
 ·rw[h2.1]at hb;cases hb
 obtain⟨_,k2 |⟨g',cap',cur',k2,_,k4,_⟩⟩:=k
 ·rw[k2.1]at hb';cases hb'
 rw[h2]at hb;rw[k2]at hb';have e:some g=some b:=hb;have e':some g'=some b:=hb';obtain rfl:=Option.some.inj e;obtain rfl:=Option.some.inj e'
 have:=Blk.uniq h4 k4
 injection this with _ e _;exact hT e
section
attribute [local go_sem] Oper.semAt_some
theorem jlQ{P:Program}{w:World}{ops:Array Oper}{rest:List Oper}{o:Oper}{a:Act}{Q:Exit->Act->World->Prop}{b:BinOp}{T T':TypeId}(x y:Operand)(ho:o.op=.binOp b T x y T')(hw:Region.wanted o (yielded ops a.tmps)=true)(vx vy v:Value)(hx:a.eval x=vx)(hy:a.eval y=vy)
  (hg:(eqGuard b T x y vx vy).run P w=.ok () w) (hr:(binOp b T vx vy).run P w=.ok v w) (h:wpList P ops Q rest (a.put o.dst v) w):wpList P ops Q (o :: rest) a w:=by
 unfold wpList;rw[if_pos hw];refine .inl (jcy (v:=v) (w':=w) ?_ h);simp only[execOp,ho,hx,hy,Sem.run_bind,hg,hr,Result.andThen,Sem.run_pure]
end
end Go.Proofs.YtcpnjmcipainpaaGreatDoor
