/- Parts of the proof, one behind the other: RlpF, NodeG, NodeH, RlpE, NodeI. Each is under no condition but those that it states. -/
import Derived.Test.YtcpnjmcipainpaaGreatDoorPb17
import Derived.Test.YtcpnjmcipainpaaGreatDoorPb18
namespace Go.Proofs.YtcpnjmcipainpaaGreatDoor
set_option linter.unusedSimpArgs false
set_option linter.unusedVariables false
set_option maxRecDepth 100000
set_option maxHeartbeats 16000000
section
open Go Go.RowKit
theorem jjW:∀ (f n:Nat),n < 256 ^ f→beN (leF f n).reverse=n
 | 0,n,h=>by simp at h;subst h;rfl
 | f+1,n,h=>by
  unfold leF
  by_cases h0:n=0
  ·rw[if_pos h0,h0];rfl
  ·rw[if_neg h0,List.reverse_cons,jhU,jjW f (n / 256) (by rw[Nat.pow_succ]at h;omega)]
   have:(UInt8.ofNat n).toNat=n % 256:=rfl
   omega
theorem jic:∀ (f n:Nat),n < 256 ^ f→0 < n→∃ x l,(leF f n).reverse=x :: l∧x≠0
 | 0,n,h,h0=>by simp at h;omega
 | f+1,n,h,h0=>by
  unfold leF;rw[if_neg (by omega),List.reverse_cons]
  by_cases h1:n / 256=0
  ·have:leF f (n / 256)=[]:=by rw[h1];cases f <;> simp[leF]
   rw[this]
   refine⟨_,_,rfl,fun e=>?_⟩
   have e2:(UInt8.ofNat n).toNat=(0:UInt8).toNat:=by rw[e]
   have:(UInt8.ofNat n).toNat=n % 256:=rfl
   have h3:(0:UInt8).toNat=0:=rfl;omega
  ·obtain⟨x,l,h2,h3⟩:=jic f (n / 256) (by rw[Nat.pow_succ]at h;omega) (by omega)
   exact⟨x,l++[UInt8.ofNat n],by rw[h2];rfl,h3⟩
theorem jeK(a:UInt8)(t:List UInt8):cutN ⟨(a :: t).toArray⟩ =
  (if a.toNat < 128 then some (false,0,1)else
   if (if a.toNat < 192 then a.toNat - 128 else a.toNat - 192)≤55 then
    if 1+(if a.toNat < 192 then a.toNat - 128 else a.toNat - 192)≤t.length+1∧(decide (192≤a.toNat)=true∨(if a.toNat < 192 then a.toNat - 128 else a.toNat - 192)≠1∨128≤((a :: t).getD 1 0).toNat)then some (decide (192≤a.toNat),1,(if a.toNat < 192 then a.toNat - 128 else a.toNat - 192))else none
   else match lenB ⟨(a :: t).toArray⟩ (1+((if a.toNat < 192 then a.toNat - 128 else a.toNat - 192) - 55))with
    | some n=>if 1+((if a.toNat < 192 then a.toNat - 128 else a.toNat - 192) - 55)+n≤t.length+1 then some (decide (192≤a.toNat),1+((if a.toNat < 192 then a.toNat - 128 else a.toNat - 192) - 55),n)else none
    | none=>none):=by
 have hsz:(⟨(a :: t).toArray⟩:ByteArray).size=t.length+1:=rfl;have h0:0 < (⟨(a :: t).toArray⟩:ByteArray).size:=by rw[hsz];omega
 have ha:(⟨(a :: t).toArray⟩:ByteArray)[0]'h0=a:=rfl;unfold cutN;rw[dif_pos h0];simp only[ha,hsz]
 by_cases h1:a.toNat < 128
 ·rw[if_pos h1,if_pos h1]
 ·rw[if_neg h1,if_neg h1]
  by_cases h2:a.toNat < 192
  ·simp only[if_pos h2,show decide (192≤a.toNat)=false by simp;omega];rfl
  ·simp only[if_neg h2,show decide (192≤a.toNat)=true by simp;omega];rfl
def hb(l:Bool):UInt8:=if l then 192 else 128
theorem jl9(a b:UInt8)(h:a.toNat+b.toNat < 256):(a+b).toNat=a.toNat+b.toNat:=by rw[UInt8.toNat_add];omega
theorem jlU(n:Nat)(h:n < 256):(UInt8.ofNat n).toNat=n:=by show n % 256=n;omega
theorem jl2(l:Bool):(hb l).toNat=if l then 192 else 128:=by cases l <;> rfl
theorem jk7(l:Bool)(b y:List UInt8)(hn:b.length≤1048576)(h1:l=false→b.length=1→128≤(b.headD 0).toNat) :
  cutN ⟨((jbp (hb l) b.length).data.toList++(b++y)).toArray⟩=some (l,(jbp (hb l) b.length).size,b.length):=by
 by_cases hs:b.length≤55
 ·have he:(jbp (hb l) b.length)=⟨#[hb l+UInt8.ofNat b.length]⟩:=by unfold jbp;rw[if_pos hs]
  rw[he];have ha:(hb l+UInt8.ofNat b.length).toNat=(if l then 192 else 128)+b.length:=by
   rw[jl9 _ _ (by rw[jl2,jlU _ (by omega)];split <;> omega),jl2,jlU _ (by omega)]
  have hsz:(⟨#[hb l+UInt8.ofNat b.length]⟩:ByteArray).size=1:=rfl;rw[hsz]
  obtain⟨a,hadef⟩:∃ a,a=hb l+UInt8.ofNat b.length:=⟨_,rfl⟩
  rw[←hadef]at ha ⊢;have hm:(if a.toNat < 192 then a.toNat - 128 else a.toNat - 192)=b.length:=by
   rw[ha];cases l <;> simp only[Bool.false_eq_true,if_false,if_true]
   ·rw[if_pos (by omega)];omega
   ·rw[if_neg (by omega)];omega
  have hl2:decide (192≤a.toNat)=l:=by
   rw[ha];cases l <;> simp <;> omega
  show cutN ⟨(a ::(b++y)).toArray⟩=_;rw[jeK,hm,hl2,if_neg (by rw[ha];split <;> omega),if_pos hs,if_pos]
  refine⟨by rw[List.length_append];omega,?_⟩
  cases l with
  | true=>exact .inl rfl
  | false =>
   refine .inr ?_
   by_cases h2:b.length=1
   ·refine .inr ?_
    have:=h1 rfl h2
    match b,h2 with
    | [x],_=>simpa using this
   ·exact .inl h2
 ·obtain⟨d,hd⟩:∃ d,d=(leF 8 b.length).reverse:=⟨_,rfl⟩
  have hp:b.length < 256 ^ 8:=by omega
  have hk8:d.length≤8:=by rw[hd,List.length_reverse];exact jec _ _
  have hbe:beN d=b.length:=by rw[hd];exact jjW _ _ hp
  obtain⟨x,r,hxr,hx0⟩:=jic 8 b.length hp (by omega)
  rw[←hd]at hxr;have hdig:jbK b.length=⟨d.toArray⟩:=by unfold jbK;rw[hd]
  have hdl:(⟨d.toArray⟩:ByteArray).size=d.length:=rfl;have he:(jbp (hb l) b.length)=⟨#[hb l+55+UInt8.ofNat d.length]⟩++⟨d.toArray⟩:=by unfold jbp;rw[if_neg hs,hdig,hdl]
  have hel:(jbp (hb l) b.length).data.toList=(hb l+55+UInt8.ofNat d.length) :: d:=by
   rw[he,ByteArray.data_append];simp
  have hes:(jbp (hb l) b.length).size=1+d.length:=by
   show (jbp (hb l) b.length).data.toList.length=_;rw[hel,List.length_cons];omega
  rw[hel,hes];have h55:(hb l+55:UInt8).toNat=(if l then 192 else 128)+55:=by cases l <;> rfl
  have ha:(hb l+55+UInt8.ofNat d.length).toNat=(if l then 192 else 128)+55+d.length:=by
   rw[jl9 _ _ (by rw[h55,jlU _ (by omega)];split <;> omega),h55,jlU _ (by omega)]
  obtain⟨a,hadef⟩:∃ a,a=hb l+55+UInt8.ofNat d.length:=⟨_,rfl⟩
  rw[←hadef]at ha ⊢;have hk1:1≤d.length:=by rw[hxr];simp
  have hm:(if a.toNat < 192 then a.toNat - 128 else a.toNat - 192)=55+d.length:=by
   rw[ha];cases l <;> simp only[Bool.false_eq_true,if_false,if_true]
   ·rw[if_pos (by omega)];omega
   ·rw[if_neg (by omega)];omega
  have hl2:decide (192≤a.toNat)=l:=by
   rw[ha];cases l <;> simp <;> omega
  have hln:lenB ⟨(a ::(d++(b++y))).toArray⟩ (1+d.length)=some b.length:=by
   have e1:((⟨(a ::(d++(b++y))).toArray⟩:ByteArray).data.toList.take (1+d.length)).drop 1=d:=by
    show ((a ::(d++(b++y))).take (1+d.length)).drop 1=d;rw[Nat.add_comm,List.take_succ_cons,List.drop_succ_cons,List.drop_zero,List.take_left]
   unfold lenB;rw[if_neg,e1,hbe,if_pos ⟨by omega,hn⟩];rintro (h | h)
   ·have:(⟨(a ::(d++(b++y))).toArray⟩:ByteArray).size=(d++(b++y)).length+1:=rfl
    rw[this,List.length_append]at h;omega
   ·have:(⟨(a ::(d++(b++y))).toArray⟩:ByteArray).data.toList.getD 1 0=x:=by rw[hxr];rfl
    rw[this]at h;exact hx0 h
  show cutN ⟨(a ::(d++(b++y))).toArray⟩=_;rw[jeK,hm,hl2,if_neg (by rw[ha];split <;> omega),if_neg (by omega),show 55+d.length - 55=d.length by omega,hln];simp only[List.length_append];rw[if_pos (by omega)]
theorem jkW(s:ByteArray):s=⟨s.data.toList.toArray⟩:=rfl
theorem jgD(l:Bool)(b y:ByteArray)(hn:b.size≤1048576)(h1:l=false→b.size=1→128≤(b.data.toList.headD 0).toNat) :
  cutN (jbp (hb l) b.size++b++y)=some (l,(jbp (hb l) b.size).size,b.size):=by
 have h:=jk7 l b.data.toList y.data.toList hn h1;rw[jkW (jbp (hb l) b.size++b++y)];simp only[ByteArray.data_append,Array.toList_append,List.append_assoc];exact h
theorem jeR(h b y:ByteArray):(h++b++y).extract h.size (h.size+b.size)=b:=by
 apply ByteArray.ext;apply Array.ext';rw[ByteArray.data_extract,Array.toList_extract,ByteArray.data_append,ByteArray.data_append,Array.toList_append,Array.toList_append,List.extract_eq_take_drop,
  show h.size+b.size - h.size=b.data.toList.length by show _=b.size;omega,List.append_assoc,show h.size=h.data.toList.length from rfl,List.drop_left,List.take_left]
theorem jeN(b y:ByteArray)(hn:b.size≤1048576):∃ o,cutN (jam b++y)=some (false,o,b.size)∧o+b.size=(jam b).size∧(jam b++y).extract o (o+b.size)=b:=by
 by_cases h:b.size=1∧b.data.toList.headD 255 < 128
 ·obtain⟨h1,h2⟩:=h
  obtain⟨⟨lb⟩⟩:=b
  have h1':lb.length=1:=h1
  match lb,h1',h2 with
  | [x],_,h2 =>
   have h2':x.toNat < 128:=UInt8.lt_iff_toNat_lt.1 h2;have ht:jam ⟨#[x]⟩=⟨#[x]⟩:=by unfold jam;rw[if_pos ⟨rfl,h2⟩]
   refine⟨0,?_,?_,?_⟩
   ·rw[show (⟨[x].toArray⟩:ByteArray)=⟨#[x]⟩from rfl,ht,jkW (_++y),ByteArray.data_append,Array.toList_append]
    show cutN ⟨(x :: y.data.toList).toArray⟩=_;rw[jeK,if_pos h2'];rfl
   ·rw[show (⟨[x].toArray⟩:ByteArray)=⟨#[x]⟩from rfl,ht];rfl
   ·rw[show (⟨[x].toArray⟩:ByteArray)=⟨#[x]⟩from rfl,ht,Nat.zero_add];exact jgH _ _
 ·have ht:jam b=jbp (hb false) b.size++b:=by unfold jam;rw[if_neg h];rfl
  rw[ht]
  refine⟨_,jgD false b y hn (fun _ h1=>?_),by rw[ByteArray.size_append],jeR _ _ _⟩
  obtain⟨⟨lb⟩⟩:=b
  have h1':lb.length=1:=h1
  match lb,h1',h with
  | [x],_,h =>
   have h3:¬ x < 128:=fun hx=>h ⟨rfl,hx⟩;have h4:¬ x.toNat < (128:UInt8).toNat:=fun hx=>h3 (UInt8.lt_iff_toNat_lt.2 hx);have h5:(128:UInt8).toNat=128:=rfl;show 128≤x.toNat;omega
theorem jeM(xs:List ByteArray)(y:ByteArray)(hn:(catB xs).size≤1048576):∃ o,cutN (jaR xs++y)=some (true,o,(catB xs).size)∧o+(catB xs).size=(jaR xs).size∧(jaR xs++y).extract o (o+(catB xs).size)=catB xs:=by
 have ht:jaR xs=jbp (hb true) (catB xs).size++catB xs:=rfl;rw[ht]
 exact⟨_,jgD true _ y hn (fun h=>by cases h),by rw[ByteArray.size_append],jeR _ _ _⟩
theorem jbQ(b:ByteArray)(hn:b.size≤1048576):jdC (jam b):=fun y _=>let ⟨o,h1,h2,_⟩:=jeN b y hn;⟨_,h1,h2⟩
theorem jhA(xs:List ByteArray)(hn:(catB xs).size≤1048576):jdC (jaR xs):=fun y _=>let ⟨o,h1,h2,_⟩:=jeM xs y hn;⟨_,h1,h2⟩
theorem jjj(x:ByteArray):x++⟨#[]⟩=x:=ByteArray.append_empty
theorem jgE(b:ByteArray)(hn:b.size≤1048576):∃ o,cutN (jam b)=some (false,o,b.size)∧o+b.size=(jam b).size∧(jam b).extract o (o+b.size)=b:=by
 have:=jeN b ⟨#[]⟩ hn;rwa [jjj]at this
theorem jcY(xs:List ByteArray)(hn:(catB xs).size≤1048576):∃ o,cutN (jaR xs)=some (true,o,(catB xs).size)∧o+(catB xs).size=(jaR xs).size∧(jaR xs).extract o (o+(catB xs).size)=catB xs:=by
 have:=jeM xs ⟨#[]⟩ hn;rwa [jjj]at this
theorem jcz(b:ByteArray)(hn:b.size≤1048576):∃ r,cutN (jam b)=some r∧jdo (jam b) r=some b:=by
 obtain⟨o,h1,h2,h3⟩:=jgE b hn
 exact⟨_,h1,by unfold jdo;rw[if_pos ⟨rfl,h2⟩,h3]⟩
theorem jgK(b:ByteArray)(hn:b.size=32):∃ r,cutN (jam b)=some r∧jf0 (jam b) r=some b:=by
 obtain⟨r,h1,h2⟩:=jcz b (by omega)
 exact⟨r,h1,by unfold jf0;rw[h2];simp[Option.filter,hn]⟩
theorem jgJ(xs:List ByteArray)(hn:(catB xs).size≤1048576):∃ r,cutN (jaR xs)=some r∧jf0 (jaR xs) r=none:=by
 obtain⟨o,h1,h2,h3⟩:=jcY xs hn
 exact⟨_,h1,by unfold jf0 jdo;rw[if_neg (by simp)];rfl⟩
end
section
open Go Go.RowKit
attribute [local go_sem] Oper.semAt_some
theorem Tryz.enterRefs1:∀ args w,(callFunc 215 args).run Tryz.prog w=.ok (.enter 215 args) w:=fun _ _=>by kernel_rfl
def jae.ri(n:jae)(k:Nat):Nat:=(n.refsL.getD k (0,⟨#[]⟩)).1
def jae.rr(n:jae)(k:Nat):ByteArray:=(n.refsL.getD k (0,⟨#[]⟩)).2
theorem jm8(n:jae)(k:Nat):n.rv k=#[.int .i64 (n.ri k:Nat),.string (n.rr k)]:=rfl
def jey(d:Option TypeDesc):Bool:=match d with | some (.struct _)=>true | _=>false
theorem jei{d:Option TypeDesc}(h:jey d=true):∃ fs,d=some (.struct fs):=by
 cases d with
 | none=>cases h
 | some d=>cases d <;> first | exact⟨_,rfl⟩ | cases h
theorem Tryz.isForm:jey (Tryz.prog.underlying 208)=true:=by kernel_rfl
theorem jc3:∀ (l:List ByteArray) (i:Nat) (x:Nat × ByteArray),x∈jaq i l→i≤x.1∧x.1 < i+l.length∧l[x.1 - i]?=some x.2∧x.2.size≠0
 | [],i,x,h=>by cases h
 | r :: l,i,x,h=>by
  have key:x∈jaq (i+1) l→i≤x.1∧x.1 < i+(r :: l).length∧(r :: l)[x.1 - i]?=some x.2∧x.2.size≠0:=fun h=>by
   obtain⟨h1,h2,h3,h4⟩:=jc3 l (i+1) x h
   refine⟨by omega,by simp;omega,?_,h4⟩
   rw[show x.1 - i=(x.1 - (i+1))+1 by omega,List.getElem?_cons_succ];exact h3
  unfold jaq at h;split at h
  ·exact key h
  ·rename_i hr
   rcases List.mem_cons.1 h with rfl | h
   ·exact⟨Nat.le_refl _,by simp,by simp,hr⟩
   ·exact key h
theorem jmY(n:jae)(hr:n.refs.length=16){k:Nat}(hk:k < n.refsL.length):n.ri k < 16∧n.refs[n.ri k]?=some (n.rr k)∧(n.rr k).size≠0:=by
 have hm:(n.refsL.getD k (0,⟨#[]⟩))∈n.refsL:=by rw[List.getD_eq_getElem?_getD,List.getElem?_eq_getElem hk];exact List.getElem_mem _
 obtain⟨_,h2,h3,h4⟩:=jc3 n.refs 0 _ hm
 rw[hr]at h2
 exact⟨by unfold jae.ri;omega,h3,h4⟩
theorem Tryz.szForm:(Tryz.prog.info? 208).map (·.size)=some 19:=by kernel_rfl
theorem jbl(W:World)(b:Nat)(n:jae)(hr:n.refs.length=16)(hB:Blk W b (.cells n.cells.toArray 208)):(Instr.loadAt 208 (.pointer (some ⟨b,0,none⟩))).run Tryz.prog W=.ok n.V W:=by
 obtain⟨fs,hu⟩:=jei Tryz.isForm
 exact jc4 hu (by rw[n.cells_len hr];exact Tryz.szForm) (fun j v hv=>by rw[jfS];exact hB.cellL hv)
def jmL(n:jae)(k:Nat):Nat:=match k with | 0=>0 | k+1=>n.ri k+1
def jae.behindN(n:jae):Nat:=jmL n n.refsL.length
def BehC(w:World)(gn gb:Nat)(n:jae)(k:Nat)(W:World):Prop:=Ext w W∧Blk W gn (.cells n.cells.toArray 208)∧Blk W gb (.cells #[.int .i64 (jmL n k:Nat)] 3)
theorem jhV(w:World)(n:jae)(hr:n.refs.length=16):Calls Tryz.prog 230 #[n.V] w fun e w'=>e=.returned (.int .i64 (n.behindN:Nat))∧Ext w w':=by
 have HV:=Hd (show n.V=.agg n.cells.toArray from rfl)
 obtain⟨W0,hW0⟩:∃ W0,W0=(w.alloc (.cells n.cells.toArray 208)).alloc (.cells #[.int .i64 0] 3):=⟨_,rfl⟩
 have B0:Blk W0 w.heap.size (.cells n.cells.toArray 208):=by rw[hW0];exact (Blk.new w _).alloc _
 have hld:=jbl W0 w.heap.size n hr B0;rw[hW0]at hld;unfold jae.V at hld ⊢;rw[←callsIn_wide (n:=0)];refine callsIn_of_wp_marks Tryz.func230 rfl trivial ?_ rfl;simp only[Tryz.ntmps230,List.size_toArray,List.length_cons,List.length_nil,Nat.reduceAdd,Nat.reduceSub,Array.replicate_succ,Array.replicate_zero,List.push_toArray,List.append_toArray,List.nil_append,List.cons_append];gi_wp2_with (refine jbm rfl 208 (.tmp 1) rfl _ _ rfl hld ?_)
 refine⟨trivial,rfl,CallsIn.mono (callsIn_wide.2 (jkn _ n)) ?_⟩
 rintro e w1 ⟨rfl,hbn,hE⟩;rw[←hW0]at hbn hE ⊢
 obtain⟨gb,hgb⟩:∃ gb,gb=w.heap.size+1:=⟨_,rfl⟩
 have hE0:Ext w W0:=by rw[hW0];exact ((ExtR w).alloc _).alloc _
 have B1:Blk W0 gb (.cells #[.int .i64 0] 3):=by
  rw[hW0,hgb];have:=Blk.new (w.alloc (.cells n.cells.toArray 208)) (.cells #[.int .i64 0] 3);rwa [World.size_alloc]at this
 have hs0:W0.heap.size=w.heap.size+2:=by rw[hW0];simp
 have B2:=B1.keeps hE (fun h=>h);rw[←hgb]
 obtain⟨gn,hgn⟩:∃ gn,gn=W0.heap.size:=⟨_,rfl⟩
 rw[←hgn]at hbn ⊢;have hne:gb≠gn:=by omega
 have hb1:=B2.lt;have hb2:=hbn.lt;have hE1:=hE0.trans hE;have hge:w.heap.size≤gb:=by omega
 have hgw:w.heap.size≤w1.heap.size:=hE1.size;have HE1:=Hd hE1;clear hld hE hE0 B0 B1 hs0 hgb hgn hW0 W0;gi_wp2_with fail
 refine jc8 (N:=n.refsL.length) (gf:=215) (lb:=#[.pointer (some ⟨gn,0,none⟩)]) rfl Tryz.enterRefs1 (jhF gn n hr)
  (fun k=>rfl) (BehC w gn gb n) (fun _ _ _=>False) (fun k W W' ⟨h1,h2,h3⟩ e=>⟨h1.trans e,h2.keeps e (fun h=>h),h3.keeps e (fun h=>h)⟩) (fun _ _ _ _ h _=>h) (fun k W ⟨_,h,_⟩=>h)
  (fun k W o ⟨h1,h2,h3⟩=>⟨h1.putObj (.inr hgw) _,h2.put_other (by omega) _,h3.put_other (by omega) _⟩)
  (fun k W o ⟨h1,h2,h3⟩=>⟨h1.putObj (.inr (by omega)) _,h2.put_other (by omega) _,h3.put_other (by omega) _⟩) (fun _ _ _ _ h=>h)
  ⟨HE1.o,hbn,B2⟩ (fun k=>{ tmps:=#[n.V,.pointer (some ⟨w.heap.size,0,none⟩),.int .i64 0,.pointer (some ⟨gb,0,none⟩),.int .i64 (n.ri k:Nat),n.V,.func (.func 215) #[] #[.pointer (some ⟨gn,0,none⟩)],.int .i64 (n.ri k:Nat),.string (n.rr k),undef,undef,undef],defers:=[] })
  ?hassign ?hbody ?hdone ?hstop
 case hassign =>
  intro l j W K hK;rw[jm8,jll];simp only[List.set_cons_zero,List.set_cons_succ];gi_wp2;exact hK
 case hbody =>
  intro l k W hk ⟨h1,h2,h3⟩ hlt;have q:=h3.cell (i:=0) (v:=.int .i64 (jmL n k:Nat)) (by rfl);have f:W.frozen? ⟨gb,0,none⟩=false:=h3.frozen;have H1:=Hd h1;have H2:=Hd h2;have H3:=Hd h3;clear h1 h2 h3;have hri:=(jmY n hr hk).1;gi_wp2;rw[show ((n.ri k:Nat):Int)+1=((n.ri k+1:Nat):Int)from by omega];have hb3:=H2.o.lt;have hx:jah (fun b=>b≠w1.heap.size∧b≠w1.heap.size+1) W (W.setCell ⟨gb,0,none⟩ (.int .i64 ((n.ri k+1:Nat):Int))):=(jah.refl _ W).setCell (.inl ⟨by show gb≠_;omega,by show gb≠_;omega⟩) _
  exact⟨hx,H1.o.setCell (.inr hge) _,H2.o.set_other (p:=⟨gb,0,none⟩) (fun e=>hne e.symm) _,H3.o.set_same (i:=0) _⟩
 case hdone =>
  intro W ⟨h1,h2,h3⟩ hd;have q:=h3.cell (i:=0) (v:=.int .i64 (n.behindN:Nat)) (by rfl);have H1:=Hd h1;have HD:=Hd hd;clear h1 h2 h3 hd;gi_wp2
  refine⟨by simp,.inl ⟨_,_,rfl,run_takeDeferred HD.o,?_⟩⟩
  refine⟨_,results_tmp rfl _ _ _,?_⟩
  exact⟨rfl,H1.o.putObj (.inr hgw) _⟩
 case hstop=>intro c k W _ _ h;exact h.elim
theorem Tryz.uStrs:Tryz.prog.underlying 34=some (.slice 9):=by kernel_rfl
theorem Tryz.infoStr:(Tryz.prog.info? 9).map (fun i=>(i.zero,i.size,i.bytes))=some (some (.string ⟨#[]⟩),1,16):=by kernel_rfl
def jcq(n:jae)(k:Nat):List ByteArray:=(n.refsL.take k).foldl (fun l x=>l.set x.1 x.2) (List.replicate 17 (jam ⟨#[]⟩))
def jbk(n:jae):List ByteArray:=(jcq n n.refsL.length).set 16 (jam n.value)
def jdt(n:jae):ByteArray:=jaR (jbk n)
structure BrS(w:World)(gn gs gb:Nat)(n:jae)(xs:List ByteArray)(W:World):Prop where
 ext:Ext w W
 node:Blk W gn (.cells n.cells.toArray 208)
 var:Blk W gb (.cells #[.slice (some ⟨gs,0,none⟩) 17 17] 34)
 row:Blk W gs (.cells (xs.map Value.string).toArray 9)
 len:xs.length=17
theorem BrS.st{w:World}{gn gs gb:Nat}{n:jae}{xs:List ByteArray}{W W':World}(h:BrS w gn gs gb n xs W)(e:Ext W W'):BrS w gn gs gb n xs W':=
 ⟨h.ext.trans e,h.node.keeps e (fun h=>h),h.var.keeps e (fun h=>h),h.row.keeps e (fun h=>h),h.len⟩
theorem BrS.put{w:World}{gn gs gb:Nat}{n:jae}{xs:List ByteArray}{W:World}(h:BrS w gn gs gb n xs W)(r:Nat)(hr:w.heap.size≤r)(h1:gn≠r)(h2:gs≠r)(h3:gb≠r)(o:Obj):BrS w gn gs gb n xs (W.putObj r o):=
 ⟨h.ext.putObj (.inr hr) _,h.node.put_other h1 _,h.var.put_other h3 _,h.row.put_other h2 _,h.len⟩
theorem BrS.set{w:World}{gn gs gb:Nat}{n:jae}{xs:List ByteArray}{W:World}(h:BrS w gn gs gb n xs W)(hr:w.heap.size≤gs)(h1:gn≠gs)(h3:gb≠gs)(j:Nat)(x:ByteArray):BrS w gn gs gb n (xs.set j x) (W.setCell ⟨gs,j,none⟩ (.string x)):=
 ⟨h.ext.setCell (.inr hr) _,h.node.set_other (p:=⟨gs,j,none⟩) h1 _,h.var.set_other (p:=⟨gs,j,none⟩) h3 _,by
  have:=h.row.set_same (i:=j) (.string x)
  rw[show (xs.map Value.string).toArray.setIfInBounds j (.string x)=((xs.set j x).map Value.string).toArray by simp[List.map_set]]at this;exact this,by simp[h.len]⟩
theorem jeF(n:jae)(k:Nat):(jcq n k).length=17:=by
 unfold jcq;generalize n.refsL.take k=l
 suffices ∀ (l:List (Nat × ByteArray)) (m:List ByteArray),(l.foldl (fun l x=>l.set x.1 x.2) m).length=m.length by rw[this];simp
 intro l;induction l with
 | nil=>intro m;rfl
 | cons x r ih=>intro m;rw[List.foldl_cons,ih];simp
theorem jgw(n:jae){k:Nat}(hk:k < n.refsL.length):jcq n (k+1)=(jcq n k).set (n.ri k) (n.rr k):=by
 unfold jcq;rw[List.take_succ_eq_append_getElem hk,List.foldl_append];simp[jae.ri,jae.rr,List.getD_eq_getElem?_getD,hk]
def jiM(k:Nat):List ByteArray:=List.replicate k (jam ⟨#[]⟩)++List.replicate (17 - k) ⟨#[]⟩
theorem jjQ(k:Nat)(hk:k < 17):(jiM k).set k (jam ⟨#[]⟩)=jiM (k+1):=by
 unfold jiM;rw[List.set_append_right _ _ (by simp),show k - (List.replicate k (jam ⟨#[]⟩)).length=0 by simp,show 17 - k=(17 - (k+1))+1 by omega,List.replicate_succ,List.set_cons_zero,List.replicate_succ']
 simp
def joy(w:World)(gn gs gb:Nat)(n:jae)(i:Value)(wr:World):Prop:=∃ k:Nat,k≤17∧i=.int .i64 k∧BrS w gn gs gb n (jiM k) wr
theorem jgy(w:World)(n:jae)(hr:n.refs.length=16)(hv:n.value.size≤100000)(hc:(catB (jbk n)).size≤1000000000):Calls Tryz.prog 198 #[n.V] w fun e w'=>e=.returned (.string (jdt n))∧Ext w w':=by
 have HV:=Hd (show n.V=.agg n.cells.toArray from rfl)
 obtain⟨i0,hi,hz0,hz1,hz2⟩:=info_parts Tryz.infoStr
 have hmk:=jc6 (P:=Tryz.prog) (w.alloc (.cells n.cells.toArray 208)) Tryz.uStrs hi hz0 hz1 rfl .i64 .i64 17 (by rw[hz2];omega) (by unfold maxLen;omega)
 obtain⟨gs,hgs⟩:∃ g,g=w.heap.size+1:=⟨_,rfl⟩
 obtain⟨gb,hgb⟩:∃ g,g=w.heap.size+2:=⟨_,rfl⟩
 rw[World.size_alloc, ←hgs]at hmk
 obtain⟨W1,hW1⟩:∃ W1,W1=(w.alloc (.cells n.cells.toArray 208)).alloc (.cells (List.replicate 17 (Value.string ⟨#[]⟩)).toArray 9):=⟨_,rfl⟩
 rw[←hW1]at hmk;have hmk':(Instr.makeSlice 34 (.int .i64 17) (.int .i64 17)).run Tryz.prog (w.alloc (.cells n.cells.toArray 208))=.ok (.slice (some ⟨gs,0,none⟩) 17 17) W1:=hmk;clear hmk;have hs1:W1.heap.size=gb:=by rw[hW1,hgb];simp
 have S0:BrS w w.heap.size gs gb n (jiM 0) (W1.alloc (.cells #[.slice (some ⟨gs,0,none⟩) 17 17] 34)):=
  ⟨by rw[hW1];exact (((ExtR w).alloc _).alloc _).alloc _,by rw[hW1];exact ((Blk.new w _).alloc _).alloc _,by rw[←hs1];exact Blk.new W1 _,by
   rw[hW1,hgs]
   have:=(Blk.new (w.alloc (.cells n.cells.toArray 208)) (.cells (List.replicate 17 (Value.string ⟨#[]⟩)).toArray 9)).alloc (.cells #[.slice (some ⟨w.heap.size+1,0,none⟩) 17 17] 34)
   rw[World.size_alloc]at this;exact this,rfl⟩
 obtain⟨gn,hgn⟩:∃ g,g=w.heap.size:=⟨_,rfl⟩
 rw[←hgn]at S0;have n1:gn≠gs:=by omega
 have n2:gb≠gs:=by omega
 have n3:w.heap.size≤gs:=by omega
 have S0':=Hd S0;have HG:=Hd hgn;have HGS:=Hd hgs;have HGB:=Hd hgb;have HS1:=Hd hs1;have N1:=Hd n1;have N2:=Hd n2;clear hW1 S0 hgn hgs hgb hs1 n1 n2;unfold jae.V;rw[←callsIn_wide (n:=0)];refine callsIn_of_wp_marks Tryz.func198 rfl trivial ?_ rfl;simp only[Tryz.ntmps198,List.size_toArray,List.length_cons,List.length_nil,Nat.reduceAdd,Nat.reduceSub,Array.replicate_succ,Array.replicate_zero,List.push_toArray,List.append_toArray,List.nil_append,List.cons_append];gi_wp2_with fail
 rw[←HG.o,HS1.o];gi_loopw [10] (fun i wr=>joy w gn gs gb n i wr) (fun i _=>17 - (intOf i).toNat)
 case atStart=>exact⟨0,by omega,rfl,S0'.o⟩
 case round =>
  obtain⟨k,hk,rfl,hS⟩:=hrel
  have q3:=hS.var.cell (i:=0) (v:=.slice (some ⟨gs,0,none⟩) 17 17) (by rfl);have HS:=Hd hS;clear hS
  by_cases hlt:k < 17
  ·have b1:(k:Int) < 17:=by omega
   gi_wp2_with fail
   refine wpIn_wide.2 (jau [0,1,2,3,4] [4] Ext ExtR ExtT (by kernel_rfl) (by kernel_rfl) (by kernel_rfl) ?_);refine jaF ⟨gb,0,none⟩ _ rfl (by kernel_rfl) rfl rfl (fun w1 h1=>jaa Tryz.uStrs rfl (jab (by exact HS.o.var.cell (i:=0) (v:=.slice (some ⟨gs,0,none⟩) 17 17) (by rfl)) h1)) ?_;simp only[Act.put,sA,sB,sC]
   (refine jak _ rfl (by kernel_rfl) rfl rfl (fun K hK=>?_);go_big_quiet_op;refine hK _ ?_;clear hK K)
   refine jb5 _ 160 #[.string ⟨#[]⟩] (.string (jam ⟨#[]⟩)) rfl (by kernel_rfl) rfl (fun w1=>jan Tryz.enterText (by kernel_rfl)) (fun w1 h1=>jcP w1 ⟨#[]⟩ (by decide)) ?_;simp only[Act.put,sA,sB,sC]
   (refine jak _ rfl (by kernel_rfl) rfl rfl (fun K hK=>?_);go_big_quiet_op;refine hK _ ?_;clear hK K)
   refine jbh _ rfl (by kernel_rfl) rfl (fun w1 he K hK=>?_);have S1:=HS.o.st ((jaj wr).trans he)
   obtain⟨old,q1⟩:∃ v,w1.cell? ⟨gs,k,none⟩=some v:=⟨_,S1.row.cellL (List.getElem?_eq_getElem (by rw[List.length_map,S1.len];exact hlt))⟩
   have q2:w1.frozen? ⟨gs,k,none⟩=false:=S1.row.frozen;have S2:=S1.set n3 N1.o N2.o k (jam ⟨#[]⟩);rw[jjQ k hlt]at S2;have HS2:=Hd S2;clear S1 S2 he q3 HS;go_simp;refine hK _ _ ?_;clear hK K q1 q2;refine ja6 (by kernel_rfl) (fun w2 he=>?_);have HS3:=Hd (HS2.o.st he);clear he HS2;gi_wp2;go_roundw
   case rel=>exact⟨k+1,by omega,by go_num,HS3.o⟩
   case measure=>simp[intOf];omega
  ·have hk17:k=17:=by omega
   subst hk17;have hB:=HS.o.node;have hld:=jbl wr gn n hr hB;unfold jae.V at hld;clear hB;gi_wp2_with (refine jbm rfl 208 (.tmp 1) rfl _ _ rfl hld ?_)
   refine⟨trivial,rfl,CallsIn.mono (callsIn_wide.2 (jkn _ n)) ?_⟩
   rintro e w1 ⟨rfl,hbn,hE⟩;have S1:=HS.o.st hE
   obtain⟨gn2,hgn2⟩:∃ g,g=wr.heap.size:=⟨_,rfl⟩
   rw[←hgn2]at hbn ⊢;have h1:gn < gn2:=by rw[hgn2];exact HS.o.node.lt
   have h2:gs < gn2:=by rw[hgn2];exact HS.o.row.lt
   have h3:gb < gn2:=by rw[hgn2];exact HS.o.var.lt
   have h4:=hbn.lt;have hge:w.heap.size≤w1.heap.size:=S1.ext.size;have he0:jiM 17=jcq n 0:=rfl;rw[he0]at S1;clear hld hE HS q3 he0 hgn2;gi_wp2_with fail
   refine jc8 (N:=n.refsL.length) (gf:=215) (lb:=#[.pointer (some ⟨gn2,0,none⟩)]) rfl Tryz.enterRefs1 (jhF gn2 n hr)
    (fun k=>rfl) (fun k W=>BrS w gn gs gb n (jcq n k) W∧Blk W gn2 (.cells n.cells.toArray 208)) (fun _ _ _=>False) (fun k W W' ⟨h1,h2⟩ e=>⟨h1.st e,h2.keeps e (fun h=>h)⟩) (fun _ _ _ _ h _=>h) (fun k W ⟨_,h⟩=>h)
    (fun k W o ⟨h5,h6⟩=>⟨h5.put _ hge (by omega) (by omega) (by omega) _,h6.put_other (by omega) _⟩)
    (fun k W o ⟨h5,h6⟩=>⟨h5.put _ (by omega) (by omega) (by omega) (by omega) _,h6.put_other (by omega) _⟩) (fun _ _ _ _ h=>h)
    ⟨S1,hbn⟩ (fun k=>{ tmps:=#[n.V,.pointer (some ⟨gn,0,none⟩),.string ⟨#[]⟩,.pointer (some ⟨gb,0,none⟩),u4,.int .i64 (n.ri k:Nat),.string (n.rr k),.slice (some ⟨gs,0,none⟩) 17 17,.slice (some ⟨gs,0,none⟩) 17 17,.int .i64 17,.int .i64 17,.bool false,u12,u13,u14,u15,u16,u17,n.V,.func (.func 215) #[] #[.pointer (some ⟨gn2,0,none⟩)],.int .i64 (n.ri k:Nat),.string (n.rr k),undef,undef,undef,undef,undef,undef,undef,undef,undef,undef,undef],defers:=[] })
    ?hassign ?hbody ?hdone ?hstop
   case hassign =>
    intro l j W K hK;rw[jm8,jll];simp only[List.set_cons_zero,List.set_cons_succ];gi_wp2;exact hK
   case hbody =>
    intro l k W hk ⟨hS,hB⟩ hlt2;have hri:=jmY n hr hk;have q3:=hS.var.cell (i:=0) (v:=.slice (some ⟨gs,0,none⟩) 17 17) (by rfl);have hki:=hri.1;have c1:(n.ri k:Int) < 17:=by omega
    obtain⟨old,q1⟩:∃ v,W.cell? ⟨gs,n.ri k,none⟩=some v:=⟨_,hS.row.cellL (List.getElem?_eq_getElem (by rw[List.length_map,hS.len];omega))⟩
    have q2:W.frozen? ⟨gs,n.ri k,none⟩=false:=hS.row.frozen;have HS:=Hd hS;have HB:=Hd hB;clear hS hB hri S1;gi_wp2;have hb1:=HS.o.row.lt;have hb2:=HS.o.ext.size
    exact⟨(jah.refl _ W).setCell (.inl ⟨by show gs≠_;omega,by show gs≠_;omega⟩) _,by rw[jgw n hk];exact HS.o.set n3 N1.o N2.o _ _,HB.o.set_other (p:=⟨gs,n.ri k,none⟩) (by show gn2≠gs;omega) _⟩
   case hdone =>
    intro W ⟨hS,hB⟩ hd;have q3:=hS.var.cell (i:=0) (v:=.slice (some ⟨gs,0,none⟩) 17 17) (by rfl);have HS:=Hd hS;have HD:=Hd hd;clear hS hB hd S1;gi_wp2_with fail
    refine wpIn_wide.2 (jau [0,1,2,3,4,5] [5] Ext ExtR ExtT (by kernel_rfl) (by kernel_rfl) (by kernel_rfl) ?_);refine jaF ⟨gb,0,none⟩ _ rfl (by kernel_rfl) rfl rfl (fun w1 h1=>jaa Tryz.uStrs rfl (jab (by exact HS.o.var.cell (i:=0) (v:=.slice (some ⟨gs,0,none⟩) 17 17) (by rfl)) h1)) ?_;simp only[Act.put,sA,sB,sC]
    (refine jak _ rfl (by kernel_rfl) rfl rfl (fun K hK=>?_);go_big_quiet_op;refine hK _ ?_;clear hK K)
    refine jaF ⟨gn,2,none⟩ (.string n.value) rfl (by kernel_rfl) rfl rfl (fun w1 h1=>jaa Tryz.uStr rfl (jab (by exact HS.o.node.cellL (by rfl)) h1)) ?_;simp only[Act.put,sA,sB,sC];refine jb5 _ 160 #[.string n.value] (.string (jam n.value)) rfl (by kernel_rfl) rfl (fun w1=>jan Tryz.enterText (by kernel_rfl)) (fun w1 h1=>jcP w1 n.value (by omega)) ?_;simp only[Act.put,sA,sB,sC]
    (refine jak _ rfl (by kernel_rfl) rfl rfl (fun K hK=>?_);go_big_quiet_op;refine hK _ ?_;clear hK K)
    refine jbh _ rfl (by kernel_rfl) rfl (fun w2 he K hK=>?_);have S1:=HS.o.st ((jaj W).trans he);have hd2:=HD.o.keeps ((jaj W).trans he) (fun h=>h)
    obtain⟨old,q1⟩:∃ v,w2.cell? ⟨gs,16,none⟩=some v:=⟨_,S1.row.cellL (List.getElem?_eq_getElem (by rw[List.length_map,S1.len];omega))⟩
    have q2:w2.frozen? ⟨gs,16,none⟩=false:=S1.row.frozen;have S2:=S1.set n3 N1.o N2.o 16 (jam n.value);have hd3:=hd2.set_other (p:=⟨gs,16,none⟩) (by show w1.heap.size≠gs;omega) (.string (jam n.value));have HS2:=Hd S2;have HD2:=Hd hd3;clear S1 S2 he q3 HS HD hd2 hd3;go_simp;refine hK _ _ ?_;clear hK K q1 q2;refine ja6 (by kernel_rfl) (fun w3 he=>?_);have HS3:=Hd (HS2.o.st he);have HD3:=Hd (HD2.o.keeps he (fun h=>h));have q3:=HS3.o.var.cell (i:=0) (v:=.slice (some ⟨gs,0,none⟩) 17 17) (by rfl);clear he HS2 HD2;gi_wp2_with fail
    have hrd:RdS w3 (.slice (some ⟨gs,0,none⟩) 17 17) (jbk n):=by
     have hl:(jbk n).length=17:=HS3.o.len;exact .inr ⟨gs,0,17,by rw[hl],HS3.o.row.lt,by omega,fun j x hx=>by rw[Nat.zero_add];exact HS3.o.row.cellL (by rw[List.getElem?_map];show ((jbk n)[j]?).map _=_;rw[hx];rfl)⟩
    refine⟨trivial,rfl,CallsIn.mono (callsIn_wide.2 (jjY w3 _ (jbk n) hrd hc (by have:(jbk n).length=17:=HS3.o.len;omega))) ?_⟩
    rintro e w4 ⟨rfl,hE⟩;have hd4:=HD3.o.keeps hE (fun h=>h);have HE:=Hd (HS3.o.ext.trans hE);have HD4:=Hd hd4;clear hE hd4 HS3 HD3 hrd q3;gi_wp2_with fail
    refine⟨by simp,.inl ⟨_,_,rfl,run_takeDeferred HD4.o,?_⟩⟩
    refine⟨_,results_tmp rfl _ _ _,?_⟩
    exact⟨rfl,HE.o.putObj (.inr hge) _⟩
   case hstop=>intro c k W _ _ h;exact h.elim
structure ItS(w:World)(g m:Nat)(xs:List ByteArray)(k:Nat)(W:World):Prop where
 ext:Ext w W
 b2:Blk W g (.cells #[.slice none 0 0] 34)
 b3:Blk W (g+1) (.cells #[.int .i64 0] 27)
 bc:Blk W (g+3) (.cells #[.string (catB xs)] 9)
 row:∃ v,Blk W (g+2) (.cells #[v] 34)∧W.ownsRow 0 9 1 v k ((xs.take k).map Value.string)∧∀ b,v.ownBlock=some b→m+2≤b
theorem ItS.st{w:World}{g m:Nat}{xs:List ByteArray}{k:Nat}{W W':World}(h:ItS w g m xs k W)(e:Ext W W'):ItS w g m xs k W':=
 let ⟨v,h1,h2,h3⟩:=h.row
 ⟨h.ext.trans e,h.b2.keeps e (fun h=>h),h.b3.keeps e (fun h=>h),h.bc.keeps e (fun h=>h),v,h1.keeps e (fun h=>h),jce h2 e,h3⟩
theorem ItS.put{w:World}{g m:Nat}{xs:List ByteArray}{k:Nat}{W:World}(h:ItS w g m xs k W){r:Nat}(hr:w.heap.size≤r)(h1:g+3 < r)(h2:r < m+2)(o:Obj):ItS w g m xs k (W.putObj r o):=
 let ⟨v,h3,h4,h5⟩:=h.row
 ⟨h.ext.putObj (.inr hr) _,h.b2.put_other (by omega) _,h.b3.put_other (by omega) _,h.bc.put_other (by omega) _,v,h3.put_other (by omega) _,
  jbj h4 (jah.onePut W r o) (fun b hb e=>by have:=h5 b hb;omega),h5⟩
theorem jjV(w:World)(xs:List ByteArray)(hx:∀ x∈xs,jdC x)(hs:(catB xs).size≤1000000000)(hn:xs.length≤1000000):Calls Tryz.prog 188 #[.string (catB xs)] w fun e w'=>∃ v,e=.returned (.tuple #[v,.int .i64 0])∧SRow w w' v xs.length xs:=by
 obtain⟨i0,hi,hz0,hz1,hz2⟩:=info_parts Tryz.infoStr
 rw[←callsIn_wide (n:=0)];refine callsIn_of_wp_marks Tryz.func188 rfl trivial ?_ rfl;simp only[Tryz.ntmps188,List.size_toArray,List.length_cons,List.length_nil,Nat.reduceAdd,Nat.reduceSub,Array.replicate_succ,Array.replicate_zero,List.push_toArray,List.append_toArray,List.nil_append,List.cons_append];gi_wp2_with fail
 obtain⟨W0,hW0⟩:∃ W0,W0=((w.alloc (.cells #[.slice none 0 0] 34)).alloc (.cells #[.int .i64 0] 27)).alloc (.cells #[.slice none 0 0] 34):=⟨_,rfl⟩
 rw[←hW0];have hs0:W0.heap.size=w.heap.size+3:=by rw[hW0];simp
 have E0:Ext w W0:=by rw[hW0];exact ((((ExtR w).alloc _).alloc _).alloc _)
 have B2:Blk W0 w.heap.size (.cells #[.slice none 0 0] 34):=by rw[hW0];exact ((Blk.new w _).alloc _).alloc _
 have B3:Blk W0 (w.heap.size+1) (.cells #[.int .i64 0] 27):=by
  rw[hW0];have:=(Blk.new (w.alloc (.cells #[.slice none 0 0] 34)) (.cells #[.int .i64 0] 27)).alloc (.cells #[.slice none 0 0] 34);rwa [World.size_alloc]at this
 have B4:Blk W0 (w.heap.size+2) (.cells #[.slice none 0 0] 34):=by
  rw[hW0];have:=(Blk.new ((w.alloc (.cells #[.slice none 0 0] 34)).alloc (.cells #[.int .i64 0] 27)) (.cells #[.slice none 0 0] 34));rwa [World.size_alloc,World.size_alloc]at this
 clear hW0
 refine⟨trivial,rfl,CallsIn.mono (callsIn_wide.2 (jnM W0 (catB xs))) ?_⟩
 rintro e w1 ⟨rfl,hbc,hE⟩;rw[hs0]at hbc ⊢;have S0:ItS w w.heap.size w1.heap.size xs 0 w1:=⟨E0.trans hE,B2.keeps hE (fun h=>h),B3.keeps hE (fun h=>h),hbc,_,B4.keeps hE (fun h=>h),World.ownsRow_nil _ _ _ _,fun b hb=>by cases hb⟩;have hl1:=hbc.lt;have HS0:=Hd S0;clear hs0 E0 B2 B3 B4 hbc hE S0 W0;gi_wp2_with fail
 refine jc8 (N:=xs.length) (gf:=246) (lb:=#[.pointer (some ⟨w.heap.size+3,0,none⟩)]) rfl Tryz.enterEach1 (jmw (w.heap.size+3) xs hx hs)
  (fun k=>rfl) (ItS w w.heap.size w1.heap.size xs) (fun _ _ _=>False) (fun k W W' h e=>h.st e) (fun _ _ _ _ h _=>h) (fun k W h=>h.bc)
  (fun k W o h=>h.put (by omega) (by omega) (by omega) _)
  (fun k W o h=>h.put (by omega) (by omega) (by omega) _) (fun _ _ _ _ h=>h)
  HS0.o (fun k=>{ tmps:=#[.string (catB xs),undef,.pointer (some ⟨w.heap.size,0,none⟩),.pointer (some ⟨w.heap.size+1,0,none⟩),.pointer (some ⟨w.heap.size+1+1,0,none⟩),.string (xs.getD k ⟨#[]⟩),.nilIface,undef,undef,.string (catB xs),.func (.func 246) #[] #[.pointer (some ⟨w.heap.size+3,0,none⟩)],.string (xs.getD k ⟨#[]⟩),.nilIface,undef,undef,undef,undef,undef,undef,undef,undef,undef,undef,undef,undef,undef],defers:=[] })
  ?hassign ?hbody ?hdone ?hstop
 case hassign =>
  intro l j W K hK;rw[jll];simp only[List.set_cons_zero,List.set_cons_succ];gi_wp2;exact hK
 case hbody =>
  intro l k W hk hS hlt
  obtain⟨v,h1,h2,h3⟩:=hS.row
  obtain⟨ad,cp,rfl⟩:=jbw h2
  obtain⟨x,hxk⟩:∃ x,x=xs.getD k ⟨#[]⟩:=⟨_,rfl⟩
  rw[←hxk];have q4:W.cell? ⟨w.heap.size+1+1,0,none⟩=some (.slice ad k cp):=h1.cell (i:=0) (by rfl);have f4:W.frozen? ⟨w.heap.size+1+1,0,none⟩=false:=h1.frozen;have HS:=Hd hS;have H1:=Hd h1;have H2:=Hd h2;have H3:=Hd h3;have HXK:=Hd hxk;clear hS h1 h2 h3 hxk;gi_wp2_with (gi_at_builtin;refine jbF _ rfl (.tmp 21) (.tmp 23) 34 rfl 9 i0 _ 1 16 Tryz.uStrs hi hz0 hz1 hz2 rfl (by decide) (.slice ad k cp) k _ rfl (jce H2.o ((ExtR W).alloc _)) ⟨W.heap.size,0,none⟩ 1 1 [.string x] rfl rfl (jaS (Blk.new W _)) (by simp[Value.oneCell']) (by unfold maxLen;omega) (by omega) ?_)
  intro v' w6 r1 r2 r3;have K6:jah (fun b=>(Value.slice ad k cp).ownBlock=some b) W w6:=((jah.refl _ W).alloc _).trans r2;have e1:((xs.take k).map Value.string++[.string x])=(xs.take (k+1)).map Value.string:=by
   rw[List.take_succ_eq_append_getElem hk,List.map_append,HXK.o];simp[List.getD_eq_getElem?_getD,hk]
  have r1:w6.ownsRow 0 9 1 v' (k+1) ((xs.take (k+1)).map Value.string):=by rw[←e1,List.map_take];exact r1
  have hlt1:=HS.o.b2.lt;have hlt4:=H1.o.lt;have hw3:w.heap.size≤w1.heap.size:=by omega
  have nb:∀ b,b < w1.heap.size+2→¬(Value.slice ad k cp).ownBlock=some b:=fun b hb e=>by have:=H3.o b e;omega
  obtain⟨ad',cp',rfl⟩:=jbw r1
  have hv':∀ b,(Value.slice ad' (k+1) cp').ownBlock=some b→w1.heap.size+2≤b:=fun b hb=>by
   rcases r3 with r3 | r3
   ·exact H3.o b (r3 ▸ hb)
   ·have:=r3 b hb;omega
  have B4:=H1.o.keeps K6 (nb _ (by omega));have q4':w6.cell? ⟨w.heap.size+1+1,0,none⟩=some (.slice ad k cp):=B4.cell (i:=0) (by rfl);have f4':w6.frozen? ⟨w.heap.size+1+1,0,none⟩=false:=B4.frozen;have HK6:=Hd K6;have HB4:=Hd B4;have R1:=Hd r1;have HV':=Hd hv';have NB:=Hd nb;clear K6 r1 r2 r3 e1 hv' B4 nb q4 f4;gi_wp2;have k7:jah (fun b=>b=w.heap.size+1+1) w6 (w6.setCell ⟨w.heap.size+1+1,0,none⟩ (.slice ad' (k+1) cp')):=jah.oneSet w6 ⟨w.heap.size+1+1,0,none⟩ _
  refine⟨(HK6.o.mono (fun x _ e=>?_)).trans' k7 (fun x _ e=>?_),?_⟩
  ·have:=H3.o x e;show x≠_∧x≠_;omega
  ·have e:x=_:=e;show x≠_∧x≠_;omega
  ·refine⟨(HS.o.ext.trans' HK6.o (fun x hx e=>by have:=H3.o x e;omega)).trans' k7 (fun x hx e=>by have e:x=_:=e;omega),
    (HS.o.b2.keeps HK6.o (NB.o _ (by omega))).keeps k7 (fun e=>by omega),(HS.o.b3.keeps HK6.o (NB.o _ (by omega))).keeps k7 (fun e=>by omega),(HS.o.bc.keeps HK6.o (NB.o _ (by omega))).keeps k7 (fun e=>by omega),
    _,HB4.o.set_same (i:=0) _,jbj R1.o k7 (fun b hb e=>by have:=HV'.o b hb;omega),HV'.o⟩
 case hdone =>
  intro W hS hd
  obtain⟨v,h1,h2,h3⟩:=hS.row
  obtain⟨ad,cp,rfl⟩:=jbw h2
  have q4:W.cell? ⟨w.heap.size+1+1,0,none⟩=some (.slice ad xs.length cp):=h1.cell (i:=0) (by rfl);have q2:=hS.b2.cell (i:=0) (v:=.slice none 0 0) (by rfl);have f2:W.frozen? ⟨w.heap.size,0,none⟩=false:=hS.b2.frozen;have q3:=hS.b3.cell (i:=0) (v:=.int .i64 0) (by rfl);have f3:W.frozen? ⟨w.heap.size+1,0,none⟩=false:=hS.b3.frozen;have HS:=Hd hS;have H2:=Hd h2;have H3:=Hd h3;have HD:=Hd hd;clear hS h1 h2 h3 hd;gi_wp2
  obtain⟨W3,hW3⟩:∃ W3,W3=((W.setCell ⟨w.heap.size,0,none⟩ (.slice ad xs.length cp)).setCell ⟨w.heap.size+1,0,none⟩ (.int .i64 0)):=⟨_,rfl⟩
  rw[←hW3];have B2:=(HS.o.b2.set_same (i:=0) (.slice ad xs.length cp)).set_other (p:=⟨w.heap.size+1,0,none⟩) (by show w.heap.size≠w.heap.size+1;omega) (.int .i64 0);have B3:=(HS.o.b3.set_other (p:=⟨w.heap.size,0,none⟩) (by show w.heap.size+1≠w.heap.size;omega) (.slice ad xs.length cp)).set_same (i:=0) (.int .i64 0);have BD:=(HD.o.set_other (p:=⟨w.heap.size,0,none⟩) (by show w1.heap.size≠w.heap.size;omega) (.slice ad xs.length cp)).set_other (p:=⟨w.heap.size+1,0,none⟩) (by show w1.heap.size≠w.heap.size+1;omega) (.int .i64 0);rw[←hW3]at B2 B3 BD;have K1:=(jah.oneSet W ⟨w.heap.size,0,none⟩ (.slice ad xs.length cp));have K3:jah (fun b=>b=w.heap.size∨b=w.heap.size+1∨b=w1.heap.size) W (W3.putObj w1.heap.size (.deferred none)):=by
   rw[hW3];exact (((jah.refl _ W).setCell (.inl (.inl rfl)) _).setCell (.inl (.inr (.inl rfl))) _).putObj (.inl (.inr (.inr rfl))) _
  have c2:(W3.putObj w1.heap.size (.deferred none)).cell? ⟨w.heap.size,0,none⟩=some (.slice ad xs.length cp):=(B2.put_other (by omega) _).cell (i:=0) (by simp);have c3:(W3.putObj w1.heap.size (.deferred none)).cell? ⟨w.heap.size+1,0,none⟩=some (.int .i64 0):=(B3.put_other (by omega) _).cell (i:=0) (by simp)
  refine⟨by simp,.inl ⟨_,_,rfl,run_takeDeferred BD,?_⟩⟩
  refine⟨.tuple #[.slice ad xs.length cp,.int .i64 0],by simp[results,Tryz.results188,go_sem,c2,c3],?_⟩
  refine⟨_,rfl,⟨_,_,rfl⟩,?_,HS.o.ext.trans' K3 (fun x hx e=>by omega),fun b hb=>by have:=H3.o b hb;omega⟩
  have h5:=jbj H2.o K3 (fun b hb e=>by have:=H3.o b hb;omega)
  rwa [List.take_length]at h5
 case hstop=>intro c k W _ _ h;exact h.elim
theorem jag{P:Program}{w:World}{ops:Array Oper}{rest:List Oper}{o:Oper}{a:Act}{Q:Exit→Act→World→Prop}(t:TypeId)(x:Operand)(ho:o.op=.load t x)(hw:Region.wanted o (yielded ops a.tmps)=true)(v:Value)(p:Addr)(hx:a.eval x=.pointer (some p))
  (hr:(Instr.loadAt t (.pointer (some p))).run P w=.ok v w) (h:wpList P ops Q rest (a.put o.dst v) w):wpList P ops Q (o :: rest) a w:=by
 unfold wpList;rw[if_pos hw];refine .inl (jcK (v:=v) (w':=w) ?_ h);simp only[execOp,ho,hx,Sem.run_bind,hr,Result.andThen,Sem.run_pure]
theorem jc5(W:World)(n:jae)(hr:n.refs.length=16):(Instr.loadAt 208 (.pointer (some ⟨W.heap.size,0,none⟩))).run Tryz.prog (W.alloc (.cells n.cells.toArray 208))=.ok n.V (W.alloc (.cells n.cells.toArray 208)):=
 jbl _ _ n hr (Blk.new W _)
theorem Tryz.isNode:jey (Tryz.prog.underlying 144)=true:=by kernel_rfl
theorem Tryz.szNode:(Tryz.prog.info? 144).map (·.size)=some 19:=by kernel_rfl
theorem jar(W:World)(b:Nat)(n:jae)(hr:n.refs.length=16)(hB:Blk W b (.cells n.cells.toArray 144)):(Instr.loadAt 144 (.pointer (some ⟨b,0,none⟩))).run Tryz.prog W=.ok n.V W:=by
 obtain⟨fs,hu⟩:=jei Tryz.isNode
 exact jc4 hu (by rw[n.cells_len hr];exact Tryz.szNode) (fun j v hv=>by rw[jfS];exact hB.cellL hv)
theorem jn4(w:World)(n:jae)(hr:n.refs.length=16)(hp:n.pathOk 0=true)(h0:0 < n.value.size)(h8:n.value.size≤80)(hb:n.behindN=0):Calls Tryz.prog 192 #[n.V] w fun e w'=>e=.returned (.bool true)∧Ext w w':=by
 have hps:n.path.size≤1000000:=by
  have:n.pathOk 0=true:=hp
  simp only[jae.pathOk,Bool.and_eq_true,decide_eq_true_eq]at this;omega
 have hld:=jc5 w n hr;have e2:n.cells[2]?=some (.string n.value):=rfl;have hne:=ja8 h0;have c1:(n.value.size:Int)≤80:=by omega
 have HP:=Hd hp;have HB:=Hd hb;have HH:=Hd h0;clear hp hb h0;unfold jae.V at hld ⊢;go_enter Tryz.func192,Tryz.ntmps192;go_wp2_with (refine jag 208 (.tmp 1) rfl rfl _ _ rfl hld ?_)
 refine (jj8 _ n hr 0 hps).mono ?_;rintro e w1 ⟨rfl,hE⟩;rw[HP.o];have B1:=(Blk.new w (.cells n.cells.toArray 208)).keeps hE (fun h=>h);have q2:=B1.cellL e2;have hld1:=jbl w1 _ n hr B1;have HE1:=Hd (((ExtR w).alloc _).trans hE);unfold jae.V at hld1;clear hld hE B1;go_wp2_with (refine jag 208 (.tmp 1) rfl rfl _ _ rfl hld1 ?_)
 refine (jhV _ n hr).mono ?_;rintro e w2 ⟨rfl,hE⟩;rw[HB.o];have HE2:=Hd (HE1.o.trans hE);clear hld1 hE q2;go_wp2_with fail
 go_ret
 exact⟨rfl,HE2.o⟩
def jaL:jae:=⟨0,⟨#[]⟩,⟨#[]⟩,List.replicate 16 ⟨#[]⟩⟩
theorem jn7(w:World):Calls Tryz.prog 191 #[jaL.V] w fun e w'=>e=.returned (.bool true)∧Ext w w':=by
 have hld:=jc5 w jaL rfl;have he:jaL.cells.toArray=#[.int .i64 0,.string ⟨#[]⟩,.string ⟨#[]⟩,.string ⟨#[]⟩,.string ⟨#[]⟩,.string ⟨#[]⟩,.string ⟨#[]⟩,.string ⟨#[]⟩,.string ⟨#[]⟩,.string ⟨#[]⟩,.string ⟨#[]⟩,.string ⟨#[]⟩,.string ⟨#[]⟩,.string ⟨#[]⟩,.string ⟨#[]⟩,.string ⟨#[]⟩,.string ⟨#[]⟩,.string ⟨#[]⟩,.string ⟨#[]⟩]:=rfl;unfold jae.V at hld ⊢;rw[he]at hld ⊢;have hq:∀ w,(binOp .eql 208 (.agg #[.int .i64 0,.string ⟨#[]⟩,.string ⟨#[]⟩,.string ⟨#[]⟩,.string ⟨#[]⟩,.string ⟨#[]⟩,.string ⟨#[]⟩,.string ⟨#[]⟩,.string ⟨#[]⟩,.string ⟨#[]⟩,.string ⟨#[]⟩,.string ⟨#[]⟩,.string ⟨#[]⟩,.string ⟨#[]⟩,.string ⟨#[]⟩,.string ⟨#[]⟩,.string ⟨#[]⟩,.string ⟨#[]⟩,.string ⟨#[]⟩]) (.agg #[.int .i64 0,.string ⟨#[]⟩,.string ⟨#[]⟩,.string ⟨#[]⟩,.string ⟨#[]⟩,.string ⟨#[]⟩,.string ⟨#[]⟩,.string ⟨#[]⟩,.string ⟨#[]⟩,.string ⟨#[]⟩,.string ⟨#[]⟩,.string ⟨#[]⟩,.string ⟨#[]⟩,.string ⟨#[]⟩,.string ⟨#[]⟩,.string ⟨#[]⟩,.string ⟨#[]⟩,.string ⟨#[]⟩,.string ⟨#[]⟩])).run Tryz.prog w=.ok (.bool true) w:=fun w=>by kernel_rfl
 go_enter Tryz.func191,Tryz.ntmps191;go_wp2_with (refine jag 208 (.tmp 1) rfl rfl _ _ rfl hld ?_)
 go_ret
 exact⟨rfl,(ExtR w).alloc _⟩
end
end Go.Proofs.YtcpnjmcipainpaaGreatDoor
