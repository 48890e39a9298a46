/- Parts of the proof, one behind the other: NodeD, RlpD, NodeE. Each is under no condition but those that it states. -/
import Derived.Test.YtcpnjmcipainpaaGreatDoorPb16
import Derived.Test.YtcpnjmcipainpaaGreatDoorPb13
import Derived.LoopIn
import Derived.LoopNIn
import Derived.OwnWalkIn
namespace Go.Proofs.YtcpnjmcipainpaaGreatDoor
set_option linter.unusedSimpArgs false
set_option linter.unusedVariables false
set_option maxRecDepth 100000
set_option maxHeartbeats 16000000
section
open Go Go.RowKit
attribute [local go_sem] Oper.semAt_some
theorem jbm{F:Fence}{n:Nat}{P:Program}{w:World}{ops:Array Oper}{rest:List Oper}{o:Oper}{a:Act}{Q:Exit→Act→World→Prop}(hg:o.guard=none)(t:TypeId)(x:Operand)(ho:o.op=.load t x)(v:Value)(p:Addr)(hx:a.eval x=.pointer (some p))
  (hr:(Instr.loadAt t (.pointer (some p))).run P w=.ok v w) (h:wpListIn F n P ops Q rest (a.put o.dst v) w):wpListIn F n P ops Q (o :: rest) a w:=by
 refine wpListIn_plain hg fun K hK'=>?_;unfold Oper.wpIn
 refine⟨?_,?_⟩
 ·simp[Oper.about,ho]
 ·rw[Oper.semAt_plain F _ _ (by rw[ho];intro c hc';cases hc')]
  simp only[execOp,ho,hx,Sem.run_bind,hr,Result.andThen,Sem.run_pure];exact hK' _ _ h
theorem Tryz.uRefs:Tryz.prog.underlying 142=some (.array 16 9):=by kernel_rfl
theorem Tryz.iRefs:(Tryz.prog.info? 142).map (·.size)=some 16:=by kernel_rfl
def jae.rv(n:jae)(k:Nat):Array Value:=#[.int .i64 (((n.refsL.getD k (0,⟨#[]⟩)).1:Nat):Int),.string (n.refsL.getD k (0,⟨#[]⟩)).2]
def joK(W:World)(b:Nat)(n:jae)(C:Nat→World→Prop)(v:Value)(wr:World):Prop:=∃ i:Nat,i≤16∧v=.int .i64 i∧C (jaq 0 (n.refs.take i)).length wr
theorem je7(n:jae){i:Nat}{r:ByteArray}(h:n.refs[i]?=some r):jaq 0 (n.refs.take (i+1))=jaq 0 (n.refs.take i)++(if r.size=0 then []else [(i,r)]):=by
 have hl:=(List.getElem?_eq_some_iff.1 h).1;rw[List.take_add_one,h,Option.toList_some,jci]
 have:(n.refs.take i).length=i:=by simp;omega
 simp[jaq,this]
theorem jmX(n:jae){i:Nat}{r:ByteArray}(h:n.refs[i]?=some r)(hr:r.size≠0):(jaq 0 (n.refs.take i)).length < n.refsL.length∧n.refsL.getD (jaq 0 (n.refs.take i)).length (0,⟨#[]⟩)=(i,r):=by
 have h1:=je7 n h;rw[if_neg hr]at h1;have h2:n.refsL=jaq 0 (n.refs.take i)++((i,r) :: jaq (0+(n.refs.take (i+1)).length) (n.refs.drop (i+1))):=by
  unfold jae.refsL
  conv=>lhs;rw[←List.take_append_drop (i+1) n.refs]
  rw[jci,h1,List.append_assoc];rfl
 rw[h2];constructor
 ·simp
 ·simp[List.getD_eq_getElem?_getD]
theorem Tryz.strOne:(Tryz.prog.info? 9).map (·.size)=some 1:=by kernel_rfl
theorem Tryz.strAgg(w:World):(isAgg 9).run Tryz.prog w=.ok false w:=by kernel_rfl
theorem jhF(b:Nat)(n:jae)(hr:n.refs.length=16):ji7 Tryz.prog 215 #[.pointer (some ⟨b,0,none⟩)] n.refsL.length n.rv (fun W=>Blk W b (.cells n.cells.toArray 208)):=by
 intro l C Cx hC hCx hS W hY h0;have hB:=hS 0 W h0;have hrg:W.rangeAt b 3 (n.refs.map Value.string):=fun j v hv=>hB.cellL (by
  unfold jae.cells;rw[show 3+j=j+3 by omega];simpa using hv)
 have hld:=run_loadVar_mid (P:=Tryz.prog) W b 3 142 _ _ hrg Tryz.uRefs rfl (by simp only[List.length_map,hr];exact Tryz.iRefs);have hla:(Instr.loadAt 142 (.pointer (some ⟨b,3,none⟩))).run Tryz.prog W=.ok (.agg (n.refs.map Value.string).toArray) W:=by
  simp[Instr.loadAt,Instr.sureAddr,Sem.run_bind,Result.andThen,hld]
 have HB:=Hd hB;have HY:=Hd hY;have H0:=Hd h0;have HR:=Hd hr;clear hB hY h0 hrg hld hr;refine callsIn_of_wp Tryz.func215 rfl trivial ?_ rfl;simp only[Tryz.ntmps215,List.size_toArray,List.length_cons,List.length_nil,Nat.reduceAdd,Nat.reduceSub,Array.replicate_succ,Array.replicate_zero,List.push_toArray,List.append_toArray,List.nil_append,List.cons_append];gi_wp2_with (refine jbm rfl 142 (.tmp 5) rfl _ _ rfl hla ?_)
 have HST:=Hd hC;have HSX:=Hd hCx;have HS:=Hd hS;clear hC hCx hS hla;gi_loopw [7] (fun v wr=>joK W b n C v wr) (fun v _=>16 - (intOf v).toNat)
 case atStart=>exact⟨0,by omega,rfl,by simpa [jaq]using H0.o⟩
 case round =>
  obtain⟨i,hi,rfl,hCi⟩:=hrel
  have HCi:=Hd hCi;clear hCi
  by_cases hlt:i < 16
  ·obtain⟨r,hri⟩:∃ r,n.refs[i]?=some r:=⟨_,List.getElem?_eq_getElem (by have:=HR.o;omega)⟩
   have hix:(Instr.index 142 (.agg (n.refs.map Value.string).toArray) (.int .i64 (i:Int))).run Tryz.prog wr=.ok (.string r) wr:=jgg Tryz.uRefs Tryz.strOne Tryz.strAgg _ i hlt _ (by rw[List.getElem?_map,hri];rfl) wr;have hst:=je7 n hri
   by_cases hr0:r.size=0
   ·have hre:r=⟨#[]⟩:=by
     obtain⟨⟨l⟩⟩:=r
     cases l with
     | nil=>rfl
     | cons x y=>exact absurd hr0 (Nat.succ_ne_zero _)
    rw[if_pos hr0,List.append_nil]at hst;subst hre;have HSTp:=Hd hst;clear hst hri hr0;gi_wp2
    refine⟨(fun f h=>by cases h),?_⟩
    gi_wp2;go_roundw
    case rel=>exact⟨i+1,by omega,by go_num,by rw[HSTp.o];exact HCi.o⟩
    case measure=>simp[intOf];omega
   ·have hat:=jmX n hri hr0
    have hne:=ja8 (s:=r) (by omega);rw[if_neg hr0]at hst
    obtain⟨k,hk⟩:∃ k,k=(jaq 0 (n.refs.take i)).length:=⟨_,rfl⟩
    rw[←hk]at hat HCi;have hrv:n.rv k=#[.int .i64 (i:Int),.string r]:=by unfold jae.rv;rw[hat.2]
    obtain⟨fn,tm,asg,bd,hyr,hrd⟩:=HY.o k wr hat.1 HCi.o
    rw[hrv]at hyr;have hlen:(jaq 0 (n.refs.take (i+1))).length=k+1:=by rw[hst,List.length_append, ←hk];rfl
    have HLEN:=Hd hlen;have HAT:=Hd hat;have HRD:=Hd hrd;clear hlen hat hrd hst hrv hk hri hr0;gi_wp2
    refine⟨rfl,HRD.o.mono ?_⟩
    rintro e w5 (⟨rfl,C5⟩ |⟨rfl,C5⟩)
    ·have HC5:=Hd C5
     clear C5;gi_wp2;go_roundw
     case rel=>exact⟨i+1,by omega,by go_num,by rw[HLEN.o];exact HC5.o⟩
     case measure=>simp[intOf];omega
    ·have HC5:=Hd C5
     clear C5;gi_wp2;refine bodyPost_ret (results_none rfl _ _ _) rfl ?_
     exact⟨⟨_,rfl⟩,.inr ⟨k+1,HAT.o.1,by omega,HC5.o⟩⟩
  ·have hi16:i=16:=by omega
   subst hi16;gi_wp2;refine bodyPost_end (results_none rfl _ _ _) rfl ?_
   refine⟨⟨_,rfl⟩,.inl ?_⟩
   have h:=HCi.o;rw[List.take_of_length_le (by have:=HR.o;omega)]at h;exact h
def jdC(x:ByteArray):Prop:=∀ y:ByteArray,(x++y).size≤1000000000→∃ r,cutN (x++y)=some r∧r.2.1+r.2.2=x.size
theorem jmo(x:ByteArray)(xs:List ByteArray):catB (x :: xs)=x++catB xs:=by
 apply ByteArray.ext;apply Array.ext';simp[catB,ByteArray.data_append]
theorem jgH(x y:ByteArray):(x++y).extract 0 x.size=x:=ByteArray.extract_append_eq_left rfl
theorem jeP(x y:ByteArray):(x++y).extract x.size (x++y).size=y:=ByteArray.extract_append_eq_right rfl (by rw[ByteArray.size_append])
theorem jh1{s:ByteArray}{r:Bool × Nat × Nat}(h:cutN s=some r):0 < s.size∧0 < r.2.1+r.2.2:=by
 unfold cutN at h
 by_cases h0:0 < s.size
 ·refine⟨h0,?_⟩
  rw[dif_pos h0]at h;simp only at h
  by_cases h1:s[0].toNat < 128
  ·rw[if_pos h1]at h
   obtain rfl:=Option.some.inj h;simp
  ·rw[if_neg h1]at h
   obtain⟨lm,hlm⟩:∃ lm:Bool × Nat,lm=if s[0].toNat < 192 then (false,s[0].toNat - 128)else (true,s[0].toNat - 192):=⟨_,rfl⟩
   rw[←hlm]at h;clear hlm
   obtain⟨l,m⟩:=lm
   simp only at h
   by_cases h3:m≤55
   ·rw[if_pos h3]at h
    split at h
    ·obtain rfl:=Option.some.inj h;simp only;omega
    ·cases h
   ·rw[if_neg h3]at h
    split at h
    ·split at h
     ·obtain rfl:=Option.some.inj h;simp only;omega
     ·cases h
    ·cases h
 ·rw[dif_neg h0]at h;cases h
theorem jlf{xs:List ByteArray}{k:Nat}(h:k < xs.length):catB (xs.drop k)=xs[k]++catB (xs.drop (k+1)):=by
 rw[List.drop_eq_getElem_cons h,jmo]
def jo6:Value→Nat | .string b=>b.size | _=>0
def jmb(W:World)(xs:List ByteArray)(C:Nat→World→Prop)(v:Value)(wr:World):Prop:=∃ k:Nat,k≤xs.length∧v=.string (catB (xs.drop k))∧C k wr
theorem jmw(b:Nat)(xs:List ByteArray)(hx:∀ x∈xs,jdC x)(hs:(catB xs).size≤1000000000):ji7 Tryz.prog 246 #[.pointer (some ⟨b,0,none⟩)] xs.length (fun k=>#[.string (xs.getD k ⟨#[]⟩),.nilIface]) (fun W=>Blk W b (.cells #[.string (catB xs)] 9)):=by
 intro l C Cx hC hCx hS W hY h0;have hB:=(hS 0 W h0).cell (i:=0) (v:=.string (catB xs)) (by rfl);have HY:=Hd hY;have H0:=Hd h0;have HSZ:=Hd hs;clear hY h0 hS hs;refine callsIn_of_wp Tryz.func246 rfl trivial ?_ rfl;simp only[Tryz.ntmps246,List.size_toArray,List.length_cons,List.length_nil,Nat.reduceAdd,Nat.reduceSub,Array.replicate_succ,Array.replicate_zero,List.push_toArray,List.append_toArray,List.nil_append,List.cons_append];gi_wp2;have HST:=Hd hC;have HSX:=Hd hCx;clear hC hCx;gi_loopw [3] (fun v wr=>jmb W xs C v wr) (fun v _=>jo6 v)
 case atStart=>exact⟨0,by omega,rfl,H0.o⟩
 case round =>
  obtain⟨k,hk,rfl,hCk⟩:=hrel
  have HCk:=Hd hCk;clear hCk
  by_cases hlt:k < xs.length
  ·obtain⟨x,hxk⟩:∃ x,x=xs[k]:=⟨_,rfl⟩
   have hdc:=jlf hlt;rw[←hxk]at hdc
   obtain⟨y,hy⟩:∃ y,y=catB (xs.drop (k+1)):=⟨_,rfl⟩
   rw[←hy]at hdc;have hsz:(x++y).size≤1000000000:=by
    have h1:(catB (xs.drop k)).size≤(catB xs).size:=by
     have h2:(catB xs).size=(catB (xs.take k)).size+(catB (xs.drop k)).size:=by
      conv=>lhs;rw[←List.take_append_drop k xs]
      simp only[catB,ByteArray.size,List.map_append,List.flatten_append,List.size_toArray,List.length_append]
     omega
    rw[hdc]at h1;have:=HSZ.o;omega
   obtain⟨r,hr1,hr2⟩:=hx x (hxk ▸ List.getElem_mem hlt) y hsz
   obtain⟨z,hz⟩:∃ z,z=x++y:=⟨_,rfl⟩
   have hzs:z.size=x.size+y.size:=by rw[hz,ByteArray.size_append]
   rw[←hz]at hdc hsz hr1;rw[hdc];have hpos:=jh1 hr1;have hne:=ja8 hpos.1;have he1:z.extract (r.2.1+r.2.2) z.size=y:=by
    rw[hr2,hz];exact jeP x y
   have he2:z.extract 0 x.size=x:=by
    rw[hz];exact jgH x y
   have hgx:xs.getD k ⟨#[]⟩=x:=by rw[List.getD_eq_getElem?_getD,List.getElem?_eq_getElem hlt, ←hxk];rfl
   have HGX:=Hd hgx;have HX:=Hd hxk;have HSS:=Hd hsz;have HYY:=Hd hy;have HZ:=Hd hz;have HZS:=Hd hzs;have HP:=Hd hpos;have HR2:=Hd hr2;clear hxk hdc hy hz hgx hpos hr2 hzs;gi_wp2_with fail
   refine⟨trivial,rfl,CallsIn.mono (callsIn_wide.2 (jnJ wr z r hsz hr1)) ?_⟩
   rintro e w1 ⟨rfl,hE⟩;unfold jb8;rw[he1]
   obtain⟨u,hu⟩:∃ u,u=z.extract r.2.1 (r.2.1+r.2.2):=⟨_,rfl⟩
   rw[←hu]
   obtain⟨b1,o,ln⟩:=r
   simp only;clear hr1 he1 hu hsz
   obtain⟨fn,tm,asg,bd,hyr,hrd⟩:=HY.o k w1 hlt (HST.o k _ _ HCk.o hE)
   simp only[HGX.o]at hyr;have HRD:=Hd hrd;clear hE hrd;have c1:(z.size:Int) - (y.size:Int)=(x.size:Int):=by have:=HZS.o;omega
   have c2:(x.size:Int)≤(z.size:Int):=by have:=HZS.o;omega
   have c3:z.size≤1000000000:=HSS.o;gi_wp2
   refine⟨rfl,(HRD.o.mono ?_)⟩
   rintro e w5 (⟨rfl,C5⟩ |⟨rfl,C5⟩)
   ·have HC5:=Hd C5
    clear C5;gi_wp2;go_roundw
    case rel=>exact⟨k+1,by omega,by rw[←HYY.o],HC5.o⟩
    case measure=>show y.size < z.size;have:=(show 0 < o+ln from HP.o.2);have:=HZS.o;have:=(show o+ln=x.size from HR2.o);omega
   ·have HC5:=Hd C5
    clear C5;gi_wp2;refine bodyPost_ret (results_none rfl _ _ _) rfl ?_
    exact⟨⟨_,rfl⟩,.inr ⟨k+1,by omega,by omega,HC5.o⟩⟩
  ·have hkl:k=xs.length:=by omega
   subst hkl;have hd:catB (xs.drop xs.length)=⟨#[]⟩:=by rw[List.drop_length];rfl
   rw[hd];gi_wp2;refine bodyPost_end (results_none rfl _ _ _) rfl ?_
   exact⟨⟨_,rfl⟩,.inl HCk.o⟩
theorem jnM(w:World)(s:ByteArray):Calls Tryz.prog 226 #[.string s] w fun e w'=>e=.returned (.func (.func 246) #[] #[.pointer (some ⟨w.heap.size,0,none⟩)])∧Blk w' w.heap.size (.cells #[.string s] 9)∧Ext w w':=by
 go_enter Tryz.func226,Tryz.ntmps226;go_wp2_with fail
 go_ret
 exact⟨rfl,Blk.new w _,(ExtR w).alloc _⟩
theorem Tryz.enterEach1:∀ args w,(callFunc 246 args).run Tryz.prog w=.ok (.enter 246 args) w:=fun _ _=>by kernel_rfl
theorem Tryz.sStrs:jcw Tryz.prog 34 9 1 16:=jcw.mk' (by kernel_rfl) (show (Tryz.prog.info? 9).map (fun i=>(i.zero,i.size,i.bytes))=some (some (.string ⟨#[]⟩),1,16) by kernel_rfl) rfl (by decide)
end
section
open Go Go.RowKit
theorem jkn(w:World)(n:jae):Calls Tryz.prog 171 #[n.V] w fun e w'=>e=.returned (.func (.func 215) #[] #[.pointer (some ⟨w.heap.size,0,none⟩)])∧Blk w' w.heap.size (.cells n.cells.toArray 208)∧Ext w w':=by
 unfold jae.V;go_enter Tryz.func171,Tryz.ntmps171;go_wp2_with fail
 go_ret
 exact⟨rfl,Blk.new w _,(ExtR w).alloc _⟩
theorem jiS(w:World)(n:jae):Calls Tryz.prog 195 #[n.V] w fun e w'=>e=.returned (.string (jam ⟨#[]⟩))∧Ext w w':=by
 unfold jae.V;go_enter Tryz.func195,Tryz.ntmps195;go_wp2_with fail
 refine (jcP _ ⟨#[]⟩ (by decide)).mono ?_;rintro e w1 ⟨rfl,hE⟩;have HE:Hid (Ext w w1):=Hd (((ExtR w).alloc _).trans hE);clear hE;go_wp2_with fail
 go_ret
 exact⟨rfl,HE.o⟩
end
end Go.Proofs.YtcpnjmcipainpaaGreatDoor
