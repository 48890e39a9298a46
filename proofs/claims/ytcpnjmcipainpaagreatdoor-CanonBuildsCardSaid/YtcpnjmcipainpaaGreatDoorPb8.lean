/- Parts of the proof, one behind the other: RlpB. Each is under no condition but those that it states. -/
import Derived.Test.YtcpnjmcipainpaaGreatDoorPb6
import Derived.Test.YtcpnjmcipainpaaGreatDoorPb7
import Derived.WalkSpells
namespace Go.Proofs.YtcpnjmcipainpaaGreatDoor
set_option linter.unusedSimpArgs false
set_option linter.unusedVariables false
set_option maxRecDepth 100000
set_option maxHeartbeats 16000000
section
open Go Go.RowKit
def RdS(w:World)(v:Value)(xs:List ByteArray):Prop:=
 (∃ a c,v=.slice a 0 c∧xs=[])∨∃ b o c,v=.slice (some ⟨b,o,none⟩) xs.length c∧b < w.heap.size∧xs.length≤c∧∀ (j:Nat) x,xs[j]?=some x→w.cell? ⟨b,o+j,none⟩=some (.string x)
theorem RdS.ext{w w':World}{v:Value}{xs:List ByteArray}(h:RdS w v xs)(k:Ext w w'):RdS w' v xs:=by
 rcases h with h |⟨b,o,c,h1,h2,h3,h4⟩
 ·exact .inl h
 ·exact .inr ⟨b,o,c,h1,Nat.lt_of_lt_of_le h2 k.size,h3,fun j x hx=>jab (h4 j x hx) k⟩
abbrev SRow(w0 w:World)(v:Value)(n:Nat)(xs:List ByteArray):Prop:=ORow 9 1 w0 w v n (xs.map Value.string)
theorem SRow.rd{w0 w:World}{v:Value}{n:Nat}{xs:List ByteArray}(h:SRow w0 w v n xs):RdS w v xs:=by
 have hl:xs.length=n:=by have:=h.len;simpa using this
 obtain⟨_,⟨rfl,h2⟩ |⟨g,cap,cur,rfl,h3,h4,h5,h6,h7⟩⟩:=h.own
 ·exact .inl ⟨none,0,rfl,List.eq_nil_of_length_eq_zero (by omega)⟩
 ·subst hl
  refine .inr ⟨g,0,cap,rfl,(Array.getElem?_eq_some_iff.1 h4).1,h5,fun j x hx=>?_⟩;have hj:=(List.getElem?_eq_some_iff.1 hx).1
  have:=h.own.cellAt j (by omega)
  rw[Nat.zero_add,this,List.getElem?_map,hx];rfl
def catB(xs:List ByteArray):ByteArray:=⟨(xs.map (·.data.toList)).flatten.toArray⟩
def jaR(xs:List ByteArray):ByteArray:=jbp 192 (catB xs).size++catB xs
theorem jib:∀ (l:List (List UInt8)),Lib.join l []=l.flatten
 | []=>rfl
 | x :: r=>by
  rw[Lib.join_cons];simp only[Lib.joinTail,List.nil_append,List.map_id',List.flatten_cons]
theorem jn1(w:World)(v:Value)(xs:List ByteArray)(h:RdS w v xs)(hl:(catB xs).size≤1000000000)(hn:xs.length≤1000000000):Calls Tryz.prog 250 #[v,.string ⟨#[]⟩] w fun e w'=>e=.returned (.string (catB xs))∧Ext w w':=by
 rcases h with⟨a,c,rfl,rfl⟩ |⟨b,o,c,rfl,h2,h3,h4⟩
 ·exact (Tryz.strings_Join_none a c ⟨#[]⟩ w).mono fun e w' ⟨h1,h2⟩=>⟨by rw[h1];rfl,by rw[h2];exact ExtR w⟩
 ·have hle:(Lib.join (xs.map (·.data.toList)) (⟨#[]⟩:ByteArray).data.toList).length≤140737488355328:=by
   show (Lib.join (xs.map (·.data.toList)) []).length≤_;rw[jib];have:(xs.map (·.data.toList)).flatten.length=(catB xs).size:=by simp[catB,ByteArray.size]
   omega
  exact (Tryz.strings_Join b o c xs ⟨#[]⟩ w h4 h2 (by omega) h3 hle).mono fun e w' ⟨h1,h2⟩=>⟨by rw[h1];show _=Ending.returned (.string ⟨(xs.map (·.data.toList)).flatten.toArray⟩);rw[show (⟨#[]⟩:ByteArray).data.toList=[]from rfl,jib],jah.of_below h2⟩
theorem jjY(w:World)(v:Value)(xs:List ByteArray)(h:RdS w v xs)(hl:(catB xs).size≤1000000000)(hn:xs.length≤1000000000):Calls Tryz.prog 233 #[v] w fun e w'=>e=.returned (.string (jaR xs))∧Ext w w':=by
 have H:=Hd h;clear h;go_enter Tryz.func233,Tryz.ntmps233;go_wp2_with fail
 refine (jn1 w v xs H.o hl hn).mono ?_;rintro e w1 ⟨rfl,hE⟩;go_wp2_with fail
 refine (jjT w1 192 (catB xs).size hl).mono ?_;rintro e w2 ⟨rfl,hE2⟩;have hsz:=jcy 192 (catB xs).size;go_wp2;go_ret
 exact⟨rfl,hE.trans hE2⟩
def beN(l:List UInt8):Nat:=l.foldl (fun n b=>n * 256+b.toNat) 0
theorem jhU(l:List UInt8)(b:UInt8):beN (l++[b])=beN l * 256+b.toNat:=by simp[beN]
theorem jhS:∀ (m:List UInt8) (a:Nat),a≤m.foldl (fun n b=>n * 256+b.toNat) a
 | [],_=>Nat.le_refl _
 | b :: m,a=>Nat.le_trans (by omega) (jhS m (a * 256+b.toNat))
theorem jhT(l m:List UInt8):beN l≤beN (l++m):=by
 unfold beN;rw[List.foldl_append];exact jhS m _
def lenB(s:ByteArray)(to:Nat):Option Nat:=
 if s.size < to∨s.data.toList.getD 1 0=0 then none else
 if 55 < beN ((s.data.toList.take to).drop 1)∧beN ((s.data.toList.take to).drop 1)≤1048576 then some (beN ((s.data.toList.take to).drop 1))else none
theorem jcZ{s:ByteArray}{to n:Nat}(h:lenB s to=some n):to≤s.size∧s.data.toList.getD 1 0≠0∧beN ((s.data.toList.take to).drop 1)=n∧55 < n∧n≤1048576:=by
 unfold lenB at h;split at h
 ·cases h
 rename_i hc
 simp only[not_or,Nat.not_lt]at hc;split at h
 ·rename_i hn
  have:=Option.some.inj h
  exact⟨hc.1,hc.2,this,by omega,by omega⟩
 ·cases h
theorem jmR(n:Nat)(b:UInt8)(hn:n≤1048576):bits .or .i64 ((n:Int) * 256) (b.toNat:Int)=((n * 256+b.toNat:Nat):Int):=by
 have hb:=b.toNat_lt;unfold bits;have e1:BitVec.ofInt (IntKind.bits .i64) ((n:Int) * 256)=BitVec.ofNat 64 (n * 256):=by
  rw[show ((n:Int) * 256)=((n * 256:Nat):Int) by omega,BitVec.ofInt_natCast];rfl
 have e2:BitVec.ofInt (IntKind.bits .i64) (b.toNat:Int)=BitVec.ofNat 64 b.toNat:=by rw[BitVec.ofInt_natCast];rfl
 simp only[e1,e2];have e3:(BitVec.ofNat 64 (n * 256) ||| BitVec.ofNat 64 b.toNat).toNat=n * 256+b.toNat:=by
  rw[BitVec.toNat_or,BitVec.toNat_ofNat,BitVec.toNat_ofNat,Nat.mod_eq_of_lt (by omega),Nat.mod_eq_of_lt (by omega)];rw[show n * 256=2 ^ 8 * n by omega,Nat.two_pow_add_eq_or_of_lt (by omega:b.toNat < 2 ^ 8)]
 show IntKind.i64.wrap ((BitVec.ofNat 64 (n * 256) ||| BitVec.ofNat 64 b.toNat).toNat:Int)=_;rw[e3,IntKind.wrap_i64];omega
def jnu(s:ByteArray)(to:Nat)(n i:Value):Prop:=∃ k:Nat,1≤k∧k≤to∧i=.int .i64 k∧n=.int .i64 (beN ((s.data.toList.take k).drop 1))
theorem jfn(s:ByteArray){k:Nat}(h1:1≤k)(h:k < s.size):(s.data.toList.take (k+1)).drop 1=(s.data.toList.take k).drop 1++[s[k]]:=by
 have hl:k < s.data.toList.length:=by simpa using h
 rw[List.take_succ_eq_append_getElem hl,List.drop_append_of_le_length (by simp;omega)];rfl
theorem jid(w:World)(s:ByteArray)(to n:Nat)(hs:s.size≤1000000000)(h2:2≤to)(h:lenB s to=some n):Calls Tryz.prog 245 #[.string s,.int .i64 to] w fun e w'=>e=.returned (.tuple #[.int .i64 n,.nilIface])∧w=w':=by
 obtain⟨hto,h1,hn,hn1,hn2⟩:=jcZ h
 have HN:=Hd hn;clear h hn;have hz:((s[1]'(by omega)).toNat:Int)≠0:=by
  intro hh;apply h1;rw[List.getD_eq_getElem?_getD,List.getElem?_eq_getElem (by simp;omega)]
  have:(s[1]'(by omega))=0:=UInt8.toNat_inj.1 (by show _=0;omega)
  exact this
 have hz2:(((s[1]'(by omega)).toNat:Int) == 0)=false:=by simpa using hz
 clear h1 hz;have c1:(1:Int) < (s.size:Int):=by omega
 go_enter Tryz.func245,Tryz.ntmps245;go_wp2;go_loop [6,7] (fun m i=>jnu s to m i) (fun _ i=>to - (intOf i).toNat)
 case atStart=>exact⟨1,Nat.le_refl _,by omega,rfl,by simp[beN]⟩
 case round =>
  obtain⟨k,hk1,hk2,rfl,rfl⟩:=hrel
  by_cases hlt:k < to
  ·have hks:k < s.size:=by omega
   have c2:(k:Int) < (s.size:Int):=by omega
   have hsn:=jfn s hk1 hks
   obtain⟨m,hm⟩:∃ m,m=beN ((s.data.toList.take k).drop 1):=⟨_,rfl⟩
   have hle:beN ((s.data.toList.take (k+1)).drop 1)≤n:=by
    have h3:=jhT ((s.data.toList.take (k+1)).drop 1) ((s.data.toList.take to).drop (k+1));have h4:(s.data.toList.take (k+1)).drop 1++(s.data.toList.take to).drop (k+1)=(s.data.toList.take to).drop 1:=by
     have e1:s.data.toList.take to=s.data.toList.take (k+1)++(s.data.toList.take to).drop (k+1):=by
      conv=>lhs;rw[←List.take_append_drop (k+1) (s.data.toList.take to)]
      rw[List.take_take,Nat.min_eq_left (by omega)]
     conv=>rhs;rw[e1]
     rw[List.drop_append_of_le_length (by simp;omega)]
    rw[h4]at h3
    have:=HN.o;omega
   have hmn:m≤beN ((s.data.toList.take (k+1)).drop 1):=by rw[hm,hsn];exact jhT _ _
   have hm3:m≤1048576:=by omega
   have hor:=jmR m s[k] hm3;have hor':bits BinOp.or .i64 ((m:Int) * 256) (wrap64 (s[k].toNat:Int))=((m * 256+s[k].toNat:Nat):Int):=by
    have hb:=s[k].toNat_lt;rw[←hor];congr 1;unfold wrap64;omega
   clear hor;have e5:beN ((s.data.toList.take (k+1)).drop 1)=m * 256+s[k].toNat:=by rw[hsn,jhU, ←hm]
   rw[e5]at hle;have HM:=Hd hm;have H5:=Hd e5;rw[←hm];clear hm hsn hmn e5
   obtain⟨m',hm'⟩:∃ m',m'=m * 256+s[k].toNat:=⟨_,rfl⟩
   rw[←hm']at hor' hle;have HM':=Hd hm';clear hm';go_wp2;go_round
   case rel=>exact⟨k+1,by omega,by omega,by go_num,by rw[H5.o,HM'.o]⟩
   case measure=>simp[intOf];omega
  ·have hkt:k=to:=by omega
   subst hkt;rw[HN.o];go_wp2;go_ret2
   exact⟨rfl,rfl⟩
theorem ja8{s:ByteArray}(h:0 < s.size):s.toList.isEmpty=false:=by
 rw[ByteArray.toList_eq]
 obtain⟨⟨l⟩⟩:=s
 cases l with
 | nil=>exact absurd h (Nat.lt_irrefl 0)
 | cons _ _=>rfl
def jb8(s:ByteArray)(r:Bool × Nat × Nat):Value:=.tuple #[.bool r.1,.string (s.extract r.2.1 (r.2.1+r.2.2)),.string (s.extract (r.2.1+r.2.2) s.size),.nilIface]
theorem jjI(w:World)(s:ByteArray)(hs:s.size≤1000000000)(h0:0 < s.size)(hc:(s[0].toNat:Int) < 128):Calls Tryz.prog 225 #[.string s] w fun e w'=>e=.returned (jb8 s (false,0,1))∧Ext w w':=by
 have c0:(0:Int) < (s.size:Int):=by omega
 have c1:(1:Int)≤(s.size:Int):=by omega
 have hne:=ja8 h0;go_enter Tryz.func225,Tryz.ntmps225;go_wp2_with fail
 refine jau [0,1,2,3,4,5,6,7] [] Ext ExtR ExtT (by kernel_rfl) (by kernel_rfl) (by kernel_rfl) ?_;iterate 8 (refine jak _ rfl (by kernel_rfl) rfl rfl (fun K hK=>?_);go_big_quiet_op;refine hK _ ?_;clear hK K)
 refine ja6 (by kernel_rfl) (fun w1 he=>?_);have HE:=Hd ((jaj w).trans he);clear he;go_wp2;exact bodyPost_ret (v:=jb8 s (false,0,1)) (by simp[results,Tryz.results225,go_sem];rfl) rfl ⟨rfl,HE.o⟩
theorem jla(w:World)(s:ByteArray)(n:Nat)(hs:s.size≤1000000000)(h0:0 < s.size)(hc2:(s[0].toNat:Int)=128+n)(hn:n≤55)(hle:1+n≤s.size)(h1:n≠1∨∃ h:1 < s.size,(128:Int)≤(s[1].toNat:Int)) :
  Calls Tryz.prog 225 #[.string s] w fun e w'=>e=.returned (jb8 s (false,1,n))∧Ext w w':=by
 have c0:(0:Int) < (s.size:Int):=by omega
 have c1:(1:Int)≤(s.size:Int):=by omega
 have c2:¬(s[0].toNat:Int) < 128:=by omega
 have c3:(s[0].toNat:Int) < 192:=by omega
 have c4:(n:Int)≤55:=by omega
 have c5:(n:Int)≤(s.size:Int) - 1:=by omega
 have c6:(0:Int)≤1+(n:Int):=by omega
 have c7:1+(n:Int)≤(s.size:Int):=by omega
 have c8:(1:Int)≤1+(n:Int):=by omega
 have c9:(1+(n:Int)).toNat=1+n:=by omega
 have hne:=ja8 h0;have e1:(s[0].toNat:Int) - 128=(n:Int):=by omega
 clear hc2;rcases h1 with h1 |⟨hs1,h1⟩
 ·have hq:((n:Int) == 1)=false:=by simp;omega
  go_enter Tryz.func225,Tryz.ntmps225;go_wp2_with fail
  refine jau [0,1,2,3,4,5,6,7,8,9,10,11,12,13,14,15,16] [] Ext ExtR ExtT (by kernel_rfl) (by kernel_rfl) (by kernel_rfl) ?_;iterate 17 (refine jak _ rfl (by kernel_rfl) rfl rfl (fun K hK=>?_);go_big_quiet_op;refine hK _ ?_;clear hK K)
  refine ja6 (by kernel_rfl) (fun w1 he=>?_);have HE:=Hd ((jaj w).trans he);clear he;go_wp2;exact bodyPost_ret (v:=jb8 s (false,1,n)) (by simp[results,Tryz.results225,go_sem];rfl) rfl ⟨rfl,HE.o⟩
 ·have d0:(1:Int) < (s.size:Int):=by omega
  have d1:¬(s[1].toNat:Int) < 128:=by omega
  by_cases hq0:n=1
  ·have hq:((n:Int) == 1)=true:=by simp;omega
   clear hq0;go_enter Tryz.func225,Tryz.ntmps225;go_wp2_with fail
   refine jau [0,1,2,3,4,5,6,7,8,9,10,11,12,13,14,15,16] [] Ext ExtR ExtT (by kernel_rfl) (by kernel_rfl) (by kernel_rfl) ?_;iterate 17 (refine jak _ rfl (by kernel_rfl) rfl rfl (fun K hK=>?_);go_big_quiet_op;refine hK _ ?_;clear hK K)
   refine ja6 (by kernel_rfl) (fun w1 he=>?_);have HE:=Hd ((jaj w).trans he);clear he;go_wp2;exact bodyPost_ret (v:=jb8 s (false,1,n)) (by simp[results,Tryz.results225,go_sem];rfl) rfl ⟨rfl,HE.o⟩
  ·have hq:((n:Int) == 1)=false:=by simp;omega
   go_enter Tryz.func225,Tryz.ntmps225;go_wp2_with fail
   refine jau [0,1,2,3,4,5,6,7,8,9,10,11,12,13,14,15,16] [] Ext ExtR ExtT (by kernel_rfl) (by kernel_rfl) (by kernel_rfl) ?_;iterate 17 (refine jak _ rfl (by kernel_rfl) rfl rfl (fun K hK=>?_);go_big_quiet_op;refine hK _ ?_;clear hK K)
   refine ja6 (by kernel_rfl) (fun w1 he=>?_);have HE:=Hd ((jaj w).trans he);clear he;go_wp2;exact bodyPost_ret (v:=jb8 s (false,1,n)) (by simp[results,Tryz.results225,go_sem];rfl) rfl ⟨rfl,HE.o⟩
theorem jk8(w:World)(s:ByteArray)(n:Nat)(hs:s.size≤1000000000)(h0:0 < s.size)(hc2:(s[0].toNat:Int)=192+n)(hn:n≤55)(hle:1+n≤s.size) :
  Calls Tryz.prog 225 #[.string s] w fun e w'=>e=.returned (jb8 s (true,1,n))∧Ext w w':=by
 have c0:(0:Int) < (s.size:Int):=by omega
 have c1:(1:Int)≤(s.size:Int):=by omega
 have c2:¬(s[0].toNat:Int) < 128:=by omega
 have c3:¬(s[0].toNat:Int) < 192:=by omega
 have c4:(n:Int)≤55:=by omega
 have c5:(n:Int)≤(s.size:Int) - 1:=by omega
 have c6:(0:Int)≤1+(n:Int):=by omega
 have c7:1+(n:Int)≤(s.size:Int):=by omega
 have c8:(1:Int)≤1+(n:Int):=by omega
 have c9:(1+(n:Int)).toNat=1+n:=by omega
 have hne:=ja8 h0;have e1:(s[0].toNat:Int) - 192=(n:Int):=by omega
 clear hc2;go_enter Tryz.func225,Tryz.ntmps225;go_wp2_with fail
 refine jau [0,1,2,3,4,5,6,7,8,9,10,11,12,13,14,15,16] [] Ext ExtR ExtT (by kernel_rfl) (by kernel_rfl) (by kernel_rfl) ?_;iterate 17 (refine jak _ rfl (by kernel_rfl) rfl rfl (fun K hK=>?_);go_big_quiet_op;refine hK _ ?_;clear hK K)
 refine ja6 (by kernel_rfl) (fun w1 he=>?_);have HE:=Hd ((jaj w).trans he);clear he;go_wp2;exact bodyPost_ret (v:=jb8 s (true,1,n)) (by simp[results,Tryz.results225,go_sem];rfl) rfl ⟨rfl,HE.o⟩
theorem jjJ(w:World)(s:ByteArray)(k n:Nat)(hs:s.size≤1000000000)(h0:0 < s.size)(hc2:(s[0].toNat:Int)=128+55+k)(hk:1≤k)(hk8:k≤8)(hL:lenB s (1+k)=some n)(hle:1+k+n≤s.size) :
  Calls Tryz.prog 225 #[.string s] w fun e w'=>e=.returned (jb8 s (false,1+k,n))∧Ext w w':=by
 obtain⟨hto,_,_,hn1,hn2⟩:=jcZ hL
 have HL:=Hd hL;clear hL
 obtain⟨f,hf⟩:∃ f,f=1+k:=⟨_,rfl⟩
 obtain⟨m,hm⟩:∃ m,m=55+k:=⟨_,rfl⟩
 have HF:=Hd hf;have c0:(0:Int) < (s.size:Int):=by omega
 have c1:(1:Int)≤(s.size:Int):=by omega
 have c2:¬(s[0].toNat:Int) < 128:=by omega
 have c3:(s[0].toNat:Int) < 192:=by omega
 have c4:¬(m:Int)≤55:=by omega
 have c4b:(55:Int) < (m:Int):=by omega
 have c5:(n:Int)≤(s.size:Int) - (f:Int):=by omega
 have c6:(0:Int)≤(f:Int)+(n:Int):=by omega
 have c7:(f:Int)+(n:Int)≤(s.size:Int):=by omega
 have c8:(f:Int)≤(f:Int)+(n:Int):=by omega
 have c9:((f:Int)+(n:Int)).toNat=f+n:=by omega
 have hq:((n:Int) == 1)=false:=by simp;omega
 have hne:=ja8 h0;have e1:(s[0].toNat:Int) - 128=(m:Int):=by omega
 have e2:1+(m:Int) - 55=(f:Int):=by omega
 have hf2:2≤f:=by omega
 have c10:(m:Int)≤63:=by omega
 have c11:(0:Int)≤(m:Int):=by omega
 rw[←hf]at HL;rw[←hf];clear hc2 hf hm;go_enter Tryz.func225,Tryz.ntmps225;go_wp2_with fail
 refine (jid w s f n hs hf2 HL.o).mono ?_;rintro e w1 ⟨rfl,rfl⟩;go_wp2_with fail
 refine jau [0,1,2,3,4,5,6,7,8,9,10,11,12,13,14,15,16] [] Ext ExtR ExtT (by kernel_rfl) (by kernel_rfl) (by kernel_rfl) ?_;iterate 17 (refine jak _ rfl (by kernel_rfl) rfl rfl (fun K hK=>?_);go_big_quiet_op;refine hK _ ?_;clear hK K)
 refine ja6 (by kernel_rfl) (fun w1 he=>?_);have HE:=Hd ((jaj w).trans he);clear he;go_wp2;exact bodyPost_ret (v:=jb8 s (false,f,n)) (by simp[results,Tryz.results225,go_sem];rfl) rfl ⟨rfl,HE.o⟩
theorem jjH(w:World)(s:ByteArray)(k n:Nat)(hs:s.size≤1000000000)(h0:0 < s.size)(hc2:(s[0].toNat:Int)=192+55+k)(hk:1≤k)(hk8:k≤8)(hL:lenB s (1+k)=some n)(hle:1+k+n≤s.size) :
  Calls Tryz.prog 225 #[.string s] w fun e w'=>e=.returned (jb8 s (true,1+k,n))∧Ext w w':=by
 obtain⟨hto,_,_,hn1,hn2⟩:=jcZ hL
 have HL:=Hd hL;clear hL
 obtain⟨f,hf⟩:∃ f,f=1+k:=⟨_,rfl⟩
 obtain⟨m,hm⟩:∃ m,m=55+k:=⟨_,rfl⟩
 have HF:=Hd hf;have c0:(0:Int) < (s.size:Int):=by omega
 have c1:(1:Int)≤(s.size:Int):=by omega
 have c2:¬(s[0].toNat:Int) < 128:=by omega
 have c3:¬(s[0].toNat:Int) < 192:=by omega
 have c4:¬(m:Int)≤55:=by omega
 have c4b:(55:Int) < (m:Int):=by omega
 have c5:(n:Int)≤(s.size:Int) - (f:Int):=by omega
 have c6:(0:Int)≤(f:Int)+(n:Int):=by omega
 have c7:(f:Int)+(n:Int)≤(s.size:Int):=by omega
 have c8:(f:Int)≤(f:Int)+(n:Int):=by omega
 have c9:((f:Int)+(n:Int)).toNat=f+n:=by omega
 have hq:((n:Int) == 1)=false:=by simp;omega
 have hne:=ja8 h0;have e1:(s[0].toNat:Int) - 192=(m:Int):=by omega
 have e2:1+(m:Int) - 55=(f:Int):=by omega
 have hf2:2≤f:=by omega
 have c10:(m:Int)≤63:=by omega
 have c11:(0:Int)≤(m:Int):=by omega
 rw[←hf]at HL;rw[←hf];clear hc2 hf hm;go_enter Tryz.func225,Tryz.ntmps225;go_wp2_with fail
 refine (jid w s f n hs hf2 HL.o).mono ?_;rintro e w1 ⟨rfl,rfl⟩;go_wp2_with fail
 refine jau [0,1,2,3,4,5,6,7,8,9,10,11,12,13,14,15,16] [] Ext ExtR ExtT (by kernel_rfl) (by kernel_rfl) (by kernel_rfl) ?_;iterate 17 (refine jak _ rfl (by kernel_rfl) rfl rfl (fun K hK=>?_);go_big_quiet_op;refine hK _ ?_;clear hK K)
 refine ja6 (by kernel_rfl) (fun w1 he=>?_);have HE:=Hd ((jaj w).trans he);clear he;go_wp2;exact bodyPost_ret (v:=jb8 s (true,f,n)) (by simp[results,Tryz.results225,go_sem];rfl) rfl ⟨rfl,HE.o⟩
end
end Go.Proofs.YtcpnjmcipainpaaGreatDoor
