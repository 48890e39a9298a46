/- Lemmas; each is under no condition but those that it states. -/
import Derived.Test.YtcpnjmcipainpaaGreatDoorPr4
import Derived.Test.YtcpnjmcipainpaaGreatDoorPr5
import Derived.WalkSpells
namespace Go.Proofs.YtcpnjmcipainpaaGreatDoor
set_option linter.unusedSimpArgs false
set_option linter.unusedVariables false
set_option maxRecDepth 100000
set_option maxHeartbeats 16000000
section
open Go Go.RowKit
def RdS(w:World)(v:Value)(xs:List vB):Prop:=
 (∃ a c,v=.slice a 0 c/\xs=[])\/∃ b o c,v=.slice (some ⟨b,o,none⟩) xs.length c/\b < w.heap.size/\xs.length<=c/\∀ (j:Nat) x,xs[j]?=some x->w.cell? ⟨b,o+j,none⟩=some (.string x)
theorem RdS.ext{w w':World}{v:Value}{xs:List vB}(h:RdS w v xs)(k:Ext w w'):RdS w' v xs:=by
 rcases h with h |⟨b,o,c,h1,h2,h3,h4⟩
 ·exact .inl h
 ·exact .inr ⟨b,o,c,h1,Nat.lt_of_lt_of_le h2 k.size,h3,fun j x hx=>jaa (h4 j x hx) k⟩
abbrev SRow(w0 w:World)(v:Value)(n:Nat)(xs:List vB):Prop:=ORow 9 1 w0 w v n (xs.map Value.string)
theorem SRow.rd{w0 w:World}{v:Value}{n:Nat}{xs:List vB}(h:SRow w0 w v n xs):RdS w v xs:=by
 have hl:xs.length=n:=by have:=h.len;simpa using this
 obtain⟨_,⟨rfl,h2⟩ |⟨g,cap,cur,rfl,h3,h4,h5,h6,h7⟩⟩:=h.own
 ·exact .inl ⟨none,0,rfl,List.eq_nil_of_length_eq_zero vO⟩
 ·subst hl
  refine .inr ⟨g,0,cap,rfl,(Array.getElem?_eq_some_iff.1 h4).1,h5,fun j x hx=>?_⟩;have hj:=(List.getElem?_eq_some_iff.1 hx).1
  have:=h.own.cellAt j vO
  rw[Nat.zero_add,this,List.getElem?_map,hx];rfl
def catB(xs:List vB):vB:=⟨(xs.map (·.data.toList)).flatten.toArray⟩
def ja4(xs:List vB):vB:=jbZ 192 (catB xs).size++catB xs
theorem jnq:∀ (l:List (List UInt8)),Lib.join l []=l.flatten
 | []=>rfl
 | x :: r=>by
  rw[Lib.join_cons];simp only[Lib.joinTail,List.nil_append,List.map_id',List.flatten_cons]
theorem jxr(w:World)(v:Value)(xs:List vB)(h:RdS w v xs)(hl:(catB xs).size<=1000000000)(hn:xs.length<=1000000000):vR 250 #[v,.string ⟨#[]⟩] w (.string (catB xs)):=by
 rcases h with⟨a,c,rfl,rfl⟩ |⟨b,o,c,rfl,h2,h3,h4⟩
 ·exact (Tryz.strings_Join_none a c ⟨#[]⟩ w).mono fun e w' ⟨h1,h2⟩=>⟨by rw[h1];rfl,by rw[h2];exact ExtR w⟩
 ·have hle:(Lib.join (xs.map (·.data.toList)) (⟨#[]⟩:vB).data.toList).length<=140737488355328:=by
   show (Lib.join (xs.map (·.data.toList)) []).length<=_;rw[jnq];have:(xs.map (·.data.toList)).flatten.length=(catB xs).size:=by simp[catB,ByteArray.size]
   omega
  exact (Tryz.strings_Join b o c xs ⟨#[]⟩ w h4 h2 vO h3 hle).mono fun e w' ⟨h1,h2⟩=>⟨by rw[h1];show _=Ending.returned (.string ⟨(xs.map (·.data.toList)).flatten.toArray⟩);rw[show (⟨#[]⟩:vB).data.toList=[]from rfl,jnq],jae.of_below h2⟩
theorem jqz(w:World)(v:Value)(xs:List vB)(h:RdS w v xs)(hl:(catB xs).size<=1000000000)(hn:xs.length<=1000000000):vR 233 #[v] w (.string (ja4 xs)):=by
 have H:=Hd h;clear h;go_enter Tryz.func233,Tryz.ntmps233;go_wp2_with fail
 refine vC (jxr w v xs H.o hl hn) fun w1 hE=>?_;go_wp2_with fail
 refine vC (jqn w1 192 (catB xs).size hl) fun w2 hE2=>?_;have hsz:=jd2 192 (catB xs).size;go_wp2;go_ret
 exact⟨rfl,hE.trans hE2⟩
def beN(l:List UInt8):Nat:=l.foldl (fun n b=>n * 256+b.toNat) 0
theorem jjj(l:List UInt8)(b:UInt8):beN (l++[b])=beN l * 256+b.toNat:=by simp[beN]
theorem jmT:∀ (m:List UInt8) (a:Nat),a<=m.foldl (fun n b=>n * 256+b.toNat) a
 | [],_=>Nat.le_refl _
 | b :: m,a=>Nat.le_trans vO (jmT m (a * 256+b.toNat))
theorem jmU(l m:List UInt8):beN l<=beN (l++m):=by
 unfold beN;rw[List.foldl_append];exact jmT m _
def lenB(s:vB)(to:Nat):Option Nat:=
 if s.size < to\/s.data.toList.getD 1 0=0 then none else
 if 55 < beN ((s.data.toList.take to).drop 1)/\beN ((s.data.toList.take to).drop 1)<=1048576 then some (beN ((s.data.toList.take to).drop 1))else none
theorem jc6{s:vB}{to n:Nat}(h:lenB s to=some n):to<=s.size/\s.data.toList.getD 1 0≠0/\beN ((s.data.toList.take to).drop 1)=n/\55 < n/\n<=1048576:=by
 unfold lenB at h;split at h
 ·cases h
 rename_i hc
 simp only[not_or,Nat.not_lt]at hc;split at h
 ·rename_i hn
  have:=Option.some.inj h
  exact⟨hc.1,hc.2,this,by omega,by omega⟩
 ·cases h
theorem jq8(n:Nat)(b:UInt8)(hn:n<=1048576):bits .or .i64 ((n:Int) * 256) (b.toNat:Int)=((n * 256+b.toNat:Nat):Int):=by
 have hb:=b.toNat_lt;unfold bits;have e1:BitVec.ofInt (IntKind.bits .i64) ((n:Int) * 256)=BitVec.ofNat 64 (n * 256):=by
  rw[show ((n:Int) * 256)=((n * 256:Nat):Int) by omega,BitVec.ofInt_natCast];rfl
 have e2:BitVec.ofInt (IntKind.bits .i64) (b.toNat:Int)=BitVec.ofNat 64 b.toNat:=by rw[BitVec.ofInt_natCast];rfl
 simp only[e1,e2];have e3:(BitVec.ofNat 64 (n * 256) ||| BitVec.ofNat 64 b.toNat).toNat=n * 256+b.toNat:=by
  rw[BitVec.toNat_or,BitVec.toNat_ofNat,BitVec.toNat_ofNat,Nat.mod_eq_of_lt vO,Nat.mod_eq_of_lt vO];rw[show n * 256=2 ^ 8 * n by omega,Nat.two_pow_add_eq_or_of_lt (by omega:b.toNat < 2 ^ 8)]
 show IntKind.i64.wrap ((BitVec.ofNat 64 (n * 256) ||| BitVec.ofNat 64 b.toNat).toNat:Int)=_;rw[e3,IntKind.wrap_i64];omega
def jwA(s:vB)(to:Nat)(n i:Value):Prop:=∃ k:Nat,1<=k/\k<=to/\i=.int .i64 k/\n=.int .i64 (beN ((s.data.toList.take k).drop 1))
theorem jfs(s:vB){k:Nat}(h1:1<=k)(h:k < s.size):(s.data.toList.take (k+1)).drop 1=(s.data.toList.take k).drop 1++[s[k]]:=by
 have hl:k < s.data.toList.length:=by simpa using h
 rw[List.take_succ_eq_append_getElem hl,List.drop_append_of_le_length (by simp;omega)];rfl
theorem jhh(w:World)(s:vB)(to n:Nat)(hs:s.size<=1000000000)(h2:2<=to)(h:lenB s to=some n):vQ 245 #[.string s,.int .i64 to] w fun e w'=>e=.returned (.tuple #[.int .i64 n,.nilIface])/\w=w':=by
 obtain⟨hto,h1,hn,hn1,hn2⟩:=jc6 h
 have HN:=Hd hn;clear h hn;have hz:((s[1]'(by omega)).toNat:Int)≠0:=by
  intro hh;apply h1;rw[List.getD_eq_getElem?_getD,List.getElem?_eq_getElem (by simp;omega)]
  have:(s[1]'(by omega))=0:=UInt8.toNat_inj.1 (by show _=0;omega)
  exact this
 have hz2:(((s[1]'(by omega)).toNat:Int) == 0)=false:=by simpa using hz
 clear h1 hz;have c1:(1:Int) < (s.size:Int):=by omega
 go_enter Tryz.func245,Tryz.ntmps245;go_wp2;go_loop [6,7] (fun m i=>jwA s to m i) (fun _ i=>to - (intOf i).toNat)
 case atStart=>exact⟨1,Nat.le_refl _,by omega,rfl,by simp[beN]⟩
 case round =>
  obtain⟨k,hk1,hk2,rfl,rfl⟩:=hrel
  by_cases hlt:k < to
  ·have hks:k < s.size:=by omega
   have c2:(k:Int) < (s.size:Int):=by omega
   have hsn:=jfs s hk1 hks
   obtain⟨m,hm⟩:=vE (beN ((s.data.toList.take k).drop 1))
   have hle:beN ((s.data.toList.take (k+1)).drop 1)<=n:=by
    have h3:=jmU ((s.data.toList.take (k+1)).drop 1) ((s.data.toList.take to).drop (k+1));have h4:(s.data.toList.take (k+1)).drop 1++(s.data.toList.take to).drop (k+1)=(s.data.toList.take to).drop 1:=by
     have e1:s.data.toList.take to=s.data.toList.take (k+1)++(s.data.toList.take to).drop (k+1):=by
      conv=>lhs;rw[<-List.take_append_drop (k+1) (s.data.toList.take to)]
      rw[List.take_take,Nat.min_eq_left vO]
     conv=>rhs;rw[e1]
     rw[List.drop_append_of_le_length (by simp;omega)]
    rw[h4]at h3
    have:=HN.o;omega
   have hmn:m<=beN ((s.data.toList.take (k+1)).drop 1):=by rw[hm,hsn];exact jmU _ _
   have hm3:m<=1048576:=by omega
   have hor:=jq8 m s[k] hm3;have hor':bits BinOp.or .i64 ((m:Int) * 256) (wrap64 (s[k].toNat:Int))=((m * 256+s[k].toNat:Nat):Int):=by
    have hb:=s[k].toNat_lt;rw[<-hor];congr 1;unfold wrap64;omega
   clear hor;have e5:beN ((s.data.toList.take (k+1)).drop 1)=m * 256+s[k].toNat:=by rw[hsn,jjj, <-hm]
   rw[e5]at hle;have HM:=Hd hm;have H5:=Hd e5;rw[<-hm];clear hm hsn hmn e5
   obtain⟨m',hm'⟩:∃ m',m'=m * 256+s[k].toNat:=⟨_,rfl⟩
   rw[<-hm']at hor' hle;have HM':=Hd hm';clear hm';go_wp2;go_round
   case rel=>exact⟨k+1,by omega,by omega,by go_num,by rw[H5.o,HM'.o]⟩
   case measure=>simp[intOf];omega
  ·have hkt:k=to:=by omega
   subst hkt;rw[HN.o];go_wp2;go_ret2
   exact⟨rfl,rfl⟩
theorem ja8{s:vB}(h:0 < s.size):s.toList.isEmpty=false:=by
 rw[ByteArray.toList_eq]
 obtain⟨⟨l⟩⟩:=s
 cases l with
 | nil=>exact absurd h (Nat.lt_irrefl 0)
 | cons _ _=>rfl
def jdr(s:vB)(r:Bool × Nat × Nat):Value:=.tuple #[.bool r.1,.string (s.extract r.2.1 (r.2.1+r.2.2)),.string (s.extract (r.2.1+r.2.2) s.size),.nilIface]
theorem jp2(w:World)(s:vB)(hs:s.size<=1000000000)(h0:0 < s.size)(hc:(s[0].toNat:Int) < 128):vR 225 #[.string s] w (jdr s (false,0,1)):=by
 have c0:(0:Int) < (s.size:Int):=by omega
 have c1:(1:Int)<=(s.size:Int):=by omega
 have hne:=ja8 h0;go_enter Tryz.func225,Tryz.ntmps225;go_wp2_with fail
 refine jau [0,1,2,3,4,5,6,7] [] Ext ExtR ExtT vY vY vY ?_;iterate 8 refine vP ?_
 refine qE (fun w1 he=>?_);have HE:=Hd ((jaj w).trans he);clear he;go_wp2;exact bodyPost_ret (v:=jdr s (false,0,1)) (by simp[results,Tryz.results225,go_sem];rfl) rfl ⟨rfl,HE.o⟩
theorem jsE(w:World)(s:vB)(n:Nat)(hs:s.size<=1000000000)(h0:0 < s.size)(hc2:(s[0].toNat:Int)=128+n)(hn:n<=55)(hle:1+n<=s.size)(h1:n≠1\/∃ h:1 < s.size,(128:Int)<=(s[1].toNat:Int)) :
  vR 225 #[.string s] w (jdr s (false,1,n)):=by
 have c0:(0:Int) < (s.size:Int):=by omega
 have c1:(1:Int)<=(s.size:Int):=by omega
 have c2:¬(s[0].toNat:Int) < 128:=by omega
 have c3:(s[0].toNat:Int) < 192:=by omega
 have c4:(n:Int)<=55:=by omega
 have c5:(n:Int)<=(s.size:Int) - 1:=by omega
 have c6:(0:Int)<=1+(n:Int):=by omega
 have c7:1+(n:Int)<=(s.size:Int):=by omega
 have c8:(1:Int)<=1+(n:Int):=by omega
 have c9:(1+(n:Int)).toNat=1+n:=by omega
 have hne:=ja8 h0;have e1:(s[0].toNat:Int) - 128=(n:Int):=by omega
 clear hc2;rcases h1 with h1 |⟨hs1,h1⟩
 ·have hq:((n:Int) == 1)=false:=by simp;omega
  go_enter Tryz.func225,Tryz.ntmps225;go_wp2_with fail
  refine jau [0,1,2,3,4,5,6,7,8,9,10,11,12,13,14,15,16] [] Ext ExtR ExtT vY vY vY ?_;iterate 17 refine vP ?_
  refine qE (fun w1 he=>?_);have HE:=Hd ((jaj w).trans he);clear he;go_wp2;exact bodyPost_ret (v:=jdr s (false,1,n)) (by simp[results,Tryz.results225,go_sem];rfl) rfl ⟨rfl,HE.o⟩
 ·have d0:(1:Int) < (s.size:Int):=by omega
  have d1:¬(s[1].toNat:Int) < 128:=by omega
  by_cases hq0:n=1
  ·have hq:((n:Int) == 1)=true:=by simp;omega
   clear hq0;go_enter Tryz.func225,Tryz.ntmps225;go_wp2_with fail
   refine jau [0,1,2,3,4,5,6,7,8,9,10,11,12,13,14,15,16] [] Ext ExtR ExtT vY vY vY ?_;iterate 17 refine vP ?_
   refine qE (fun w1 he=>?_);have HE:=Hd ((jaj w).trans he);clear he;go_wp2;exact bodyPost_ret (v:=jdr s (false,1,n)) (by simp[results,Tryz.results225,go_sem];rfl) rfl ⟨rfl,HE.o⟩
  ·have hq:((n:Int) == 1)=false:=by simp;omega
   go_enter Tryz.func225,Tryz.ntmps225;go_wp2_with fail
   refine jau [0,1,2,3,4,5,6,7,8,9,10,11,12,13,14,15,16] [] Ext ExtR ExtT vY vY vY ?_;iterate 17 refine vP ?_
   refine qE (fun w1 he=>?_);have HE:=Hd ((jaj w).trans he);clear he;go_wp2;exact bodyPost_ret (v:=jdr s (false,1,n)) (by simp[results,Tryz.results225,go_sem];rfl) rfl ⟨rfl,HE.o⟩
theorem jsC(w:World)(s:vB)(n:Nat)(hs:s.size<=1000000000)(h0:0 < s.size)(hc2:(s[0].toNat:Int)=192+n)(hn:n<=55)(hle:1+n<=s.size) :
  vR 225 #[.string s] w (jdr s (true,1,n)):=by
 have c0:(0:Int) < (s.size:Int):=by omega
 have c1:(1:Int)<=(s.size:Int):=by omega
 have c2:¬(s[0].toNat:Int) < 128:=by omega
 have c3:¬(s[0].toNat:Int) < 192:=by omega
 have c4:(n:Int)<=55:=by omega
 have c5:(n:Int)<=(s.size:Int) - 1:=by omega
 have c6:(0:Int)<=1+(n:Int):=by omega
 have c7:1+(n:Int)<=(s.size:Int):=by omega
 have c8:(1:Int)<=1+(n:Int):=by omega
 have c9:(1+(n:Int)).toNat=1+n:=by omega
 have hne:=ja8 h0;have e1:(s[0].toNat:Int) - 192=(n:Int):=by omega
 clear hc2;go_enter Tryz.func225,Tryz.ntmps225;go_wp2_with fail
 refine jau [0,1,2,3,4,5,6,7,8,9,10,11,12,13,14,15,16] [] Ext ExtR ExtT vY vY vY ?_;iterate 17 refine vP ?_
 refine qE (fun w1 he=>?_);have HE:=Hd ((jaj w).trans he);clear he;go_wp2;exact bodyPost_ret (v:=jdr s (true,1,n)) (by simp[results,Tryz.results225,go_sem];rfl) rfl ⟨rfl,HE.o⟩
theorem jp3(w:World)(s:vB)(k n:Nat)(hs:s.size<=1000000000)(h0:0 < s.size)(hc2:(s[0].toNat:Int)=128+55+k)(hk:1<=k)(hk8:k<=8)(hL:lenB s (1+k)=some n)(hle:1+k+n<=s.size) :
  vR 225 #[.string s] w (jdr s (false,1+k,n)):=by
 obtain⟨hto,_,_,hn1,hn2⟩:=jc6 hL
 have HL:=Hd hL;clear hL
 obtain⟨f,hf⟩:=vE (1+k)
 obtain⟨m,hm⟩:=vE (55+k)
 have HF:=Hd hf;have c0:(0:Int) < (s.size:Int):=by omega
 have c1:(1:Int)<=(s.size:Int):=by omega
 have c2:¬(s[0].toNat:Int) < 128:=by omega
 have c3:(s[0].toNat:Int) < 192:=by omega
 have c4:¬(m:Int)<=55:=by omega
 have c4b:(55:Int) < (m:Int):=by omega
 have c5:(n:Int)<=(s.size:Int) - (f:Int):=by omega
 have c6:(0:Int)<=(f:Int)+(n:Int):=by omega
 have c7:(f:Int)+(n:Int)<=(s.size:Int):=by omega
 have c8:(f:Int)<=(f:Int)+(n:Int):=by omega
 have c9:((f:Int)+(n:Int)).toNat=f+n:=by omega
 have hq:((n:Int) == 1)=false:=by simp;omega
 have hne:=ja8 h0;have e1:(s[0].toNat:Int) - 128=(m:Int):=by omega
 have e2:1+(m:Int) - 55=(f:Int):=by omega
 have hf2:2<=f:=by omega
 have c10:(m:Int)<=63:=by omega
 have c11:(0:Int)<=(m:Int):=by omega
 rw[<-hf]at HL;rw[<-hf];clear hc2 hf hm;go_enter Tryz.func225,Tryz.ntmps225;go_wp2_with fail
 refine (jhh w s f n hs hf2 HL.o).mono ?_;rintro e w1 ⟨rfl,rfl⟩;go_wp2_with fail
 refine jau [0,1,2,3,4,5,6,7,8,9,10,11,12,13,14,15,16] [] Ext ExtR ExtT vY vY vY ?_;iterate 17 refine vP ?_
 refine qE (fun w1 he=>?_);have HE:=Hd ((jaj w).trans he);clear he;go_wp2;exact bodyPost_ret (v:=jdr s (false,f,n)) (by simp[results,Tryz.results225,go_sem];rfl) rfl ⟨rfl,HE.o⟩
theorem jp1(w:World)(s:vB)(k n:Nat)(hs:s.size<=1000000000)(h0:0 < s.size)(hc2:(s[0].toNat:Int)=192+55+k)(hk:1<=k)(hk8:k<=8)(hL:lenB s (1+k)=some n)(hle:1+k+n<=s.size) :
  vR 225 #[.string s] w (jdr s (true,1+k,n)):=by
 obtain⟨hto,_,_,hn1,hn2⟩:=jc6 hL
 have HL:=Hd hL;clear hL
 obtain⟨f,hf⟩:=vE (1+k)
 obtain⟨m,hm⟩:=vE (55+k)
 have HF:=Hd hf;have c0:(0:Int) < (s.size:Int):=by omega
 have c1:(1:Int)<=(s.size:Int):=by omega
 have c2:¬(s[0].toNat:Int) < 128:=by omega
 have c3:¬(s[0].toNat:Int) < 192:=by omega
 have c4:¬(m:Int)<=55:=by omega
 have c4b:(55:Int) < (m:Int):=by omega
 have c5:(n:Int)<=(s.size:Int) - (f:Int):=by omega
 have c6:(0:Int)<=(f:Int)+(n:Int):=by omega
 have c7:(f:Int)+(n:Int)<=(s.size:Int):=by omega
 have c8:(f:Int)<=(f:Int)+(n:Int):=by omega
 have c9:((f:Int)+(n:Int)).toNat=f+n:=by omega
 have hq:((n:Int) == 1)=false:=by simp;omega
 have hne:=ja8 h0;have e1:(s[0].toNat:Int) - 192=(m:Int):=by omega
 have e2:1+(m:Int) - 55=(f:Int):=by omega
 have hf2:2<=f:=by omega
 have c10:(m:Int)<=63:=by omega
 have c11:(0:Int)<=(m:Int):=by omega
 rw[<-hf]at HL;rw[<-hf];clear hc2 hf hm;go_enter Tryz.func225,Tryz.ntmps225;go_wp2_with fail
 refine (jhh w s f n hs hf2 HL.o).mono ?_;rintro e w1 ⟨rfl,rfl⟩;go_wp2_with fail
 refine jau [0,1,2,3,4,5,6,7,8,9,10,11,12,13,14,15,16] [] Ext ExtR ExtT vY vY vY ?_;iterate 17 refine vP ?_
 refine qE (fun w1 he=>?_);have HE:=Hd ((jaj w).trans he);clear he;go_wp2;exact bodyPost_ret (v:=jdr s (true,f,n)) (by simp[results,Tryz.results225,go_sem];rfl) rfl ⟨rfl,HE.o⟩
def cutN(s:vB):Option (Bool × Nat × Nat):=
 if h:0 < s.size then
  let b:=s[0].toNat
  if b < 128 then some (false,0,1)
  else
   let (l,m):=if b < 192 then (false,b - 128)else (true,b - 192)
   if m<=55 then
    if 1+m<=s.size/\(l=true\/m≠1\/128<=(s.data.toList.getD 1 0).toNat)then some (l,1,m)else none
   else match lenB s (1+(m - 55))with
    | some n=>if 1+(m - 55)+n<=s.size then some (l,1+(m - 55),n)else none
    | none=>none
 else none
theorem jw9(w:World)(s:vB)(r:Bool × Nat × Nat)(hs:s.size<=1000000000)(h:cutN s=some r):vR 225 #[.string s] w (jdr s r):=by
 unfold cutN at h
 by_cases h0:0 < s.size
 ·rw[dif_pos h0]at h
  simp only at h;have hb:=s[0].toNat_lt
  by_cases h1:s[0].toNat < 128
  ·rw[if_pos h1]at h
   cases h;exact jp2 w s hs h0 vO
  ·rw[if_neg h1]at h
   by_cases h2:s[0].toNat < 192
   ·rw[if_pos h2]at h
    simp only at h
    by_cases h3:s[0].toNat - 128<=55
    ·rw[if_pos h3]at h
     split at h
     ·rename_i hc
      cases h;refine jsE w s (s[0].toNat - 128) hs h0 vO h3 hc.1 ?_;rcases hc.2 with hc | hc | hc
      ·cases hc
      ·exact .inl hc
      ·have h5:1 < s.size:=by
        rcases Nat.lt_or_ge 1 s.size with h | h
        ·exact h
        ·rw[List.getD_eq_getElem?_getD,List.getElem?_eq_none (by simpa using h)]at hc
         exact absurd hc vI
       refine .inr ⟨h5,?_⟩;rw[List.getD_eq_getElem?_getD,List.getElem?_eq_getElem (by simpa using h5)]at hc;have h6:128<=(s[1]'h5).toNat:=hc;omega
     ·cases h
    ·rw[if_neg h3]at h
     split at h
     ·rename_i n hl
      split at h
      ·rename_i hc
       cases h;exact jp3 w s (s[0].toNat - 128 - 55) n hs h0 vO vO vO hl hc
      ·cases h
     ·cases h
   ·rw[if_neg h2]at h
    simp only at h
    by_cases h3:s[0].toNat - 192<=55
    ·rw[if_pos h3]at h
     split at h
     ·rename_i hc
      cases h;exact jsC w s (s[0].toNat - 192) hs h0 vO h3 hc.1
     ·cases h
    ·rw[if_neg h3]at h
     split at h
     ·rename_i n hl
      split at h
      ·rename_i hc
       cases h;exact jp1 w s (s[0].toNat - 192 - 55) n hs h0 vO vO vO hl hc
      ·cases h
     ·cases h
 ·rw[dif_neg h0]at h;cases h
theorem jxq(w:World):vQ 107 #[.nilIface,.iface 27 (.int .i64 2)] w fun e w'=>e=.returned (.bool false)/\w=w':=by
 have hq:∀ w,(binOp .eql 162 .nilIface (.iface 27 (.int .i64 2))).run Tryz.prog w=.ok (.bool false) w:=fun w=>by kernel_rfl
 go_enter Tryz.func107,Tryz.ntmps107;go_wp2_with fail
 go_ret
 exact⟨rfl,rfl⟩
theorem jmK(w:World)(s:vB)(r:Bool × Nat × Nat)(hs:s.size<=1000000000)(h:cutN s=some r):vR 187 #[.string s] w (.tuple #[.bool r.1,.string (s.extract r.2.1 (r.2.1+r.2.2)),.string (s.extract (r.2.1+r.2.2) s.size),.int .i64 0]):=by
 go_enter Tryz.func187,Tryz.ntmps187;go_wp2_with fail
 refine vC (jw9 w s r hs h) fun w1 hE=>?_;unfold jdr
 obtain⟨x,hx⟩:=vE (s.extract r.2.1 (r.2.1+r.2.2))
 obtain⟨y,hy⟩:∃ x,x=s.extract (r.2.1+r.2.2) s.size:=⟨_,rfl⟩
 rw[<-hx, <-hy]
 obtain⟨l,p⟩:=r
 have HE:=Hd hE;have HX:=Hd hx;have HY:=Hd hy;clear hE h hx hy hs;simp only;go_wp2_with fail
 refine (jxq w1).mono ?_;rintro e w2 ⟨rfl,rfl⟩;go_wp2_with fail
 exact bodyPost_ret (v:=.tuple #[.bool l,.string x,.string y,.int .i64 0]) vY rfl ⟨by rw[HX.o,HY.o],HE.o⟩
end
section
open Go Go.RowKit
theorem Tryz.uU32:Tryz.prog.underlying 206=some (.int .u32):=by kernel_rfl
theorem Tryz.iU32:(Tryz.prog.info? 206).map (·.size)=some 1:=by kernel_rfl
def addW(p q:UInt32):UInt32:=p+q
def xorW(p q:UInt32):UInt32:=p ^^^ q
def andW(p q:UInt32):UInt32:=p &&& q
def notW(p:UInt32):UInt32 := ~~~ p
def shrW(p:UInt32)(n:UInt32):UInt32:=p >>> n
def rotW(p:UInt32)(n:UInt32):UInt32:=(p <<< (32 - n)) |||(p >>> n)
def wv(p:UInt32):Value:=.int .u32 (p.toNat:Int)
theorem jc7(a:UInt32):BitVec.ofInt (IntKind.bits .u32) (a.toNat:Int)=a.toBitVec:=by
 show BitVec.ofInt 32 ((a.toNat:Nat):Int)=_;rw[BitVec.ofInt_natCast];simp
theorem jgi(a:UInt32):IntKind.u32.wrap (a.toNat:Int)=a.toNat:=by rw[IntKind.wrap_u32];have:=a.toNat_lt;omega
section
variable {P:Program} {w:World} {T:TypeId} {p q:UInt32}
theorem jj6:(binOp .add T (wv p) (wv q)).run P w=.ok (wv (addW p q)) w:=by
 have e:IntKind.u32.wrap ((p.toNat:Int)+(q.toNat:Int))=((addW p q).toNat:Int):=by
  rw[IntKind.wrap_u32,addW,UInt32.toNat_add];omega
 unfold wv;rw[<-e];rfl
theorem jj8:(binOp .xor T (wv p) (wv q)).run P w=.ok (wv (xorW p q)) w:=by
 have e:bits .xor .u32 p.toNat q.toNat=((xorW p q).toNat:Int):=by
  unfold bits;rw[jc7,jc7];exact jgi (p ^^^ q)
 unfold wv;rw[<-e];rfl
theorem jnO:(binOp .and T (wv p) (wv q)).run P w=.ok (wv (andW p q)) w:=by
 have e:bits .and .u32 p.toNat q.toNat=((andW p q).toNat:Int):=by
  unfold bits;rw[jc7,jc7];exact jgi (p &&& q)
 unfold wv;rw[<-e];rfl
theorem jc0(n:Nat)(hn:n < 32)(k:IntKind):(binOp .shr T (wv p) (.int k n)).run P w=.ok (wv (shrW p (UInt32.ofNat n))) w:=by
 have e:((shrW p (UInt32.ofNat n)).toNat:Int)=(p.toNat:Int).fdiv (2 ^ n):=by
  unfold shrW;rw[UInt32.toNat_shiftRight,UInt32.toNat_ofNat',Nat.mod_eq_of_lt (show n < 2 ^ 32 by omega),Nat.mod_eq_of_lt hn,Nat.shiftRight_eq_div_pow];rw[Int.fdiv_eq_ediv_of_nonneg _ (by exact_mod_cast Nat.zero_le (2 ^ n))]
  simp
 unfold wv;rw[e];show (Op.shift .shr .u32 (p.toNat:Int) k (n:Int)).run P w=_;unfold Op.shift;rw[if_neg vO];have h:min (n:Int).toNat (IntKind.bits .u32)=n:=by show min (n:Int).toNat 32=n;omega
 simp only[h];rfl
theorem jnP:(Op.unary .xor (wv p)).run P w=.ok (wv (notW p)) w:=by
 have e:bits .xor .u32 (IntKind.max .u32) p.toNat=((notW p).toNat:Int):=by
  have e1:(IntKind.max .u32:Int)=((0xFFFFFFFF:UInt32).toNat:Int):=rfl;rw[e1];unfold bits;rw[jc7,jc7]
  have:(0xFFFFFFFF:UInt32) ^^^ p=notW p:=by
   unfold notW;apply UInt32.toBitVec_inj.1;show (BitVec.allOnes 32) ^^^ p.toBitVec = ~~~ p.toBitVec;rw[BitVec.allOnes_xor]
  have h2:=jgi ((0xFFFFFFFF:UInt32) ^^^ p);rw[this]at h2;rw[<-h2, <-this];rfl
 unfold wv;rw[<-e];rfl
end
section
variable {P:Program} {l:List Oper} {E:World->World->Prop} {Q:Act->World->Prop} {ord done hd:List Nat} {a:Act} {w:World} {k:Nat} {d:Option Tmp} {x y:Operand} {T T' ty:TypeId} {pos:String} {af:Array Edge} {g:Option (Nat × Bool)} {op:BinOp} {ops:Array Oper} {rest:List Oper} {QQ:Exit->Act->World->Prop}
theorem jsR{vx vy v:Value}(hx:a.eval x=vx)(hy:a.eval y=vy)(hg:(eqGuard op T x y vx vy).run P w=.ok () w)(hr:(binOp op T vx vy).run P w=.ok v w):(execOp a.eval ⟨d,.binOp op T x y T',ty,pos,af,g⟩).run P w=.ok (.value v) w:=by
 simp only[execOp,hx,hy,Sem.run_bind,Sem.run_pure,Result.andThen,hg,hr]
end
theorem jkm{P:Program}{o:Oper}{a:Act}{w:World}{K:Act->World->Prop}{Q:Exit->Act->World->Prop}{t:TypeId}{x y:Operand}(b i:Nat)(v:Value)(ho:o.op=.store t x y)(hx:a.eval x=.pointer (some ⟨b,i,none⟩))(hy:a.eval y=v)(hv:v.oneCell'=true)
  (hi:(P.info? t).map (·.size)=some 1) {old:Value} (hc:w.cell? ⟨b,i,none⟩=some old) (hf:w.frozen? ⟨b,i,none⟩=false) (h:K (a.put o.dst undef) (w.setCell ⟨b,i,none⟩ v)):o.wp P a w K Q:=by
 obtain⟨inf,hi1,hi2⟩:=Option.map_eq_some_iff.1 hi
 have hs:(storeCells ⟨b,i,none⟩ [v]).run P w=.ok () (w.setCell ⟨b,i,none⟩ v):=by
  rw[jlH,run_store P w _ v _ hv,hc,hf];rfl
 have hr:(Instr.storeAt t (.pointer (some ⟨b,i,none⟩)) v).run P w=.ok () (w.setCell ⟨b,i,none⟩ v):=by
  simp[Instr.storeAt,Instr.sureAddr,storeVar,Sem.run_bind,Result.andThen,jq7 hv,sizeOf,typeInfo,hi1,hi2,hs]
 unfold Oper.wp execOp;simp only[ho,hx,hy,Sem.run_bind,hr,Result.andThen,Sem.run_pure];exact h
theorem jfP(p q:UInt32):bits .or .u32 p.toNat q.toNat=((p ||| q).toNat:Int):=by
 unfold bits;rw[jc7,jc7];exact jgi (p ||| q)
theorem jfr(x:UInt32)(s n:Nat)(hs:s+n=32)(hn:0 < n)(hn2:n < 32):bits .or .u32 ((x.toNat:Int) * (2:Int) ^ s % (4294967296:Int)) ((x.toNat:Int) / (2:Int) ^ n)=((rotW x (UInt32.ofNat n)).toNat:Int):=by
 have e1:(x.toNat:Int) * (2:Int) ^ s % (4294967296:Int)=((x <<< (32 - UInt32.ofNat n)).toNat:Int):=by
  rw[UInt32.toNat_shiftLeft];have h1:(32 - UInt32.ofNat n).toNat=s:=by
   rw[UInt32.toNat_sub_of_le]
   ·rw[UInt32.toNat_ofNat'];show 32 - n % 2 ^ 32=s;omega
   ·rw[UInt32.le_iff_toNat_le,UInt32.toNat_ofNat'];show n % 2 ^ 32<=32;omega
  rw[h1,Nat.mod_eq_of_lt (show s < 32 by omega),Nat.shiftLeft_eq]
  simp
 have e2:(x.toNat:Int) / (2:Int) ^ n=((x >>> UInt32.ofNat n).toNat:Int):=by
  rw[UInt32.toNat_shiftRight];rw[UInt32.toNat_ofNat',Nat.mod_eq_of_lt (show n < 2 ^ 32 by omega),Nat.mod_eq_of_lt hn2,Nat.shiftRight_eq_div_pow]
  simp
 rw[e1,e2,jfP];rfl
theorem jxT(w:World)(x:UInt32):vQ 217 #[wv x,.int .i64 2] w fun e w'=>e=.returned (wv (rotW x 2))/\w=w':=by
 have e:bits BinOp.and .u64 (IntKind.u64.wrap (-2)) 31=30:=by decide +kernel
 have HR:=Hd (jfr x 30 2 vI vI vI);unfold wv;go_enter Tryz.func217,Tryz.ntmps217;go_wp2;go_ret;have h2:bits .or .u32 ((x.toNat:Int) * (1073741824:Int) % (4294967296:Int)) ((x.toNat:Int) / (4:Int))=((rotW x 2).toNat:Int):=HR.o
 exact⟨congrArg (fun z=>Ending.returned (Value.int .u32 z)) h2,rfl⟩
theorem jxU(w:World)(x:UInt32):vQ 217 #[wv x,.int .i64 6] w fun e w'=>e=.returned (wv (rotW x 6))/\w=w':=by
 have e:bits BinOp.and .u64 (IntKind.u64.wrap (-6)) 31=26:=by decide +kernel
 have HR:=Hd (jfr x 26 6 vI vI vI);unfold wv;go_enter Tryz.func217,Tryz.ntmps217;go_wp2;go_ret;have h2:bits .or .u32 ((x.toNat:Int) * (67108864:Int) % (4294967296:Int)) ((x.toNat:Int) / (64:Int))=((rotW x 6).toNat:Int):=HR.o
 exact⟨congrArg (fun z=>Ending.returned (Value.int .u32 z)) h2,rfl⟩
theorem jxV(w:World)(x:UInt32):vQ 217 #[wv x,.int .i64 7] w fun e w'=>e=.returned (wv (rotW x 7))/\w=w':=by
 have e:bits BinOp.and .u64 (IntKind.u64.wrap (-7)) 31=25:=by decide +kernel
 have HR:=Hd (jfr x 25 7 vI vI vI);unfold wv;go_enter Tryz.func217,Tryz.ntmps217;go_wp2;go_ret;have h2:bits .or .u32 ((x.toNat:Int) * (33554432:Int) % (4294967296:Int)) ((x.toNat:Int) / (128:Int))=((rotW x 7).toNat:Int):=HR.o
 exact⟨congrArg (fun z=>Ending.returned (Value.int .u32 z)) h2,rfl⟩
theorem jvR(w:World)(x:UInt32):vQ 217 #[wv x,.int .i64 11] w fun e w'=>e=.returned (wv (rotW x 11))/\w=w':=by
 have e:bits BinOp.and .u64 (IntKind.u64.wrap (-11)) 31=21:=by decide +kernel
 have HR:=Hd (jfr x 21 11 vI vI vI);unfold wv;go_enter Tryz.func217,Tryz.ntmps217;go_wp2;go_ret;have h2:bits .or .u32 ((x.toNat:Int) * (2097152:Int) % (4294967296:Int)) ((x.toNat:Int) / (2048:Int))=((rotW x 11).toNat:Int):=HR.o
 exact⟨congrArg (fun z=>Ending.returned (Value.int .u32 z)) h2,rfl⟩
theorem jvS(w:World)(x:UInt32):vQ 217 #[wv x,.int .i64 13] w fun e w'=>e=.returned (wv (rotW x 13))/\w=w':=by
 have e:bits BinOp.and .u64 (IntKind.u64.wrap (-13)) 31=19:=by decide +kernel
 have HR:=Hd (jfr x 19 13 vI vI vI);unfold wv;go_enter Tryz.func217,Tryz.ntmps217;go_wp2;go_ret;have h2:bits .or .u32 ((x.toNat:Int) * (524288:Int) % (4294967296:Int)) ((x.toNat:Int) / (8192:Int))=((rotW x 13).toNat:Int):=HR.o
 exact⟨congrArg (fun z=>Ending.returned (Value.int .u32 z)) h2,rfl⟩
theorem jvT(w:World)(x:UInt32):vQ 217 #[wv x,.int .i64 17] w fun e w'=>e=.returned (wv (rotW x 17))/\w=w':=by
 have e:bits BinOp.and .u64 (IntKind.u64.wrap (-17)) 31=15:=by decide +kernel
 have HR:=Hd (jfr x 15 17 vI vI vI);unfold wv;go_enter Tryz.func217,Tryz.ntmps217;go_wp2;go_ret;have h2:bits .or .u32 ((x.toNat:Int) * (32768:Int) % (4294967296:Int)) ((x.toNat:Int) / (131072:Int))=((rotW x 17).toNat:Int):=HR.o
 exact⟨congrArg (fun z=>Ending.returned (Value.int .u32 z)) h2,rfl⟩
theorem jvU(w:World)(x:UInt32):vQ 217 #[wv x,.int .i64 18] w fun e w'=>e=.returned (wv (rotW x 18))/\w=w':=by
 have e:bits BinOp.and .u64 (IntKind.u64.wrap (-18)) 31=14:=by decide +kernel
 have HR:=Hd (jfr x 14 18 vI vI vI);unfold wv;go_enter Tryz.func217,Tryz.ntmps217;go_wp2;go_ret;have h2:bits .or .u32 ((x.toNat:Int) * (16384:Int) % (4294967296:Int)) ((x.toNat:Int) / (262144:Int))=((rotW x 18).toNat:Int):=HR.o
 exact⟨congrArg (fun z=>Ending.returned (Value.int .u32 z)) h2,rfl⟩
theorem jvV(w:World)(x:UInt32):vQ 217 #[wv x,.int .i64 19] w fun e w'=>e=.returned (wv (rotW x 19))/\w=w':=by
 have e:bits BinOp.and .u64 (IntKind.u64.wrap (-19)) 31=13:=by decide +kernel
 have HR:=Hd (jfr x 13 19 vI vI vI);unfold wv;go_enter Tryz.func217,Tryz.ntmps217;go_wp2;go_ret;have h2:bits .or .u32 ((x.toNat:Int) * (8192:Int) % (4294967296:Int)) ((x.toNat:Int) / (524288:Int))=((rotW x 19).toNat:Int):=HR.o
 exact⟨congrArg (fun z=>Ending.returned (Value.int .u32 z)) h2,rfl⟩
theorem jvW(w:World)(x:UInt32):vQ 217 #[wv x,.int .i64 22] w fun e w'=>e=.returned (wv (rotW x 22))/\w=w':=by
 have e:bits BinOp.and .u64 (IntKind.u64.wrap (-22)) 31=10:=by decide +kernel
 have HR:=Hd (jfr x 10 22 vI vI vI);unfold wv;go_enter Tryz.func217,Tryz.ntmps217;go_wp2;go_ret;have h2:bits .or .u32 ((x.toNat:Int) * (1024:Int) % (4294967296:Int)) ((x.toNat:Int) / (4194304:Int))=((rotW x 22).toNat:Int):=HR.o
 exact⟨congrArg (fun z=>Ending.returned (Value.int .u32 z)) h2,rfl⟩
theorem jvX(w:World)(x:UInt32):vQ 217 #[wv x,.int .i64 25] w fun e w'=>e=.returned (wv (rotW x 25))/\w=w':=by
 have e:bits BinOp.and .u64 (IntKind.u64.wrap (-25)) 31=7:=by decide +kernel
 have HR:=Hd (jfr x 7 25 vI vI vI);unfold wv;go_enter Tryz.func217,Tryz.ntmps217;go_wp2;go_ret;have h2:bits .or .u32 ((x.toNat:Int) * (128:Int) % (4294967296:Int)) ((x.toNat:Int) / (33554432:Int))=((rotW x 25).toNat:Int):=HR.o
 exact⟨congrArg (fun z=>Ending.returned (Value.int .u32 z)) h2,rfl⟩
end
end Go.Proofs.YtcpnjmcipainpaaGreatDoor
