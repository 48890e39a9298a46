/- Lemmas; each is under no condition but those that it states. -/
import Derived.Test.YtegloohdmjadoaaGreatDoorPu6
import Derived.Test.YtegloohdmjadoaaGreatDoorPu7
import Derived.WalkSpells
namespace Go.Proofs.YtegloohdmjadoaaGreatDoor
set_option linter.unusedSimpArgs false
set_option linter.unusedVariables false
set_option maxRecDepth 100000
set_option maxHeartbeats 16000000
open Go Go.RowKit
def RdS(w:vW)(v:vV)(xs:vM):Prop:=
 (∃ a c,v=.slice a 0 c/\xs=[])\/∃ b o c,v=.slice (some ⟨b,o,none⟩) xs.length c/\b < w.heap.size/\xs.length<=c/\∀ (j:Nat) x,xs[j]?=some x->w.cell? ⟨b,o+j,none⟩=some (.string x)
theorem RdS.ext{w w':vW}{v:vV}{xs:vM}(h:RdS w v xs)(k:Ext w w'):RdS w' v xs:=by
 rcases h with h |⟨b,o,c,h1,h2,h3,h4⟩
 ·exact .inl h
 ·exact .inr ⟨b,o,c,h1,bJ h2 k.size,h3,fun j x e=>jaa (h4 j x e) k⟩
abbrev SRow(w0 w:vW)(v:vV)(n:Nat)(xs:vM):Prop:=ORow 9 1 w0 w v n (xs.map Value.string)
theorem SRow.rd{w0 w:vW}{v:vV}{n:Nat}{xs:vM}(h:SRow w0 w v n xs):RdS w v xs:=by
 have o:xs.length=n:=by have:=h.len;simpa using this
 obtain⟨_,⟨rfl,J⟩ |⟨g,e,A,rfl,K,E,H,O,Q⟩⟩:=h.own
 ·exact .inl ⟨none,0,rfl,bD vO⟩
 ·subst o
  refine .inr ⟨g,0,e,rfl,(dH.1 E).1,H,fun j x m=>?_⟩;have X:=(bO.1 m).1
  have:=h.own.cellAt j vO
  rw[cF,this,bV,m];rfl
def catB(xs:vM):vB:=⟨(xs.map (·.data.toList)).flatten.toArray⟩
def jba(xs:vM):vB:=jb7 192 (catB xs).size++catB xs
theorem joz:∀ (l:List (vN)),Lib.join l []=l.flatten
 | []=>rfl
 | x :: r=>by
  rw[Lib.join_cons];simp only[Lib.joinTail,cM,List.map_id',List.flatten_cons]
theorem jzg(w:vW)(v:vV)(xs:vM)(h:RdS w v xs)(hl:(catB xs).size<=1000000000)(hn:xs.length<=1000000000):vR 175 #[v,.string ⟨#[]⟩] w (.string (catB xs)):=by
 rcases h with⟨a,c,rfl,rfl⟩ |⟨b,o,c,rfl,m,h3,h4⟩
 ·exact (Tryz.strings_Join_none a c ⟨#[]⟩ w).mono fun e w' ⟨A,m⟩=>⟨by rw[A];rfl,by rw[m];exact ExtR w⟩
 ·have E:(Lib.join (xs.map (·.data.toList)) (⟨#[]⟩:vB).data.toList).length<=140737488355328:=by
   show (Lib.join (xs.map (·.data.toList)) []).length<=_;rw[joz];have:(xs.map (·.data.toList)).flatten.length=(catB xs).size:=by simp[catB,ByteArray.size]
   omega
  exact (Tryz.strings_Join b o c xs ⟨#[]⟩ w h4 m vO h3 E).mono fun e w' ⟨A,m⟩=>⟨by rw[A];show _=Ending.returned (.string ⟨(xs.map (·.data.toList)).flatten.toArray⟩);rw[show (⟨#[]⟩:vB).data.toList=[]from rfl,joz],jae.of_below m⟩
theorem jr8(w:vW)(v:vV)(xs:vM)(h:RdS w v xs)(hl:(catB xs).size<=1000000000)(hn:xs.length<=1000000000):vR 156 #[v] w (.string (jba xs)):=by
 have H:=Hd h;clear h;go_enter Tryz.func156,Tryz.ntmps156;go_wp2_with fail
 refine vC (jzg w v xs H.o hl hn) fun w1 m=>?_;go_wp2_with fail
 refine vC (jrV w1 192 (catB xs).size hl) fun E e=>?_;have A:=jel 192 (catB xs).size;go_wp2;go_ret
 exact⟨rfl,m.trans e⟩
def beN(l:vN):Nat:=l.foldl (fun n b=>n * 256+b.toNat) 0
theorem jj9(l:vN)(b:vU):beN (l++[b])=beN l * 256+b.toNat:=by simp[beN]
theorem jnY:∀ (m:vN) (a:Nat),a<=m.foldl (fun n b=>n * 256+b.toNat) a
 | [],_=>bM _
 | b :: m,a=>bG vO (jnY m (a * 256+b.toNat))
theorem jnZ(l m:vN):beN l<=beN (l++m):=by
 unfold beN;rw[dF];exact jnY m _
def lenB(s:vB)(to:Nat):Option Nat:=
 if s.size < to\/s.data.toList.getD 1 0=0 then none else
 if 55 < beN ((s.data.toList.take to).drop 1)/\beN ((s.data.toList.take to).drop 1)<=1048576 then some (beN ((s.data.toList.take to).drop 1))else none
theorem jdi{s:vB}{to n:Nat}(h:lenB s to=some n):to<=s.size/\s.data.toList.getD 1 0≠0/\beN ((s.data.toList.take to).drop 1)=n/\55 < n/\n<=1048576:=by
 unfold lenB at h;split at h
 ·cases h
 rename_i hc
 simp only[not_or,Nat.not_lt]at hc;split at h
 ·rename_i hn
  have:=bN h
  exact⟨hc.1,hc.2,this,by omega,by omega⟩
 ·cases h
theorem jsI(n:Nat)(b:vU)(hn:n<=1048576):bits .or .i64 ((n:Int) * 256) (b.toNat:Int)=((n * 256+b.toNat:Nat):Int):=by
 have hb:=b.toNat_lt;unfold bits;have e:BitVec.ofInt (IntKind.bits .i64) ((n:Int) * 256)=BitVec.ofNat 64 (n * 256):=by
  rw[show ((n:Int) * 256)=((n * 256:Nat):Int) by omega,BitVec.ofInt_natCast];rfl
 have m:BitVec.ofInt (IntKind.bits .i64) (b.toNat:Int)=BitVec.ofNat 64 b.toNat:=by rw[BitVec.ofInt_natCast];rfl
 simp only[e,m];have o:(BitVec.ofNat 64 (n * 256) ||| BitVec.ofNat 64 b.toNat).toNat=n * 256+b.toNat:=by
  rw[BitVec.toNat_or,BitVec.toNat_ofNat,BitVec.toNat_ofNat,fK vO,fK vO];rw[show n * 256=2 ^ 8 * n by omega,Nat.two_pow_add_eq_or_of_lt (by omega:b.toNat < 2 ^ 8)]
 show IntKind.i64.wrap ((BitVec.ofNat 64 (n * 256) ||| BitVec.ofNat 64 b.toNat).toNat:Int)=_;rw[o,IntKind.wrap_i64];omega
def jys(s:vB)(to:Nat)(n i:vV):Prop:=∃ k:Nat,1<=k/\k<=to/\i=.int .i64 k/\n=.int .i64 (beN ((s.data.toList.take k).drop 1))
theorem jfN(s:vB){k:Nat}(h1:1<=k)(h:k < s.size):(s.data.toList.take (k+1)).drop 1=(s.data.toList.take k).drop 1++[s[k]]:=by
 have e:k < s.data.toList.length:=by simpa using h
 rw[cS e,iE (by simp;omega)];rfl
theorem jhW(w:vW)(s:vB)(to n:Nat)(hs:s.size<=1000000000)(h2:2<=to)(h:lenB s to=some n):vQ 177 #[.string s,.int .i64 to] w fun e w'=>e=.returned (.tuple #[.int .i64 n,.nilIface])/\w=w':=by
 obtain⟨a3,h1,hn,a4,a5⟩:=jdi h
 have HN:=Hd hn;clear h hn;have hz:((s[1]'(by omega)).toNat:Int)≠0:=by
  intro hh;apply h1;rw[bC,bA (by simp;omega)]
  have:(s[1]'(by omega))=0:=dM.1 (by show _=0;omega)
  exact this
 have a6:(((s[1]'(by omega)).toNat:Int) == 0)=false:=by simpa using hz
 clear h1 hz;have c1:(1:Int) < (s.size:Int):=vO
 go_enter Tryz.func177,Tryz.ntmps177;go_wp2;go_loop [6,7] (fun m i=>jys s to m i) (fun _ i=>to - (intOf i).toNat)
 case atStart=>exact⟨1,bM _,by omega,rfl,by simp[beN]⟩
 case round =>
  obtain⟨k,Q,a7,rfl,rfl⟩:=hrel
  by_cases hlt:k < to
  ·have X:k < s.size:=vO
   have c2:(k:Int) < (s.size:Int):=vO
   have A:=jfN s Q X
   obtain⟨m,H⟩:=vE (beN ((s.data.toList.take k).drop 1))
   have J:beN ((s.data.toList.take (k+1)).drop 1)<=n:=by
    have h3:=jnZ ((s.data.toList.take (k+1)).drop 1) ((s.data.toList.take to).drop (k+1));have h4:(s.data.toList.take (k+1)).drop 1++(s.data.toList.take to).drop (k+1)=(s.data.toList.take to).drop 1:=by
     have e1:s.data.toList.take to=s.data.toList.take (k+1)++(s.data.toList.take to).drop (k+1):=by
      conv=>lhs;rw[<-cQ (k+1) (s.data.toList.take to)]
      rw[iL,iG vO]
     conv=>rhs;rw[e1]
     rw[iE (by simp;omega)]
    rw[h4]at h3
    have:=HN.o;omega
   have Z:m<=beN ((s.data.toList.take (k+1)).drop 1):=by rw[H,A];exact jnZ _ _
   have a0:m<=1048576:=vO
   have K:=jsI m s[k] a0;have O:bits BinOp.or .i64 ((m:Int) * 256) (wrap64 (s[k].toNat:Int))=((m * 256+s[k].toNat:Nat):Int):=by
    have hb:=s[k].toNat_lt;rw[<-K];congr 1;unfold wrap64;omega
   clear K;have e5:beN ((s.data.toList.take (k+1)).drop 1)=m * 256+s[k].toNat:=by rw[A,jj9, <-H]
   rw[e5]at J;have HM:=Hd H;have H5:=Hd e5;rw[<-H];clear H A Z e5
   obtain⟨m',E⟩:∃ m',m'=m * 256+s[k].toNat:=⟨_,rfl⟩
   rw[<-E]at O J;have a1:=Hd E;clear E;go_wp2;go_round
   case rel=>exact⟨k+1,by omega,by omega,by go_num,by rw[H5.o,a1.o]⟩
   case measure=>exact vJ
  ·have a2:k=to:=vO
   subst a2;rw[HN.o];go_wp2;go_ret2
   exact⟨rfl,rfl⟩
theorem jbe{s:vB}(h:0 < s.size):s.toList.isEmpty=false:=by
 rw[bL]
 obtain⟨⟨l⟩⟩:=s
 cases l with
 | nil=>exact absurd h (Nat.lt_irrefl 0)
 | cons _ _=>rfl
def jdF(s:vB)(r:Bool × Nat × Nat):vV:=.tuple #[.bool r.1,.string (s.extract r.2.1 (r.2.1+r.2.2)),.string (s.extract (r.2.1+r.2.2) s.size),.nilIface]
theorem jrB(w:vW)(s:vB)(hs:s.size<=1000000000)(h0:0 < s.size)(hc:(s[0].toNat:Int) < 128):vR 157 #[.string s] w (jdF s (false,0,1)):=by
 have E:(0:Int) < (s.size:Int):=vO
 have H:(1:Int)<=(s.size:Int):=vO
 have m:=jbe h0;go_enter Tryz.func157,Tryz.ntmps157;go_wp2_with fail
 refine jay [0,1,2,3,4,5,6,7] [] Ext ExtR ExtT vY vY vY ?_;iterate 8 refine vP ?_
 refine qE (fun w1 e=>?_);have A:=Hd ((jai w).trans e);clear e;go_wp2;exact bodyPost_ret (v:=jdF s (false,0,1)) (by simp[results,Tryz.results157,go_sem];rfl) rfl ⟨rfl,A.o⟩
theorem juj(w:vW)(s:vB)(n:Nat)(hs:s.size<=1000000000)(h0:0 < s.size)(hc2:(s[0].toNat:Int)=128+n)(hn:n<=55)(hle:1+n<=s.size)(h1:n≠1\/∃ h:1 < s.size,(128:Int)<=(s[1].toNat:Int)) :
  vR 157 #[.string s] w (jdF s (false,1,n)):=by
 have H:(0:Int) < (s.size:Int):=vO
 have J:(1:Int)<=(s.size:Int):=vO
 have K:¬(s[0].toNat:Int) < 128:=vO
 have O:(s[0].toNat:Int) < 192:=vO
 have Q:(n:Int)<=55:=vO
 have X:(n:Int)<=(s.size:Int) - 1:=vO
 have Z:(0:Int)<=1+(n:Int):=vO
 have c7:1+(n:Int)<=(s.size:Int):=vO
 have c8:(1:Int)<=1+(n:Int):=vO
 have c9:(1+(n:Int)).toNat=1+n:=vO
 have E:=jbe h0;have e1:(s[0].toNat:Int) - 128=(n:Int):=vO
 clear hc2;rcases h1 with h1 |⟨hs1,h1⟩
 ·have A:((n:Int) == 1)=false:=by simp;omega
  go_enter Tryz.func157,Tryz.ntmps157;go_wp2_with fail
  refine jay [0,1,2,3,4,5,6,7,8,9,10,11,12,13,14,15,16] [] Ext ExtR ExtT vY vY vY ?_;iterate 17 refine vP ?_
  refine qE (fun w1 e=>?_);have m:=Hd ((jai w).trans e);clear e;go_wp2;exact bodyPost_ret (v:=jdF s (false,1,n)) (by simp[results,Tryz.results157,go_sem];rfl) rfl ⟨rfl,m.o⟩
 ·have d0:(1:Int) < (s.size:Int):=vO
  have d1:¬(s[1].toNat:Int) < 128:=vO
  by_cases hq0:n=1
  ·have A:((n:Int) == 1)=true:=by simp;omega
   clear hq0;go_enter Tryz.func157,Tryz.ntmps157;go_wp2_with fail
   refine jay [0,1,2,3,4,5,6,7,8,9,10,11,12,13,14,15,16] [] Ext ExtR ExtT vY vY vY ?_;iterate 17 refine vP ?_
   refine qE (fun w1 e=>?_);have m:=Hd ((jai w).trans e);clear e;go_wp2;exact bodyPost_ret (v:=jdF s (false,1,n)) (by simp[results,Tryz.results157,go_sem];rfl) rfl ⟨rfl,m.o⟩
  ·have A:((n:Int) == 1)=false:=by simp;omega
   go_enter Tryz.func157,Tryz.ntmps157;go_wp2_with fail
   refine jay [0,1,2,3,4,5,6,7,8,9,10,11,12,13,14,15,16] [] Ext ExtR ExtT vY vY vY ?_;iterate 17 refine vP ?_
   refine qE (fun w1 e=>?_);have m:=Hd ((jai w).trans e);clear e;go_wp2;exact bodyPost_ret (v:=jdF s (false,1,n)) (by simp[results,Tryz.results157,go_sem];rfl) rfl ⟨rfl,m.o⟩
theorem juh(w:vW)(s:vB)(n:Nat)(hs:s.size<=1000000000)(h0:0 < s.size)(hc2:(s[0].toNat:Int)=192+n)(hn:n<=55)(hle:1+n<=s.size) :
  vR 157 #[.string s] w (jdF s (true,1,n)):=by
 have E:(0:Int) < (s.size:Int):=vO
 have H:(1:Int)<=(s.size:Int):=vO
 have J:¬(s[0].toNat:Int) < 128:=vO
 have K:¬(s[0].toNat:Int) < 192:=vO
 have O:(n:Int)<=55:=vO
 have Q:(n:Int)<=(s.size:Int) - 1:=vO
 have X:(0:Int)<=1+(n:Int):=vO
 have Z:1+(n:Int)<=(s.size:Int):=vO
 have c8:(1:Int)<=1+(n:Int):=vO
 have c9:(1+(n:Int)).toNat=1+n:=vO
 have m:=jbe h0;have e1:(s[0].toNat:Int) - 192=(n:Int):=vO
 clear hc2;go_enter Tryz.func157,Tryz.ntmps157;go_wp2_with fail
 refine jay [0,1,2,3,4,5,6,7,8,9,10,11,12,13,14,15,16] [] Ext ExtR ExtT vY vY vY ?_;iterate 17 refine vP ?_
 refine qE (fun w1 e=>?_);have A:=Hd ((jai w).trans e);clear e;go_wp2;exact bodyPost_ret (v:=jdF s (true,1,n)) (by simp[results,Tryz.results157,go_sem];rfl) rfl ⟨rfl,A.o⟩
theorem jrC(w:vW)(s:vB)(k n:Nat)(hs:s.size<=1000000000)(h0:0 < s.size)(hc2:(s[0].toNat:Int)=128+55+k)(hk:1<=k)(hk8:k<=8)(hL:lenB s (1+k)=some n)(hle:1+k+n<=s.size) :
  vR 157 #[.string s] w (jdF s (false,1+k,n)):=by
 obtain⟨K,_,_,O,Q⟩:=jdi hL
 have H:=Hd hL;clear hL
 obtain⟨f,A⟩:=vE (1+k)
 obtain⟨m,X⟩:=vE (55+k)
 have HF:=Hd A;have c0:(0:Int) < (s.size:Int):=vO
 have c1:(1:Int)<=(s.size:Int):=vO
 have c2:¬(s[0].toNat:Int) < 128:=vO
 have c3:(s[0].toNat:Int) < 192:=vO
 have c4:¬(m:Int)<=55:=vO
 have Z:(55:Int) < (m:Int):=vO
 have c5:(n:Int)<=(s.size:Int) - (f:Int):=vO
 have c6:(0:Int)<=(f:Int)+(n:Int):=vO
 have c7:(f:Int)+(n:Int)<=(s.size:Int):=vO
 have c8:(f:Int)<=(f:Int)+(n:Int):=vO
 have c9:((f:Int)+(n:Int)).toNat=f+n:=vO
 have hq:((n:Int) == 1)=false:=by simp;omega
 have a0:=jbe h0;have e1:(s[0].toNat:Int) - 128=(m:Int):=vO
 have e2:1+(m:Int) - 55=(f:Int):=vO
 have E:2<=f:=vO
 have a1:(m:Int)<=63:=vO
 have a2:(0:Int)<=(m:Int):=vO
 rw[<-A]at H;rw[<-A];clear hc2 A X;go_enter Tryz.func157,Tryz.ntmps157;go_wp2_with fail
 refine (jhW w s f n hs E H.o).mono ?_;rintro e w1 ⟨rfl,rfl⟩;go_wp2_with fail
 refine jay [0,1,2,3,4,5,6,7,8,9,10,11,12,13,14,15,16] [] Ext ExtR ExtT vY vY vY ?_;iterate 17 refine vP ?_
 refine qE (fun w1 J=>?_);have HE:=Hd ((jai w).trans J);clear J;go_wp2;exact bodyPost_ret (v:=jdF s (false,f,n)) (by simp[results,Tryz.results157,go_sem];rfl) rfl ⟨rfl,HE.o⟩
theorem jrA(w:vW)(s:vB)(k n:Nat)(hs:s.size<=1000000000)(h0:0 < s.size)(hc2:(s[0].toNat:Int)=192+55+k)(hk:1<=k)(hk8:k<=8)(hL:lenB s (1+k)=some n)(hle:1+k+n<=s.size) :
  vR 157 #[.string s] w (jdF s (true,1+k,n)):=by
 obtain⟨K,_,_,O,Q⟩:=jdi hL
 have H:=Hd hL;clear hL
 obtain⟨f,A⟩:=vE (1+k)
 obtain⟨m,X⟩:=vE (55+k)
 have HF:=Hd A;have c0:(0:Int) < (s.size:Int):=vO
 have c1:(1:Int)<=(s.size:Int):=vO
 have c2:¬(s[0].toNat:Int) < 128:=vO
 have c3:¬(s[0].toNat:Int) < 192:=vO
 have c4:¬(m:Int)<=55:=vO
 have Z:(55:Int) < (m:Int):=vO
 have c5:(n:Int)<=(s.size:Int) - (f:Int):=vO
 have c6:(0:Int)<=(f:Int)+(n:Int):=vO
 have c7:(f:Int)+(n:Int)<=(s.size:Int):=vO
 have c8:(f:Int)<=(f:Int)+(n:Int):=vO
 have c9:((f:Int)+(n:Int)).toNat=f+n:=vO
 have hq:((n:Int) == 1)=false:=by simp;omega
 have a0:=jbe h0;have e1:(s[0].toNat:Int) - 192=(m:Int):=vO
 have e2:1+(m:Int) - 55=(f:Int):=vO
 have E:2<=f:=vO
 have a1:(m:Int)<=63:=vO
 have a2:(0:Int)<=(m:Int):=vO
 rw[<-A]at H;rw[<-A];clear hc2 A X;go_enter Tryz.func157,Tryz.ntmps157;go_wp2_with fail
 refine (jhW w s f n hs E H.o).mono ?_;rintro e w1 ⟨rfl,rfl⟩;go_wp2_with fail
 refine jay [0,1,2,3,4,5,6,7,8,9,10,11,12,13,14,15,16] [] Ext ExtR ExtT vY vY vY ?_;iterate 17 refine vP ?_
 refine qE (fun w1 J=>?_);have HE:=Hd ((jai w).trans J);clear J;go_wp2;exact bodyPost_ret (v:=jdF s (true,f,n)) (by simp[results,Tryz.results157,go_sem];rfl) rfl ⟨rfl,HE.o⟩
end Go.Proofs.YtegloohdmjadoaaGreatDoor
