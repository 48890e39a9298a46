/- Lemmas; each is under no condition but those that it states. -/
import Derived.Test.YtfjmkebdhojanaaGreatDoorPt4
import Derived.Test.YtfjmkebdhojanaaGreatDoorPt5
import Derived.WalkSpells
namespace Go.Proofs.YtfjmkebdhojanaaGreatDoor
set_option linter.unusedSimpArgs false
set_option linter.unusedVariables false
set_option maxRecDepth 100000
set_option maxHeartbeats 16000000
section
open Go Go.RowKit
def RdS(w:vW)(v:vV)(xs:vM):Prop:=
 (∃ a c,v=.slice a 0 c/\xs=[])\/∃ b o c,v=.slice (some ⟨b,o,none⟩) xs.length c/\b < w.heap.size/\xs.length<=c/\∀ (j:Nat) x,xs[j]?=some x->w.cell? ⟨b,o+j,none⟩=some (.string x)
theorem RdS.ext{w w':vW}{v:vV}{xs:vM}(h:RdS w v xs)(k:Ext w w'):RdS w' v xs:=by
 rcases h with h |⟨b,o,c,h1,h2,h3,h4⟩
 ·exact .inl h
 ·exact .inr ⟨b,o,c,h1,bQ h2 k.size,h3,fun j x e=>jaa (h4 j x e) k⟩
abbrev SRow(w0 w:vW)(v:vV)(n:Nat)(xs:vM):Prop:=ORow 9 1 w0 w v n (xs.map Value.string)
theorem SRow.rd{w0 w:vW}{v:vV}{n:Nat}{xs:vM}(h:SRow w0 w v n xs):RdS w v xs:=by
 have A:xs.length=n:=by have:=h.len;simpa using this
 obtain⟨_,⟨rfl,K⟩ |⟨g,e,E,rfl,O,H,J,Q,X⟩⟩:=h.own
 ·exact .inl ⟨none,0,rfl,bE vO⟩
 ·subst A
  refine .inr ⟨g,0,e,rfl,(dJ.1 H).1,J,fun j x o=>?_⟩;have Z:=(bP.1 o).1
  have:=h.own.cellAt j vO
  rw[cH,this,bX,o];rfl
def catB(xs:vM):vB:=⟨(xs.map (·.data.toList)).flatten.toArray⟩
def ja7(xs:vM):vB:=jb9 192 (catB xs).size++catB xs
theorem jpi:∀ (l:List (vN)),Lib.join l []=l.flatten
 | []=>rfl
 | x :: r=>by
  rw[Lib.join_cons];simp only[Lib.joinTail,cT,List.map_id',List.flatten_cons]
theorem jzW(w:vW)(v:vV)(xs:vM)(h:RdS w v xs)(hl:(catB xs).size<=1000000000)(hn:xs.length<=1000000000):vR 175 #[v,.string ⟨#[]⟩] w (.string (catB xs)):=by
 rcases h with⟨a,c,rfl,rfl⟩ |⟨b,o,c,rfl,A,h3,h4⟩
 ·exact (Tryz.strings_Join_none a c ⟨#[]⟩ w).mono fun e w' ⟨E,A⟩=>⟨by rw[E];rfl,by rw[A];exact ExtR w⟩
 ·have H:(Lib.join (xs.map (·.data.toList)) (⟨#[]⟩:vB).data.toList).length<=140737488355328:=by
   show (Lib.join (xs.map (·.data.toList)) []).length<=_;rw[jpi];have:(xs.map (·.data.toList)).flatten.length=(catB xs).size:=by simp[catB,ByteArray.size]
   omega
  exact (Tryz.strings_Join b o c xs ⟨#[]⟩ w h4 A vO h3 H).mono fun e w' ⟨E,A⟩=>⟨by rw[E];show _=Ending.returned (.string ⟨(xs.map (·.data.toList)).flatten.toArray⟩);rw[show (⟨#[]⟩:vB).data.toList=[]from rfl,jpi],jae.of_below A⟩
theorem jsL(w:vW)(v:vV)(xs:vM)(h:RdS w v xs)(hl:(catB xs).size<=1000000000)(hn:xs.length<=1000000000):vR 162 #[v] w (.string (ja7 xs)):=by
 have H:=Hd h;clear h;unfold vR vQ;go_in;go_wp2_with fail
 refine vC (jzW w v xs H.o hl hn) fun w1 A=>?_;go_wp2_with fail
 refine vC (jst w1 192 (catB xs).size hl) fun J e=>?_;have E:=jer 192 (catB xs).size;go_wp2;go_ret
 exact⟨rfl,A.trans e⟩
def beN(l:vN):Nat:=l.foldl (fun n b=>n * 256+b.toNat) 0
theorem jkr(l:vN)(b:vU):beN (l++[b])=beN l * 256+b.toNat:=by simp[beN]
theorem joF:∀ (m:vN) (a:Nat),a<=m.foldl (fun n b=>n * 256+b.toNat) a
 | [],_=>bL _
 | b :: m,a=>bJ vO (joF m (a * 256+b.toNat))
theorem joG(l m:vN):beN l<=beN (l++m):=by
 unfold beN;rw[dU];exact joF m _
def lenB(s:vB)(to:Nat):Option Nat:=
 if s.size < to\/s.data.toList.getD 1 0=0 then none else
 if 55 < beN ((s.data.toList.take to).drop 1)/\beN ((s.data.toList.take to).drop 1)<=1048576 then some (beN ((s.data.toList.take to).drop 1))else none
theorem jdk{s:vB}{to n:Nat}(h:lenB s to=some n):to<=s.size/\s.data.toList.getD 1 0≠0/\beN ((s.data.toList.take to).drop 1)=n/\55 < n/\n<=1048576:=by
 unfold lenB at h;split at h
 ·cases h
 rename_i hc
 simp only[not_or,Nat.not_lt]at hc;split at h
 ·rename_i hn
  have:=bO h
  exact⟨hc.1,hc.2,this,by omega,by omega⟩
 ·cases h
theorem jtj(n:Nat)(b:vU)(hn:n<=1048576):bits .or .i64 ((n:Int) * 256) (b.toNat:Int)=((n * 256+b.toNat:Nat):Int):=by
 have hb:=b.toNat_lt;unfold bits;have e:BitVec.ofInt (IntKind.bits .i64) ((n:Int) * 256)=BitVec.ofNat 64 (n * 256):=by
  rw[show ((n:Int) * 256)=((n * 256:Nat):Int) by omega,BitVec.ofInt_natCast];rfl
 have o:BitVec.ofInt (IntKind.bits .i64) (b.toNat:Int)=BitVec.ofNat 64 b.toNat:=by rw[BitVec.ofInt_natCast];rfl
 simp only[e,o];have A:(BitVec.ofNat 64 (n * 256) ||| BitVec.ofNat 64 b.toNat).toNat=n * 256+b.toNat:=by
  rw[BitVec.toNat_or,BitVec.toNat_ofNat,BitVec.toNat_ofNat,fT vO,fT vO];rw[show n * 256=2 ^ 8 * n by omega,Nat.two_pow_add_eq_or_of_lt (by omega:b.toNat < 2 ^ 8)]
 show IntKind.i64.wrap ((BitVec.ofNat 64 (n * 256) ||| BitVec.ofNat 64 b.toNat).toNat:Int)=_;rw[A,IntKind.wrap_i64];omega
def jy5(s:vB)(to:Nat)(n i:vV):Prop:=∃ k:Nat,1<=k/\k<=to/\i=.int .i64 k/\n=.int .i64 (beN ((s.data.toList.take k).drop 1))
theorem jf0(s:vB){k:Nat}(h1:1<=k)(h:k < s.size):(s.data.toList.take (k+1)).drop 1=(s.data.toList.take k).drop 1++[s[k]]:=by
 have e:k < s.data.toList.length:=by simpa using h
 rw[cX e,List.drop_append_of_le_length (by simp;omega)];rfl
theorem jh2(w:vW)(s:vB)(to n:Nat)(hs:s.size<=1000000000)(h2:2<=to)(h:lenB s to=some n):vQ 177 #[.string s,.int .i64 to] w fun e w'=>e=.returned (.tuple #[.int .i64 n,.nilIface])/\w=w':=by
 obtain⟨a3,h1,hn,a4,a5⟩:=jdk h
 have HN:=Hd hn;clear h hn;have hz:((s[1]'(by omega)).toNat:Int)≠0:=by
  intro hh;apply h1;rw[bH,bA (by simp;omega)]
  have:(s[1]'(by omega))=0:=dS.1 (by show _=0;omega)
  exact this
 have a6:(((s[1]'(by omega)).toNat:Int) == 0)=false:=by simpa using hz
 clear h1 hz;have c1:(1:Int) < (s.size:Int):=vO
 unfold vQ;go_in;go_wp2;go_loop [6,7] (fun m i=>jy5 s to m i) (fun _ i=>to - (intOf i).toNat)
 case atStart=>exact⟨1,bL _,by omega,rfl,by simp[beN]⟩
 case round =>
  obtain⟨k,Q,a7,rfl,rfl⟩:=hrel
  by_cases hlt:k < to
  ·have X:k < s.size:=vO
   have c2:(k:Int) < (s.size:Int):=vO
   have A:=jf0 s Q X
   obtain⟨m,H⟩:=vE (beN ((s.data.toList.take k).drop 1))
   have J:beN ((s.data.toList.take (k+1)).drop 1)<=n:=by
    have h3:=joG ((s.data.toList.take (k+1)).drop 1) ((s.data.toList.take to).drop (k+1));have h4:(s.data.toList.take (k+1)).drop 1++(s.data.toList.take to).drop (k+1)=(s.data.toList.take to).drop 1:=by
     have e1:s.data.toList.take to=s.data.toList.take (k+1)++(s.data.toList.take to).drop (k+1):=by
      conv=>lhs;rw[<-cV (k+1) (s.data.toList.take to)]
      rw[List.take_take,jA vO]
     conv=>rhs;rw[e1]
     rw[List.drop_append_of_le_length (by simp;omega)]
    rw[h4]at h3
    have:=HN.o;omega
   have Z:m<=beN ((s.data.toList.take (k+1)).drop 1):=by rw[H,A];exact joG _ _
   have a0:m<=1048576:=vO
   have K:=jtj m s[k] a0;have O:bits BinOp.or .i64 ((m:Int) * 256) (wrap64 (s[k].toNat:Int))=((m * 256+s[k].toNat:Nat):Int):=by
    have hb:=s[k].toNat_lt;rw[<-K];congr 1;unfold wrap64;omega
   clear K;have e5:beN ((s.data.toList.take (k+1)).drop 1)=m * 256+s[k].toNat:=by rw[A,jkr, <-H]
   rw[e5]at J;have HM:=Hd H;have H5:=Hd e5;rw[<-H];clear H A Z e5
   obtain⟨m',E⟩:∃ m',m'=m * 256+s[k].toNat:=⟨_,rfl⟩
   rw[<-E]at O J;have a1:=Hd E;clear E;go_wp2;go_round
   case rel=>exact⟨k+1,by omega,by omega,by go_num,by rw[H5.o,a1.o]⟩
   case measure=>exact vJ
  ·have a2:k=to:=vO
   subst a2;rw[HN.o];go_wp2;go_ret2
   exact⟨rfl,rfl⟩
theorem jbe{s:vB}(h:0 < s.size):s.toList.isEmpty=false:=by
 rw[bR]
 obtain⟨⟨l⟩⟩:=s
 cases l with
 | nil=>exact absurd h (Nat.lt_irrefl 0)
 | cons _ _=>rfl
def jdK(s:vB)(r:Bool × Nat × Nat):vV:=.tuple #[.bool r.1,.string (s.extract r.2.1 (r.2.1+r.2.2)),.string (s.extract (r.2.1+r.2.2) s.size),.nilIface]
theorem jr6(w:vW)(s:vB)(hs:s.size<=1000000000)(h0:0 < s.size)(hc:(s[0].toNat:Int) < 128):vR 163 #[.string s] w (jdK s (false,0,1)):=by
 have H:(0:Int) < (s.size:Int):=vO
 have J:(1:Int)<=(s.size:Int):=vO
 have A:=jbe h0;unfold vR vQ;go_in;go_wp2_with fail
 refine jay [0,1,2,3,4,5,6,7] [] Ext ExtR ExtT vY vY vY ?_;iterate 8 refine vP ?_
 refine qE (fun w1 e=>?_);have E:=Hd ((jai w).trans e);clear e;go_wp2;exact bodyPost_ret (v:=jdK s (false,0,1)) (by simp[results,Tryz.results163,go_sem];rfl) rfl ⟨rfl,E.o⟩
theorem juZ(w:vW)(s:vB)(n:Nat)(hs:s.size<=1000000000)(h0:0 < s.size)(hc2:(s[0].toNat:Int)=128+n)(hn:n<=55)(hle:1+n<=s.size)(h1:n≠1\/∃ h:1 < s.size,(128:Int)<=(s[1].toNat:Int)) :
  vR 163 #[.string s] w (jdK s (false,1,n)):=by
 have J:(0:Int) < (s.size:Int):=vO
 have K:(1:Int)<=(s.size:Int):=vO
 have O:¬(s[0].toNat:Int) < 128:=vO
 have Q:(s[0].toNat:Int) < 192:=vO
 have X:(n:Int)<=55:=vO
 have Z:(n:Int)<=(s.size:Int) - 1:=vO
 have c6:(0:Int)<=1+(n:Int):=vO
 have c7:1+(n:Int)<=(s.size:Int):=vO
 have c8:(1:Int)<=1+(n:Int):=vO
 have c9:(1+(n:Int)).toNat=1+n:=vO
 have H:=jbe h0;have e1:(s[0].toNat:Int) - 128=(n:Int):=vO
 clear hc2;rcases h1 with h1 |⟨hs1,h1⟩
 ·have E:((n:Int) == 1)=false:=by simp;omega
  go_enter Tryz.func163,Tryz.ntmps163;go_wp2_with fail
  refine jay [0,1,2,3,4,5,6,7,8,9,10,11,12,13,14,15,16] [] Ext ExtR ExtT vY vY vY ?_;iterate 17 refine vP ?_
  refine qE (fun w1 e=>?_);have A:=Hd ((jai w).trans e);clear e;go_wp2;exact bodyPost_ret (v:=jdK s (false,1,n)) (by simp[results,Tryz.results163,go_sem];rfl) rfl ⟨rfl,A.o⟩
 ·have d0:(1:Int) < (s.size:Int):=vO
  have d1:¬(s[1].toNat:Int) < 128:=vO
  by_cases hq0:n=1
  ·have E:((n:Int) == 1)=true:=by simp;omega
   clear hq0;go_enter Tryz.func163,Tryz.ntmps163;go_wp2_with fail
   refine jay [0,1,2,3,4,5,6,7,8,9,10,11,12,13,14,15,16] [] Ext ExtR ExtT vY vY vY ?_;iterate 17 refine vP ?_
   refine qE (fun w1 e=>?_);have A:=Hd ((jai w).trans e);clear e;go_wp2;exact bodyPost_ret (v:=jdK s (false,1,n)) (by simp[results,Tryz.results163,go_sem];rfl) rfl ⟨rfl,A.o⟩
  ·have E:((n:Int) == 1)=false:=by simp;omega
   go_enter Tryz.func163,Tryz.ntmps163;go_wp2_with fail
   refine jay [0,1,2,3,4,5,6,7,8,9,10,11,12,13,14,15,16] [] Ext ExtR ExtT vY vY vY ?_;iterate 17 refine vP ?_
   refine qE (fun w1 e=>?_);have A:=Hd ((jai w).trans e);clear e;go_wp2;exact bodyPost_ret (v:=jdK s (false,1,n)) (by simp[results,Tryz.results163,go_sem];rfl) rfl ⟨rfl,A.o⟩
theorem juX(w:vW)(s:vB)(n:Nat)(hs:s.size<=1000000000)(h0:0 < s.size)(hc2:(s[0].toNat:Int)=192+n)(hn:n<=55)(hle:1+n<=s.size) :
  vR 163 #[.string s] w (jdK s (true,1,n)):=by
 have H:(0:Int) < (s.size:Int):=vO
 have J:(1:Int)<=(s.size:Int):=vO
 have K:¬(s[0].toNat:Int) < 128:=vO
 have O:¬(s[0].toNat:Int) < 192:=vO
 have Q:(n:Int)<=55:=vO
 have X:(n:Int)<=(s.size:Int) - 1:=vO
 have Z:(0:Int)<=1+(n:Int):=vO
 have c7:1+(n:Int)<=(s.size:Int):=vO
 have c8:(1:Int)<=1+(n:Int):=vO
 have c9:(1+(n:Int)).toNat=1+n:=vO
 have A:=jbe h0;have e1:(s[0].toNat:Int) - 192=(n:Int):=vO
 clear hc2;go_enter Tryz.func163,Tryz.ntmps163;go_wp2_with fail
 refine jay [0,1,2,3,4,5,6,7,8,9,10,11,12,13,14,15,16] [] Ext ExtR ExtT vY vY vY ?_;iterate 17 refine vP ?_
 refine qE (fun w1 e=>?_);have E:=Hd ((jai w).trans e);clear e;go_wp2;exact bodyPost_ret (v:=jdK s (true,1,n)) (by simp[results,Tryz.results163,go_sem];rfl) rfl ⟨rfl,E.o⟩
theorem jr7(w:vW)(s:vB)(k n:Nat)(hs:s.size<=1000000000)(h0:0 < s.size)(hc2:(s[0].toNat:Int)=128+55+k)(hk:1<=k)(hk8:k<=8)(hL:lenB s (1+k)=some n)(hle:1+k+n<=s.size) :
  vR 163 #[.string s] w (jdK s (false,1+k,n)):=by
 obtain⟨K,_,_,O,Q⟩:=jdk hL
 have H:=Hd hL;clear hL
 obtain⟨f,A⟩:=vE (1+k)
 obtain⟨m,X⟩:=vE (55+k)
 have HF:=Hd A;have c0:(0:Int) < (s.size:Int):=vO
 have c1:(1:Int)<=(s.size:Int):=vO
 have c2:¬(s[0].toNat:Int) < 128:=vO
 have c3:(s[0].toNat:Int) < 192:=vO
 have c4:¬(m:Int)<=55:=vO
 have Z:(55:Int) < (m:Int):=vO
 have c5:(n:Int)<=(s.size:Int) - (f:Int):=vO
 have c6:(0:Int)<=(f:Int)+(n:Int):=vO
 have c7:(f:Int)+(n:Int)<=(s.size:Int):=vO
 have c8:(f:Int)<=(f:Int)+(n:Int):=vO
 have c9:((f:Int)+(n:Int)).toNat=f+n:=vO
 have hq:((n:Int) == 1)=false:=by simp;omega
 have a0:=jbe h0;have e1:(s[0].toNat:Int) - 128=(m:Int):=vO
 have e2:1+(m:Int) - 55=(f:Int):=vO
 have E:2<=f:=vO
 have a1:(m:Int)<=63:=vO
 have a2:(0:Int)<=(m:Int):=vO
 rw[<-A]at H;rw[<-A];clear hc2 A X;go_enter Tryz.func163,Tryz.ntmps163;go_wp2_with fail
 refine (jh2 w s f n hs E H.o).mono ?_;rintro e w1 ⟨rfl,rfl⟩;go_wp2_with fail
 refine jay [0,1,2,3,4,5,6,7,8,9,10,11,12,13,14,15,16] [] Ext ExtR ExtT vY vY vY ?_;iterate 17 refine vP ?_
 refine qE (fun w1 J=>?_);have HE:=Hd ((jai w).trans J);clear J;go_wp2;exact bodyPost_ret (v:=jdK s (false,f,n)) (by simp[results,Tryz.results163,go_sem];rfl) rfl ⟨rfl,HE.o⟩
theorem jr5(w:vW)(s:vB)(k n:Nat)(hs:s.size<=1000000000)(h0:0 < s.size)(hc2:(s[0].toNat:Int)=192+55+k)(hk:1<=k)(hk8:k<=8)(hL:lenB s (1+k)=some n)(hle:1+k+n<=s.size) :
  vR 163 #[.string s] w (jdK s (true,1+k,n)):=by
 obtain⟨K,_,_,O,Q⟩:=jdk hL
 have H:=Hd hL;clear hL
 obtain⟨f,A⟩:=vE (1+k)
 obtain⟨m,X⟩:=vE (55+k)
 have HF:=Hd A;have c0:(0:Int) < (s.size:Int):=vO
 have c1:(1:Int)<=(s.size:Int):=vO
 have c2:¬(s[0].toNat:Int) < 128:=vO
 have c3:¬(s[0].toNat:Int) < 192:=vO
 have c4:¬(m:Int)<=55:=vO
 have Z:(55:Int) < (m:Int):=vO
 have c5:(n:Int)<=(s.size:Int) - (f:Int):=vO
 have c6:(0:Int)<=(f:Int)+(n:Int):=vO
 have c7:(f:Int)+(n:Int)<=(s.size:Int):=vO
 have c8:(f:Int)<=(f:Int)+(n:Int):=vO
 have c9:((f:Int)+(n:Int)).toNat=f+n:=vO
 have hq:((n:Int) == 1)=false:=by simp;omega
 have a0:=jbe h0;have e1:(s[0].toNat:Int) - 192=(m:Int):=vO
 have e2:1+(m:Int) - 55=(f:Int):=vO
 have E:2<=f:=vO
 have a1:(m:Int)<=63:=vO
 have a2:(0:Int)<=(m:Int):=vO
 rw[<-A]at H;rw[<-A];clear hc2 A X;go_enter Tryz.func163,Tryz.ntmps163;go_wp2_with fail
 refine (jh2 w s f n hs E H.o).mono ?_;rintro e w1 ⟨rfl,rfl⟩;go_wp2_with fail
 refine jay [0,1,2,3,4,5,6,7,8,9,10,11,12,13,14,15,16] [] Ext ExtR ExtT vY vY vY ?_;iterate 17 refine vP ?_
 refine qE (fun w1 J=>?_);have HE:=Hd ((jai w).trans J);clear J;go_wp2;exact bodyPost_ret (v:=jdK s (true,f,n)) (by simp[results,Tryz.results163,go_sem];rfl) rfl ⟨rfl,HE.o⟩
def cutN(s:vB):Option (Bool × Nat × Nat):=
 if h:0 < s.size then
  let b:=s[0].toNat
  if b < 128 then some (false,0,1)
  else
   let (l,m):=if b < 192 then (false,b - 128)else (true,b - 192)
   if m<=55 then
    if 1+m<=s.size/\(l=true\/m≠1\/128<=(s.data.toList.getD 1 0).toNat)then some (l,1,m)else none
   else match lenB s (1+(m - 55))with
    | some n=>if 1+(m - 55)+n<=s.size then some (l,1+(m - 55),n)else none
    | none=>none
 else none
theorem jzC(w:vW)(s:vB)(r:Bool × Nat × Nat)(hs:s.size<=1000000000)(h:cutN s=some r):vR 163 #[.string s] w (jdK s r):=by
 unfold cutN at h
 by_cases h0:0 < s.size
 ·rw[dif_pos h0]at h
  simp only at h;have hb:=s[0].toNat_lt
  by_cases h1:s[0].toNat < 128
  ·rw[if_pos h1]at h
   cases h;exact jr6 w s hs h0 vO
  ·rw[if_neg h1]at h
   by_cases h2:s[0].toNat < 192
   ·rw[if_pos h2]at h
    simp only at h
    by_cases h3:s[0].toNat - 128<=55
    ·rw[if_pos h3]at h
     split at h
     ·rename_i hc
      cases h;refine juZ w s (s[0].toNat - 128) hs h0 vO h3 hc.1 ?_;rcases hc.2 with hc | hc | hc
      ·cases hc
      ·exact .inl hc
      ·have e:1 < s.size:=by
        rcases fQ 1 s.size with h | h
        ·exact h
        ·rw[bH,jC (by simpa using h)]at hc
         exact absurd hc vI
       refine .inr ⟨e,?_⟩;rw[bH,bA (by simpa using e)]at hc;have o:128<=(s[1]'e).toNat:=hc;omega
     ·cases h
    ·rw[if_neg h3]at h
     split at h
     ·rename_i n hl
      split at h
      ·rename_i hc
       cases h;exact jr7 w s (s[0].toNat - 128 - 55) n hs h0 vO vO vO hl hc
      ·cases h
     ·cases h
   ·rw[if_neg h2]at h
    simp only at h
    by_cases h3:s[0].toNat - 192<=55
    ·rw[if_pos h3]at h
     split at h
     ·rename_i hc
      cases h;exact juX w s (s[0].toNat - 192) hs h0 vO h3 hc.1
     ·cases h
    ·rw[if_neg h3]at h
     split at h
     ·rename_i n hl
      split at h
      ·rename_i hc
       cases h;exact jr5 w s (s[0].toNat - 192 - 55) n hs h0 vO vO vO hl hc
      ·cases h
     ·cases h
 ·rw[dif_neg h0]at h;cases h
theorem jzV(w:vW):vQ 20 #[.nilIface,.iface 28 (.int .i64 2)] w fun e w'=>e=.returned (.bool false)/\w=w':=by
 have o:∀ w,(binOp .eql 55 .nilIface (.iface 28 (.int .i64 2))).run Tryz.prog w=.ok (.bool false) w:=fun w=>by kernel_rfl
 unfold vQ;go_in;go_wp2_with fail
 go_ret
 exact⟨rfl,rfl⟩
theorem jot(w:vW)(s:vB)(r:Bool × Nat × Nat)(hs:s.size<=1000000000)(h:cutN s=some r):vR 143 #[.string s] w (.tuple #[.bool r.1,.string (s.extract r.2.1 (r.2.1+r.2.2)),.string (s.extract (r.2.1+r.2.2) s.size),.int .i64 0]):=by
 unfold vR vQ;go_in;go_wp2_with fail
 refine vH (jzC w s r hs h) fun w1 H=>?_;unfold jdK
 obtain⟨x,A⟩:=vE (s.extract r.2.1 (r.2.1+r.2.2))
 obtain⟨y,E⟩:∃ x,x=s.extract (r.2.1+r.2.2) s.size:=⟨_,rfl⟩
 rw[<-A, <-E]
 obtain⟨l,p⟩:=r
 have J:=Hd A;have K:=Hd E;clear h A E hs;simp only;go_wp2_with fail
 refine (jzV w1).mono ?_;rintro e O ⟨rfl,rfl⟩;go_wp2_with fail
 exact bodyPost_ret (v:=.tuple #[.bool l,.string x,.string y,.int .i64 0]) vY rfl ⟨by rw[J.o,K.o],H.o⟩
end
section
open Go Go.RowKit
theorem Tryz.uU32:Tryz.prog.underlying 119=some (.int .u32):=vY
theorem Tryz.iU32:(Tryz.prog.info? 119).map (·.size)=some 1:=vY
def addW(p q:UInt32):UInt32:=p+q
def xorW(p q:UInt32):UInt32:=p ^^^ q
def andW(p q:UInt32):UInt32:=p &&& q
def notW(p:UInt32):UInt32 := ~~~ p
def shrW(p:UInt32)(n:UInt32):UInt32:=p >>> n
def rotW(p:UInt32)(n:UInt32):UInt32:=(p <<< (32 - n)) |||(p >>> n)
def wv(p:UInt32):vV:=.int .u32 (p.toNat:Int)
theorem jdn(a:UInt32):BitVec.ofInt (IntKind.bits .u32) (a.toNat:Int)=a.toBitVec:=by
 show BitVec.ofInt 32 ((a.toNat:Nat):Int)=_;rw[BitVec.ofInt_natCast];simp
theorem jgY(a:UInt32):IntKind.u32.wrap (a.toNat:Int)=a.toNat:=by rw[IntKind.wrap_u32];have:=a.toNat_lt;omega
section
variable {P:Program} {w:vW} {T:TypeId} {p q:UInt32}
theorem jli:(binOp .add T (wv p) (wv q)).run P w=.ok (wv (addW p q)) w:=by
 have e:IntKind.u32.wrap ((p.toNat:Int)+(q.toNat:Int))=((addW p q).toNat:Int):=by
  rw[IntKind.wrap_u32,addW,UInt32.toNat_add];omega
 unfold wv;rw[<-e];rfl
theorem jlk:(binOp .xor T (wv p) (wv q)).run P w=.ok (wv (xorW p q)) w:=by
 have e:bits .xor .u32 p.toNat q.toNat=((xorW p q).toNat:Int):=by
  unfold bits;rw[jdn,jdn];exact jgY (p ^^^ q)
 unfold wv;rw[<-e];rfl
theorem jpR:(binOp .and T (wv p) (wv q)).run P w=.ok (wv (andW p q)) w:=by
 have e:bits .and .u32 p.toNat q.toNat=((andW p q).toNat:Int):=by
  unfold bits;rw[jdn,jdn];exact jgY (p &&& q)
 unfold wv;rw[<-e];rfl
theorem jdd(n:Nat)(hn:n < 32)(k:IntKind):(binOp .shr T (wv p) (.int k n)).run P w=.ok (wv (shrW p (UInt32.ofNat n))) w:=by
 have e:((shrW p (UInt32.ofNat n)).toNat:Int)=(p.toNat:Int).fdiv (2 ^ n):=by
  unfold shrW;rw[UInt32.toNat_shiftRight,gJ,fT (show n < 2 ^ 32 by omega),fT hn,Nat.shiftRight_eq_div_pow];rw[Int.fdiv_eq_ediv_of_nonneg _ (by exact_mod_cast cD (2 ^ n))]
  simp
 unfold wv;rw[e];show (Op.shift .shr .u32 (p.toNat:Int) k (n:Int)).run P w=_;unfold Op.shift;rw[if_neg vO];have h:min (n:Int).toNat (IntKind.bits .u32)=n:=by show min (n:Int).toNat 32=n;omega
 simp only[h];rfl
theorem jpT:(Op.unary .xor (wv p)).run P w=.ok (wv (notW p)) w:=by
 have e:bits .xor .u32 (IntKind.max .u32) p.toNat=((notW p).toNat:Int):=by
  have A:(IntKind.max .u32:Int)=((0xFFFFFFFF:UInt32).toNat:Int):=rfl;rw[A];unfold bits;rw[jdn,jdn]
  have:(0xFFFFFFFF:UInt32) ^^^ p=notW p:=by
   unfold notW;apply UInt32.toBitVec_inj.1;show (BitVec.allOnes 32) ^^^ p.toBitVec = ~~~ p.toBitVec;rw[BitVec.allOnes_xor]
  have o:=jgY ((0xFFFFFFFF:UInt32) ^^^ p);rw[this]at o;rw[<-o, <-this];rfl
 unfold wv;rw[<-e];rfl
end
section
variable {P:Program} {l:List Oper} {E:vW->vW->Prop} {Q:Act->vW->Prop} {ord done hd:List Nat} {a:Act} {w:vW} {k:Nat} {d:Option Tmp} {x y:Operand} {T T' ty:TypeId} {pos:String} {af:Array Edge} {g:Option (Nat × Bool)} {op:BinOp} {ops:Array Oper} {rest:List Oper} {QQ:Exit->Act->vW->Prop}
theorem jvd{vx vy v:vV}(hx:a.eval x=vx)(hy:a.eval y=vy)(hg:(eqGuard op T x y vx vy).run P w=.ok () w)(hr:(binOp op T vx vy).run P w=.ok v w):(execOp a.eval ⟨d,.binOp op T x y T',ty,pos,af,g⟩).run P w=.ok (.value v) w:=by
 simp only[execOp,hx,hy,cA,cO,Result.andThen,hg,hr]
end
theorem jia{P:Program}{o:Oper}{a:Act}{w:vW}{K:Act->vW->Prop}{Q:Exit->Act->vW->Prop}{t:TypeId}{x y:Operand}(b i:Nat)(v:vV)(ho:o.op=.store t x y)(hx:a.eval x=.pointer (some ⟨b,i,none⟩))(hy:a.eval y=v)(hv:v.oneCell'=true)
  (hi:(P.info? t).map (·.size)=some 1) {old:vV} (hc:w.cell? ⟨b,i,none⟩=some old) (hf:w.frozen? ⟨b,i,none⟩=false) (h:K (a.put o.dst undef) (w.setCell ⟨b,i,none⟩ v)):o.wp P a w K Q:=by
 obtain⟨E,e,A⟩:=fE.1 hi
 have H:(storeCells ⟨b,i,none⟩ [v]).run P w=.ok () (w.setCell ⟨b,i,none⟩ v):=by
  rw[jnd,run_store P w _ v _ hv,hc,hf];rfl
 have J:(Instr.storeAt t (.pointer (some ⟨b,i,none⟩)) v).run P w=.ok () (w.setCell ⟨b,i,none⟩ v):=by
  simp[Instr.storeAt,Instr.sureAddr,storeVar,cA,Result.andThen,jti hv,sizeOf,typeInfo,e,A,H]
 unfold Oper.wp execOp;simp only[ho,hx,hy,cA,J,Result.andThen,cO];exact h
theorem jnq{P:Program}{ops:Array Oper}{rest:List Oper}{o:Oper}{a:Act}{w:vW}{Q:Exit->Act->vW->Prop}{t:TypeId}{x y:Operand}(hgd:o.guard=none)(b i:Nat)(v:vV)(ho:o.op=.store t x y)(hx:a.eval x=.pointer (some ⟨b,i,none⟩))(hy:a.eval y=v)(hv:v.oneCell'=true)
  (hi:(P.info? t).map (·.size)=some 1) {old:vV} (hc:w.cell? ⟨b,i,none⟩=some old) (hf:w.frozen? ⟨b,i,none⟩=false) (h:wpList P ops Q rest (a.put o.dst undef) (w.setCell ⟨b,i,none⟩ v)):wpList P ops Q (o :: rest) a w:=
 wpList_plain hgd fun _ e=>jia b i v ho hx hy hv hi hc hf (e _ _ h)
theorem jgo(p q:UInt32):bits .or .u32 p.toNat q.toNat=((p ||| q).toNat:Int):=by
 unfold bits;rw[jdn,jdn];exact jgY (p ||| q)
theorem jfZ(x:UInt32)(s n:Nat)(hs:s+n=32)(hn:0 < n)(hn2:n < 32):bits .or .u32 ((x.toNat:Int) * (2:Int) ^ s % (4294967296:Int)) ((x.toNat:Int) / (2:Int) ^ n)=((rotW x (UInt32.ofNat n)).toNat:Int):=by
 have e:(x.toNat:Int) * (2:Int) ^ s % (4294967296:Int)=((x <<< (32 - UInt32.ofNat n)).toNat:Int):=by
  rw[UInt32.toNat_shiftLeft];have o:(32 - UInt32.ofNat n).toNat=s:=by
   rw[UInt32.toNat_sub_of_le]
   ·rw[gJ];show 32 - n % 2 ^ 32=s;omega
   ·rw[UInt32.le_iff_toNat_le,gJ];show n % 2 ^ 32<=32;omega
  rw[o,fT (show s < 32 by omega),Nat.shiftLeft_eq]
  simp
 have A:(x.toNat:Int) / (2:Int) ^ n=((x >>> UInt32.ofNat n).toNat:Int):=by
  rw[UInt32.toNat_shiftRight];rw[gJ,fT (show n < 2 ^ 32 by omega),fT hn2,Nat.shiftRight_eq_div_pow]
  simp
 rw[e,A,jgo];rfl
theorem jAq(w:vW)(x:UInt32):vQ 138 #[wv x,.int .i64 2] w fun e w'=>e=.returned (wv (rotW x 2))/\w=w':=by
 have e:bits BinOp.and .u64 (IntKind.u64.wrap (-2)) 31=30:=by decide +kernel
 have A:=Hd (jfZ x 30 2 vI vI vI);unfold wv;unfold vQ;go_in;go_wp2;go_ret;have E:bits .or .u32 ((x.toNat:Int) * (1073741824:Int) % (4294967296:Int)) ((x.toNat:Int) / (4:Int))=((rotW x 2).toNat:Int):=A.o
 exact⟨congrArg (fun z=>Ending.returned (Value.int .u32 z)) E,rfl⟩
theorem jAr(w:vW)(x:UInt32):vQ 138 #[wv x,.int .i64 6] w fun e w'=>e=.returned (wv (rotW x 6))/\w=w':=by
 have e:bits BinOp.and .u64 (IntKind.u64.wrap (-6)) 31=26:=by decide +kernel
 have A:=Hd (jfZ x 26 6 vI vI vI);unfold wv;unfold vQ;go_in;go_wp2;go_ret;have E:bits .or .u32 ((x.toNat:Int) * (67108864:Int) % (4294967296:Int)) ((x.toNat:Int) / (64:Int))=((rotW x 6).toNat:Int):=A.o
 exact⟨congrArg (fun z=>Ending.returned (Value.int .u32 z)) E,rfl⟩
theorem jAs(w:vW)(x:UInt32):vQ 138 #[wv x,.int .i64 7] w fun e w'=>e=.returned (wv (rotW x 7))/\w=w':=by
 have e:bits BinOp.and .u64 (IntKind.u64.wrap (-7)) 31=25:=by decide +kernel
 have A:=Hd (jfZ x 25 7 vI vI vI);unfold wv;unfold vQ;go_in;go_wp2;go_ret;have E:bits .or .u32 ((x.toNat:Int) * (33554432:Int) % (4294967296:Int)) ((x.toNat:Int) / (128:Int))=((rotW x 7).toNat:Int):=A.o
 exact⟨congrArg (fun z=>Ending.returned (Value.int .u32 z)) E,rfl⟩
theorem jyk(w:vW)(x:UInt32):vQ 138 #[wv x,.int .i64 11] w fun e w'=>e=.returned (wv (rotW x 11))/\w=w':=by
 have e:bits BinOp.and .u64 (IntKind.u64.wrap (-11)) 31=21:=by decide +kernel
 have A:=Hd (jfZ x 21 11 vI vI vI);unfold wv;unfold vQ;go_in;go_wp2;go_ret;have E:bits .or .u32 ((x.toNat:Int) * (2097152:Int) % (4294967296:Int)) ((x.toNat:Int) / (2048:Int))=((rotW x 11).toNat:Int):=A.o
 exact⟨congrArg (fun z=>Ending.returned (Value.int .u32 z)) E,rfl⟩
theorem jyl(w:vW)(x:UInt32):vQ 138 #[wv x,.int .i64 13] w fun e w'=>e=.returned (wv (rotW x 13))/\w=w':=by
 have e:bits BinOp.and .u64 (IntKind.u64.wrap (-13)) 31=19:=by decide +kernel
 have A:=Hd (jfZ x 19 13 vI vI vI);unfold wv;unfold vQ;go_in;go_wp2;go_ret;have E:bits .or .u32 ((x.toNat:Int) * (524288:Int) % (4294967296:Int)) ((x.toNat:Int) / (8192:Int))=((rotW x 13).toNat:Int):=A.o
 exact⟨congrArg (fun z=>Ending.returned (Value.int .u32 z)) E,rfl⟩
theorem jym(w:vW)(x:UInt32):vQ 138 #[wv x,.int .i64 17] w fun e w'=>e=.returned (wv (rotW x 17))/\w=w':=by
 have e:bits BinOp.and .u64 (IntKind.u64.wrap (-17)) 31=15:=by decide +kernel
 have A:=Hd (jfZ x 15 17 vI vI vI);unfold wv;unfold vQ;go_in;go_wp2;go_ret;have E:bits .or .u32 ((x.toNat:Int) * (32768:Int) % (4294967296:Int)) ((x.toNat:Int) / (131072:Int))=((rotW x 17).toNat:Int):=A.o
 exact⟨congrArg (fun z=>Ending.returned (Value.int .u32 z)) E,rfl⟩
theorem jyn(w:vW)(x:UInt32):vQ 138 #[wv x,.int .i64 18] w fun e w'=>e=.returned (wv (rotW x 18))/\w=w':=by
 have e:bits BinOp.and .u64 (IntKind.u64.wrap (-18)) 31=14:=by decide +kernel
 have A:=Hd (jfZ x 14 18 vI vI vI);unfold wv;unfold vQ;go_in;go_wp2;go_ret;have E:bits .or .u32 ((x.toNat:Int) * (16384:Int) % (4294967296:Int)) ((x.toNat:Int) / (262144:Int))=((rotW x 18).toNat:Int):=A.o
 exact⟨congrArg (fun z=>Ending.returned (Value.int .u32 z)) E,rfl⟩
theorem jyo(w:vW)(x:UInt32):vQ 138 #[wv x,.int .i64 19] w fun e w'=>e=.returned (wv (rotW x 19))/\w=w':=by
 have e:bits BinOp.and .u64 (IntKind.u64.wrap (-19)) 31=13:=by decide +kernel
 have A:=Hd (jfZ x 13 19 vI vI vI);unfold wv;unfold vQ;go_in;go_wp2;go_ret;have E:bits .or .u32 ((x.toNat:Int) * (8192:Int) % (4294967296:Int)) ((x.toNat:Int) / (524288:Int))=((rotW x 19).toNat:Int):=A.o
 exact⟨congrArg (fun z=>Ending.returned (Value.int .u32 z)) E,rfl⟩
theorem jyp(w:vW)(x:UInt32):vQ 138 #[wv x,.int .i64 22] w fun e w'=>e=.returned (wv (rotW x 22))/\w=w':=by
 have e:bits BinOp.and .u64 (IntKind.u64.wrap (-22)) 31=10:=by decide +kernel
 have A:=Hd (jfZ x 10 22 vI vI vI);unfold wv;unfold vQ;go_in;go_wp2;go_ret;have E:bits .or .u32 ((x.toNat:Int) * (1024:Int) % (4294967296:Int)) ((x.toNat:Int) / (4194304:Int))=((rotW x 22).toNat:Int):=A.o
 exact⟨congrArg (fun z=>Ending.returned (Value.int .u32 z)) E,rfl⟩
theorem jyq(w:vW)(x:UInt32):vQ 138 #[wv x,.int .i64 25] w fun e w'=>e=.returned (wv (rotW x 25))/\w=w':=by
 have e:bits BinOp.and .u64 (IntKind.u64.wrap (-25)) 31=7:=by decide +kernel
 have A:=Hd (jfZ x 7 25 vI vI vI);unfold wv;unfold vQ;go_in;go_wp2;go_ret;have E:bits .or .u32 ((x.toNat:Int) * (128:Int) % (4294967296:Int)) ((x.toNat:Int) / (33554432:Int))=((rotW x 25).toNat:Int):=A.o
 exact⟨congrArg (fun z=>Ending.returned (Value.int .u32 z)) E,rfl⟩
end
