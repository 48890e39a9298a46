/- Lemmas; each is under no condition but those that it states. -/
import Derived.Test.YtnkdaacmpceghaaGreatDoorPa4
import Derived.Test.YtnkdaacmpceghaaGreatDoorPa5
import Derived.WalkSpells
namespace Go.Proofs.YtnkdaacmpceghaaGreatDoor
set_option linter.unusedSimpArgs false
set_option linter.unusedVariables false
set_option maxRecDepth 100000
set_option maxHeartbeats 16000000
variable (l m:vN)(w:vW)(v:vV)(s:vB)(to k n:Nat)(b:vU)(r:Bool × Nat × Nat){xs:vM}
section
open Go Go.RowKit
def RdS(w:vW)(v:vV)(xs:vM):Prop:=
 (∃ a c,v=.slice a 0 c/\xs=[])\/∃ b o c,v=.slice (some ⟨b,o,none⟩) xs.length c/\b < w.heap.size/\xs.length<=c/\∀ (j:Nat) x,xs[j]?=some x->w.cell? ⟨b,o+j,none⟩=some (.string x)
theorem RdS.ext{w w':vW}{v:vV}(h:RdS w v xs)(k:Ext w w'):RdS w' v xs:=by
 rcases h with h |⟨b,o,c,h1,h2,h3,h4⟩
 ·exact .inl h
 ·exact .inr ⟨b,o,c,h1,bC h2 k.size,h3,fun j x e=>jaa (h4 j x e) k⟩
abbrev SRow(w0 w:vW)(v:vV)(n:Nat)(xs:vM):Prop:=ORow 9 1 w0 w v n (xs.map Value.string)
theorem SRow.rd{w0 w:vW}{v:vV}{n:Nat}(h:SRow w0 w v n xs):RdS w v xs:=by
 have A:xs.length=n:=by have:=h.len;simpa using this
 obtain⟨_,⟨rfl,O⟩ |⟨g,e,H,rfl,X,J,K,Z,h7⟩⟩:=h.own
 ·exact .inl ⟨none,0,rfl,bO vO⟩
 ·subst A
  refine .inr ⟨g,0,e,rfl,(cX.1 J).1,K,fun j x q=>?_⟩;have hj:=(bH.1 q).1
  have:=h.own.cellAt j vO
  rw[bT,this,bV,q];rfl
def catB(xs:vM):vB:=⟨(xs.map (·.data.toList)).flatten.toArray⟩
def ja6(xs:vM):vB:=jcN 192 (catB xs).size++catB xs
theorem jmK:∀ (l:List (vN)),Lib.join l []=l.flatten
 | []=>rfl
 | x :: r=>by
  rw[Lib.join_cons];simp only[Lib.joinTail,cN,List.map_id',List.flatten_cons]
theorem jxY(xs:vM)(h:RdS w v xs)(hl:(catB xs).size<=1000000000)(hn:xs.length<=1000000000):vR 139 #[v,.string ⟨#[]⟩] w (.string (catB xs)):=by
 rcases h with⟨a,c,rfl,rfl⟩ |⟨b,o,c,rfl,q,h3,h4⟩
 ·exact (Tryz.strings_Join_none a c ⟨#[]⟩ w).mono fun e w' ⟨A,q⟩=>⟨by rw[A];rfl,by rw[q];exact ExtR w⟩
 ·have H:(Lib.join (xs.map (·.data.toList)) (⟨#[]⟩:vB).data.toList).length<=140737488355328:=by
   show (Lib.join (xs.map (·.data.toList)) []).length<=_;rw[jmK];have:(xs.map (·.data.toList)).flatten.length=(catB xs).size:=by simp[catB,ByteArray.size]
   omega
  exact (Tryz.strings_Join b o c xs ⟨#[]⟩ w h4 q vO h3 H).mono fun e w' ⟨A,q⟩=>⟨by rw[A];show _=Ending.returned (.string ⟨(xs.map (·.data.toList)).flatten.toArray⟩);rw[show (⟨#[]⟩:vB).data.toList=[]from rfl,jmK],jac.of_below q⟩
theorem jky(xs:vM)(h:RdS w v xs)(hl:(catB xs).size<=1000000000)(hn:xs.length<=1000000000):vR 91 #[v] w (.string (ja6 xs)):=by
 have H:=Hd h;clear h;unfold vR vQ;go_in;go_wp2_with fail
 refine vC (jxY w v xs H.o hl hn) fun w1 q=>?_;go_wp2_with fail
 refine vC (jqo w1 192 (catB xs).size hl) fun J e=>?_;have A:=jci 192 (catB xs).size;go_wp2;go_ret
 exact⟨rfl,q.trans e⟩
def beN(l:vN):Nat:=l.foldl (fun n b=>n * 256+b.toNat) 0
theorem jl3:beN (l++[b])=beN l * 256+b.toNat:=by simp[beN]
theorem jl1:∀ (m:vN) (a:Nat),a<=m.foldl (fun n b=>n * 256+b.toNat) a
 | [],_=>bL _
 | b :: m,a=>bE vO (jl1 m (a * 256+b.toNat))
theorem jl2:beN l<=beN (l++m):=by
 unfold beN;rw[dX];exact jl1 m _
def lenB(s:vB)(to:Nat):Option Nat:=
 if s.size < to\/s.data.toList.getD 1 0=0 then none else
 if 55 < beN ((s.data.toList.take to).drop 1)/\beN ((s.data.toList.take to).drop 1)<=1048576 then some (beN ((s.data.toList.take to).drop 1))else none
theorem jfD{s:vB}{to n:Nat}(h:lenB s to=some n):to<=s.size/\s.data.toList.getD 1 0≠0/\beN ((s.data.toList.take to).drop 1)=n/\55 < n/\n<=1048576:=by
 unfold lenB at h;split at h
 ·cases h
 rename_i hc
 simp only[not_or,Nat.not_lt]at hc;split at h
 ·rename_i hn
  have:=bP h
  exact⟨hc.1,hc.2,this,by omega,by omega⟩
 ·cases h
theorem jv6(hn:n<=1048576):bits .or .i64 ((n:Int) * 256) (b.toNat:Int)=((n * 256+b.toNat:Nat):Int):=by
 have hb:=b.toNat_lt;unfold bits;have e:BitVec.ofInt (IntKind.bits .i64) ((n:Int) * 256)=BitVec.ofNat 64 (n * 256):=by
  rw[show ((n:Int) * 256)=((n * 256:Nat):Int) by omega,BitVec.ofInt_natCast];rfl
 have q:BitVec.ofInt (IntKind.bits .i64) (b.toNat:Int)=BitVec.ofNat 64 b.toNat:=by rw[BitVec.ofInt_natCast];rfl
 simp only[e,q];have A:(BitVec.ofNat 64 (n * 256) ||| BitVec.ofNat 64 b.toNat).toNat=n * 256+b.toNat:=by
  rw[BitVec.toNat_or,BitVec.toNat_ofNat,BitVec.toNat_ofNat,fR vO,fR vO];rw[show n * 256=2 ^ 8 * n by omega,Nat.two_pow_add_eq_or_of_lt (by omega:b.toNat < 2 ^ 8)]
 show IntKind.i64.wrap ((BitVec.ofNat 64 (n * 256) ||| BitVec.ofNat 64 b.toNat).toNat:Int)=_;rw[A,IntKind.wrap_i64];omega
def jw9(s:vB)(to:Nat)(n i:vV):Prop:=∃ k:Nat,1<=k/\k<=to/\i=.int .i64 k/\n=.int .i64 (beN ((s.data.toList.take k).drop 1))
theorem jh8{k:Nat}(h1:1<=k)(h:k < s.size):(s.data.toList.take (k+1)).drop 1=(s.data.toList.take k).drop 1++[s[k]]:=by
 have e:k < s.data.toList.length:=by simpa using h
 rw[cS e,List.drop_append_of_le_length (by simp;omega)];rfl
theorem jmP(hs:s.size<=1000000000)(h2:2<=to)(h:lenB s to=some n):vQ 220 #[.string s,.int .i64 to] w fun e w'=>e=.returned (.tuple #[.int .i64 n,.nilIface])/\w=w':=by
 obtain⟨a4,h1,hn,a5,a7⟩:=jfD h
 have HN:=Hd hn;clear h hn;have hz:((s[1]'(by omega)).toNat:Int)≠0:=by
  intro hh;apply h1;rw[bJ,bB (by simp;omega)]
  have:(s[1]'(by omega))=0:=fV.1 (by show _=0;omega)
  exact this
 have a8:(((s[1]'(by omega)).toNat:Int) == 0)=false:=by simpa using hz
 clear h1 hz;have c1:(1:Int) < (s.size:Int):=vO
 unfold vQ;go_in;go_wp2;go_loop [6,7] (fun m i=>jw9 s to m i) (fun _ i=>to - (intOf i).toNat)
 case atStart=>exact⟨1,bL _,by omega,rfl,by simp[beN]⟩
 case round =>
  obtain⟨k,X,a9,rfl,rfl⟩:=hrel
  by_cases hlt:k < to
  ·have Z:k < s.size:=vO
   have c2:(k:Int) < (s.size:Int):=vO
   have q:=jh8 s X Z
   obtain⟨m,H⟩:=vE (beN ((s.data.toList.take k).drop 1))
   have J:beN ((s.data.toList.take (k+1)).drop 1)<=n:=by
    have h3:=jl2 ((s.data.toList.take (k+1)).drop 1) ((s.data.toList.take to).drop (k+1));have h4:(s.data.toList.take (k+1)).drop 1++(s.data.toList.take to).drop (k+1)=(s.data.toList.take to).drop 1:=by
     have e1:s.data.toList.take to=s.data.toList.take (k+1)++(s.data.toList.take to).drop (k+1):=by
      conv=>lhs;rw[<-dJ (k+1) (s.data.toList.take to)]
      rw[List.take_take,Nat.min_eq_left vO]
     conv=>rhs;rw[e1]
     rw[List.drop_append_of_le_length (by simp;omega)]
    rw[h4]at h3
    have:=HN.o;omega
   have a0:m<=beN ((s.data.toList.take (k+1)).drop 1):=by rw[H,q];exact jl2 _ _
   have a1:m<=1048576:=vO
   have K:=jv6 m s[k] a1;have O:bits BinOp.or .i64 ((m:Int) * 256) (wrap64 (s[k].toNat:Int))=((m * 256+s[k].toNat:Nat):Int):=by
    have hb:=s[k].toNat_lt;rw[<-K];congr 1;unfold wrap64;omega
   clear K;have e5:beN ((s.data.toList.take (k+1)).drop 1)=m * 256+s[k].toNat:=by rw[q,jl3, <-H]
   rw[e5]at J;have HM:=Hd H;have H5:=Hd e5;rw[<-H];clear H q a0 e5
   obtain⟨m',A⟩:∃ m',m'=m * 256+s[k].toNat:=⟨_,rfl⟩
   rw[<-A]at O J;have a2:=Hd A;clear A;go_wp2;go_round
   case rel=>exact⟨k+1,by omega,by omega,by go_num,by rw[H5.o,a2.o]⟩
   case measure=>exact vJ
  ·have a3:k=to:=vO
   subst a3;rw[HN.o];go_wp2;go_ret2
   exact⟨rfl,rfl⟩
theorem jbq{s:vB}(h:0 < s.size):s.toList.isEmpty=false:=by
 rw[bR]
 obtain⟨⟨l⟩⟩:=s
 cases l with
 | nil=>exact absurd h (Nat.lt_irrefl 0)
 | cons _ _=>rfl
def jc8(s:vB)(r:Bool × Nat × Nat):vV:=.tuple #[.bool r.1,.string (s.extract r.2.1 (r.2.1+r.2.2)),.string (s.extract (r.2.1+r.2.2) s.size),.nilIface]
theorem jpR(hs:s.size<=1000000000)(h0:0 < s.size)(hc:(s[0].toNat:Int) < 128):vR 182 #[.string s] w (jc8 s (false,0,1)):=by
 have H:(0:Int) < (s.size:Int):=vO
 have J:(1:Int)<=(s.size:Int):=vO
 have q:=jbq h0;unfold vR vQ;go_in;go_wp2_with fail
 refine jaq [0,1,2,3,4,5,6,7] [] Ext ExtR ExtT vY vY vY ?_;iterate 8 refine vP ?_
 refine qE (fun w1 e=>?_);have A:=Hd ((jak w).trans e);clear e;go_wp2;exact bodyPost_ret (v:=jc8 s (false,0,1)) (by simp[results,Tryz.results182,go_sem];rfl) rfl ⟨rfl,A.o⟩
theorem jsI(hs:s.size<=1000000000)(h0:0 < s.size)(hc2:(s[0].toNat:Int)=128+n)(hn:n<=55)(hle:1+n<=s.size)(h1:n≠1\/∃ h:1 < s.size,(128:Int)<=(s[1].toNat:Int)) :
  vR 182 #[.string s] w (jc8 s (false,1,n)):=by
 have J:(0:Int) < (s.size:Int):=vO
 have K:(1:Int)<=(s.size:Int):=vO
 have O:¬(s[0].toNat:Int) < 128:=vO
 have X:(s[0].toNat:Int) < 192:=vO
 have Z:(n:Int)<=55:=vO
 have c5:(n:Int)<=(s.size:Int) - 1:=vO
 have c6:(0:Int)<=1+(n:Int):=vO
 have c7:1+(n:Int)<=(s.size:Int):=vO
 have c8:(1:Int)<=1+(n:Int):=vO
 have c9:(1+(n:Int)).toNat=1+n:=vO
 have H:=jbq h0;have e1:(s[0].toNat:Int) - 128=(n:Int):=vO
 clear hc2;rcases h1 with h1 |⟨hs1,h1⟩
 ·have A:((n:Int) == 1)=false:=by simp;omega
  go_enter Tryz.func182,Tryz.ntmps182;go_wp2_with fail
  refine jaq [0,1,2,3,4,5,6,7,8,9,10,11,12,13,14,15,16] [] Ext ExtR ExtT vY vY vY ?_;iterate 17 refine vP ?_
  refine qE (fun w1 e=>?_);have q:=Hd ((jak w).trans e);clear e;go_wp2;exact bodyPost_ret (v:=jc8 s (false,1,n)) (by simp[results,Tryz.results182,go_sem];rfl) rfl ⟨rfl,q.o⟩
 ·have d0:(1:Int) < (s.size:Int):=vO
  have d1:¬(s[1].toNat:Int) < 128:=vO
  by_cases hq0:n=1
  ·have A:((n:Int) == 1)=true:=by simp;omega
   clear hq0;go_enter Tryz.func182,Tryz.ntmps182;go_wp2_with fail
   refine jaq [0,1,2,3,4,5,6,7,8,9,10,11,12,13,14,15,16] [] Ext ExtR ExtT vY vY vY ?_;iterate 17 refine vP ?_
   refine qE (fun w1 e=>?_);have q:=Hd ((jak w).trans e);clear e;go_wp2;exact bodyPost_ret (v:=jc8 s (false,1,n)) (by simp[results,Tryz.results182,go_sem];rfl) rfl ⟨rfl,q.o⟩
  ·have A:((n:Int) == 1)=false:=by simp;omega
   go_enter Tryz.func182,Tryz.ntmps182;go_wp2_with fail
   refine jaq [0,1,2,3,4,5,6,7,8,9,10,11,12,13,14,15,16] [] Ext ExtR ExtT vY vY vY ?_;iterate 17 refine vP ?_
   refine qE (fun w1 e=>?_);have q:=Hd ((jak w).trans e);clear e;go_wp2;exact bodyPost_ret (v:=jc8 s (false,1,n)) (by simp[results,Tryz.results182,go_sem];rfl) rfl ⟨rfl,q.o⟩
theorem jsG(hs:s.size<=1000000000)(h0:0 < s.size)(hc2:(s[0].toNat:Int)=192+n)(hn:n<=55)(hle:1+n<=s.size) :
  vR 182 #[.string s] w (jc8 s (true,1,n)):=by
 have H:(0:Int) < (s.size:Int):=vO
 have J:(1:Int)<=(s.size:Int):=vO
 have K:¬(s[0].toNat:Int) < 128:=vO
 have O:¬(s[0].toNat:Int) < 192:=vO
 have X:(n:Int)<=55:=vO
 have Z:(n:Int)<=(s.size:Int) - 1:=vO
 have c6:(0:Int)<=1+(n:Int):=vO
 have c7:1+(n:Int)<=(s.size:Int):=vO
 have c8:(1:Int)<=1+(n:Int):=vO
 have c9:(1+(n:Int)).toNat=1+n:=vO
 have q:=jbq h0;have e1:(s[0].toNat:Int) - 192=(n:Int):=vO
 clear hc2;go_enter Tryz.func182,Tryz.ntmps182;go_wp2_with fail
 refine jaq [0,1,2,3,4,5,6,7,8,9,10,11,12,13,14,15,16] [] Ext ExtR ExtT vY vY vY ?_;iterate 17 refine vP ?_
 refine qE (fun w1 e=>?_);have A:=Hd ((jak w).trans e);clear e;go_wp2;exact bodyPost_ret (v:=jc8 s (true,1,n)) (by simp[results,Tryz.results182,go_sem];rfl) rfl ⟨rfl,A.o⟩
theorem jpS(hs:s.size<=1000000000)(h0:0 < s.size)(hc2:(s[0].toNat:Int)=128+55+k)(hk:1<=k)(hk8:k<=8)(hL:lenB s (1+k)=some n)(hle:1+k+n<=s.size) :
  vR 182 #[.string s] w (jc8 s (false,1+k,n)):=by
 obtain⟨K,_,_,O,X⟩:=jfD hL
 have H:=Hd hL;clear hL
 obtain⟨f,q⟩:=vE (1+k)
 obtain⟨m,Z⟩:=vE (55+k)
 have HF:=Hd q;have c0:(0:Int) < (s.size:Int):=vO
 have c1:(1:Int)<=(s.size:Int):=vO
 have c2:¬(s[0].toNat:Int) < 128:=vO
 have c3:(s[0].toNat:Int) < 192:=vO
 have c4:¬(m:Int)<=55:=vO
 have a0:(55:Int) < (m:Int):=vO
 have c5:(n:Int)<=(s.size:Int) - (f:Int):=vO
 have c6:(0:Int)<=(f:Int)+(n:Int):=vO
 have c7:(f:Int)+(n:Int)<=(s.size:Int):=vO
 have c8:(f:Int)<=(f:Int)+(n:Int):=vO
 have c9:((f:Int)+(n:Int)).toNat=f+n:=vO
 have hq:((n:Int) == 1)=false:=by simp;omega
 have a1:=jbq h0;have e1:(s[0].toNat:Int) - 128=(m:Int):=vO
 have e2:1+(m:Int) - 55=(f:Int):=vO
 have A:2<=f:=vO
 have a2:(m:Int)<=63:=vO
 have a3:(0:Int)<=(m:Int):=vO
 rw[<-q]at H;rw[<-q];clear hc2 q Z;go_enter Tryz.func182,Tryz.ntmps182;go_wp2_with fail
 refine (jmP w s f n hs A H.o).mono ?_;rintro e w1 ⟨rfl,rfl⟩;go_wp2_with fail
 refine jaq [0,1,2,3,4,5,6,7,8,9,10,11,12,13,14,15,16] [] Ext ExtR ExtT vY vY vY ?_;iterate 17 refine vP ?_
 refine qE (fun w1 J=>?_);have HE:=Hd ((jak w).trans J);clear J;go_wp2;exact bodyPost_ret (v:=jc8 s (false,f,n)) (by simp[results,Tryz.results182,go_sem];rfl) rfl ⟨rfl,HE.o⟩
theorem jpQ(hs:s.size<=1000000000)(h0:0 < s.size)(hc2:(s[0].toNat:Int)=192+55+k)(hk:1<=k)(hk8:k<=8)(hL:lenB s (1+k)=some n)(hle:1+k+n<=s.size) :
  vR 182 #[.string s] w (jc8 s (true,1+k,n)):=by
 obtain⟨K,_,_,O,X⟩:=jfD hL
 have H:=Hd hL;clear hL
 obtain⟨f,q⟩:=vE (1+k)
 obtain⟨m,Z⟩:=vE (55+k)
 have HF:=Hd q;have c0:(0:Int) < (s.size:Int):=vO
 have c1:(1:Int)<=(s.size:Int):=vO
 have c2:¬(s[0].toNat:Int) < 128:=vO
 have c3:¬(s[0].toNat:Int) < 192:=vO
 have c4:¬(m:Int)<=55:=vO
 have a0:(55:Int) < (m:Int):=vO
 have c5:(n:Int)<=(s.size:Int) - (f:Int):=vO
 have c6:(0:Int)<=(f:Int)+(n:Int):=vO
 have c7:(f:Int)+(n:Int)<=(s.size:Int):=vO
 have c8:(f:Int)<=(f:Int)+(n:Int):=vO
 have c9:((f:Int)+(n:Int)).toNat=f+n:=vO
 have hq:((n:Int) == 1)=false:=by simp;omega
 have a1:=jbq h0;have e1:(s[0].toNat:Int) - 192=(m:Int):=vO
 have e2:1+(m:Int) - 55=(f:Int):=vO
 have A:2<=f:=vO
 have a2:(m:Int)<=63:=vO
 have a3:(0:Int)<=(m:Int):=vO
 rw[<-q]at H;rw[<-q];clear hc2 q Z;go_enter Tryz.func182,Tryz.ntmps182;go_wp2_with fail
 refine (jmP w s f n hs A H.o).mono ?_;rintro e w1 ⟨rfl,rfl⟩;go_wp2_with fail
 refine jaq [0,1,2,3,4,5,6,7,8,9,10,11,12,13,14,15,16] [] Ext ExtR ExtT vY vY vY ?_;iterate 17 refine vP ?_
 refine qE (fun w1 J=>?_);have HE:=Hd ((jak w).trans J);clear J;go_wp2;exact bodyPost_ret (v:=jc8 s (true,f,n)) (by simp[results,Tryz.results182,go_sem];rfl) rfl ⟨rfl,HE.o⟩
def cutN(s:vB):Option (Bool × Nat × Nat):=
 if h:0 < s.size then
  let b:=s[0].toNat
  if b < 128 then some (false,0,1)
  else
   let (l,m):=if b < 192 then (false,b - 128)else (true,b - 192)
   if m<=55 then
    if 1+m<=s.size/\(l=true\/m≠1\/128<=(s.data.toList.getD 1 0).toNat)then some (l,1,m)else none
   else match lenB s (1+(m - 55))with
    | some n=>if 1+(m - 55)+n<=s.size then some (l,1+(m - 55),n)else none
    | none=>none
 else none
theorem jxG(hs:s.size<=1000000000)(h:cutN s=some r):vR 182 #[.string s] w (jc8 s r):=by
 unfold cutN at h
 by_cases h0:0 < s.size
 ·rw[dif_pos h0]at h
  simp only at h;have hb:=s[0].toNat_lt
  by_cases h1:s[0].toNat < 128
  ·rw[if_pos h1]at h
   cases h;exact jpR w s hs h0 vO
  ·rw[if_neg h1]at h
   by_cases h2:s[0].toNat < 192
   ·rw[if_pos h2]at h
    simp only at h
    by_cases h3:s[0].toNat - 128<=55
    ·rw[if_pos h3]at h
     split at h
     ·rename_i hc
      cases h;refine jsI w s (s[0].toNat - 128) hs h0 vO h3 hc.1 ?_;rcases hc.2 with hc | hc | hc
      ·cases hc
      ·exact .inl hc
      ·have e:1 < s.size:=by
        rcases fN 1 s.size with h | h
        ·exact h
        ·rw[bJ,iO (by simpa using h)]at hc
         exact absurd hc vI
       refine .inr ⟨e,?_⟩;rw[bJ,bB (by simpa using e)]at hc;have q:128<=(s[1]'e).toNat:=hc;omega
     ·cases h
    ·rw[if_neg h3]at h
     split at h
     ·rename_i n hl
      split at h
      ·rename_i hc
       cases h;exact jpS w s (s[0].toNat - 128 - 55) n hs h0 vO vO vO hl hc
      ·cases h
     ·cases h
   ·rw[if_neg h2]at h
    simp only at h
    by_cases h3:s[0].toNat - 192<=55
    ·rw[if_pos h3]at h
     split at h
     ·rename_i hc
      cases h;exact jsG w s (s[0].toNat - 192) hs h0 vO h3 hc.1
     ·cases h
    ·rw[if_neg h3]at h
     split at h
     ·rename_i n hl
      split at h
      ·rename_i hc
       cases h;exact jpQ w s (s[0].toNat - 192 - 55) n hs h0 vO vO vO hl hc
      ·cases h
     ·cases h
 ·rw[dif_neg h0]at h;cases h
theorem jxX:vQ 34 #[.nilIface,.iface 27 (.int .i64 2)] w fun e w'=>e=.returned (.bool false)/\w=w':=by
 have q:∀ w,(binOp .eql 88 .nilIface (.iface 27 (.int .i64 2))).run Tryz.prog w=.ok (.bool false) w:=fun w=>by kernel_rfl
 unfold vQ;go_in;go_wp2_with fail
 go_ret
 exact⟨rfl,rfl⟩
theorem jgw(hs:s.size<=1000000000)(h:cutN s=some r):vR 143 #[.string s] w (.tuple #[.bool r.1,.string (s.extract r.2.1 (r.2.1+r.2.2)),.string (s.extract (r.2.1+r.2.2) s.size),.int .i64 0]):=by
 unfold vR vQ;go_in;go_wp2_with fail
 refine vH (jxG w s r hs h) fun w1 H=>?_;unfold jc8
 obtain⟨x,q⟩:=vE (s.extract r.2.1 (r.2.1+r.2.2))
 obtain⟨y,A⟩:∃ x,x=s.extract (r.2.1+r.2.2) s.size:=⟨_,rfl⟩
 rw[<-q, <-A]
 obtain⟨l,p⟩:=r
 have J:=Hd q;have K:=Hd A;clear h q A hs;simp only;go_wp2_with fail
 refine (jxX w1).mono ?_;rintro e O ⟨rfl,rfl⟩;go_wp2_with fail
 exact bodyPost_ret (v:=.tuple #[.bool l,.string x,.string y,.int .i64 0]) vY rfl ⟨by rw[J.o,K.o],H.o⟩
end
section
open Go Go.RowKit
theorem Tryz.uU32:Tryz.prog.underlying 257=some (.int .u32):=vY
theorem Tryz.iU32:(Tryz.prog.info? 257).map (·.size)=some 1:=vY
def addW(p q:UInt32):UInt32:=p+q
def xorW(p q:UInt32):UInt32:=p ^^^ q
def andW(p q:UInt32):UInt32:=p &&& q
def notW(p:UInt32):UInt32 := ~~~ p
def shrW(p:UInt32)(n:UInt32):UInt32:=p >>> n
def rotW(p:UInt32)(n:UInt32):UInt32:=(p <<< (32 - n)) |||(p >>> n)
def wv(p:UInt32):vV:=.int .u32 (p.toNat:Int)
theorem jcJ(a:UInt32):BitVec.ofInt (IntKind.bits .u32) (a.toNat:Int)=a.toBitVec:=by
 show BitVec.ofInt 32 ((a.toNat:Nat):Int)=_;rw[BitVec.ofInt_natCast];simp
theorem jfV(a:UInt32):IntKind.u32.wrap (a.toNat:Int)=a.toNat:=by rw[IntKind.wrap_u32];have:=a.toNat_lt;omega
section
variable {P:Program} {w:vW} {T:TypeId} {p q:UInt32}
theorem jnc:(binOp .add T (wv p) (wv q)).run P w=.ok (wv (addW p q)) w:=by
 have e:IntKind.u32.wrap ((p.toNat:Int)+(q.toNat:Int))=((addW p q).toNat:Int):=by
  rw[IntKind.wrap_u32,addW,UInt32.toNat_add];omega
 unfold wv;rw[<-e];rfl
theorem jnd:(binOp .xor T (wv p) (wv q)).run P w=.ok (wv (xorW p q)) w:=by
 have e:bits .xor .u32 p.toNat q.toNat=((xorW p q).toNat:Int):=by
  unfold bits;rw[jcJ,jcJ];exact jfV (p ^^^ q)
 unfold wv;rw[<-e];rfl
theorem jt3:(binOp .and T (wv p) (wv q)).run P w=.ok (wv (andW p q)) w:=by
 have e:bits .and .u32 p.toNat q.toNat=((andW p q).toNat:Int):=by
  unfold bits;rw[jcJ,jcJ];exact jfV (p &&& q)
 unfold wv;rw[<-e];rfl
theorem jfP(n:Nat)(hn:n < 32)(k:IntKind):(binOp .shr T (wv p) (.int k n)).run P w=.ok (wv (shrW p (UInt32.ofNat n))) w:=by
 have e:((shrW p (UInt32.ofNat n)).toNat:Int)=(p.toNat:Int).fdiv (2 ^ n):=by
  unfold shrW;rw[UInt32.toNat_shiftRight,iR,fR (show n < 2 ^ 32 by omega),fR hn,Nat.shiftRight_eq_div_pow];rw[Int.fdiv_eq_ediv_of_nonneg _ (by exact_mod_cast cB (2 ^ n))]
  simp
 unfold wv;rw[e];show (Op.shift .shr .u32 (p.toNat:Int) k (n:Int)).run P w=_;unfold Op.shift;rw[if_neg vO];have h:min (n:Int).toNat (IntKind.bits .u32)=n:=by show min (n:Int).toNat 32=n;omega
 simp only[h];rfl
theorem jt4:(Op.unary .xor (wv p)).run P w=.ok (wv (notW p)) w:=by
 have e:bits .xor .u32 (IntKind.max .u32) p.toNat=((notW p).toNat:Int):=by
  have A:(IntKind.max .u32:Int)=((0xFFFFFFFF:UInt32).toNat:Int):=rfl;rw[A];unfold bits;rw[jcJ,jcJ]
  have:(0xFFFFFFFF:UInt32) ^^^ p=notW p:=by
   unfold notW;apply UInt32.toBitVec_inj.1;show (BitVec.allOnes 32) ^^^ p.toBitVec = ~~~ p.toBitVec;rw[BitVec.allOnes_xor]
  have q:=jfV ((0xFFFFFFFF:UInt32) ^^^ p);rw[this]at q;rw[<-q, <-this];rfl
 unfold wv;rw[<-e];rfl
end
section
variable {P:Program} {l:List Oper} {E:vW->vW->Prop} {Q:Act->vW->Prop} {ord done hd:List Nat} {a:Act} {w:vW} {k:Nat} {d:Option Tmp} {x y:Operand} {T T' ty:TypeId} {pos:String} {af:Array Edge} {g:Option (Nat × Bool)} {op:BinOp} {ops:Array Oper} {rest:List Oper} {QQ:Exit->Act->vW->Prop}
end
theorem jjQ{P:Program}{o:Oper}{a:Act}{w:vW}{K:Act->vW->Prop}{Q:Exit->Act->vW->Prop}{t:TypeId}{x y:Operand}(b i:Nat)(v:vV)(ho:o.op=.store t x y)(hx:a.eval x=.pointer (some ⟨b,i,none⟩))(hy:a.eval y=v)(hv:v.oneCell'=true)
  (hi:(P.info? t).map (·.size)=some 1) {old:vV} (hc:w.cell? ⟨b,i,none⟩=some old) (hf:w.frozen? ⟨b,i,none⟩=false) (h:K (a.put o.dst undef) (w.setCell ⟨b,i,none⟩ v)):o.wp P a w K Q:=by
 obtain⟨A,e,q⟩:=cM.1 hi
 have H:(storeCells ⟨b,i,none⟩ [v]).run P w=.ok () (w.setCell ⟨b,i,none⟩ v):=by
  rw[jk2,run_store P w _ v _ hv,hc,hf];rfl
 have J:(Instr.storeAt t (.pointer (some ⟨b,i,none⟩)) v).run P w=.ok () (w.setCell ⟨b,i,none⟩ v):=by
  simp[Instr.storeAt,Instr.sureAddr,storeVar,bK,Result.andThen,jq8 hv,sizeOf,typeInfo,e,q,H]
 unfold Oper.wp execOp;simp only[ho,hx,hy,bK,J,Result.andThen,cP];exact h
theorem jk8{P:Program}{ops:Array Oper}{rest:List Oper}{o:Oper}{a:Act}{w:vW}{Q:Exit->Act->vW->Prop}{t:TypeId}{x y:Operand}(hgd:o.guard=none)(b i:Nat)(v:vV)(ho:o.op=.store t x y)(hx:a.eval x=.pointer (some ⟨b,i,none⟩))(hy:a.eval y=v)(hv:v.oneCell'=true)
  (hi:(P.info? t).map (·.size)=some 1) {old:vV} (hc:w.cell? ⟨b,i,none⟩=some old) (hf:w.frozen? ⟨b,i,none⟩=false) (h:wpList P ops Q rest (a.put o.dst undef) (w.setCell ⟨b,i,none⟩ v)):wpList P ops Q (o :: rest) a w:=
 wpList_plain hgd fun _ e=>jjQ b i v ho hx hy hv hi hc hf (e _ _ h)
theorem jgS(p q:UInt32):bits .or .u32 p.toNat q.toNat=((p ||| q).toNat:Int):=by
 unfold bits;rw[jcJ,jcJ];exact jfV (p ||| q)
theorem je5(x:UInt32)(s n:Nat)(hs:s+n=32)(hn:0 < n)(hn2:n < 32):bits .or .u32 ((x.toNat:Int) * (2:Int) ^ s % (4294967296:Int)) ((x.toNat:Int) / (2:Int) ^ n)=((rotW x (UInt32.ofNat n)).toNat:Int):=by
 have e:(x.toNat:Int) * (2:Int) ^ s % (4294967296:Int)=((x <<< (32 - UInt32.ofNat n)).toNat:Int):=by
  rw[UInt32.toNat_shiftLeft];have q:(32 - UInt32.ofNat n).toNat=s:=by
   rw[UInt32.toNat_sub_of_le]
   ·rw[iR];show 32 - n % 2 ^ 32=s;omega
   ·rw[UInt32.le_iff_toNat_le,iR];show n % 2 ^ 32<=32;omega
  rw[q,fR (show s < 32 by omega),Nat.shiftLeft_eq]
  simp
 have A:(x.toNat:Int) / (2:Int) ^ n=((x >>> UInt32.ofNat n).toNat:Int):=by
  rw[UInt32.toNat_shiftRight];rw[iR,fR (show n < 2 ^ 32 by omega),fR hn2,Nat.shiftRight_eq_div_pow]
  simp
 rw[e,A,jgS];rfl
theorem jyw(w:vW)(x:UInt32):vQ 176 #[wv x,.int .i64 2] w fun e w'=>e=.returned (wv (rotW x 2))/\w=w':=by
 have e:bits BinOp.and .u64 (IntKind.u64.wrap (-2)) 31=30:=by decide +kernel
 have q:=Hd (je5 x 30 2 vI vI vI);unfold wv;unfold vQ;go_in;go_wp2;go_ret;have A:bits .or .u32 ((x.toNat:Int) * (1073741824:Int) % (4294967296:Int)) ((x.toNat:Int) / (4:Int))=((rotW x 2).toNat:Int):=q.o
 exact⟨congrArg (fun z=>Ending.returned (Value.int .u32 z)) A,rfl⟩
theorem jyx(w:vW)(x:UInt32):vQ 176 #[wv x,.int .i64 6] w fun e w'=>e=.returned (wv (rotW x 6))/\w=w':=by
 have e:bits BinOp.and .u64 (IntKind.u64.wrap (-6)) 31=26:=by decide +kernel
 have q:=Hd (je5 x 26 6 vI vI vI);unfold wv;unfold vQ;go_in;go_wp2;go_ret;have A:bits .or .u32 ((x.toNat:Int) * (67108864:Int) % (4294967296:Int)) ((x.toNat:Int) / (64:Int))=((rotW x 6).toNat:Int):=q.o
 exact⟨congrArg (fun z=>Ending.returned (Value.int .u32 z)) A,rfl⟩
theorem jyy(w:vW)(x:UInt32):vQ 176 #[wv x,.int .i64 7] w fun e w'=>e=.returned (wv (rotW x 7))/\w=w':=by
 have e:bits BinOp.and .u64 (IntKind.u64.wrap (-7)) 31=25:=by decide +kernel
 have q:=Hd (je5 x 25 7 vI vI vI);unfold wv;unfold vQ;go_in;go_wp2;go_ret;have A:bits .or .u32 ((x.toNat:Int) * (33554432:Int) % (4294967296:Int)) ((x.toNat:Int) / (128:Int))=((rotW x 7).toNat:Int):=q.o
 exact⟨congrArg (fun z=>Ending.returned (Value.int .u32 z)) A,rfl⟩
theorem jwl(w:vW)(x:UInt32):vQ 176 #[wv x,.int .i64 11] w fun e w'=>e=.returned (wv (rotW x 11))/\w=w':=by
 have e:bits BinOp.and .u64 (IntKind.u64.wrap (-11)) 31=21:=by decide +kernel
 have q:=Hd (je5 x 21 11 vI vI vI);unfold wv;unfold vQ;go_in;go_wp2;go_ret;have A:bits .or .u32 ((x.toNat:Int) * (2097152:Int) % (4294967296:Int)) ((x.toNat:Int) / (2048:Int))=((rotW x 11).toNat:Int):=q.o
 exact⟨congrArg (fun z=>Ending.returned (Value.int .u32 z)) A,rfl⟩
theorem jwm(w:vW)(x:UInt32):vQ 176 #[wv x,.int .i64 13] w fun e w'=>e=.returned (wv (rotW x 13))/\w=w':=by
 have e:bits BinOp.and .u64 (IntKind.u64.wrap (-13)) 31=19:=by decide +kernel
 have q:=Hd (je5 x 19 13 vI vI vI);unfold wv;unfold vQ;go_in;go_wp2;go_ret;have A:bits .or .u32 ((x.toNat:Int) * (524288:Int) % (4294967296:Int)) ((x.toNat:Int) / (8192:Int))=((rotW x 13).toNat:Int):=q.o
 exact⟨congrArg (fun z=>Ending.returned (Value.int .u32 z)) A,rfl⟩
theorem jwn(w:vW)(x:UInt32):vQ 176 #[wv x,.int .i64 17] w fun e w'=>e=.returned (wv (rotW x 17))/\w=w':=by
 have e:bits BinOp.and .u64 (IntKind.u64.wrap (-17)) 31=15:=by decide +kernel
 have q:=Hd (je5 x 15 17 vI vI vI);unfold wv;unfold vQ;go_in;go_wp2;go_ret;have A:bits .or .u32 ((x.toNat:Int) * (32768:Int) % (4294967296:Int)) ((x.toNat:Int) / (131072:Int))=((rotW x 17).toNat:Int):=q.o
 exact⟨congrArg (fun z=>Ending.returned (Value.int .u32 z)) A,rfl⟩
theorem jwo(w:vW)(x:UInt32):vQ 176 #[wv x,.int .i64 18] w fun e w'=>e=.returned (wv (rotW x 18))/\w=w':=by
 have e:bits BinOp.and .u64 (IntKind.u64.wrap (-18)) 31=14:=by decide +kernel
 have q:=Hd (je5 x 14 18 vI vI vI);unfold wv;unfold vQ;go_in;go_wp2;go_ret;have A:bits .or .u32 ((x.toNat:Int) * (16384:Int) % (4294967296:Int)) ((x.toNat:Int) / (262144:Int))=((rotW x 18).toNat:Int):=q.o
 exact⟨congrArg (fun z=>Ending.returned (Value.int .u32 z)) A,rfl⟩
theorem jwp(w:vW)(x:UInt32):vQ 176 #[wv x,.int .i64 19] w fun e w'=>e=.returned (wv (rotW x 19))/\w=w':=by
 have e:bits BinOp.and .u64 (IntKind.u64.wrap (-19)) 31=13:=by decide +kernel
 have q:=Hd (je5 x 13 19 vI vI vI);unfold wv;unfold vQ;go_in;go_wp2;go_ret;have A:bits .or .u32 ((x.toNat:Int) * (8192:Int) % (4294967296:Int)) ((x.toNat:Int) / (524288:Int))=((rotW x 19).toNat:Int):=q.o
 exact⟨congrArg (fun z=>Ending.returned (Value.int .u32 z)) A,rfl⟩
theorem jwq(w:vW)(x:UInt32):vQ 176 #[wv x,.int .i64 22] w fun e w'=>e=.returned (wv (rotW x 22))/\w=w':=by
 have e:bits BinOp.and .u64 (IntKind.u64.wrap (-22)) 31=10:=by decide +kernel
 have q:=Hd (je5 x 10 22 vI vI vI);unfold wv;unfold vQ;go_in;go_wp2;go_ret;have A:bits .or .u32 ((x.toNat:Int) * (1024:Int) % (4294967296:Int)) ((x.toNat:Int) / (4194304:Int))=((rotW x 22).toNat:Int):=q.o
 exact⟨congrArg (fun z=>Ending.returned (Value.int .u32 z)) A,rfl⟩
theorem jwr(w:vW)(x:UInt32):vQ 176 #[wv x,.int .i64 25] w fun e w'=>e=.returned (wv (rotW x 25))/\w=w':=by
 have e:bits BinOp.and .u64 (IntKind.u64.wrap (-25)) 31=7:=by decide +kernel
 have q:=Hd (je5 x 7 25 vI vI vI);unfold wv;unfold vQ;go_in;go_wp2;go_ret;have A:bits .or .u32 ((x.toNat:Int) * (128:Int) % (4294967296:Int)) ((x.toNat:Int) / (33554432:Int))=((rotW x 25).toNat:Int):=q.o
 exact⟨congrArg (fun z=>Ending.returned (Value.int .u32 z)) A,rfl⟩
end
