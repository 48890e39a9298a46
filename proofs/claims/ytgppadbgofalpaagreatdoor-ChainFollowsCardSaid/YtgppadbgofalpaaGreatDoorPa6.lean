/- Lemmas; each is under no condition but those that it states. -/
import Derived.Test.YtgppadbgofalpaaGreatDoorPa0
import Derived.Test.YtgppadbgofalpaaGreatDoorPa4
import Derived.Test.YtgppadbgofalpaaGreatDoorPa5
import Derived.WalkSpells
namespace Go.Proofs.YtgppadbgofalpaaGreatDoor
set_option linter.unusedSimpArgs false
set_option linter.unusedVariables false
set_option maxRecDepth 100000
set_option maxHeartbeats 16000000
variable (l m:vN)(w:vW)(v:vV)(s:vB)(to k n:Nat)(b:vU)(r:Bool × Nat × Nat){xs:vM}
section
open Go Go.RowKit
def Ic(w:vW)(v:vV)(xs:vM):Prop:=
 (∃ a c,v=.slice a 0 c/\xs=[])\/∃ b o c,v=.slice (some ⟨b,o,none⟩) xs.length c/\b < w.heap.size/\xs.length<=c/\∀ (j:Nat) x,xs[j]?=some x->w.cell? ⟨b,o+j,none⟩=some (.string x)
theorem Ic.ext{w w':vW}{v:vV}(h:Ic w v xs)(k:Af w w'):Ic w' v xs:=by
 rcases h with h |⟨b,o,c,h1,h2,h3,h4⟩
 ·exact .inl h
 ·exact .inr ⟨b,o,c,h1,bE h2 k.size,h3,fun j x e=>Am (h4 j x e) k⟩
abbrev Cd(w0 w:vW)(v:vV)(n:Nat)(xs:vM):Prop:=Av 9 1 w0 w v n (xs.map Value.string)
theorem Cd.rd{w0 w:vW}{v:vV}{n:Nat}(h:Cd w0 w v n xs):Ic w v xs:=by
 have A:xs.length=n:=by have:=h.len;simpa using this
 obtain⟨_,⟨rfl,O⟩ |⟨g,e,H,rfl,X,J,K,Z,h7⟩⟩:=h.own
 ·exact .inl ⟨none,0,rfl,bH vO⟩
 ·subst A;refine .inr ⟨g,0,e,rfl,(dD.1 J).1,K,fun j x q=>?_⟩;have hj:=(bI.1 q).1;have:=h.own.cellAt j vO;rw[bX,this,bY,q];rfl
def Aw(xs:vM):vB:=⟨(xs.map (·.data.toList)).flatten.toArray⟩
def Fj(xs:vM):vB:=Ng 192 (Aw xs).size++Aw xs
theorem mK:∀ (l:List (vN)),Lib.join l []=l.flatten
 | []=>rfl
 | x :: r=>by
  rw[Lib.join_cons];simp only[Lib.joinTail,cL,List.map_id',List.flatten_cons]
theorem wN(xs:vM)(h:Ic w v xs)(hl:(Aw xs).size<=1000000000)(hn:xs.length<=1000000000):vR 146 #[v,.string ⟨#[]⟩] w (Aw xs):=by
 rcases h with⟨a,c,rfl,rfl⟩ |⟨b,o,c,rfl,q,h3,h4⟩
 ·exact (Tryz.strings_Join_none a c ⟨#[]⟩ w).mono fun e w' ⟨A,q⟩=>⟨by rw[A];rfl,by rw[q];exact Aa w⟩
 ·(have H:(Lib.join (xs.map (·.data.toList)) (⟨#[]⟩:vB).data.toList).length<=140737488355328:=by(show (Lib.join (xs.map (·.data.toList)) []).length<=_;rw[mK];have:(xs.map (·.data.toList)).flatten.length=(Aw xs).size:=by simp[Aw,ByteArray.size]);omega);exact (Tryz.strings_Join b o c xs ⟨#[]⟩ w h4 q vO h3 H).mono fun e w' ⟨A,q⟩=>⟨by rw[A];show _=Ending.returned (.string ⟨(xs.map (·.data.toList)).flatten.toArray⟩);rw[show (⟨#[]⟩:vB).data.toList=[]from rfl,mK],Ad.of_below q⟩
theorem KU(xs:vM)(h:Ic w v xs)(hl:(Aw xs).size<=1000000000)(hn:xs.length<=1000000000):vR 99 #[v] w (Fj xs):=by
 have H:=Hd h;clear h;unfold vR vQ;go_in;go_wp2_with fail
 refine vC (wN w v xs H.o hl hn) fun w1 q=>?_;go_wp2_with fail
 refine vC (WL w1 192 (Aw xs).size hl) fun J e=>?_;have A:=BV 192 (Aw xs).size;go_wp2;go_ret
 exact⟨rfl,q.trans e⟩
def Ro(l:vN):Nat:=l.foldl (fun n b=>n * 256+b.toNat) 0
theorem lP:Ro (l++[b])=Ro l * 256+b.toNat:=by simp[Ro]
theorem lN:∀ (m:vN) (a:Nat),a<=m.foldl (fun n b=>n * 256+b.toNat) a
 | [],_=>bP _
 | b :: m,a=>bF vO (lN m (a * 256+b.toNat))
theorem lO:Ro l<=Ro (l++m):=by
 unfold Ro;rw[dX];exact lN m _
def Rn(s:vB)(to:Nat):Option Nat:=
 if s.size < to\/s.data.toList.getD 1 0=0 then none else
 if 55 < Ro ((s.data.toList.take to).drop 1)/\Ro ((s.data.toList.take to).drop 1)<=1048576 then some (Ro ((s.data.toList.take to).drop 1))else none
theorem MW{s:vB}{to n:Nat}(h:Rn s to=some n):to<=s.size/\s.data.toList.getD 1 0≠0/\Ro ((s.data.toList.take to).drop 1)=n/\55 < n/\n<=1048576:=by
 unfold Rn at h;split at h
 ·cases h
 rename_i hc
 simp only[not_or,Nat.not_lt]at hc;split at h
 ·rename_i hn;have:=bV h;exact⟨hc.1,hc.2,this,by omega,by omega⟩
 ·cases h
theorem jyv(hn:n<=1048576):bits .or .i64 ((n:Int) * 256) (b.toNat:Int)=((n * 256+b.toNat:Nat):Int):=by
 have hb:=b.toNat_lt;unfold bits;have e:BitVec.ofInt (IntKind.bits .i64) ((n:Int) * 256)=BitVec.ofNat 64 (n * 256):=by rw[show ((n:Int) * 256)=((n * 256:Nat):Int) by omega,BitVec.ofInt_natCast];rfl
 have q:BitVec.ofInt (IntKind.bits .i64) (b.toNat:Int)=BitVec.ofNat 64 b.toNat:=by rw[BitVec.ofInt_natCast];rfl
 simp only[e,q];have A:(BitVec.ofNat 64 (n * 256) ||| BitVec.ofNat 64 b.toNat).toNat=n * 256+b.toNat:=by rw[BitVec.toNat_or,BitVec.toNat_ofNat,BitVec.toNat_ofNat,gA vO,gA vO];rw[show n * 256=2 ^ 8 * n by omega,Nat.two_pow_add_eq_or_of_lt (by omega:b.toNat < 2 ^ 8)]
 show IntKind.i64.wrap ((BitVec.ofNat 64 (n * 256) ||| BitVec.ofNat 64 b.toNat).toNat:Int)=_;rw[A,IntKind.wrap_i64];omega
def jzA(s:vB)(to:Nat)(n i:vV):Prop:=∃ k:Nat,1<=k/\k<=to/\i=.int .i64 k/\n=.int .i64 (Ro ((s.data.toList.take k).drop 1))
theorem zL{k:Nat}(h1:1<=k)(h:k < s.size):(s.data.toList.take (k+1)).drop 1=(s.data.toList.take k).drop 1++[s[k]]:=by
 have e:k < s.data.toList.length:=by simpa using h
 rw[cP e,List.drop_append_of_le_length (by simp;omega)];rfl
theorem mO(hs:s.size<=1000000000)(h2:2<=to)(h:Rn s to=some n):vQ 224 #[s,.int .i64 to] w fun e w'=>e=.returned (.tuple #[.int .i64 n,.nilIface])/\w=w':=by
 obtain⟨a4,h1,hn,a5,a7⟩:=MW h
 have HN:=Hd hn;clear h hn;have hz:((s[1]'(by omega)).toNat:Int)≠0:=by intro hh;apply h1;rw[bJ,bB (by simp;omega)];have:(s[1]'(by omega))=0:=dP.1 (by show _=0;omega);exact this
 have a8:(((s[1]'(by omega)).toNat:Int) == 0)=false:=by simpa using hz
 clear h1 hz;have c1:(1:Int) < (s.size:Int):=vO
 unfold vQ;go_in;go_wp2;go_loop [6,7] (fun m i=>jzA s to m i) (fun _ i=>to - (intOf i).toNat)
 case atStart=>exact⟨1,bP _,by omega,rfl,by simp[Ro]⟩
 case round =>obtain⟨k,X,a9,rfl,rfl⟩:=hrel;by_cases hlt:k < to;{have Z:k < s.size:=vO;have c2:(k:Int) < (s.size:Int):=vO;have q:=zL s X Z;obtain⟨m,O⟩:=vE (Ro ((s.data.toList.take k).drop 1));(have H:Ro ((s.data.toList.take (k+1)).drop 1)<=n:=by(have h3:=lO ((s.data.toList.take (k+1)).drop 1) ((s.data.toList.take to).drop (k+1));have h4:(s.data.toList.take (k+1)).drop 1++(s.data.toList.take to).drop (k+1)=(s.data.toList.take to).drop 1:=by(have e1:s.data.toList.take to=s.data.toList.take (k+1)++(s.data.toList.take to).drop (k+1):=by(conv=>lhs;rw[<-dB (k+1) (s.data.toList.take to)]);rw[List.take_take,Nat.min_eq_left vO]);(conv=>rhs;rw[e1]);rw[List.drop_append_of_le_length (by simp;omega)]);rw[h4]at h3;have:=HN.o;omega);(have a0:m<=Ro ((s.data.toList.take (k+1)).drop 1):=by rw[O,q];exact lO _ _);have a1:m<=1048576:=vO;(have J:=jyv m s[k] a1;have K:bits BinOp.or .i64 ((m:Int) * 256) (wrap64 (s[k].toNat:Int))=((m * 256+s[k].toNat:Nat):Int):=by have hb:=s[k].toNat_lt;rw[<-J];congr 1;unfold wrap64;omega);(clear J;have e5:Ro ((s.data.toList.take (k+1)).drop 1)=m * 256+s[k].toNat:=by rw[q,lP, <-O]);rw[e5]at H;have H5:=Hd e5;rw[<-O];clear O q a0 e5;obtain⟨m',A⟩:∃ m',m'=m * 256+s[k].toNat:=⟨_,rfl⟩;rw[<-A]at K H;have a2:=Hd A;clear A;go_wp2;go_round;(case rel=>exact⟨k+1,by omega,by omega,by go_num,by rw[H5.o,a2.o]⟩);case measure=>exact vJ};have a3:k=to:=vO;subst a3;rw[HN.o];go_wp2;go_ret2;exact⟨rfl,rfl⟩
theorem Rq{s:vB}(h:0 < s.size):s.toList.isEmpty=false:=by
 rw[cC]
 obtain⟨⟨l⟩⟩:=s
 cases l with
 | nil=>exact absurd h (Nat.lt_irrefl 0)
 | cons _ _=>rfl
def Un(s:vB)(r:Bool × Nat × Nat):vV:=.tuple #[r.1,s.extract r.2.1 (r.2.1+r.2.2),s.extract (r.2.1+r.2.2) s.size,.nilIface]
theorem jr1(hs:s.size<=1000000000)(h0:0 < s.size)(hc:(s[0].toNat:Int) < 128):vR 187 #[s] w (Un s (false,0,1)):=by
 have H:(1:Int)<=(s.size:Int):=vO
 have q:=Rq h0;unfold vR vQ;go_in;go_wp2_with fail
 refine Kr [0,1,2,3,4,5,6,7] [] Af Aa Aq vY vY vY ?_;iterate 8 refine vP ?_
 refine qE (fun w1 e=>?_);have A:=Hd ((Ap w).trans e);clear e;go_wp2;exact bodyPost_ret (v:=Un s (false,0,1)) (by simp[results,Tryz.results187,go_sem];rfl) rfl ⟨rfl,A.o⟩
theorem ju0(hs:s.size<=1000000000)(h0:0 < s.size)(hc2:(s[0].toNat:Int)=128+n)(hn:n<=55)(hle:1+n<=s.size)(h1:n≠1\/∃ h:1 < s.size,(128:Int)<=(s[1].toNat:Int)):vR 187 #[s] w (Un s (false,1,n)):=by
 have J:¬(s[0].toNat:Int) < 128:=vO
 have K:(s[0].toNat:Int) < 192:=vO
 have c6:(0:Int)<=1+(n:Int):=vO
 have O:1+(n:Int)<=(s.size:Int):=vO
 have X:(1:Int)<=1+(n:Int):=vO
 have Z:(1+(n:Int)).toNat=1+n:=vO
 have H:=Rq h0;have e1:(s[0].toNat:Int) - 128=(n:Int):=vO
 clear hc2;rcases h1 with h1 |⟨hs1,h1⟩
 ·(have A:((n:Int) == 1)=false:=by simp;omega);(unfold vR vQ;go_in;go_wp2_with fail);(refine Kr [0,1,2,3,4,5,6,7,8,9,10,11,12,13,14,15,16] [] Af Aa Aq vY vY vY ?_;iterate 17 refine vP ?_);refine qE (fun w1 e=>?_);have q:=Hd ((Ap w).trans e);clear e;go_wp2;exact bodyPost_ret (v:=Un s (false,1,n)) (by simp[results,Tryz.results187,go_sem];rfl) rfl ⟨rfl,q.o⟩
 ·have d0:(1:Int) < (s.size:Int):=vO;have d1:¬(s[1].toNat:Int) < 128:=vO;by_cases hq0:n=1;{(have A:((n:Int) == 1)=true:=by simp;omega);(clear hq0;unfold vR vQ;go_in;go_wp2_with fail);(refine Kr [0,1,2,3,4,5,6,7,8,9,10,11,12,13,14,15,16] [] Af Aa Aq vY vY vY ?_;iterate 17 refine vP ?_);refine qE (fun w1 e=>?_);have q:=Hd ((Ap w).trans e);clear e;go_wp2;exact bodyPost_ret (v:=Un s (false,1,n)) (by simp[results,Tryz.results187,go_sem];rfl) rfl ⟨rfl,q.o⟩};(have A:((n:Int) == 1)=false:=by simp;omega);(unfold vR vQ;go_in;go_wp2_with fail);(refine Kr [0,1,2,3,4,5,6,7,8,9,10,11,12,13,14,15,16] [] Af Aa Aq vY vY vY ?_;iterate 17 refine vP ?_);refine qE (fun w1 e=>?_);have q:=Hd ((Ap w).trans e);clear e;go_wp2;exact bodyPost_ret (v:=Un s (false,1,n)) (by simp[results,Tryz.results187,go_sem];rfl) rfl ⟨rfl,q.o⟩
theorem juY(hs:s.size<=1000000000)(h0:0 < s.size)(hc2:(s[0].toNat:Int)=192+n)(hn:n<=55)(hle:1+n<=s.size):vR 187 #[s] w (Un s (true,1,n)):=by
 have H:¬(s[0].toNat:Int) < 128:=vO
 have J:¬(s[0].toNat:Int) < 192:=vO
 have c6:(0:Int)<=1+(n:Int):=vO
 have K:1+(n:Int)<=(s.size:Int):=vO
 have O:(1:Int)<=1+(n:Int):=vO
 have X:(1+(n:Int)).toNat=1+n:=vO
 have q:=Rq h0;have Z:(s[0].toNat:Int) - 192=(n:Int):=vO
 clear hc2;unfold vR vQ;go_in;go_wp2_with fail
 refine Kr [0,1,2,3,4,5,6,7,8,9,10,11,12,13,14,15,16] [] Af Aa Aq vY vY vY ?_;iterate 17 refine vP ?_
 refine qE (fun w1 e=>?_);have A:=Hd ((Ap w).trans e);clear e;go_wp2;exact bodyPost_ret (v:=Un s (true,1,n)) (by simp[results,Tryz.results187,go_sem];rfl) rfl ⟨rfl,A.o⟩
theorem jr2(hs:s.size<=1000000000)(h0:0 < s.size)(hc2:(s[0].toNat:Int)=128+55+k)(hk:1<=k)(hk8:k<=8)(hL:Rn s (1+k)=some n)(hle:1+k+n<=s.size):vR 187 #[s] w (Un s (false,1+k,n)):=by
 obtain⟨K,_,_,O,X⟩:=MW hL
 have H:=Hd hL;clear hL
 obtain⟨f,q⟩:=vE (1+k)
 obtain⟨m,Z⟩:=vE (55+k)
 have HF:=Hd q;have c0:(0:Int) < (s.size:Int):=vO
 have c1:(1:Int)<=(s.size:Int):=vO
 have c2:¬(s[0].toNat:Int) < 128:=vO
 have c3:(s[0].toNat:Int) < 192:=vO
 have c4:¬(m:Int)<=55:=vO
 have a0:(55:Int) < (m:Int):=vO
 have c5:(n:Int)<=(s.size:Int) - (f:Int):=vO
 have c6:(0:Int)<=(f:Int)+(n:Int):=vO
 have c7:(f:Int)+(n:Int)<=(s.size:Int):=vO
 have c8:(f:Int)<=(f:Int)+(n:Int):=vO
 have c9:((f:Int)+(n:Int)).toNat=f+n:=vO
 have hq:((n:Int) == 1)=false:=by simp;omega
 have a1:=Rq h0;have e1:(s[0].toNat:Int) - 128=(m:Int):=vO
 have e2:1+(m:Int) - 55=(f:Int):=vO
 have A:2<=f:=vO
 have a2:(m:Int)<=63:=vO
 have a3:(0:Int)<=(m:Int):=vO
 rw[<-q]at H;rw[<-q];clear hc2 q Z;unfold vR vQ;go_in;go_wp2_with fail
 refine (mO w s f n hs A H.o).mono ?_;rintro e w1 ⟨rfl,rfl⟩;go_wp2_with fail
 refine Kr [0,1,2,3,4,5,6,7,8,9,10,11,12,13,14,15,16] [] Af Aa Aq vY vY vY ?_;iterate 17 refine vP ?_
 refine qE (fun w1 J=>?_);have HE:=Hd ((Ap w).trans J);clear J;go_wp2;exact bodyPost_ret (v:=Un s (false,f,n)) (by simp[results,Tryz.results187,go_sem];rfl) rfl ⟨rfl,HE.o⟩
theorem jr0(hs:s.size<=1000000000)(h0:0 < s.size)(hc2:(s[0].toNat:Int)=192+55+k)(hk:1<=k)(hk8:k<=8)(hL:Rn s (1+k)=some n)(hle:1+k+n<=s.size):vR 187 #[s] w (Un s (true,1+k,n)):=by
 obtain⟨K,_,_,O,X⟩:=MW hL
 have H:=Hd hL;clear hL
 obtain⟨f,q⟩:=vE (1+k)
 obtain⟨m,Z⟩:=vE (55+k)
 have HF:=Hd q;have c0:(0:Int) < (s.size:Int):=vO
 have c1:(1:Int)<=(s.size:Int):=vO
 have c2:¬(s[0].toNat:Int) < 128:=vO
 have c3:¬(s[0].toNat:Int) < 192:=vO
 have c4:¬(m:Int)<=55:=vO
 have a0:(55:Int) < (m:Int):=vO
 have c5:(n:Int)<=(s.size:Int) - (f:Int):=vO
 have c6:(0:Int)<=(f:Int)+(n:Int):=vO
 have c7:(f:Int)+(n:Int)<=(s.size:Int):=vO
 have c8:(f:Int)<=(f:Int)+(n:Int):=vO
 have c9:((f:Int)+(n:Int)).toNat=f+n:=vO
 have hq:((n:Int) == 1)=false:=by simp;omega
 have a1:=Rq h0;have e1:(s[0].toNat:Int) - 192=(m:Int):=vO
 have e2:1+(m:Int) - 55=(f:Int):=vO
 have A:2<=f:=vO
 have a2:(m:Int)<=63:=vO
 have a3:(0:Int)<=(m:Int):=vO
 rw[<-q]at H;rw[<-q];clear hc2 q Z;unfold vR vQ;go_in;go_wp2_with fail
 refine (mO w s f n hs A H.o).mono ?_;rintro e w1 ⟨rfl,rfl⟩;go_wp2_with fail
 refine Kr [0,1,2,3,4,5,6,7,8,9,10,11,12,13,14,15,16] [] Af Aa Aq vY vY vY ?_;iterate 17 refine vP ?_
 refine qE (fun w1 J=>?_);have HE:=Hd ((Ap w).trans J);clear J;go_wp2;exact bodyPost_ret (v:=Un s (true,f,n)) (by simp[results,Tryz.results187,go_sem];rfl) rfl ⟨rfl,HE.o⟩
def Dq(s:vB):Option (Bool × Nat × Nat):=
 if h:0 < s.size then
  let b:=s[0].toNat
  if b < 128 then some (false,0,1)
  else
   let (l,m):=if b < 192 then (false,b - 128)else (true,b - 192)
   if m<=55 then
    if 1+m<=s.size/\(l=true\/m≠1\/128<=(s.data.toList.getD 1 0).toNat)then some (l,1,m)else none
   else match Rn s (1+(m - 55))with
    | some n=>if 1+(m - 55)+n<=s.size then some (l,1+(m - 55),n)else none
    | none=>none
 else none
theorem sS(hs:s.size<=1000000000)(h:Dq s=some r):vR 187 #[s] w (Un s r):=by
 unfold Dq at h
 by_cases h0:0 < s.size
 ·rw[dif_pos h0]at h;simp only at h;have hb:=s[0].toNat_lt;by_cases h1:s[0].toNat < 128;{rw[if_pos h1]at h;cases h;exact jr1 w s hs h0 vO};rw[if_neg h1]at h;by_cases h2:s[0].toNat < 192;{rw[if_pos h2]at h;simp only at h;by_cases h3:s[0].toNat - 128<=55;{rw[if_pos h3]at h;split at h;{rename_i hc;cases h;refine ju0 w s (s[0].toNat - 128) hs h0 vO h3 hc.1 ?_;rcases hc.2 with hc | hc | hc;{cases hc};{exact .inl hc};(have e:1 < s.size:=by rcases fA 1 s.size with h | h;{exact h};rw[bJ,jB (by simpa using h)]at hc;exact absurd hc vI);refine .inr ⟨e,?_⟩;rw[bJ,bB (by simpa using e)]at hc;have q:128<=(s[1]'e).toNat:=hc;omega};cases h};rw[if_neg h3]at h;split at h;{rename_i n hl;split at h;{rename_i hc;cases h;exact jr2 w s (s[0].toNat - 128 - 55) n hs h0 vO vO vO hl hc};cases h};cases h};rw[if_neg h2]at h;simp only at h;by_cases h3:s[0].toNat - 192<=55;{rw[if_pos h3]at h;split at h;{rename_i hc;cases h;exact juY w s (s[0].toNat - 192) hs h0 vO h3 hc.1};cases h};rw[if_neg h3]at h;split at h;{rename_i n hl;split at h;{rename_i hc;cases h;exact jr0 w s (s[0].toNat - 192 - 55) n hs h0 vO vO vO hl hc};cases h};cases h
 ·rw[dif_neg h0]at h;cases h
theorem wM:vQ 39 #[.nilIface,.iface 25 (.int .i64 2)] w fun e w'=>e=.returned false/\w=w':=by
 have q:∀ w,(binOp .eql 94 .nilIface (.iface 25 (.int .i64 2))).run Tryz.prog w=.ok false w:=fun w=>by kernel_rfl
 unfold vQ;go_in;go_wp2_with fail
 go_ret
 exact⟨rfl,rfl⟩
theorem GB(hs:s.size<=1000000000)(h:Dq s=some r):vR 150 #[s] w (.tuple #[r.1,s.extract r.2.1 (r.2.1+r.2.2),s.extract (r.2.1+r.2.2) s.size,.int .i64 0]):=by
 unfold vR vQ;go_in;go_wp2_with fail
 refine vH (sS w s r hs h) fun w1 H=>?_;unfold Un
 obtain⟨x,q⟩:=vE (s.extract r.2.1 (r.2.1+r.2.2))
 obtain⟨y,A⟩:∃ x,x=s.extract (r.2.1+r.2.2) s.size:=⟨_,rfl⟩
 rw[<-q, <-A]
 obtain⟨l,p⟩:=r
 have J:=Hd q;have K:=Hd A;clear h q A hs;simp only;go_wp2_with fail
 refine (wM w1).mono ?_;rintro e O ⟨rfl,rfl⟩;go_wp2_with fail
 exact bodyPost_ret (v:=.tuple #[l,x,y,.int .i64 0]) vY rfl ⟨by rw[J.o,K.o],H.o⟩
end
section
open Go Go.RowKit
theorem Bj:Tryz.prog.underlying 256=some (.int .u32):=vY
theorem Mb:(Tryz.prog.info? 256).map (·.size)=some 1:=vY
def Dm(p q:UInt32):UInt32:=p+q
def Kx(p q:UInt32):UInt32:=p ^^^ q
def So(p q:UInt32):UInt32:=p &&& q
def Ws(p:UInt32):UInt32 := ~~~ p
def Mk(p:UInt32)(n:UInt32):UInt32:=p >>> n
def Du(p:UInt32)(n:UInt32):UInt32:=(p <<< (32 - n)) |||(p >>> n)
def wv(p:UInt32):vV:=.int .u32 (p.toNat:Int)
theorem CF(a:UInt32):BitVec.ofInt (IntKind.bits .u32) (a.toNat:Int)=a.toBitVec:=by
 show BitVec.ofInt 32 ((a.toNat:Nat):Int)=_;rw[BitVec.ofInt_natCast];simp
theorem MT(a:UInt32):IntKind.u32.wrap (a.toNat:Int)=a.toNat:=by rw[IntKind.wrap_u32];have:=a.toNat_lt;omega
section
variable {P:Program} {w:vW} {T:TypeId} {p q:UInt32}
theorem oE:(binOp .add T (wv p) (wv q)).run P w=.ok (wv (Dm p q)) w:=by
 have e:IntKind.u32.wrap ((p.toNat:Int)+(q.toNat:Int))=((Dm p q).toNat:Int):=by rw[IntKind.wrap_u32,Dm,UInt32.toNat_add];omega
 unfold wv;rw[<-e];rfl
theorem oF:(binOp .xor T (wv p) (wv q)).run P w=.ok (wv (Kx p q)) w:=by
 have e:bits .xor .u32 p.toNat q.toNat=((Kx p q).toNat:Int):=by unfold bits;rw[CF,CF];exact MT (p ^^^ q)
 unfold wv;rw[<-e];rfl
theorem jwo:(binOp .and T (wv p) (wv q)).run P w=.ok (wv (So p q)) w:=by
 have e:bits .and .u32 p.toNat q.toNat=((So p q).toNat:Int):=by unfold bits;rw[CF,CF];exact MT (p &&& q)
 unfold wv;rw[<-e];rfl
theorem KA(n:Nat)(hn:n < 32)(k:IntKind):(binOp .shr T (wv p) (.int k n)).run P w=.ok (wv (Mk p (UInt32.ofNat n))) w:=by
 have e:((Mk p (UInt32.ofNat n)).toNat:Int)=(p.toNat:Int).fdiv (2 ^ n):=by unfold Mk;rw[UInt32.toNat_shiftRight,jH,gA (show n < 2 ^ 32 by omega),gA hn,Nat.shiftRight_eq_div_pow];rw[Int.fdiv_eq_ediv_of_nonneg _ (by exact_mod_cast cE (2 ^ n))];simp
 unfold wv;rw[e];show (Op.shift .shr .u32 (p.toNat:Int) k (n:Int)).run P w=_;unfold Op.shift;rw[if_neg vO];have h:min (n:Int).toNat (IntKind.bits .u32)=n:=by show min (n:Int).toNat 32=n;omega
 simp only[h];rfl
theorem jwp:(Op.unary .xor (wv p)).run P w=.ok (wv (Ws p)) w:=by
 have e:bits .xor .u32 (IntKind.max .u32) p.toNat=((Ws p).toNat:Int):=by have A:(IntKind.max .u32:Int)=((0xFFFFFFFF:UInt32).toNat:Int):=rfl;rw[A];unfold bits;rw[CF,CF];(have:(0xFFFFFFFF:UInt32) ^^^ p=Ws p:=by unfold Ws;apply UInt32.toBitVec_inj.1;show (BitVec.allOnes 32) ^^^ p.toBitVec = ~~~ p.toBitVec;rw[BitVec.allOnes_xor]);have q:=MT ((0xFFFFFFFF:UInt32) ^^^ p);rw[this]at q;rw[<-q, <-this];rfl
 unfold wv;rw[<-e];rfl
end
section
variable {P:Program} {l:List Oper} {E:vW->vW->Prop} {Q:Act->vW->Prop} {ord done hd:List Nat} {a:Act} {w:vW} {k:Nat} {d:Option Tmp} {x y:Operand} {T T' ty:TypeId} {pos:String} {af:Array Edge} {g:Option (Nat × Bool)} {op:BinOp} {ops:Array Oper} {rest:List Oper} {QQ:Exit->Act->vW->Prop}
end
theorem VA{P:Program}{o:Oper}{a:Act}{w:vW}{K:Act->vW->Prop}{Q:Exit->Act->vW->Prop}{t:TypeId}{x y:Operand}(b i:Nat)(v:vV)(ho:o.op=.store t x y)(hx:a.eval x=.pointer (some ⟨b,i,none⟩))(hy:a.eval y=v)(hv:v.oneCell'=true)
  (hi:(P.info? t).map (·.size)=some 1) {old:vV} (hc:w.cell? ⟨b,i,none⟩=some old) (hf:w.frozen? ⟨b,i,none⟩=false) (h:K (a.put o.dst undef) (w.setCell ⟨b,i,none⟩ v)):o.wp P a w K Q:=by
 obtain⟨A,e,q⟩:=dG.1 hi
 have H:(storeCells ⟨b,i,none⟩ [v]).run P w=.ok () (w.setCell ⟨b,i,none⟩ v):=by rw[jZ,run_store P w _ v _ hv,hc,hf];rfl
 have J:(Instr.storeAt t (.pointer (some ⟨b,i,none⟩)) v).run P w=.ok () (w.setCell ⟨b,i,none⟩ v):=by simp[Instr.storeAt,Instr.sureAddr,storeVar,bQ,Result.andThen,jtl hv,sizeOf,typeInfo,e,q,H]
 unfold Oper.wp execOp;simp only[ho,hx,hy,bQ,J,Result.andThen,cU];exact h
theorem u_{P:Program}{ops:Array Oper}{rest:List Oper}{o:Oper}{a:Act}{w:vW}{Q:Exit->Act->vW->Prop}{t:TypeId}{x y:Operand}(hgd:o.guard=none)(b i:Nat)(v:vV)(ho:o.op=.store t x y)(hx:a.eval x=.pointer (some ⟨b,i,none⟩))(hy:a.eval y=v)(hv:v.oneCell'=true)
  (hi:(P.info? t).map (·.size)=some 1) {old:vV} (hc:w.cell? ⟨b,i,none⟩=some old) (hf:w.frozen? ⟨b,i,none⟩=false) (h:wpList P ops Q rest (a.put o.dst undef) (w.setCell ⟨b,i,none⟩ v)):wpList P ops Q (o :: rest) a w:=
 wpList_plain hgd fun _ e=>VA b i v ho hx hy hv hi hc hf (e _ _ h)
theorem NR(p q:UInt32):bits .or .u32 p.toNat q.toNat=((p ||| q).toNat:Int):=by
 unfold bits;rw[CF,CF];exact MT (p ||| q)
theorem Zv(x:UInt32)(s n:Nat)(hs:s+n=32)(hn:0 < n)(hn2:n < 32):bits .or .u32 ((x.toNat:Int) * (2:Int) ^ s % (4294967296:Int)) ((x.toNat:Int) / (2:Int) ^ n)=((Du x (UInt32.ofNat n)).toNat:Int):=by
 have e:(x.toNat:Int) * (2:Int) ^ s % (4294967296:Int)=((x <<< (32 - UInt32.ofNat n)).toNat:Int):=by(rw[UInt32.toNat_shiftLeft];have q:(32 - UInt32.ofNat n).toNat=s:=by rw[UInt32.toNat_sub_of_le];{rw[jH];show 32 - n % 2 ^ 32=s;omega};rw[UInt32.le_iff_toNat_le,jH];show n % 2 ^ 32<=32;omega);rw[q,gA (show s < 32 by omega),Nat.shiftLeft_eq];simp
 have A:(x.toNat:Int) / (2:Int) ^ n=((x >>> UInt32.ofNat n).toNat:Int):=by rw[UInt32.toNat_shiftRight];rw[jH,gA (show n < 2 ^ 32 by omega),gA hn2,Nat.shiftRight_eq_div_pow];simp
 rw[e,A,NR];rfl
theorem tU(w:vW)(x:UInt32):vQ 179 #[wv x,.int .i64 2] w fun e w'=>e=.returned (wv (Du x 2))/\w=w':=by
 have e:bits BinOp.and .u64 (IntKind.u64.wrap (-2)) 31=30:=by decide +kernel
 have q:=Hd (Zv x 30 2 vI vI vI);unfold wv;unfold vQ;go_in;go_wp2;go_ret;have A:bits .or .u32 ((x.toNat:Int) * (1073741824:Int) % (4294967296:Int)) ((x.toNat:Int) / (4:Int))=((Du x 2).toNat:Int):=q.o
 exact⟨congrArg (fun z=>Ending.returned (Value.int .u32 z)) A,rfl⟩
theorem tV(w:vW)(x:UInt32):vQ 179 #[wv x,.int .i64 6] w fun e w'=>e=.returned (wv (Du x 6))/\w=w':=by
 have e:bits BinOp.and .u64 (IntKind.u64.wrap (-6)) 31=26:=by decide +kernel
 have q:=Hd (Zv x 26 6 vI vI vI);unfold wv;unfold vQ;go_in;go_wp2;go_ret;have A:bits .or .u32 ((x.toNat:Int) * (67108864:Int) % (4294967296:Int)) ((x.toNat:Int) / (64:Int))=((Du x 6).toNat:Int):=q.o
 exact⟨congrArg (fun z=>Ending.returned (Value.int .u32 z)) A,rfl⟩
theorem tW(w:vW)(x:UInt32):vQ 179 #[wv x,.int .i64 7] w fun e w'=>e=.returned (wv (Du x 7))/\w=w':=by
 have e:bits BinOp.and .u64 (IntKind.u64.wrap (-7)) 31=25:=by decide +kernel
 have q:=Hd (Zv x 25 7 vI vI vI);unfold wv;unfold vQ;go_in;go_wp2;go_ret;have A:bits .or .u32 ((x.toNat:Int) * (33554432:Int) % (4294967296:Int)) ((x.toNat:Int) / (128:Int))=((Du x 7).toNat:Int):=q.o
 exact⟨congrArg (fun z=>Ending.returned (Value.int .u32 z)) A,rfl⟩
theorem jyL(w:vW)(x:UInt32):vQ 179 #[wv x,.int .i64 11] w fun e w'=>e=.returned (wv (Du x 11))/\w=w':=by
 have e:bits BinOp.and .u64 (IntKind.u64.wrap (-11)) 31=21:=by decide +kernel
 have q:=Hd (Zv x 21 11 vI vI vI);unfold wv;unfold vQ;go_in;go_wp2;go_ret;have A:bits .or .u32 ((x.toNat:Int) * (2097152:Int) % (4294967296:Int)) ((x.toNat:Int) / (2048:Int))=((Du x 11).toNat:Int):=q.o
 exact⟨congrArg (fun z=>Ending.returned (Value.int .u32 z)) A,rfl⟩
theorem jyM(w:vW)(x:UInt32):vQ 179 #[wv x,.int .i64 13] w fun e w'=>e=.returned (wv (Du x 13))/\w=w':=by
 have e:bits BinOp.and .u64 (IntKind.u64.wrap (-13)) 31=19:=by decide +kernel
 have q:=Hd (Zv x 19 13 vI vI vI);unfold wv;unfold vQ;go_in;go_wp2;go_ret;have A:bits .or .u32 ((x.toNat:Int) * (524288:Int) % (4294967296:Int)) ((x.toNat:Int) / (8192:Int))=((Du x 13).toNat:Int):=q.o
 exact⟨congrArg (fun z=>Ending.returned (Value.int .u32 z)) A,rfl⟩
theorem jyN(w:vW)(x:UInt32):vQ 179 #[wv x,.int .i64 17] w fun e w'=>e=.returned (wv (Du x 17))/\w=w':=by
 have e:bits BinOp.and .u64 (IntKind.u64.wrap (-17)) 31=15:=by decide +kernel
 have q:=Hd (Zv x 15 17 vI vI vI);unfold wv;unfold vQ;go_in;go_wp2;go_ret;have A:bits .or .u32 ((x.toNat:Int) * (32768:Int) % (4294967296:Int)) ((x.toNat:Int) / (131072:Int))=((Du x 17).toNat:Int):=q.o
 exact⟨congrArg (fun z=>Ending.returned (Value.int .u32 z)) A,rfl⟩
theorem jyO(w:vW)(x:UInt32):vQ 179 #[wv x,.int .i64 18] w fun e w'=>e=.returned (wv (Du x 18))/\w=w':=by
 have e:bits BinOp.and .u64 (IntKind.u64.wrap (-18)) 31=14:=by decide +kernel
 have q:=Hd (Zv x 14 18 vI vI vI);unfold wv;unfold vQ;go_in;go_wp2;go_ret;have A:bits .or .u32 ((x.toNat:Int) * (16384:Int) % (4294967296:Int)) ((x.toNat:Int) / (262144:Int))=((Du x 18).toNat:Int):=q.o
 exact⟨congrArg (fun z=>Ending.returned (Value.int .u32 z)) A,rfl⟩
theorem jyP(w:vW)(x:UInt32):vQ 179 #[wv x,.int .i64 19] w fun e w'=>e=.returned (wv (Du x 19))/\w=w':=by
 have e:bits BinOp.and .u64 (IntKind.u64.wrap (-19)) 31=13:=by decide +kernel
 have q:=Hd (Zv x 13 19 vI vI vI);unfold wv;unfold vQ;go_in;go_wp2;go_ret;have A:bits .or .u32 ((x.toNat:Int) * (8192:Int) % (4294967296:Int)) ((x.toNat:Int) / (524288:Int))=((Du x 19).toNat:Int):=q.o
 exact⟨congrArg (fun z=>Ending.returned (Value.int .u32 z)) A,rfl⟩
theorem jyQ(w:vW)(x:UInt32):vQ 179 #[wv x,.int .i64 22] w fun e w'=>e=.returned (wv (Du x 22))/\w=w':=by
 have e:bits BinOp.and .u64 (IntKind.u64.wrap (-22)) 31=10:=by decide +kernel
 have q:=Hd (Zv x 10 22 vI vI vI);unfold wv;unfold vQ;go_in;go_wp2;go_ret;have A:bits .or .u32 ((x.toNat:Int) * (1024:Int) % (4294967296:Int)) ((x.toNat:Int) / (4194304:Int))=((Du x 22).toNat:Int):=q.o
 exact⟨congrArg (fun z=>Ending.returned (Value.int .u32 z)) A,rfl⟩
theorem jyR(w:vW)(x:UInt32):vQ 179 #[wv x,.int .i64 25] w fun e w'=>e=.returned (wv (Du x 25))/\w=w':=by
 have e:bits BinOp.and .u64 (IntKind.u64.wrap (-25)) 31=7:=by decide +kernel
 have q:=Hd (Zv x 7 25 vI vI vI);unfold wv;unfold vQ;go_in;go_wp2;go_ret;have A:bits .or .u32 ((x.toNat:Int) * (128:Int) % (4294967296:Int)) ((x.toNat:Int) / (33554432:Int))=((Du x 25).toNat:Int):=q.o
 exact⟨congrArg (fun z=>Ending.returned (Value.int .u32 z)) A,rfl⟩
end
