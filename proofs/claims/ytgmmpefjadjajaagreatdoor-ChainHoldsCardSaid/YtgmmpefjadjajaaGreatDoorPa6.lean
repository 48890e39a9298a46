/- Lemmas. -/
import Derived.Test.YtgmmpefjadjajaaGreatDoorPa0
import Derived.Test.YtgmmpefjadjajaaGreatDoorPa4
import Derived.Test.YtgmmpefjadjajaaGreatDoorPa5
import Derived.WalkSpells
namespace Go.Proofs.YtgmmpefjadjajaaGreatDoor
open Go.Proofs.Tryz
set_option linter.unusedSimpArgs false
set_option linter.unusedVariables false
set_option maxRecDepth 100000
set_option maxHeartbeats 16000000
variable (l m:vN)(w:vW)(v:vV)(s:vB)(to k n:Nat)(b:vU)(r:Bool × Nat × Nat){xs:vM}
section
open Go Go.RowKit
def Ie(w:vW)(v:vV)(xs:vM):Prop:=
 (∃ a c,v=.slice a 0 c/\xs=[])\/∃ b o c,v=.slice (some ⟨b,o,none⟩) xs.length c/\b<(w:Nat)/\xs.length<=c/\∀ (j:Nat) x,xs[j]?=some x->w.cell? ⟨b,o+j,none⟩=some (.string x)
theorem Ie.ext{w w':vW}{v:vV}(h:Ie w v xs)(k:Af w w'):Ie w' v xs:=by
 rcases h with h|⟨b,o,c,h1,h2,h3,h4⟩
 ·exact .inl h
 ·exact .inr ⟨b,o,c,h1,bE h2 k.size,h3,λj x e=>Am (h4 j x e) k⟩
abbrev Cg(w0 w:vW)(v:vV)(n:Nat)(xs:vM):Prop:=Ar 9 1 w0 w v n (xs.map Value.string)
theorem Cg.rd{w0 w:vW}{v:vV}{n:Nat}(h:Cg w0 w v n xs):Ie w v xs:=by
 have A:xs.length=n:=by have:=h.len;simpa using this
 obtain⟨_,⟨rfl,X⟩|⟨g,e,H,rfl,Z,K,O,h6,h7⟩⟩:=h.own
 ·exact .inl ⟨none,0,rfl,bF vO⟩
 ·subst A;refine .inr ⟨g,0,e,rfl,(dD.1 K).1,O,λj x q=>?_⟩;have hj:=(bI.1 q).1;have:=h.own.cellAt j vO;rw[bX,this,bY,q];rfl
def Aw(xs:vM):vB:=⟨(xs.map (·.data.toList)).flatten.toArray⟩
def Fo(xs:vM):vB:=Nq 192 (Aw xs).size++Aw xs
theorem nG:∀ (l:List (vN)),Lib.join l []=l.flatten
 |[]=>rfl
 |x::r=>by
  rw[Lib.join_cons];simp only[Lib.joinTail,cL,List.map_id',List.flatten_cons]
theorem wB(xs:vM)(h:Ie w v xs)(hl:(Aw xs).size<=1000000000)(hn:xs.length<=1000000000):vR 140 #[v,()] w (Aw xs):=by
 rcases h with⟨a,c,rfl,rfl⟩|⟨b,o,c,rfl,q,h3,h4⟩
 ·exact (Tryz.strings_Join_none a c () w).mono λe w' ⟨A,q⟩=>⟨by rw[A];rfl,by rw[q];exact Aa w⟩
 ·(have H:(Lib.join (xs.map (·.data.toList)) (⟨#[]⟩:vB).data.toList).length<=140737488355328:=by(show (Lib.join (xs.map (·.data.toList)) []).length<=_;rw[nG];have:(xs.map (·.data.toList)).flatten.length=(Aw xs).size:=by simp[Aw,ByteArray.size]);omega);exact (Tryz.strings_Join b o c xs () w h4 q vO h3 H).mono λe w' ⟨A,q⟩=>⟨by rw[A];show _=Ending.returned (.string ⟨(xs.map (·.data.toList)).flatten.toArray⟩);rw[show (⟨#[]⟩:vB).data.toList=[]from rfl,nG],Ad.of_below q⟩
theorem LR(xs:vM)(h:Ie w v xs)(hl:(Aw xs).size<=1000000000)(hn:xs.length<=1000000000):vR 87 #[v] w (Fo xs):=by
 have H:=J h;clear h;unfold vR vQ;go_in;go_wp2_with fail
 refine vC (wB w v xs H.o hl hn) λw1 q=>?_;go_wp2_with fail
 refine vC (XI w1 192 (Aw xs).size hl) λK e=>?_;have A:=CP 192 (Aw xs).size;go_wp2;go_ret
 exact⟨rfl,q.trans e⟩
def Sc(l:vN):Nat:=l.foldl (λn b=>n*256+b.toNat) 0
theorem mK:Sc (l++[b])=Sc l*256+b.toNat:=by simp[Sc]
theorem mI:∀ (m:vN) (a:Nat),a<=m.foldl (λn b=>n*256+b.toNat) a
 |[],_=>bO _
 |b::m,a=>bH vO (mI m (a*256+b.toNat))
theorem mJ:Sc l<=Sc (l++m):=by
 unfold Sc;rw[fE];exact mI m _
def Sa(s:vB)(to:Nat):Option Nat:=
 if s.size<to\/s.data.toList.getD 1 0=0 then none else
 if 55<Sc ((s.data.toList.take to).drop 1)/\Sc ((s.data.toList.take to).drop 1)<=1048576 then some (Sc ((s.data.toList.take to).drop 1))else none
theorem NT{s:vB}{to n:Nat}(h:Sa s to=some n):to<=s.size/\s.data.toList.getD 1 0≠0/\Sc ((s.data.toList.take to).drop 1)=n/\55<n/\n<=1048576:=by
 unfold Sa at h;split at h
 ·cases h
 rename_i hc
 simp only[not_or,Nat.not_lt]at hc;split at h
 ·rename_i hn;have:=bV h;exact⟨hc.1,hc.2,this,by omega,by omega⟩
 ·cases h
theorem V2(hn:n<=1048576):bits .or .i64 ((n:Int)*256) (b.toNat:Int)=((n*256+b.toNat:Nat):Int):=by
 have hb:=b.toNat_lt;unfold bits;have e:BitVec.ofInt (IntKind.bits .i64) ((n:Int)*256)=BitVec.ofNat 64 (n*256):=by rw[show ((n:Int)*256)=((n*256:Nat):Int) by omega,BitVec.ofInt_natCast];rfl
 have q:BitVec.ofInt (IntKind.bits .i64) (b.toNat:Int)=BitVec.ofNat 64 b.toNat:=by rw[BitVec.ofInt_natCast];rfl
 simp only[e,q];have A:(BitVec.ofNat 64 (n*256) ||| BitVec.ofNat 64 b.toNat).toNat=n*256+b.toNat:=by rw[BitVec.toNat_or,BitVec.toNat_ofNat,BitVec.toNat_ofNat,gH vO,gH vO];rw[show n*256=2 ^ 8*n by omega,Nat.two_pow_add_eq_or_of_lt (by omega:b.toNat<2 ^ 8)]
 show IntKind.i64.wrap ((BitVec.ofNat 64 (n*256) ||| BitVec.ofNat 64 b.toNat).toNat:Int)=_;rw[A,IntKind.wrap_i64];omega
def jzT(s:vB)(to:Nat)(n i:vV):Prop:=∃ k:Nat,1<=k/\k<=to/\i=.int .i64 k/\n=.int .i64 (Sc ((s.data.toList.take k).drop 1))
theorem s_{k:Nat}(h1:1<=k)(h:k<s.size):(s.data.toList.take (k+1)).drop 1=(s.data.toList.take k).drop 1++[s[k]]:=by
 have e:k<s.data.toList.length:=by simpa using h
 rw[cP e,List.drop_append_of_le_length zd];rfl
theorem nK(hs:s.size<=1000000000)(h2:2<=to)(h:Sa s to=some n):vQ 218 #[s,.int .i64 to] w λe w'=>e=.returned (.tuple #[.int .i64 n,qg])/\w=w':=by
 obtain⟨a5,h1,hn,a7,a8⟩:=NT h
 have HN:=J hn;clear h hn;have hz:((s[1]'(by omega)).toNat:Int)≠0:=by intro hh;apply h1;rw[bL,bB zd];have:(s[1]'(by omega))=0:=dO.1 (by show _=0;omega);exact this
 have a9:(((s[1]'(by omega)).toNat:Int) == 0)=false:=by simpa using hz
 clear h1 hz;have c1:(1:Int)<(s.size:Int):=vO
 unfold vQ;go_in;go_wp2;go_loop [6,7] (λm i=>jzT s to m i) (λ_ i=>to-(intOf i).toNat)
 case atStart=>exact⟨1,bO _,by omega,rfl,by simp[Sc]⟩
 case round =>obtain⟨k,Z,b0,rfl,rfl⟩:=hrel;by_cases hlt:k<to;{have a0:k<s.size:=vO;have c2:(k:Int)<(s.size:Int):=vO;have q:=s_ s Z a0;obtain⟨m,X⟩:=vE (Sc ((s.data.toList.take k).drop 1));(have H:Sc ((s.data.toList.take (k+1)).drop 1)<=n:=by(have h3:=mJ ((s.data.toList.take (k+1)).drop 1) ((s.data.toList.take to).drop (k+1));have h4:(s.data.toList.take (k+1)).drop 1++(s.data.toList.take to).drop (k+1)=(s.data.toList.take to).drop 1:=by(have e1:s.data.toList.take to=s.data.toList.take (k+1)++(s.data.toList.take to).drop (k+1):=by(conv=>lhs;rw[<-cX (k+1) (s.data.toList.take to)]);rw[List.take_take,Nat.min_eq_left vO]);(conv=>rhs;rw[e1]);rw[List.drop_append_of_le_length zd]);rw[h4]at h3;have:=HN.o;omega);(have a1:m<=Sc ((s.data.toList.take (k+1)).drop 1):=by rw[X,q];exact mJ _ _);have a2:m<=1048576:=vO;(have K:=V2 m s[k] a2;have O:bits BinOp.or .i64 ((m:Int)*256) (wrap64 (s[k].toNat:Int))=((m*256+s[k].toNat:Nat):Int):=by have hb:=s[k].toNat_lt;rw[<-K];congr 1;unfold wrap64;omega);(clear K;have e5:Sc ((s.data.toList.take (k+1)).drop 1)=m*256+s[k].toNat:=by rw[q,mK, <-X]);rw[e5]at H;have H5:=J e5;rw[<-X];clear X q a1 e5;obtain⟨m',A⟩:∃ m',m'=m*256+s[k].toNat:=⟨_,rfl⟩;rw[<-A]at O H;have a3:=J A;clear A;go_wp2;go_round;(case rel=>exact⟨k+1,by omega,by omega,by go_num,by rw[H5.o,a3.o]⟩);case measure=>exact vJ};have a4:k=to:=vO;subst a4;rw[HN.o];go_wp2;go_ret2;exact⟨rfl,rfl⟩
theorem Sf{s:vB}(h:0<s.size):s.toList.isEmpty=false:=by
 rw[cA]
 obtain⟨⟨l⟩⟩:=s
 cases l with
 |nil=>exact absurd h (Nat.lt_irrefl 0)
 |cons _ _=>rfl
def Va(s:vB)(r:Bool × Nat × Nat):vV:=.tuple #[r.1,s.extract r.2.1 (r.2.1+r.2.2),s.extract (r.2.1+r.2.2) s.size,qg]
theorem s1(hs:s.size<=1000000000)(h0:0<s.size)(hc:(s[0].toNat:Int)<128):vR 176 #[s] w (Va s (false,0,1)):=by
 have H:(1:Int)<=(s.size:Int):=vO
 have e:=Sf h0;unfold vR vQ;go_in;go_wp2_with fail
 refine Lc [0,1,2,3,4,5,6,7] [] Af Aa Ap vY vY vY ?_;iterate 8 refine vP ?_
 refine qE (λw1 q=>?_);have A:=J ((Ao w).trans q);go_wp2;exact bodyPost_ret (v:=Va s (false,0,1)) (by simp[results,results176,go_sem];rfl) rfl ⟨rfl,A.o⟩
theorem I2(hs:s.size<=1000000000)(h0:0<s.size)(hc2:(s[0].toNat:Int)=128+n)(hn:n<=55)(hle:1+n<=s.size)(h1:n≠1\/∃ h:1<s.size,(128:Int)<=(s[1].toNat:Int)):vR 176 #[s] w (Va s (false,1,n)):=by
 have K:¬(s[0].toNat:Int)<128:=vO
 have O:(s[0].toNat:Int)<192:=vO
 have c6:(0:Int)<=1+(n:Int):=vO
 have X:1+(n:Int)<=(s.size:Int):=vO
 have Z:(1:Int)<=1+(n:Int):=vO
 have c9:(1+(n:Int)).toNat=1+n:=vO
 have H:=Sf h0;have e1:(s[0].toNat:Int)-128=(n:Int):=vO
 clear hc2;rcases h1 with h1|⟨hs1,h1⟩
 ·(have A:((n:Int) == 1)=false:=by simp;omega);(unfold vR vQ;go_in;go_wp2_with fail);(refine Lc [0,1,2,3,4,5,6,7,8,9,10,11,12,13,14,15,16] [] Af Aa Ap vY vY vY ?_;iterate 17 refine vP ?_);refine qE (λw1 e=>?_);have q:=J ((Ao w).trans e);clear e;go_wp2;exact bodyPost_ret (v:=Va s (false,1,n)) (by simp[results,results176,go_sem];rfl) rfl ⟨rfl,q.o⟩
 ·have d0:(1:Int)<(s.size:Int):=vO;have d1:¬(s[1].toNat:Int)<128:=vO;by_cases hq0:n=1;{(have A:((n:Int) == 1)=true:=by simp;omega);(clear hq0;unfold vR vQ;go_in;go_wp2_with fail);(refine Lc [0,1,2,3,4,5,6,7,8,9,10,11,12,13,14,15,16] [] Af Aa Ap vY vY vY ?_;iterate 17 refine vP ?_);refine qE (λw1 e=>?_);have q:=J ((Ao w).trans e);clear e;go_wp2;exact bodyPost_ret (v:=Va s (false,1,n)) (by simp[results,results176,go_sem];rfl) rfl ⟨rfl,q.o⟩};(have A:((n:Int) == 1)=false:=by simp;omega);(unfold vR vQ;go_in;go_wp2_with fail);(refine Lc [0,1,2,3,4,5,6,7,8,9,10,11,12,13,14,15,16] [] Af Aa Ap vY vY vY ?_;iterate 17 refine vP ?_);refine qE (λw1 e=>?_);have q:=J ((Ao w).trans e);clear e;go_wp2;exact bodyPost_ret (v:=Va s (false,1,n)) (by simp[results,results176,go_sem];rfl) rfl ⟨rfl,q.o⟩
theorem I0(hs:s.size<=1000000000)(h0:0<s.size)(hc2:(s[0].toNat:Int)=192+n)(hn:n<=55)(hle:1+n<=s.size):vR 176 #[s] w (Va s (true,1,n)):=by
 have H:¬(s[0].toNat:Int)<128:=vO
 have K:¬(s[0].toNat:Int)<192:=vO
 have c6:(0:Int)<=1+(n:Int):=vO
 have O:1+(n:Int)<=(s.size:Int):=vO
 have X:(1:Int)<=1+(n:Int):=vO
 have Z:(1+(n:Int)).toNat=1+n:=vO
 have q:=Sf h0;have e1:(s[0].toNat:Int)-192=(n:Int):=vO
 clear hc2;unfold vR vQ;go_in;go_wp2_with fail
 refine Lc [0,1,2,3,4,5,6,7,8,9,10,11,12,13,14,15,16] [] Af Aa Ap vY vY vY ?_;iterate 17 refine vP ?_
 refine qE (λw1 e=>?_);have A:=J ((Ao w).trans e);clear e;go_wp2;exact bodyPost_ret (v:=Va s (true,1,n)) (by simp[results,results176,go_sem];rfl) rfl ⟨rfl,A.o⟩
theorem s2(hs:s.size<=1000000000)(h0:0<s.size)(hc2:(s[0].toNat:Int)=128+55+k)(hk:1<=k)(hk8:k<=8)(hL:Sa s (1+k)=some n)(hle:1+k+n<=s.size):vR 176 #[s] w (Va s (false,1+k,n)):=by
 obtain⟨O,_,_,X,Z⟩:=NT hL
 have H:=J hL;clear hL
 obtain⟨f,q⟩:=vE (1+k)
 obtain⟨m,hm⟩:=vE (55+k)
 have HF:=J q;have c0:(0:Int)<(s.size:Int):=vO
 have c1:(1:Int)<=(s.size:Int):=vO
 have c2:¬(s[0].toNat:Int)<128:=vO
 have c3:(s[0].toNat:Int)<192:=vO
 have c4:¬(m:Int)<=55:=vO
 have a0:(55:Int)<(m:Int):=vO
 have c5:(n:Int)<=(s.size:Int)-(f:Int):=vO
 have c6:(0:Int)<=(f:Int)+(n:Int):=vO
 have c7:(f:Int)+(n:Int)<=(s.size:Int):=vO
 have c8:(f:Int)<=(f:Int)+(n:Int):=vO
 have c9:((f:Int)+(n:Int)).toNat=f+n:=vO
 have hq:((n:Int) == 1)=false:=by simp;omega
 have a1:=Sf h0;have e1:(s[0].toNat:Int)-128=(m:Int):=vO
 have e2:1+(m:Int)-55=(f:Int):=vO
 have A:2<=f:=vO
 have a2:(m:Int)<=63:=vO
 have a3:(0:Int)<=(m:Int):=vO
 rw[<-q]at H;rw[<-q];clear hc2 q hm;unfold vR vQ;go_in;go_wp2_with fail
 refine (nK w s f n hs A H.o).mono ?_;rintro e w1 ⟨rfl,rfl⟩;go_wp2_with fail
 refine Lc [0,1,2,3,4,5,6,7,8,9,10,11,12,13,14,15,16] [] Af Aa Ap vY vY vY ?_;iterate 17 refine vP ?_
 refine qE (λw1 K=>?_);have HE:=J ((Ao w).trans K);clear K;go_wp2;exact bodyPost_ret (v:=Va s (false,f,n)) (by simp[results,results176,go_sem];rfl) rfl ⟨rfl,HE.o⟩
theorem r9(hs:s.size<=1000000000)(h0:0<s.size)(hc2:(s[0].toNat:Int)=192+55+k)(hk:1<=k)(hk8:k<=8)(hL:Sa s (1+k)=some n)(hle:1+k+n<=s.size):vR 176 #[s] w (Va s (true,1+k,n)):=by
 obtain⟨O,_,_,X,Z⟩:=NT hL
 have H:=J hL;clear hL
 obtain⟨f,q⟩:=vE (1+k)
 obtain⟨m,hm⟩:=vE (55+k)
 have HF:=J q;have c0:(0:Int)<(s.size:Int):=vO
 have c1:(1:Int)<=(s.size:Int):=vO
 have c2:¬(s[0].toNat:Int)<128:=vO
 have c3:¬(s[0].toNat:Int)<192:=vO
 have c4:¬(m:Int)<=55:=vO
 have a0:(55:Int)<(m:Int):=vO
 have c5:(n:Int)<=(s.size:Int)-(f:Int):=vO
 have c6:(0:Int)<=(f:Int)+(n:Int):=vO
 have c7:(f:Int)+(n:Int)<=(s.size:Int):=vO
 have c8:(f:Int)<=(f:Int)+(n:Int):=vO
 have c9:((f:Int)+(n:Int)).toNat=f+n:=vO
 have hq:((n:Int) == 1)=false:=by simp;omega
 have a1:=Sf h0;have e1:(s[0].toNat:Int)-192=(m:Int):=vO
 have e2:1+(m:Int)-55=(f:Int):=vO
 have A:2<=f:=vO
 have a2:(m:Int)<=63:=vO
 have a3:(0:Int)<=(m:Int):=vO
 rw[<-q]at H;rw[<-q];clear hc2 q hm;unfold vR vQ;go_in;go_wp2_with fail
 refine (nK w s f n hs A H.o).mono ?_;rintro e w1 ⟨rfl,rfl⟩;go_wp2_with fail
 refine Lc [0,1,2,3,4,5,6,7,8,9,10,11,12,13,14,15,16] [] Af Aa Ap vY vY vY ?_;iterate 17 refine vP ?_
 refine qE (λw1 K=>?_);have HE:=J ((Ao w).trans K);clear K;go_wp2;exact bodyPost_ret (v:=Va s (true,f,n)) (by simp[results,results176,go_sem];rfl) rfl ⟨rfl,HE.o⟩
def Dx(s:vB):Option (Bool × Nat × Nat):=
 if h:0<s.size then
  let b:=s[0].toNat
  if b<128 then some (false,0,1)
  else
   let (l,m):=if b<192 then (false,b-128)else (true,b-192)
   if m<=55 then
    if 1+m<=s.size/\(l=true\/m≠1\/128<=(s.data.toList.getD 1 0).toNat)then some (l,1,m)else none
   else match Sa s (1+(m-55))with
    |some n=>if 1+(m-55)+n<=s.size then some (l,1+(m-55),n)else none
    |none=>none
 else none
theorem YW(hs:s.size<=1000000000)(h:Dx s=some r):vR 176 #[s] w (Va s r):=by
 unfold Dx at h
 by_cases h0:0<s.size
 ·rw[dif_pos h0]at h;simp only at h;have hb:=s[0].toNat_lt;by_cases h1:s[0].toNat<128;{rw[if_pos h1]at h;cases h;exact s1 w s hs h0 vO};rw[if_neg h1]at h;by_cases h2:s[0].toNat<192;{rw[if_pos h2]at h;simp only at h;by_cases h3:s[0].toNat-128<=55;{rw[if_pos h3]at h;split at h;{rename_i hc;cases h;refine I2 w s (s[0].toNat-128) hs h0 vO h3 hc.1 ?_;rcases hc.2 with hc|hc|hc;{cases hc};{exact .inl hc};(have e:1<s.size:=by rcases fH 1 s.size with h|h;{exact h};rw[bL,jG (by simpa using h)]at hc;exact absurd hc vI);refine .inr ⟨e,?_⟩;rw[bL,bB (by simpa using e)]at hc;have q:128<=(s[1]'e).toNat:=hc;omega};cases h};rw[if_neg h3]at h;split at h;{rename_i n hl;split at h;{rename_i hc;cases h;exact s2 w s (s[0].toNat-128-55) n hs h0 vO vO vO hl hc};cases h};cases h};rw[if_neg h2]at h;simp only at h;by_cases h3:s[0].toNat-192<=55;{rw[if_pos h3]at h;split at h;{rename_i hc;cases h;exact I0 w s (s[0].toNat-192) hs h0 vO h3 hc.1};cases h};rw[if_neg h3]at h;split at h;{rename_i n hl;split at h;{rename_i hc;cases h;exact r9 w s (s[0].toNat-192-55) n hs h0 vO vO vO hl hc};cases h};cases h
 ·rw[dif_neg h0]at h;cases h
theorem vG:vQ 36 #[qg,.iface 27 (.int .i64 2)] w λe w'=>e=.returned false/\w=w':=by
 have q:∀ w,(binOp .eql 93 .nilIface (.iface 27 (.int .i64 2))).run prog w=.ok false w:=λw=>by kernel_rfl
 unfold vQ;go_in;go_wp2
 go_ret
 exact⟨rfl,rfl⟩
theorem GY(hs:s.size<=1000000000)(h:Dx s=some r):vR 149 #[s] w (.tuple #[r.1,s.extract r.2.1 (r.2.1+r.2.2),s.extract (r.2.1+r.2.2) s.size,qa]):=by
 unfold vR vQ;go_in;go_wp2_with fail
 refine vH (YW w s r hs h) λw1 H=>?_;unfold Va
 obtain⟨x,q⟩:=vE (s.extract r.2.1 (r.2.1+r.2.2))
 obtain⟨y,A⟩:∃ x,x=s.extract (r.2.1+r.2.2) s.size:=⟨_,rfl⟩
 rw[<-q, <-A]
 obtain⟨l,p⟩:=r
 have K:=J q;have O:=J A;clear h q A hs;simp only;go_wp2_with fail
 refine (vG w1).mono ?_;rintro e X ⟨rfl,rfl⟩;go_wp2_with fail
 exact bodyPost_ret (v:=.tuple #[l,.string x,y,qa]) vY rfl ⟨by rw[K.o,O.o],H.o⟩
end
section
open Go Go.RowKit
theorem Bl:prog.underlying 260=some (.int .u32):=vY
theorem Mj:(prog.info? 260).map (·.size)=some 1:=vY
def Dw(p q:UInt32):UInt32:=p+q
def Lh(p q:UInt32):UInt32:=p ^^^ q
def Tf(p q:UInt32):UInt32:=p &&& q
def Xe(p:UInt32):UInt32 := ~~~ p
def Mu(p:UInt32)(n:UInt32):UInt32:=p >>> n
def Dz(p:UInt32)(n:UInt32):UInt32:=(p <<< (32-n)) |||(p >>> n)
def wv(p:UInt32):vV:=.int .u32 (p.toNat:Int)
theorem CT(a:UInt32):BitVec.ofInt (IntKind.bits .u32) (a.toNat:Int)=a.toBitVec:=by
 show BitVec.ofInt 32 ((a.toNat:Nat):Int)=_;rw[BitVec.ofInt_natCast];simp
theorem NQ(a:UInt32):IntKind.u32.wrap (a.toNat:Int)=a.toNat:=by rw[IntKind.wrap_u32];have:=a.toNat_lt;omega
section
variable {P:Program} {w:vW} {T:TypeId} {p q:UInt32}
theorem oV:(binOp .add T (wv p) (wv q)).run P w=.ok (wv (Dw p q)) w:=by
 have e:IntKind.u32.wrap ((p.toNat:Int)+(q.toNat:Int))=((Dw p q).toNat:Int):=by rw[IntKind.wrap_u32,Dw,UInt32.toNat_add];omega
 unfold wv;rw[<-e];rfl
theorem oW:(binOp .xor T (wv p) (wv q)).run P w=.ok (wv (Lh p q)) w:=by
 have e:bits .xor .u32 p.toNat q.toNat=((Lh p q).toNat:Int):=by unfold bits;rw[CT,CT];exact NQ (p ^^^ q)
 unfold wv;rw[<-e];rfl
theorem K8:(binOp .and T (wv p) (wv q)).run P w=.ok (wv (Tf p q)) w:=by
 have e:bits .and .u32 p.toNat q.toNat=((Tf p q).toNat:Int):=by unfold bits;rw[CT,CT];exact NQ (p &&& q)
 unfold wv;rw[<-e];rfl
theorem KZ(n:Nat)(hn:n<32)(k:IntKind):(binOp .shr T (wv p) (.int k n)).run P w=.ok (wv (Mu p (UInt32.ofNat n))) w:=by
 have e:((Mu p (UInt32.ofNat n)).toNat:Int)=(p.toNat:Int).fdiv (2 ^ n):=by unfold Mu;rw[UInt32.toNat_shiftRight,jM,gH (show n<2 ^ 32 by omega),gH hn,Nat.shiftRight_eq_div_pow];rw[Int.fdiv_eq_ediv_of_nonneg _ (by exact_mod_cast cD (2 ^ n))];simp
 unfold wv;rw[e];show (Op.shift .shr .u32 (p.toNat:Int) k (n:Int)).run P w=_;unfold Op.shift;rw[if_neg vO];have h:min (n:Int).toNat (IntKind.bits .u32)=n:=by show min (n:Int).toNat 32=n;omega
 simp only[h];rfl
theorem L0:(Op.unary .xor (wv p)).run P w=.ok (wv (Xe p)) w:=by
 have e:bits .xor .u32 (IntKind.max .u32) p.toNat=((Xe p).toNat:Int):=by have A:(IntKind.max .u32:Int)=((0xFFFFFFFF:UInt32).toNat:Int):=rfl;rw[A];unfold bits;rw[CT,CT];(have:(0xFFFFFFFF:UInt32) ^^^ p=Xe p:=by unfold Xe;apply UInt32.toBitVec_inj.1;show (BitVec.allOnes 32) ^^^ p.toBitVec = ~~~ p.toBitVec;rw[BitVec.allOnes_xor]);have q:=NQ ((0xFFFFFFFF:UInt32) ^^^ p);rw[this]at q;rw[<-q, <-this];rfl
 unfold wv;rw[<-e];rfl
end
section
variable {P:Program} {l:List Oper} {E:vW->vW->Prop} {Q:Act->vW->Prop} {ord done hd:List Nat} {a:Act} {w:vW} {k:Nat} {d:Option Tmp} {x y:Operand} {T T' ty:TypeId} {pos:String} {af:Array Edge} {g:Option (Nat × Bool)} {op:BinOp} {ops:Array Oper} {rest:List Oper} {QQ:Exit->Act->vW->Prop}
end
theorem VV{P:Program}{o:Oper}{a:Act}{w:vW}{K:Act->vW->Prop}{Q:Exit->Act->vW->Prop}{t:TypeId}{x y:Operand}(b i:Nat)(v:vV)(ho:o.op=.store t x y)(hx:a.eval x=.pointer (some ⟨b,i,none⟩))(hy:a.eval y=v)(hv:v.oneCell'=true)
  (hi:(P.info? t).map (·.size)=some 1) {old:vV} (hc:w.cell? ⟨b,i,none⟩=some old) (hf:w.frozen? ⟨b,i,none⟩=false) (h:K (a.put o.dst undef) (w.setCell ⟨b,i,none⟩ v)):o.wp P a w K Q:=by
 obtain⟨A,e,q⟩:=dH.1 hi
 have H:(storeCells ⟨b,i,none⟩ [v]).run P w=.ok () (w.setCell ⟨b,i,none⟩ v):=by rw[lC,run_store P w _ v _ hv,hc,hf];rfl
 have O:(Instr.storeAt t (.pointer (some ⟨b,i,none⟩)) v).run P w=.ok () (w.setCell ⟨b,i,none⟩ v):=by simp[Instr.storeAt,Instr.sureAddr,storeVar,bS,Result.andThen,z5 hv,sizeOf,typeInfo,e,q,H]
 unfold Oper.wp execOp;simp only[ho,hx,hy,bS,O,Result.andThen,cT];exact h
theorem a0{P:Program}{ops:Array Oper}{rest:List Oper}{o:Oper}{a:Act}{w:vW}{Q:Exit->Act->vW->Prop}{t:TypeId}{x y:Operand}(hgd:o.guard=none)(b i:Nat)(v:vV)(ho:o.op=.store t x y)(hx:a.eval x=.pointer (some ⟨b,i,none⟩))(hy:a.eval y=v)(hv:v.oneCell'=true)
  (hi:(P.info? t).map (·.size)=some 1) {old:vV} (hc:w.cell? ⟨b,i,none⟩=some old) (hf:w.frozen? ⟨b,i,none⟩=false) (h:wpList P ops Q rest (a.put o.dst undef) (w.setCell ⟨b,i,none⟩ v)):wpList P ops Q (o::rest) a w:=
 wpList_plain hgd λ_ e=>VV b i v ho hx hy hv hi hc hf (e _ _ h)
theorem OK(p q:UInt32):bits .or .u32 p.toNat q.toNat=((p ||| q).toNat:Int):=by
 unfold bits;rw[CT,CT];exact NQ (p ||| q)
theorem AK(x:UInt32)(s n:Nat)(hs:s+n=32)(hn:0<n)(hn2:n<32):bits .or .u32 ((x.toNat:Int)*(2:Int) ^ s % (4294967296:Int)) ((x.toNat:Int) / (2:Int) ^ n)=((Dz x (UInt32.ofNat n)).toNat:Int):=by
 have e:(x.toNat:Int)*(2:Int) ^ s % (4294967296:Int)=((x <<< (32-UInt32.ofNat n)).toNat:Int):=by(rw[UInt32.toNat_shiftLeft];have q:(32-UInt32.ofNat n).toNat=s:=by rw[UInt32.toNat_sub_of_le];{rw[jM];show 32-n % 2 ^ 32=s;omega};rw[UInt32.le_iff_toNat_le,jM];show n % 2 ^ 32<=32;omega);rw[q,gH (show s<32 by omega),Nat.shiftLeft_eq];simp
 have A:(x.toNat:Int) / (2:Int) ^ n=((x >>> UInt32.ofNat n).toNat:Int):=by rw[UInt32.toNat_shiftRight];rw[jM,gH (show n<2 ^ 32 by omega),gH hn2,Nat.shiftRight_eq_div_pow];simp
 rw[e,A,OK];rfl
theorem zD(w:vW)(x:UInt32):vQ 173 #[wv x,.int .i64 2] w λe w'=>e=.returned (wv (Dz x 2))/\w=w':=by
 have e:bits BinOp.and .u64 (IntKind.u64.wrap (-2)) 31=30:=by decide +kernel
 have q:=J (AK x 30 2 vI vI vI);unfold wv;unfold vQ;go_in;go_wp2;go_ret;have A:bits .or .u32 ((x.toNat:Int)*(1073741824:Int) % (4294967296:Int)) ((x.toNat:Int) / (4:Int))=((Dz x 2).toNat:Int):=q.o
 exact⟨congrArg (λz=>Ending.returned (Value.int .u32 z)) A,rfl⟩
theorem zE(w:vW)(x:UInt32):vQ 173 #[wv x,.int .i64 6] w λe w'=>e=.returned (wv (Dz x 6))/\w=w':=by
 have e:bits BinOp.and .u64 (IntKind.u64.wrap (-6)) 31=26:=by decide +kernel
 have q:=J (AK x 26 6 vI vI vI);unfold wv;unfold vQ;go_in;go_wp2;go_ret;have A:bits .or .u32 ((x.toNat:Int)*(67108864:Int) % (4294967296:Int)) ((x.toNat:Int) / (64:Int))=((Dz x 6).toNat:Int):=q.o
 exact⟨congrArg (λz=>Ending.returned (Value.int .u32 z)) A,rfl⟩
theorem zF(w:vW)(x:UInt32):vQ 173 #[wv x,.int .i64 7] w λe w'=>e=.returned (wv (Dz x 7))/\w=w':=by
 have e:bits BinOp.and .u64 (IntKind.u64.wrap (-7)) 31=25:=by decide +kernel
 have q:=J (AK x 25 7 vI vI vI);unfold wv;unfold vQ;go_in;go_wp2;go_ret;have A:bits .or .u32 ((x.toNat:Int)*(33554432:Int) % (4294967296:Int)) ((x.toNat:Int) / (128:Int))=((Dz x 7).toNat:Int):=q.o
 exact⟨congrArg (λz=>Ending.returned (Value.int .u32 z)) A,rfl⟩
theorem T3(w:vW)(x:UInt32):vQ 173 #[wv x,.int .i64 11] w λe w'=>e=.returned (wv (Dz x 11))/\w=w':=by
 have e:bits BinOp.and .u64 (IntKind.u64.wrap (-11)) 31=21:=by decide +kernel
 have q:=J (AK x 21 11 vI vI vI);unfold wv;unfold vQ;go_in;go_wp2;go_ret;have A:bits .or .u32 ((x.toNat:Int)*(2097152:Int) % (4294967296:Int)) ((x.toNat:Int) / (2048:Int))=((Dz x 11).toNat:Int):=q.o
 exact⟨congrArg (λz=>Ending.returned (Value.int .u32 z)) A,rfl⟩
theorem T4(w:vW)(x:UInt32):vQ 173 #[wv x,.int .i64 13] w λe w'=>e=.returned (wv (Dz x 13))/\w=w':=by
 have e:bits BinOp.and .u64 (IntKind.u64.wrap (-13)) 31=19:=by decide +kernel
 have q:=J (AK x 19 13 vI vI vI);unfold wv;unfold vQ;go_in;go_wp2;go_ret;have A:bits .or .u32 ((x.toNat:Int)*(524288:Int) % (4294967296:Int)) ((x.toNat:Int) / (8192:Int))=((Dz x 13).toNat:Int):=q.o
 exact⟨congrArg (λz=>Ending.returned (Value.int .u32 z)) A,rfl⟩
theorem T5(w:vW)(x:UInt32):vQ 173 #[wv x,.int .i64 17] w λe w'=>e=.returned (wv (Dz x 17))/\w=w':=by
 have e:bits BinOp.and .u64 (IntKind.u64.wrap (-17)) 31=15:=by decide +kernel
 have q:=J (AK x 15 17 vI vI vI);unfold wv;unfold vQ;go_in;go_wp2;go_ret;have A:bits .or .u32 ((x.toNat:Int)*(32768:Int) % (4294967296:Int)) ((x.toNat:Int) / (131072:Int))=((Dz x 17).toNat:Int):=q.o
 exact⟨congrArg (λz=>Ending.returned (Value.int .u32 z)) A,rfl⟩
theorem jza(w:vW)(x:UInt32):vQ 173 #[wv x,.int .i64 18] w λe w'=>e=.returned (wv (Dz x 18))/\w=w':=by
 have e:bits BinOp.and .u64 (IntKind.u64.wrap (-18)) 31=14:=by decide +kernel
 have q:=J (AK x 14 18 vI vI vI);unfold wv;unfold vQ;go_in;go_wp2;go_ret;have A:bits .or .u32 ((x.toNat:Int)*(16384:Int) % (4294967296:Int)) ((x.toNat:Int) / (262144:Int))=((Dz x 18).toNat:Int):=q.o
 exact⟨congrArg (λz=>Ending.returned (Value.int .u32 z)) A,rfl⟩
theorem jzb(w:vW)(x:UInt32):vQ 173 #[wv x,.int .i64 19] w λe w'=>e=.returned (wv (Dz x 19))/\w=w':=by
 have e:bits BinOp.and .u64 (IntKind.u64.wrap (-19)) 31=13:=by decide +kernel
 have q:=J (AK x 13 19 vI vI vI);unfold wv;unfold vQ;go_in;go_wp2;go_ret;have A:bits .or .u32 ((x.toNat:Int)*(8192:Int) % (4294967296:Int)) ((x.toNat:Int) / (524288:Int))=((Dz x 19).toNat:Int):=q.o
 exact⟨congrArg (λz=>Ending.returned (Value.int .u32 z)) A,rfl⟩
theorem jzc(w:vW)(x:UInt32):vQ 173 #[wv x,.int .i64 22] w λe w'=>e=.returned (wv (Dz x 22))/\w=w':=by
 have e:bits BinOp.and .u64 (IntKind.u64.wrap (-22)) 31=10:=by decide +kernel
 have q:=J (AK x 10 22 vI vI vI);unfold wv;unfold vQ;go_in;go_wp2;go_ret;have A:bits .or .u32 ((x.toNat:Int)*(1024:Int) % (4294967296:Int)) ((x.toNat:Int) / (4194304:Int))=((Dz x 22).toNat:Int):=q.o
 exact⟨congrArg (λz=>Ending.returned (Value.int .u32 z)) A,rfl⟩
theorem jzd(w:vW)(x:UInt32):vQ 173 #[wv x,.int .i64 25] w λe w'=>e=.returned (wv (Dz x 25))/\w=w':=by
 have e:bits BinOp.and .u64 (IntKind.u64.wrap (-25)) 31=7:=by decide +kernel
 have q:=J (AK x 7 25 vI vI vI);unfold wv;unfold vQ;go_in;go_wp2;go_ret;have A:bits .or .u32 ((x.toNat:Int)*(128:Int) % (4294967296:Int)) ((x.toNat:Int) / (33554432:Int))=((Dz x 25).toNat:Int):=q.o
 exact⟨congrArg (λz=>Ending.returned (Value.int .u32 z)) A,rfl⟩
end
