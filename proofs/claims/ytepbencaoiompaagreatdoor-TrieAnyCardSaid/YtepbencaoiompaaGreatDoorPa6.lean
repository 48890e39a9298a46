/- Lemmas; each is under no condition but those that it states. -/
import Derived.Test.YtepbencaoiompaaGreatDoorPa4
import Derived.Test.YtepbencaoiompaaGreatDoorPa5
import Derived.WalkSpells
namespace Go.Proofs.YtepbencaoiompaaGreatDoor
set_option linter.unusedSimpArgs false
set_option linter.unusedVariables false
set_option maxRecDepth 100000
set_option maxHeartbeats 16000000
section
open Go Go.RowKit
def RdS(w:vW)(v:vV)(xs:vM):Prop:=
 (∃ a c,v=.slice a 0 c/\xs=[])\/∃ b o c,v=.slice (some ⟨b,o,none⟩) xs.length c/\b < w.heap.size/\xs.length<=c/\∀ (j:Nat) x,xs[j]?=some x->w.cell? ⟨b,o+j,none⟩=some (.string x)
theorem RdS.ext{w w':vW}{v:vV}{xs:vM}(h:RdS w v xs)(k:Ext w w'):RdS w' v xs:=by
 rcases h with h |⟨b,o,c,h1,h2,h3,h4⟩
 ·exact .inl h
 ·exact .inr ⟨b,o,c,h1,bR h2 k.size,h3,fun j x e=>jaa (h4 j x e) k⟩
abbrev SRow(w0 w:vW)(v:vV)(n:Nat)(xs:vM):Prop:=ORow 9 1 w0 w v n (xs.map Value.string)
theorem SRow.rd{w0 w:vW}{v:vV}{n:Nat}{xs:vM}(h:SRow w0 w v n xs):RdS w v xs:=by
 have q:xs.length=n:=by have:=h.len;simpa using this
 obtain⟨_,⟨rfl,H⟩ |⟨g,e,z,rfl,J,A,E,K,O⟩⟩:=h.own
 ·exact .inl ⟨none,0,rfl,bG vO⟩
 ·subst q
  refine .inr ⟨g,0,e,rfl,(dK.1 A).1,E,fun j x o=>?_⟩;have Q:=(bW.1 o).1
  have:=h.own.cellAt j vO
  rw[cR,this,cA,o];rfl
def catB(xs:vM):vB:=⟨(xs.map (·.data.toList)).flatten.toArray⟩
def jcm(xs:vM):vB:=jdA 192 (catB xs).size++catB xs
theorem jpr:∀ (l:List (vN)),Lib.join l []=l.flatten
 | []=>rfl
 | x :: r=>by
  rw[Lib.join_cons];simp only[Lib.joinTail,cM,List.map_id',List.flatten_cons]
theorem jAw(w:vW)(v:vV)(xs:vM)(h:RdS w v xs)(hl:(catB xs).size<=1000000000)(hn:xs.length<=1000000000):vR 150 #[v,.string ⟨#[]⟩] w (.string (catB xs)):=by
 rcases h with⟨a,c,rfl,rfl⟩ |⟨b,o,c,rfl,q,h3,h4⟩
 ·exact (Tryz.strings_Join_none a c ⟨#[]⟩ w).mono fun e w' ⟨z,q⟩=>⟨by rw[z];rfl,by rw[q];exact ExtR w⟩
 ·have A:(Lib.join (xs.map (·.data.toList)) (⟨#[]⟩:vB).data.toList).length<=140737488355328:=by
   show (Lib.join (xs.map (·.data.toList)) []).length<=_;rw[jpr];have:(xs.map (·.data.toList)).flatten.length=(catB xs).size:=by simp[catB,ByteArray.size]
   omega
  exact (Tryz.strings_Join b o c xs ⟨#[]⟩ w h4 q vO h3 A).mono fun e w' ⟨z,q⟩=>⟨by rw[z];show _=Ending.returned (.string ⟨(xs.map (·.data.toList)).flatten.toArray⟩);rw[show (⟨#[]⟩:vB).data.toList=[]from rfl,jpr],jag.of_below q⟩
theorem js8(w:vW)(v:vV)(xs:vM)(h:RdS w v xs)(hl:(catB xs).size<=1000000000)(hn:xs.length<=1000000000):vR 140 #[v] w (.string (jcm xs)):=by
 have H:=Hd h;clear h;go_enter Tryz.func140,Tryz.ntmps140;go_wp2_with fail
 refine vC (jAw w v xs H.o hl hn) fun w1 q=>?_;go_wp2_with fail
 refine vC (jsT w1 192 (catB xs).size hl) fun A e=>?_;have z:=jez 192 (catB xs).size;go_wp2;go_ret
 exact⟨rfl,q.trans e⟩
def beN(l:vN):Nat:=l.foldl (fun n b=>n * 256+b.toNat) 0
theorem jkA(l:vN)(b:vU):beN (l++[b])=beN l * 256+b.toNat:=by simp[beN]
theorem joP:∀ (m:vN) (a:Nat),a<=m.foldl (fun n b=>n * 256+b.toNat) a
 | [],_=>bL _
 | b :: m,a=>bH vO (joP m (a * 256+b.toNat))
theorem joQ(l m:vN):beN l<=beN (l++m):=by
 unfold beN;rw[fM];exact joP m _
def lenB(s:vB)(to:Nat):Option Nat:=
 if s.size < to\/s.data.toList.getD 1 0=0 then none else
 if 55 < beN ((s.data.toList.take to).drop 1)/\beN ((s.data.toList.take to).drop 1)<=1048576 then some (beN ((s.data.toList.take to).drop 1))else none
theorem jd4{s:vB}{to n:Nat}(h:lenB s to=some n):to<=s.size/\s.data.toList.getD 1 0≠0/\beN ((s.data.toList.take to).drop 1)=n/\55 < n/\n<=1048576:=by
 unfold lenB at h;split at h
 ·cases h
 rename_i hc
 simp only[not_or,Nat.not_lt]at hc;split at h
 ·rename_i hn
  have:=bQ h
  exact⟨hc.1,hc.2,this,by omega,by omega⟩
 ·cases h
theorem jtG(n:Nat)(b:vU)(hn:n<=1048576):bits .or .i64 ((n:Int) * 256) (b.toNat:Int)=((n * 256+b.toNat:Nat):Int):=by
 have hb:=b.toNat_lt;unfold bits;have e:BitVec.ofInt (IntKind.bits .i64) ((n:Int) * 256)=BitVec.ofNat 64 (n * 256):=by
  rw[show ((n:Int) * 256)=((n * 256:Nat):Int) by omega,BitVec.ofInt_natCast];rfl
 have o:BitVec.ofInt (IntKind.bits .i64) (b.toNat:Int)=BitVec.ofNat 64 b.toNat:=by rw[BitVec.ofInt_natCast];rfl
 simp only[e,o];have q:(BitVec.ofNat 64 (n * 256) ||| BitVec.ofNat 64 b.toNat).toNat=n * 256+b.toNat:=by
  rw[BitVec.toNat_or,BitVec.toNat_ofNat,BitVec.toNat_ofNat,gD vO,gD vO];rw[show n * 256=2 ^ 8 * n by omega,Nat.two_pow_add_eq_or_of_lt (by omega:b.toNat < 2 ^ 8)]
 show IntKind.i64.wrap ((BitVec.ofNat 64 (n * 256) ||| BitVec.ofNat 64 b.toNat).toNat:Int)=_;rw[q,IntKind.wrap_i64];omega
def jzK(s:vB)(to:Nat)(n i:vV):Prop:=∃ k:Nat,1<=k/\k<=to/\i=.int .i64 k/\n=.int .i64 (beN ((s.data.toList.take k).drop 1))
theorem jf7(s:vB){k:Nat}(h1:1<=k)(h:k < s.size):(s.data.toList.take (k+1)).drop 1=(s.data.toList.take k).drop 1++[s[k]]:=by
 have e:k < s.data.toList.length:=by simpa using h
 rw[cS e,List.drop_append_of_le_length (by simp;omega)];rfl
theorem jid(w:vW)(s:vB)(to n:Nat)(hs:s.size<=1000000000)(h2:2<=to)(h:lenB s to=some n):vQ 145 #[.string s,.int .i64 to] w fun e w'=>e=.returned (.tuple #[.int .i64 n,.nilIface])/\w=w':=by
 obtain⟨a2,h1,hn,a3,a4⟩:=jd4 h
 have HN:=Hd hn;clear h hn;have hz:((s[1]'(by omega)).toNat:Int)≠0:=by
  intro hh;apply h1;rw[bE,bA (by simp;omega)]
  have:(s[1]'(by omega))=0:=dX.1 (by show _=0;omega)
  exact this
 have a5:(((s[1]'(by omega)).toNat:Int) == 0)=false:=by simpa using hz
 clear h1 hz;have c1:(1:Int) < (s.size:Int):=vO
 go_enter Tryz.func145,Tryz.ntmps145;go_wp2;go_loop [6,7] (fun m i=>jzK s to m i) (fun _ i=>to - (intOf i).toNat)
 case atStart=>exact⟨1,bL _,by omega,rfl,by simp[beN]⟩
 case round =>
  obtain⟨k,K,a6,rfl,rfl⟩:=hrel
  by_cases hlt:k < to
  ·have O:k < s.size:=vO
   have c2:(k:Int) < (s.size:Int):=vO
   have q:=jf7 s K O
   obtain⟨m,A⟩:=vE (beN ((s.data.toList.take k).drop 1))
   have E:beN ((s.data.toList.take (k+1)).drop 1)<=n:=by
    have h3:=joQ ((s.data.toList.take (k+1)).drop 1) ((s.data.toList.take to).drop (k+1));have h4:(s.data.toList.take (k+1)).drop 1++(s.data.toList.take to).drop (k+1)=(s.data.toList.take to).drop 1:=by
     have e1:s.data.toList.take to=s.data.toList.take (k+1)++(s.data.toList.take to).drop (k+1):=by
      conv=>lhs;rw[<-dD (k+1) (s.data.toList.take to)]
      rw[List.take_take,gR vO]
     conv=>rhs;rw[e1]
     rw[List.drop_append_of_le_length (by simp;omega)]
    rw[h4]at h3
    have:=HN.o;omega
   have Q:m<=beN ((s.data.toList.take (k+1)).drop 1):=by rw[A,q];exact joQ _ _
   have X:m<=1048576:=vO
   have H:=jtG m s[k] X;have J:bits BinOp.or .i64 ((m:Int) * 256) (wrap64 (s[k].toNat:Int))=((m * 256+s[k].toNat:Nat):Int):=by
    have hb:=s[k].toNat_lt;rw[<-H];congr 1;unfold wrap64;omega
   clear H;have Z:beN ((s.data.toList.take (k+1)).drop 1)=m * 256+s[k].toNat:=by rw[q,jkA, <-A]
   rw[Z]at E;have HM:=Hd A;have H5:=Hd Z;rw[<-A];clear A q Q Z
   obtain⟨m',z⟩:∃ m',m'=m * 256+s[k].toNat:=⟨_,rfl⟩
   rw[<-z]at J E;have a0:=Hd z;clear z;go_wp2;go_round
   case rel=>exact⟨k+1,by omega,by omega,by go_num,by rw[H5.o,a0.o]⟩
   case measure=>exact vJ
  ·have a1:k=to:=vO
   subst a1;rw[HN.o];go_wp2;go_ret2
   exact⟨rfl,rfl⟩
theorem ja4{s:vB}(h:0 < s.size):s.toList.isEmpty=false:=by
 rw[bN]
 obtain⟨⟨l⟩⟩:=s
 cases l with
 | nil=>exact absurd h (iO 0)
 | cons _ _=>rfl
def jdB(s:vB)(r:Bool × Nat × Nat):vV:=.tuple #[.bool r.1,.string (s.extract r.2.1 (r.2.1+r.2.2)),.string (s.extract (r.2.1+r.2.2) s.size),.nilIface]
theorem jsq(w:vW)(s:vB)(hs:s.size<=1000000000)(h0:0 < s.size)(hc:(s[0].toNat:Int) < 128):vR 132 #[.string s] w (jdB s (false,0,1)):=by
 have A:(0:Int) < (s.size:Int):=vO
 have E:(1:Int)<=(s.size:Int):=vO
 have q:=ja4 h0;go_enter Tryz.func132,Tryz.ntmps132;go_wp2_with fail
 refine jaw [0,1,2,3,4,5,6,7] [] Ext ExtR ExtT vY vY vY ?_;iterate 8 refine vP ?_
 refine qE (fun w1 e=>?_);have z:=Hd ((jaq w).trans e);clear e;go_wp2;exact bodyPost_ret (v:=jdB s (false,0,1)) (by simp[results,Tryz.results132,go_sem];rfl) rfl ⟨rfl,z.o⟩
theorem jvj(w:vW)(s:vB)(n:Nat)(hs:s.size<=1000000000)(h0:0 < s.size)(hc2:(s[0].toNat:Int)=128+n)(hn:n<=55)(hle:1+n<=s.size)(h1:n≠1\/∃ h:1 < s.size,(128:Int)<=(s[1].toNat:Int)) :
  vR 132 #[.string s] w (jdB s (false,1,n)):=by
 have E:(0:Int) < (s.size:Int):=vO
 have H:(1:Int)<=(s.size:Int):=vO
 have J:¬(s[0].toNat:Int) < 128:=vO
 have K:(s[0].toNat:Int) < 192:=vO
 have O:(n:Int)<=55:=vO
 have Q:(n:Int)<=(s.size:Int) - 1:=vO
 have X:(0:Int)<=1+(n:Int):=vO
 have Z:1+(n:Int)<=(s.size:Int):=vO
 have c8:(1:Int)<=1+(n:Int):=vO
 have c9:(1+(n:Int)).toNat=1+n:=vO
 have A:=ja4 h0;have e1:(s[0].toNat:Int) - 128=(n:Int):=vO
 clear hc2;rcases h1 with h1 |⟨hs1,h1⟩
 ·have z:((n:Int) == 1)=false:=by simp;omega
  go_enter Tryz.func132,Tryz.ntmps132;go_wp2_with fail
  refine jaw [0,1,2,3,4,5,6,7,8,9,10,11,12,13,14,15,16] [] Ext ExtR ExtT vY vY vY ?_;iterate 17 refine vP ?_
  refine qE (fun w1 e=>?_);have q:=Hd ((jaq w).trans e);clear e;go_wp2;exact bodyPost_ret (v:=jdB s (false,1,n)) (by simp[results,Tryz.results132,go_sem];rfl) rfl ⟨rfl,q.o⟩
 ·have d0:(1:Int) < (s.size:Int):=vO
  have d1:¬(s[1].toNat:Int) < 128:=vO
  by_cases hq0:n=1
  ·have z:((n:Int) == 1)=true:=by simp;omega
   clear hq0;go_enter Tryz.func132,Tryz.ntmps132;go_wp2_with fail
   refine jaw [0,1,2,3,4,5,6,7,8,9,10,11,12,13,14,15,16] [] Ext ExtR ExtT vY vY vY ?_;iterate 17 refine vP ?_
   refine qE (fun w1 e=>?_);have q:=Hd ((jaq w).trans e);clear e;go_wp2;exact bodyPost_ret (v:=jdB s (false,1,n)) (by simp[results,Tryz.results132,go_sem];rfl) rfl ⟨rfl,q.o⟩
  ·have z:((n:Int) == 1)=false:=by simp;omega
   go_enter Tryz.func132,Tryz.ntmps132;go_wp2_with fail
   refine jaw [0,1,2,3,4,5,6,7,8,9,10,11,12,13,14,15,16] [] Ext ExtR ExtT vY vY vY ?_;iterate 17 refine vP ?_
   refine qE (fun w1 e=>?_);have q:=Hd ((jaq w).trans e);clear e;go_wp2;exact bodyPost_ret (v:=jdB s (false,1,n)) (by simp[results,Tryz.results132,go_sem];rfl) rfl ⟨rfl,q.o⟩
theorem jvh(w:vW)(s:vB)(n:Nat)(hs:s.size<=1000000000)(h0:0 < s.size)(hc2:(s[0].toNat:Int)=192+n)(hn:n<=55)(hle:1+n<=s.size) :
  vR 132 #[.string s] w (jdB s (true,1,n)):=by
 have A:(0:Int) < (s.size:Int):=vO
 have E:(1:Int)<=(s.size:Int):=vO
 have H:¬(s[0].toNat:Int) < 128:=vO
 have J:¬(s[0].toNat:Int) < 192:=vO
 have K:(n:Int)<=55:=vO
 have O:(n:Int)<=(s.size:Int) - 1:=vO
 have Q:(0:Int)<=1+(n:Int):=vO
 have X:1+(n:Int)<=(s.size:Int):=vO
 have Z:(1:Int)<=1+(n:Int):=vO
 have c9:(1+(n:Int)).toNat=1+n:=vO
 have q:=ja4 h0;have e1:(s[0].toNat:Int) - 192=(n:Int):=vO
 clear hc2;go_enter Tryz.func132,Tryz.ntmps132;go_wp2_with fail
 refine jaw [0,1,2,3,4,5,6,7,8,9,10,11,12,13,14,15,16] [] Ext ExtR ExtT vY vY vY ?_;iterate 17 refine vP ?_
 refine qE (fun w1 e=>?_);have z:=Hd ((jaq w).trans e);clear e;go_wp2;exact bodyPost_ret (v:=jdB s (true,1,n)) (by simp[results,Tryz.results132,go_sem];rfl) rfl ⟨rfl,z.o⟩
theorem jsr(w:vW)(s:vB)(k n:Nat)(hs:s.size<=1000000000)(h0:0 < s.size)(hc2:(s[0].toNat:Int)=128+55+k)(hk:1<=k)(hk8:k<=8)(hL:lenB s (1+k)=some n)(hle:1+k+n<=s.size) :
  vR 132 #[.string s] w (jdB s (false,1+k,n)):=by
 obtain⟨H,_,_,J,K⟩:=jd4 hL
 have A:=Hd hL;clear hL
 obtain⟨f,q⟩:=vE (1+k)
 obtain⟨m,O⟩:=vE (55+k)
 have HF:=Hd q;have c0:(0:Int) < (s.size:Int):=vO
 have c1:(1:Int)<=(s.size:Int):=vO
 have c2:¬(s[0].toNat:Int) < 128:=vO
 have c3:(s[0].toNat:Int) < 192:=vO
 have c4:¬(m:Int)<=55:=vO
 have Q:(55:Int) < (m:Int):=vO
 have c5:(n:Int)<=(s.size:Int) - (f:Int):=vO
 have c6:(0:Int)<=(f:Int)+(n:Int):=vO
 have c7:(f:Int)+(n:Int)<=(s.size:Int):=vO
 have c8:(f:Int)<=(f:Int)+(n:Int):=vO
 have c9:((f:Int)+(n:Int)).toNat=f+n:=vO
 have hq:((n:Int) == 1)=false:=by simp;omega
 have X:=ja4 h0;have e1:(s[0].toNat:Int) - 128=(m:Int):=vO
 have e2:1+(m:Int) - 55=(f:Int):=vO
 have z:2<=f:=vO
 have Z:(m:Int)<=63:=vO
 have a0:(0:Int)<=(m:Int):=vO
 rw[<-q]at A;rw[<-q];clear hc2 q O;go_enter Tryz.func132,Tryz.ntmps132;go_wp2_with fail
 refine (jid w s f n hs z A.o).mono ?_;rintro e w1 ⟨rfl,rfl⟩;go_wp2_with fail
 refine jaw [0,1,2,3,4,5,6,7,8,9,10,11,12,13,14,15,16] [] Ext ExtR ExtT vY vY vY ?_;iterate 17 refine vP ?_
 refine qE (fun w1 E=>?_);have HE:=Hd ((jaq w).trans E);clear E;go_wp2;exact bodyPost_ret (v:=jdB s (false,f,n)) (by simp[results,Tryz.results132,go_sem];rfl) rfl ⟨rfl,HE.o⟩
theorem jsn(w:vW)(s:vB)(k n:Nat)(hs:s.size<=1000000000)(h0:0 < s.size)(hc2:(s[0].toNat:Int)=192+55+k)(hk:1<=k)(hk8:k<=8)(hL:lenB s (1+k)=some n)(hle:1+k+n<=s.size) :
  vR 132 #[.string s] w (jdB s (true,1+k,n)):=by
 obtain⟨H,_,_,J,K⟩:=jd4 hL
 have A:=Hd hL;clear hL
 obtain⟨f,q⟩:=vE (1+k)
 obtain⟨m,O⟩:=vE (55+k)
 have HF:=Hd q;have c0:(0:Int) < (s.size:Int):=vO
 have c1:(1:Int)<=(s.size:Int):=vO
 have c2:¬(s[0].toNat:Int) < 128:=vO
 have c3:¬(s[0].toNat:Int) < 192:=vO
 have c4:¬(m:Int)<=55:=vO
 have Q:(55:Int) < (m:Int):=vO
 have c5:(n:Int)<=(s.size:Int) - (f:Int):=vO
 have c6:(0:Int)<=(f:Int)+(n:Int):=vO
 have c7:(f:Int)+(n:Int)<=(s.size:Int):=vO
 have c8:(f:Int)<=(f:Int)+(n:Int):=vO
 have c9:((f:Int)+(n:Int)).toNat=f+n:=vO
 have hq:((n:Int) == 1)=false:=by simp;omega
 have X:=ja4 h0;have e1:(s[0].toNat:Int) - 192=(m:Int):=vO
 have e2:1+(m:Int) - 55=(f:Int):=vO
 have z:2<=f:=vO
 have Z:(m:Int)<=63:=vO
 have a0:(0:Int)<=(m:Int):=vO
 rw[<-q]at A;rw[<-q];clear hc2 q O;go_enter Tryz.func132,Tryz.ntmps132;go_wp2_with fail
 refine (jid w s f n hs z A.o).mono ?_;rintro e w1 ⟨rfl,rfl⟩;go_wp2_with fail
 refine jaw [0,1,2,3,4,5,6,7,8,9,10,11,12,13,14,15,16] [] Ext ExtR ExtT vY vY vY ?_;iterate 17 refine vP ?_
 refine qE (fun w1 E=>?_);have HE:=Hd ((jaq w).trans E);clear E;go_wp2;exact bodyPost_ret (v:=jdB s (true,f,n)) (by simp[results,Tryz.results132,go_sem];rfl) rfl ⟨rfl,HE.o⟩
def cutN(s:vB):Option (Bool × Nat × Nat):=
 if h:0 < s.size then
  let b:=s[0].toNat
  if b < 128 then some (false,0,1)
  else
   let (l,m):=if b < 192 then (false,b - 128)else (true,b - 192)
   if m<=55 then
    if 1+m<=s.size/\(l=true\/m≠1\/128<=(s.data.toList.getD 1 0).toNat)then some (l,1,m)else none
   else match lenB s (1+(m - 55))with
    | some n=>if 1+(m - 55)+n<=s.size then some (l,1+(m - 55),n)else none
    | none=>none
 else none
theorem jx8(w:vW)(s:vB)(r:Bool × Nat × Nat)(hs:s.size<=1000000000)(h:cutN s=some r):vR 132 #[.string s] w (jdB s r):=by
 unfold cutN at h
 by_cases h0:0 < s.size
 ·rw[dif_pos h0]at h
  simp only at h;have hb:=s[0].toNat_lt
  by_cases h1:s[0].toNat < 128
  ·rw[if_pos h1]at h
   cases h;exact jsq w s hs h0 vO
  ·rw[if_neg h1]at h
   by_cases h2:s[0].toNat < 192
   ·rw[if_pos h2]at h
    simp only at h
    by_cases h3:s[0].toNat - 128<=55
    ·rw[if_pos h3]at h
     split at h
     ·rename_i hc
      cases h;refine jvj w s (s[0].toNat - 128) hs h0 vO h3 hc.1 ?_;rcases hc.2 with hc | hc | hc
      ·cases hc
      ·exact .inl hc
      ·have e:1 < s.size:=by
        rcases fO 1 s.size with h | h
        ·exact h
        ·rw[bE,iW (by simpa using h)]at hc
         exact absurd hc vI
       refine .inr ⟨e,?_⟩;rw[bE,bA (by simpa using e)]at hc;have o:128<=(s[1]'e).toNat:=hc;omega
     ·cases h
    ·rw[if_neg h3]at h
     split at h
     ·rename_i n hl
      split at h
      ·rename_i hc
       cases h;exact jsr w s (s[0].toNat - 128 - 55) n hs h0 vO vO vO hl hc
      ·cases h
     ·cases h
   ·rw[if_neg h2]at h
    simp only at h
    by_cases h3:s[0].toNat - 192<=55
    ·rw[if_pos h3]at h
     split at h
     ·rename_i hc
      cases h;exact jvh w s (s[0].toNat - 192) hs h0 vO h3 hc.1
     ·cases h
    ·rw[if_neg h3]at h
     split at h
     ·rename_i n hl
      split at h
      ·rename_i hc
       cases h;exact jsn w s (s[0].toNat - 192 - 55) n hs h0 vO vO vO hl hc
      ·cases h
     ·cases h
 ·rw[dif_neg h0]at h;cases h
theorem jAv(w:vW):vQ 37 #[.nilIface,.iface 28 (.int .i64 2)] w fun e w'=>e=.returned (.bool false)/\w=w':=by
 have o:∀ w,(binOp .eql 89 .nilIface (.iface 28 (.int .i64 2))).run Tryz.prog w=.ok (.bool false) w:=fun w=>by kernel_rfl
 go_enter Tryz.func37,Tryz.ntmps37;go_wp2_with fail
 go_ret
 exact⟨rfl,rfl⟩
theorem je8(w:vW)(s:vB)(r:Bool × Nat × Nat)(hs:s.size<=1000000000)(h:cutN s=some r):vR 105 #[.string s] w (.tuple #[.bool r.1,.string (s.extract r.2.1 (r.2.1+r.2.2)),.string (s.extract (r.2.1+r.2.2) s.size),.int .i64 0]):=by
 go_enter Tryz.func105,Tryz.ntmps105;go_wp2_with fail
 refine vH (jx8 w s r hs h) fun w1 A=>?_;unfold jdB
 obtain⟨x,q⟩:=vE (s.extract r.2.1 (r.2.1+r.2.2))
 obtain⟨y,z⟩:∃ x,x=s.extract (r.2.1+r.2.2) s.size:=⟨_,rfl⟩
 rw[<-q, <-z]
 obtain⟨l,p⟩:=r
 have E:=Hd q;have H:=Hd z;clear h q z hs;simp only;go_wp2_with fail
 refine (jAv w1).mono ?_;rintro e J ⟨rfl,rfl⟩;go_wp2_with fail
 exact bodyPost_ret (v:=.tuple #[.bool l,.string x,.string y,.int .i64 0]) vY rfl ⟨by rw[E.o,H.o],A.o⟩
end
section
open Go Go.RowKit
theorem Tryz.uU32:Tryz.prog.underlying 151=some (.int .u32):=vY
theorem Tryz.iU32:(Tryz.prog.info? 151).map (·.size)=some 1:=vY
def addW(p q:UInt32):UInt32:=p+q
def xorW(p q:UInt32):UInt32:=p ^^^ q
def andW(p q:UInt32):UInt32:=p &&& q
def notW(p:UInt32):UInt32 := ~~~ p
def shrW(p:UInt32)(n:UInt32):UInt32:=p >>> n
def rotW(p:UInt32)(n:UInt32):UInt32:=(p <<< (32 - n)) |||(p >>> n)
def wv(p:UInt32):vV:=.int .u32 (p.toNat:Int)
theorem jdv(a:UInt32):BitVec.ofInt (IntKind.bits .u32) (a.toNat:Int)=a.toBitVec:=by
 show BitVec.ofInt 32 ((a.toNat:Nat):Int)=_;rw[BitVec.ofInt_natCast];simp
theorem jg7(a:UInt32):IntKind.u32.wrap (a.toNat:Int)=a.toNat:=by rw[IntKind.wrap_u32];have:=a.toNat_lt;omega
section
variable {P:Program} {w:vW} {T:TypeId} {p q:UInt32}
theorem jpV:(binOp .add T (wv p) (wv q)).run P w=.ok (wv (addW p q)) w:=by
 have e:IntKind.u32.wrap ((p.toNat:Int)+(q.toNat:Int))=((addW p q).toNat:Int):=by
  rw[IntKind.wrap_u32,addW,UInt32.toNat_add];omega
 unfold wv;rw[<-e];rfl
theorem jpX:(binOp .xor T (wv p) (wv q)).run P w=.ok (wv (xorW p q)) w:=by
 have e:bits .xor .u32 p.toNat q.toNat=((xorW p q).toNat:Int):=by
  unfold bits;rw[jdv,jdv];exact jg7 (p ^^^ q)
 unfold wv;rw[<-e];rfl
theorem jwD:(binOp .and T (wv p) (wv q)).run P w=.ok (wv (andW p q)) w:=by
 have e:bits .and .u32 p.toNat q.toNat=((andW p q).toNat:Int):=by
  unfold bits;rw[jdv,jdv];exact jg7 (p &&& q)
 unfold wv;rw[<-e];rfl
theorem jgZ(n:Nat)(hn:n < 32)(k:IntKind):(binOp .shr T (wv p) (.int k n)).run P w=.ok (wv (shrW p (UInt32.ofNat n))) w:=by
 have e:((shrW p (UInt32.ofNat n)).toNat:Int)=(p.toNat:Int).fdiv (2 ^ n):=by
  unfold shrW;rw[UInt32.toNat_shiftRight,iZ,gD (show n < 2 ^ 32 by omega),gD hn,Nat.shiftRight_eq_div_pow];rw[Int.fdiv_eq_ediv_of_nonneg _ (by exact_mod_cast bY (2 ^ n))]
  simp
 unfold wv;rw[e];show (Op.shift .shr .u32 (p.toNat:Int) k (n:Int)).run P w=_;unfold Op.shift;rw[if_neg vO];have h:min (n:Int).toNat (IntKind.bits .u32)=n:=by show min (n:Int).toNat 32=n;omega
 simp only[h];rfl
theorem jwE:(Op.unary .xor (wv p)).run P w=.ok (wv (notW p)) w:=by
 have e:bits .xor .u32 (IntKind.max .u32) p.toNat=((notW p).toNat:Int):=by
  have q:(IntKind.max .u32:Int)=((0xFFFFFFFF:UInt32).toNat:Int):=rfl;rw[q];unfold bits;rw[jdv,jdv]
  have:(0xFFFFFFFF:UInt32) ^^^ p=notW p:=by
   unfold notW;apply UInt32.toBitVec_inj.1;show (BitVec.allOnes 32) ^^^ p.toBitVec = ~~~ p.toBitVec;rw[BitVec.allOnes_xor]
  have o:=jg7 ((0xFFFFFFFF:UInt32) ^^^ p);rw[this]at o;rw[<-o, <-this];rfl
 unfold wv;rw[<-e];rfl
end
section
variable {P:Program} {l:List Oper} {E:vW->vW->Prop} {Q:Act->vW->Prop} {ord done hd:List Nat} {a:Act} {w:vW} {k:Nat} {d:Option Tmp} {x y:Operand} {T T' ty:TypeId} {pos:String} {af:Array Edge} {g:Option (Nat × Bool)} {op:BinOp} {ops:Array Oper} {rest:List Oper} {QQ:Exit->Act->vW->Prop}
theorem jvw{vx vy v:vV}(hx:a.eval x=vx)(hy:a.eval y=vy)(hg:(eqGuard op T x y vx vy).run P w=.ok () w)(hr:(binOp op T vx vy).run P w=.ok v w):(execOp a.eval ⟨d,.binOp op T x y T',ty,pos,af,g⟩).run P w=.ok (.value v) w:=by
 simp only[execOp,hx,hy,bS,cJ,Result.andThen,hg,hr]
end
theorem jlP{P:Program}{o:Oper}{a:Act}{w:vW}{K:Act->vW->Prop}{Q:Exit->Act->vW->Prop}{t:TypeId}{x y:Operand}(b i:Nat)(v:vV)(ho:o.op=.store t x y)(hx:a.eval x=.pointer (some ⟨b,i,none⟩))(hy:a.eval y=v)(hv:v.oneCell'=true)
  (hi:(P.info? t).map (·.size)=some 1) {old:vV} (hc:w.cell? ⟨b,i,none⟩=some old) (hf:w.frozen? ⟨b,i,none⟩=false) (h:K (a.put o.dst undef) (w.setCell ⟨b,i,none⟩ v)):o.wp P a w K Q:=by
 obtain⟨z,e,q⟩:=cV.1 hi
 have A:(storeCells ⟨b,i,none⟩ [v]).run P w=.ok () (w.setCell ⟨b,i,none⟩ v):=by
  rw[jjc,run_store P w _ v _ hv,hc,hf];rfl
 have E:(Instr.storeAt t (.pointer (some ⟨b,i,none⟩)) v).run P w=.ok () (w.setCell ⟨b,i,none⟩ v):=by
  simp[Instr.storeAt,Instr.sureAddr,storeVar,bS,Result.andThen,jmT hv,sizeOf,typeInfo,e,q,A]
 unfold Oper.wp execOp;simp only[ho,hx,hy,bS,E,Result.andThen,cJ];exact h
theorem jnx{P:Program}{ops:Array Oper}{rest:List Oper}{o:Oper}{a:Act}{w:vW}{Q:Exit->Act->vW->Prop}{t:TypeId}{x y:Operand}(hgd:o.guard=none)(b i:Nat)(v:vV)(ho:o.op=.store t x y)(hx:a.eval x=.pointer (some ⟨b,i,none⟩))(hy:a.eval y=v)(hv:v.oneCell'=true)
  (hi:(P.info? t).map (·.size)=some 1) {old:vV} (hc:w.cell? ⟨b,i,none⟩=some old) (hf:w.frozen? ⟨b,i,none⟩=false) (h:wpList P ops Q rest (a.put o.dst undef) (w.setCell ⟨b,i,none⟩ v)):wpList P ops Q (o :: rest) a w:=
 wpList_plain hgd fun _ e=>jlP b i v ho hx hy hv hi hc hf (e _ _ h)
theorem jh1(p q:UInt32):bits .or .u32 p.toNat q.toNat=((p ||| q).toNat:Int):=by
 unfold bits;rw[jdv,jdv];exact jg7 (p ||| q)
theorem jf5(x:UInt32)(s n:Nat)(hs:s+n=32)(hn:0 < n)(hn2:n < 32):bits .or .u32 ((x.toNat:Int) * (2:Int) ^ s % (4294967296:Int)) ((x.toNat:Int) / (2:Int) ^ n)=((rotW x (UInt32.ofNat n)).toNat:Int):=by
 have e:(x.toNat:Int) * (2:Int) ^ s % (4294967296:Int)=((x <<< (32 - UInt32.ofNat n)).toNat:Int):=by
  rw[UInt32.toNat_shiftLeft];have o:(32 - UInt32.ofNat n).toNat=s:=by
   rw[UInt32.toNat_sub_of_le]
   ·rw[iZ];show 32 - n % 2 ^ 32=s;omega
   ·rw[UInt32.le_iff_toNat_le,iZ];show n % 2 ^ 32<=32;omega
  rw[o,gD (show s < 32 by omega),Nat.shiftLeft_eq]
  simp
 have q:(x.toNat:Int) / (2:Int) ^ n=((x >>> UInt32.ofNat n).toNat:Int):=by
  rw[UInt32.toNat_shiftRight];rw[iZ,gD (show n < 2 ^ 32 by omega),gD hn2,Nat.shiftRight_eq_div_pow]
  simp
 rw[e,q,jh1];rfl
theorem jAU(w:vW)(x:UInt32):vQ 119 #[wv x,.int .i64 2] w fun e w'=>e=.returned (wv (rotW x 2))/\w=w':=by
 have e:bits BinOp.and .u64 (IntKind.u64.wrap (-2)) 31=30:=by decide +kernel
 have q:=Hd (jf5 x 30 2 vI vI vI);unfold wv;go_enter Tryz.func119,Tryz.ntmps119;go_wp2;go_ret;have A:bits .or .u32 ((x.toNat:Int) * (1073741824:Int) % (4294967296:Int)) ((x.toNat:Int) / (4:Int))=((rotW x 2).toNat:Int):=q.o
 exact⟨congrArg (fun z=>Ending.returned (Value.int .u32 z)) A,rfl⟩
theorem jAV(w:vW)(x:UInt32):vQ 119 #[wv x,.int .i64 6] w fun e w'=>e=.returned (wv (rotW x 6))/\w=w':=by
 have e:bits BinOp.and .u64 (IntKind.u64.wrap (-6)) 31=26:=by decide +kernel
 have q:=Hd (jf5 x 26 6 vI vI vI);unfold wv;go_enter Tryz.func119,Tryz.ntmps119;go_wp2;go_ret;have A:bits .or .u32 ((x.toNat:Int) * (67108864:Int) % (4294967296:Int)) ((x.toNat:Int) / (64:Int))=((rotW x 6).toNat:Int):=q.o
 exact⟨congrArg (fun z=>Ending.returned (Value.int .u32 z)) A,rfl⟩
theorem jAW(w:vW)(x:UInt32):vQ 119 #[wv x,.int .i64 7] w fun e w'=>e=.returned (wv (rotW x 7))/\w=w':=by
 have e:bits BinOp.and .u64 (IntKind.u64.wrap (-7)) 31=25:=by decide +kernel
 have q:=Hd (jf5 x 25 7 vI vI vI);unfold wv;go_enter Tryz.func119,Tryz.ntmps119;go_wp2;go_ret;have A:bits .or .u32 ((x.toNat:Int) * (33554432:Int) % (4294967296:Int)) ((x.toNat:Int) / (128:Int))=((rotW x 7).toNat:Int):=q.o
 exact⟨congrArg (fun z=>Ending.returned (Value.int .u32 z)) A,rfl⟩
theorem jy0(w:vW)(x:UInt32):vQ 119 #[wv x,.int .i64 11] w fun e w'=>e=.returned (wv (rotW x 11))/\w=w':=by
 have e:bits BinOp.and .u64 (IntKind.u64.wrap (-11)) 31=21:=by decide +kernel
 have q:=Hd (jf5 x 21 11 vI vI vI);unfold wv;go_enter Tryz.func119,Tryz.ntmps119;go_wp2;go_ret;have A:bits .or .u32 ((x.toNat:Int) * (2097152:Int) % (4294967296:Int)) ((x.toNat:Int) / (2048:Int))=((rotW x 11).toNat:Int):=q.o
 exact⟨congrArg (fun z=>Ending.returned (Value.int .u32 z)) A,rfl⟩
theorem jy1(w:vW)(x:UInt32):vQ 119 #[wv x,.int .i64 13] w fun e w'=>e=.returned (wv (rotW x 13))/\w=w':=by
 have e:bits BinOp.and .u64 (IntKind.u64.wrap (-13)) 31=19:=by decide +kernel
 have q:=Hd (jf5 x 19 13 vI vI vI);unfold wv;go_enter Tryz.func119,Tryz.ntmps119;go_wp2;go_ret;have A:bits .or .u32 ((x.toNat:Int) * (524288:Int) % (4294967296:Int)) ((x.toNat:Int) / (8192:Int))=((rotW x 13).toNat:Int):=q.o
 exact⟨congrArg (fun z=>Ending.returned (Value.int .u32 z)) A,rfl⟩
theorem jy2(w:vW)(x:UInt32):vQ 119 #[wv x,.int .i64 17] w fun e w'=>e=.returned (wv (rotW x 17))/\w=w':=by
 have e:bits BinOp.and .u64 (IntKind.u64.wrap (-17)) 31=15:=by decide +kernel
 have q:=Hd (jf5 x 15 17 vI vI vI);unfold wv;go_enter Tryz.func119,Tryz.ntmps119;go_wp2;go_ret;have A:bits .or .u32 ((x.toNat:Int) * (32768:Int) % (4294967296:Int)) ((x.toNat:Int) / (131072:Int))=((rotW x 17).toNat:Int):=q.o
 exact⟨congrArg (fun z=>Ending.returned (Value.int .u32 z)) A,rfl⟩
theorem jy3(w:vW)(x:UInt32):vQ 119 #[wv x,.int .i64 18] w fun e w'=>e=.returned (wv (rotW x 18))/\w=w':=by
 have e:bits BinOp.and .u64 (IntKind.u64.wrap (-18)) 31=14:=by decide +kernel
 have q:=Hd (jf5 x 14 18 vI vI vI);unfold wv;go_enter Tryz.func119,Tryz.ntmps119;go_wp2;go_ret;have A:bits .or .u32 ((x.toNat:Int) * (16384:Int) % (4294967296:Int)) ((x.toNat:Int) / (262144:Int))=((rotW x 18).toNat:Int):=q.o
 exact⟨congrArg (fun z=>Ending.returned (Value.int .u32 z)) A,rfl⟩
theorem jy4(w:vW)(x:UInt32):vQ 119 #[wv x,.int .i64 19] w fun e w'=>e=.returned (wv (rotW x 19))/\w=w':=by
 have e:bits BinOp.and .u64 (IntKind.u64.wrap (-19)) 31=13:=by decide +kernel
 have q:=Hd (jf5 x 13 19 vI vI vI);unfold wv;go_enter Tryz.func119,Tryz.ntmps119;go_wp2;go_ret;have A:bits .or .u32 ((x.toNat:Int) * (8192:Int) % (4294967296:Int)) ((x.toNat:Int) / (524288:Int))=((rotW x 19).toNat:Int):=q.o
 exact⟨congrArg (fun z=>Ending.returned (Value.int .u32 z)) A,rfl⟩
theorem jy5(w:vW)(x:UInt32):vQ 119 #[wv x,.int .i64 22] w fun e w'=>e=.returned (wv (rotW x 22))/\w=w':=by
 have e:bits BinOp.and .u64 (IntKind.u64.wrap (-22)) 31=10:=by decide +kernel
 have q:=Hd (jf5 x 10 22 vI vI vI);unfold wv;go_enter Tryz.func119,Tryz.ntmps119;go_wp2;go_ret;have A:bits .or .u32 ((x.toNat:Int) * (1024:Int) % (4294967296:Int)) ((x.toNat:Int) / (4194304:Int))=((rotW x 22).toNat:Int):=q.o
 exact⟨congrArg (fun z=>Ending.returned (Value.int .u32 z)) A,rfl⟩
theorem jy6(w:vW)(x:UInt32):vQ 119 #[wv x,.int .i64 25] w fun e w'=>e=.returned (wv (rotW x 25))/\w=w':=by
 have e:bits BinOp.and .u64 (IntKind.u64.wrap (-25)) 31=7:=by decide +kernel
 have q:=Hd (jf5 x 7 25 vI vI vI);unfold wv;go_enter Tryz.func119,Tryz.ntmps119;go_wp2;go_ret;have A:bits .or .u32 ((x.toNat:Int) * (128:Int) % (4294967296:Int)) ((x.toNat:Int) / (33554432:Int))=((rotW x 25).toNat:Int):=q.o
 exact⟨congrArg (fun z=>Ending.returned (Value.int .u32 z)) A,rfl⟩
end
end Go.Proofs.YtepbencaoiompaaGreatDoor
