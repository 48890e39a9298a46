/- Lemmas; each is under no condition but those that it states. -/
import Derived.Test.YtegloohdmjadoaaGreatDoorPu3
namespace Go.Proofs.YtegloohdmjadoaaGreatDoor
set_option linter.unusedSimpArgs false
set_option linter.unusedVariables false
set_option maxRecDepth 100000
set_option maxHeartbeats 16000000
section
open Go Go.RowKit
def jcA(l:vN):vN:=l.flatMap fun(b:vU)=>[b >>> 4,b &&& 15]
def jbf(s:vB):vB:=⟨(jcA s.data.toList).toArray⟩
theorem Tryz.uBytes:Tryz.prog.underlying 52=some (.slice 5):=vY
theorem Tryz.uU8:Tryz.prog.underlying 5=some (.int .u8):=vY
theorem Tryz.uStr:Tryz.prog.underlying 9=some .string:=vY
theorem Tryz.infoU8:(Tryz.prog.info? 5).map (fun i=>(i.zero,i.size,i.bytes))=some (some (.int .u8 0),1,1):=vY
abbrev BRow(w0 w:vW)(v:vV)(n:Nat)(l:vN):Prop:=ORow 5 1 w0 w v n (jaK l)
def jws(w:vW)(s:vB)(v i:vV)(wr:vW):Prop:=∃ k:Nat,k<=s.size/\i=.int .i64 k/\BRow w wr v (2 * k) (jcA (s.data.toList.take k))
theorem jmb(s:vB){k:Nat}(h:k < s.size):jcA (s.data.toList.take (k+1))=jcA (s.data.toList.take k)++[s[k] >>> 4,s[k] &&& 15]:=by
 have e:k < s.data.toList.length:=by simpa using h
 rw[cS e];simp only[jcA,fN,dI,List.flatMap_nil,cC];rfl
theorem jsv(b:vU):([.int .u8 (b.toNat / 16),.int .u8 (bits BinOp.and .u8 b.toNat 15)]:List vV)=jaK [b >>> 4,b &&& 15]:=by
 have h:∀ b:Fin 256,((b.1:Int) / (16:Int)=((UInt8.ofNat b.1 >>> 4).toNat:Int))/\bits BinOp.and .u8 b.1 15=((UInt8.ofNat b.1 &&& 15).toNat:Int):=by decide +kernel
 have:=h ⟨b.toNat,b.toNat_lt⟩
 simp only[iN]at this;simp only[jaK,bT,gN,this.1,this.2]
theorem jjP(w:vW)(s:vB)(hs:s.size<=1000000):vR 46 #[.string s] w (.string (jbf s)):=by
 obtain⟨i0,hi,J,O,Q⟩:=info_parts Tryz.infoU8
 obtain⟨w1,m,A,X⟩:=run_make_own (P:=Tryz.prog) (w:=w) w.heap.size 52 5 i0 _ 1 Tryz.uBytes hi J O .i64 .i64 (2 * s.size) (by rw[Q];omega) (by unfold maxLen;omega) (bM _)
 have a5:(Instr.makeSlice 52 (.int .i64 0) (.int .i64 (2 * (s.size:Int)))).run Tryz.prog w=.ok (.slice (some ⟨w.heap.size,0,none⟩) 0 (2 * s.size)) w1:=by rw[<-m];congr 3
 have HO:=Hd A;have HG:=Hd X;clear A X m;go_enter Tryz.func46,Tryz.ntmps46;go_wp2;go_loopw [3,11] (fun v i wr=>jws w s v i wr) (fun _ i _=>s.size - (intOf i).toNat)
 case atStart=>exact⟨0,cD _,rfl,ORow.made w HO.o HG.o⟩
 case round =>
  obtain⟨k,hk,rfl,hR⟩:=hrel
  obtain⟨a,c,rfl⟩:=hR.sl
  have HR:=Hd hR;clear hR
  by_cases hlt:k < s.size
  ·go_wp2
   refine jay [0,1,2,3,4,5,6,7,8,9,10,11] [9,10] Ext ExtR ExtT vY vY vY ?_;iterate 9 refine vP ?_
   refine qH _ rfl (fun w1 he K Z=>?_);go_simp;refine Z _ _ ?_;clear Z K;have a0:=Hd ((HR.o.mono (jai wr)).mono he);clear he HR;refine qH _ rfl (fun w2 E K Z=>?_);have hn:∀ j u,([.int .u8 (s[k].toNat / 16),.int .u8 (bits BinOp.and .u8 s[k].toNat 15)]:List vV)[j]?=some u->w2.cell? ((⟨w1.heap.size,0,none⟩:Addr).add j)=some u:=fun j u hj=>jaa (juZ w1 5 _ j u hj) E;have H:=a0.o.mono (((ExtR w1).alloc _).trans E);refine jdw w2 (.tmp 14) (.tmp 23) 52 rfl 5 i0 _ 1 1 Tryz.uBytes hi J O Q rfl vI _ (2 * k) _ rfl H.own ⟨w1.heap.size,0,none⟩ 2 2 _ rfl rfl hn (by intro u hu;simp at hu;rcases hu with rfl | rfl <;> rfl) (by unfold maxLen;omega) vO (fun v' w3 r1 r2 r3=>Z _ _ ?_);clear Z K hn;have e2:([.int .u8 (s[k].toNat / 16),.int .u8 (bits BinOp.and .u8 s[k].toNat 15)]:List vV)=jaK [s[k] >>> 4,s[k] &&& 15]:=by
    exact jsv s[k]
   rw[e2]at r1;have a1:Hid (BRow w w3 v' (2 * k+2) (jcA (s.data.toList.take k)++[s[k] >>> 4,s[k] &&& 15])):=Hd (by unfold BRow;rw[jds];exact H.step r1 r2 r3);clear r1 r2 r3 H E a0 e2;refine vS ?_;refine vP ?_;refine qE (fun w4 a2=>?_);have a3:=Hd (a1.o.mono a2);clear a2 a1;go_wp2;go_roundw
   case rel=>exact⟨k+1,by omega,by go_num,by rw[jmb s hlt];exact a3.o⟩
   case measure=>exact vJ
  ·have a4:=jbr wr Tryz.uBytes Tryz.uU8 Tryz.uStr HR.o.own
   have e:(⟨(jcA (s.data.toList.take k)).toArray⟩:vB)=jbf s:=by unfold jbf;rw[bQ (by simp;omega)]
   rw[e]at a4;clear e;go_wp2;go_ret
   exact⟨rfl,HR.o.ext⟩
def jcv:vN->vN
 | x :: y :: r=>(x <<< 4 ||| y) :: jcv r
 | _=>[]
def jbD(s:vB):vB:=⟨(jcv s.data.toList).toArray⟩
theorem jdR:∀ (l:vN),(jcv l).length=l.length / 2
 | []=>rfl
 | [_]=>by simp[jcv]
 | _ :: _ :: r=>by simp only[jcv,bP,jdR r];omega
theorem jiP:∀ (l:vN) (j:Nat) (h:2 * j+1 < l.length),(jcv l)[j]?=some (l[2 * j] <<< 4 ||| l[2 * j+1])
 | [],_,h=>by simp at h
 | [_],_,h=>by simp at h
 | x :: y :: r,0,_=>by simp[jcv]
 | x :: y :: r,j+1,h=>by
  have:=jiP r j (by simp at h;omega)
  simp only[jcv,List.getElem?_cons_succ,this,Nat.mul_add,iC]
  congr 1
def jcz(s:vB)(k:Nat):List vV:=jaK ((jcv s.data.toList).take k)++List.replicate (s.size / 2 - k) (.int .u8 0)
theorem jkL(s:vB)(k:Nat)(h:k<=s.size / 2):(jcz s k).length=s.size / 2:=by
 have:=jdR s.data.toList
 simp at this;simp[jcz,this];omega
theorem jkM(s:vB)(k:Nat)(h:k < s.size / 2):(jcz s k).set k (.int .u8 (((s[2 * k]'(by omega)) <<< 4 |||(s[2 * k+1]'(by omega))).toNat:Int))=jcz s (k+1):=by
 have e:=jdR s.data.toList;simp at e;have A:(jaK ((jcv s.data.toList).take k)).length=k:=by simp[e];omega
 have E:s.size / 2 - k=(s.size / 2 - (k+1))+1:=vO
 have m:=jiP s.data.toList k (by simp;omega);have o:k < (jcv s.data.toList).length:=vO
 rw[bA o]at m;have H:=bN m;unfold jcz;rw[E,fC,fD _ _ vO,A,iU,dJ,cS o,jds,cB]
 congr 1
 simp only[jaK,bT,gN,cZ,cM,H];rfl
theorem jkK(s:vB):jcz s (s.size / 2)=jaK (jcv s.data.toList):=by
 have e:=jdR s.data.toList;simp at e;unfold jcz;rw[bQ vO];simp
def jwr(w:vW)(s:vB)(n:Nat)(i:vV)(wr:vW):Prop:=∃ k:Nat,k<=n/\i=.int .i64 k/\ORow 5 1 w wr (.slice (some ⟨w.heap.size,0,none⟩) n n) n (jcz s k)
theorem jnx(w:vW)(s:vB)(hs:s.size<=1000000):vR 174 #[.string s] w (.string (jbD s)):=by
 obtain⟨i0,hi,X,Z,a0⟩:=info_parts Tryz.infoU8
 obtain⟨n,hn⟩:=vE (s.size / 2)
 have hq:(s.size:Int) / 2=(n:Int):=vO
 have a4:2 * n<=s.size:=vO
 have J:=Hd hn;clear hn;have a1:=jfl (P:=Tryz.prog) w Tryz.uBytes hi X Z rfl .i64 .i64 n (by rw[a0];omega) (by unfold maxLen;omega);go_enter Tryz.func174,Tryz.ntmps174;go_wp2;clear hq a1;go_loopw [11] (fun i wr=>jwr w s n i wr) (fun i _=>n - (intOf i).toNat)
 case atStart =>
  refine⟨0,cD _,rfl,?_⟩
  have h:=ORow.lit (T:=5) (sz:=1) (List.replicate n (.int .u8 0)).toArray (n:=n) (ExtR w) (by unfold maxLen;omega) (by simp);have e:jcz s 0=List.replicate n (.int .u8 0):=by simp[jcz,jaK,J.o]
  rw[e];simpa using h
 case round =>
  obtain⟨k,hk,rfl,hR⟩:=hrel
  have Q:=Hd hR;clear hR
  by_cases hlt:k < n
  ·have b1:2 * k < s.size:=vO
   have b2:2 * k+1 < s.size:=vO
   have c0:(0:Int)<=2 * (k:Int):=vO
   have c1:2 * (k:Int) < (s.size:Int):=vO
   have c2:(0:Int)<=2 * (k:Int)+1:=vO
   have c3:2 * (k:Int)+1 < (s.size:Int):=vO
   go_wp2;refine jay [0,1,2,3,4,5,6,7,8,9,10,11,12,13,14] [14] Ext ExtR ExtT vY vY vY ?_;iterate 14 refine vP ?_
   refine qH _ rfl (fun w1 H K hK=>?_);have A:=Hd (Q.o.mono ((jai wr).trans H));clear H Q;have m:=A.o.own.cellAt k vO;rw[bA (by rw[jkL _ _ (by have:=J.o;omega)];have:=J.o;omega)]at m;have a2:=A.o.own.frozenAt k;go_simp;refine hK _ _ ?_;clear hK K m a2;have E:=A.o.set k (.int .u8 ((s[2 * k] <<< 4 ||| s[2 * k+1]).toNat:Int));rw[jkM s k (by have:=J.o;omega)]at E;have O:=Hd E;clear E A;refine qE (fun w2 H=>?_);rw[jxv]at H;have a3:=Hd (O.o.mono H);clear H O;go_wp2;go_roundw
   case rel=>exact⟨k+1,by omega,by go_num,a3.o⟩
   case measure=>exact vJ
  ·have a5:=jbr wr Tryz.uBytes Tryz.uU8 Tryz.uStr (l:=jcv s.data.toList) (n:=n) (by have:=Q.o.own;rw[show k=s.size / 2 from by have:=J.o;omega,jkK]at this;exact this)
   go_wp2;go_ret
   exact⟨rfl,Q.o.ext⟩
def jch(a b:vB):Bool:=Op.bytesLess a.toList b.toList
end
section
open Go Go.RowKit
theorem Tryz.uU32:Tryz.prog.underlying 145=some (.int .u32):=vY
theorem Tryz.iU32:(Tryz.prog.info? 145).map (·.size)=some 1:=vY
def addW(p q:UInt32):UInt32:=p+q
def xorW(p q:UInt32):UInt32:=p ^^^ q
def andW(p q:UInt32):UInt32:=p &&& q
def notW(p:UInt32):UInt32 := ~~~ p
def shrW(p:UInt32)(n:UInt32):UInt32:=p >>> n
def rotW(p:UInt32)(n:UInt32):UInt32:=(p <<< (32 - n)) |||(p >>> n)
def wv(p:UInt32):vV:=.int .u32 (p.toNat:Int)
theorem jdl(a:UInt32):BitVec.ofInt (IntKind.bits .u32) (a.toNat:Int)=a.toBitVec:=by
 show BitVec.ofInt 32 ((a.toNat:Nat):Int)=_;rw[BitVec.ofInt_natCast];simp
theorem jgJ(a:UInt32):IntKind.u32.wrap (a.toNat:Int)=a.toNat:=by rw[IntKind.wrap_u32];have:=a.toNat_lt;omega
section
variable {P:Program} {w:vW} {T:TypeId} {p q:UInt32}
theorem jkX:(binOp .add T (wv p) (wv q)).run P w=.ok (wv (addW p q)) w:=by
 have e:IntKind.u32.wrap ((p.toNat:Int)+(q.toNat:Int))=((addW p q).toNat:Int):=by
  rw[IntKind.wrap_u32,addW,UInt32.toNat_add];omega
 unfold wv;rw[<-e];rfl
theorem jkZ:(binOp .xor T (wv p) (wv q)).run P w=.ok (wv (xorW p q)) w:=by
 have e:bits .xor .u32 p.toNat q.toNat=((xorW p q).toNat:Int):=by
  unfold bits;rw[jdl,jdl];exact jgJ (p ^^^ q)
 unfold wv;rw[<-e];rfl
theorem jo7:(binOp .and T (wv p) (wv q)).run P w=.ok (wv (andW p q)) w:=by
 have e:bits .and .u32 p.toNat q.toNat=((andW p q).toNat:Int):=by
  unfold bits;rw[jdl,jdl];exact jgJ (p &&& q)
 unfold wv;rw[<-e];rfl
theorem jdd(n:Nat)(hn:n < 32)(k:IntKind):(binOp .shr T (wv p) (.int k n)).run P w=.ok (wv (shrW p (UInt32.ofNat n))) w:=by
 have e:((shrW p (UInt32.ofNat n)).toNat:Int)=(p.toNat:Int).fdiv (2 ^ n):=by
  unfold shrW;rw[UInt32.toNat_shiftRight,gD,fK (show n < 2 ^ 32 by omega),fK hn,Nat.shiftRight_eq_div_pow];rw[Int.fdiv_eq_ediv_of_nonneg _ (by exact_mod_cast cD (2 ^ n))]
  simp
 unfold wv;rw[e];show (Op.shift .shr .u32 (p.toNat:Int) k (n:Int)).run P w=_;unfold Op.shift;rw[if_neg vO];have h:min (n:Int).toNat (IntKind.bits .u32)=n:=by show min (n:Int).toNat 32=n;omega
 simp only[h];rfl
theorem jo9:(Op.unary .xor (wv p)).run P w=.ok (wv (notW p)) w:=by
 have e:bits .xor .u32 (IntKind.max .u32) p.toNat=((notW p).toNat:Int):=by
  have o:(IntKind.max .u32:Int)=((0xFFFFFFFF:UInt32).toNat:Int):=rfl;rw[o];unfold bits;rw[jdl,jdl]
  have:(0xFFFFFFFF:UInt32) ^^^ p=notW p:=by
   unfold notW;apply UInt32.toBitVec_inj.1;show (BitVec.allOnes 32) ^^^ p.toBitVec = ~~~ p.toBitVec;rw[BitVec.allOnes_xor]
  have m:=jgJ ((0xFFFFFFFF:UInt32) ^^^ p);rw[this]at m;rw[<-m, <-this];rfl
 unfold wv;rw[<-e];rfl
end
section
variable {P:Program} {l:List Oper} {E:vW->vW->Prop} {Q:Act->vW->Prop} {ord done hd:List Nat} {a:Act} {w:vW} {k:Nat} {d:Option Tmp} {x y:Operand} {T T' ty:TypeId} {pos:String} {af:Array Edge} {g:Option (Nat × Bool)} {op:BinOp} {ops:Array Oper} {rest:List Oper} {QQ:Exit->Act->vW->Prop}
theorem juu{vx vy v:vV}(hx:a.eval x=vx)(hy:a.eval y=vy)(hg:(eqGuard op T x y vx vy).run P w=.ok () w)(hr:(binOp op T vx vy).run P w=.ok v w):(execOp a.eval ⟨d,.binOp op T x y T',ty,pos,af,g⟩).run P w=.ok (.value v) w:=by
 simp only[execOp,hx,hy,cA,cR,Result.andThen,hg,hr]
end
theorem jlc{P:Program}{o:Oper}{a:Act}{w:vW}{K:Act->vW->Prop}{Q:Exit->Act->vW->Prop}{t:TypeId}{x y:Operand}(b i:Nat)(v:vV)(ho:o.op=.store t x y)(hx:a.eval x=.pointer (some ⟨b,i,none⟩))(hy:a.eval y=v)(hv:v.oneCell'=true)
  (hi:(P.info? t).map (·.size)=some 1) {old:vV} (hc:w.cell? ⟨b,i,none⟩=some old) (hf:w.frozen? ⟨b,i,none⟩=false) (h:K (a.put o.dst undef) (w.setCell ⟨b,i,none⟩ v)):o.wp P a w K Q:=by
 obtain⟨A,e,m⟩:=dR.1 hi
 have E:(storeCells ⟨b,i,none⟩ [v]).run P w=.ok () (w.setCell ⟨b,i,none⟩ v):=by
  rw[jmE,run_store P w _ v _ hv,hc,hf];rfl
 have H:(Instr.storeAt t (.pointer (some ⟨b,i,none⟩)) v).run P w=.ok () (w.setCell ⟨b,i,none⟩ v):=by
  simp[Instr.storeAt,Instr.sureAddr,storeVar,cA,Result.andThen,jsF hv,sizeOf,typeInfo,e,m,E]
 unfold Oper.wp execOp;simp only[ho,hx,hy,cA,H,Result.andThen,cR];exact h
theorem jga(p q:UInt32):bits .or .u32 p.toNat q.toNat=((p ||| q).toNat:Int):=by
 unfold bits;rw[jdl,jdl];exact jgJ (p ||| q)
theorem jfM(x:UInt32)(s n:Nat)(hs:s+n=32)(hn:0 < n)(hn2:n < 32):bits .or .u32 ((x.toNat:Int) * (2:Int) ^ s % (4294967296:Int)) ((x.toNat:Int) / (2:Int) ^ n)=((rotW x (UInt32.ofNat n)).toNat:Int):=by
 have e:(x.toNat:Int) * (2:Int) ^ s % (4294967296:Int)=((x <<< (32 - UInt32.ofNat n)).toNat:Int):=by
  rw[UInt32.toNat_shiftLeft];have m:(32 - UInt32.ofNat n).toNat=s:=by
   rw[UInt32.toNat_sub_of_le]
   ·rw[gD];show 32 - n % 2 ^ 32=s;omega
   ·rw[UInt32.le_iff_toNat_le,gD];show n % 2 ^ 32<=32;omega
  rw[m,fK (show s < 32 by omega),Nat.shiftLeft_eq]
  simp
 have o:(x.toNat:Int) / (2:Int) ^ n=((x >>> UInt32.ofNat n).toNat:Int):=by
  rw[UInt32.toNat_shiftRight];rw[gD,fK (show n < 2 ^ 32 by omega),fK hn2,Nat.shiftRight_eq_div_pow]
  simp
 rw[e,o,jga];rfl
theorem jzI(w:vW)(x:UInt32):vQ 135 #[wv x,.int .i64 2] w fun e w'=>e=.returned (wv (rotW x 2))/\w=w':=by
 have e:bits BinOp.and .u64 (IntKind.u64.wrap (-2)) 31=30:=by decide +kernel
 have m:=Hd (jfM x 30 2 vI vI vI);unfold wv;go_enter Tryz.func135,Tryz.ntmps135;go_wp2;go_ret;have A:bits .or .u32 ((x.toNat:Int) * (1073741824:Int) % (4294967296:Int)) ((x.toNat:Int) / (4:Int))=((rotW x 2).toNat:Int):=m.o
 exact⟨congrArg (fun z=>Ending.returned (Value.int .u32 z)) A,rfl⟩
theorem jzJ(w:vW)(x:UInt32):vQ 135 #[wv x,.int .i64 6] w fun e w'=>e=.returned (wv (rotW x 6))/\w=w':=by
 have e:bits BinOp.and .u64 (IntKind.u64.wrap (-6)) 31=26:=by decide +kernel
 have m:=Hd (jfM x 26 6 vI vI vI);unfold wv;go_enter Tryz.func135,Tryz.ntmps135;go_wp2;go_ret;have A:bits .or .u32 ((x.toNat:Int) * (67108864:Int) % (4294967296:Int)) ((x.toNat:Int) / (64:Int))=((rotW x 6).toNat:Int):=m.o
 exact⟨congrArg (fun z=>Ending.returned (Value.int .u32 z)) A,rfl⟩
theorem jzK(w:vW)(x:UInt32):vQ 135 #[wv x,.int .i64 7] w fun e w'=>e=.returned (wv (rotW x 7))/\w=w':=by
 have e:bits BinOp.and .u64 (IntKind.u64.wrap (-7)) 31=25:=by decide +kernel
 have m:=Hd (jfM x 25 7 vI vI vI);unfold wv;go_enter Tryz.func135,Tryz.ntmps135;go_wp2;go_ret;have A:bits .or .u32 ((x.toNat:Int) * (33554432:Int) % (4294967296:Int)) ((x.toNat:Int) / (128:Int))=((rotW x 7).toNat:Int):=m.o
 exact⟨congrArg (fun z=>Ending.returned (Value.int .u32 z)) A,rfl⟩
theorem jxE(w:vW)(x:UInt32):vQ 135 #[wv x,.int .i64 11] w fun e w'=>e=.returned (wv (rotW x 11))/\w=w':=by
 have e:bits BinOp.and .u64 (IntKind.u64.wrap (-11)) 31=21:=by decide +kernel
 have m:=Hd (jfM x 21 11 vI vI vI);unfold wv;go_enter Tryz.func135,Tryz.ntmps135;go_wp2;go_ret;have A:bits .or .u32 ((x.toNat:Int) * (2097152:Int) % (4294967296:Int)) ((x.toNat:Int) / (2048:Int))=((rotW x 11).toNat:Int):=m.o
 exact⟨congrArg (fun z=>Ending.returned (Value.int .u32 z)) A,rfl⟩
theorem jxF(w:vW)(x:UInt32):vQ 135 #[wv x,.int .i64 13] w fun e w'=>e=.returned (wv (rotW x 13))/\w=w':=by
 have e:bits BinOp.and .u64 (IntKind.u64.wrap (-13)) 31=19:=by decide +kernel
 have m:=Hd (jfM x 19 13 vI vI vI);unfold wv;go_enter Tryz.func135,Tryz.ntmps135;go_wp2;go_ret;have A:bits .or .u32 ((x.toNat:Int) * (524288:Int) % (4294967296:Int)) ((x.toNat:Int) / (8192:Int))=((rotW x 13).toNat:Int):=m.o
 exact⟨congrArg (fun z=>Ending.returned (Value.int .u32 z)) A,rfl⟩
theorem jxG(w:vW)(x:UInt32):vQ 135 #[wv x,.int .i64 17] w fun e w'=>e=.returned (wv (rotW x 17))/\w=w':=by
 have e:bits BinOp.and .u64 (IntKind.u64.wrap (-17)) 31=15:=by decide +kernel
 have m:=Hd (jfM x 15 17 vI vI vI);unfold wv;go_enter Tryz.func135,Tryz.ntmps135;go_wp2;go_ret;have A:bits .or .u32 ((x.toNat:Int) * (32768:Int) % (4294967296:Int)) ((x.toNat:Int) / (131072:Int))=((rotW x 17).toNat:Int):=m.o
 exact⟨congrArg (fun z=>Ending.returned (Value.int .u32 z)) A,rfl⟩
theorem jxH(w:vW)(x:UInt32):vQ 135 #[wv x,.int .i64 18] w fun e w'=>e=.returned (wv (rotW x 18))/\w=w':=by
 have e:bits BinOp.and .u64 (IntKind.u64.wrap (-18)) 31=14:=by decide +kernel
 have m:=Hd (jfM x 14 18 vI vI vI);unfold wv;go_enter Tryz.func135,Tryz.ntmps135;go_wp2;go_ret;have A:bits .or .u32 ((x.toNat:Int) * (16384:Int) % (4294967296:Int)) ((x.toNat:Int) / (262144:Int))=((rotW x 18).toNat:Int):=m.o
 exact⟨congrArg (fun z=>Ending.returned (Value.int .u32 z)) A,rfl⟩
theorem jxI(w:vW)(x:UInt32):vQ 135 #[wv x,.int .i64 19] w fun e w'=>e=.returned (wv (rotW x 19))/\w=w':=by
 have e:bits BinOp.and .u64 (IntKind.u64.wrap (-19)) 31=13:=by decide +kernel
 have m:=Hd (jfM x 13 19 vI vI vI);unfold wv;go_enter Tryz.func135,Tryz.ntmps135;go_wp2;go_ret;have A:bits .or .u32 ((x.toNat:Int) * (8192:Int) % (4294967296:Int)) ((x.toNat:Int) / (524288:Int))=((rotW x 19).toNat:Int):=m.o
 exact⟨congrArg (fun z=>Ending.returned (Value.int .u32 z)) A,rfl⟩
theorem jxJ(w:vW)(x:UInt32):vQ 135 #[wv x,.int .i64 22] w fun e w'=>e=.returned (wv (rotW x 22))/\w=w':=by
 have e:bits BinOp.and .u64 (IntKind.u64.wrap (-22)) 31=10:=by decide +kernel
 have m:=Hd (jfM x 10 22 vI vI vI);unfold wv;go_enter Tryz.func135,Tryz.ntmps135;go_wp2;go_ret;have A:bits .or .u32 ((x.toNat:Int) * (1024:Int) % (4294967296:Int)) ((x.toNat:Int) / (4194304:Int))=((rotW x 22).toNat:Int):=m.o
 exact⟨congrArg (fun z=>Ending.returned (Value.int .u32 z)) A,rfl⟩
theorem jxK(w:vW)(x:UInt32):vQ 135 #[wv x,.int .i64 25] w fun e w'=>e=.returned (wv (rotW x 25))/\w=w':=by
 have e:bits BinOp.and .u64 (IntKind.u64.wrap (-25)) 31=7:=by decide +kernel
 have m:=Hd (jfM x 7 25 vI vI vI);unfold wv;go_enter Tryz.func135,Tryz.ntmps135;go_wp2;go_ret;have A:bits .or .u32 ((x.toNat:Int) * (128:Int) % (4294967296:Int)) ((x.toNat:Int) / (33554432:Int))=((rotW x 25).toNat:Int):=m.o
 exact⟨congrArg (fun z=>Ending.returned (Value.int .u32 z)) A,rfl⟩
end
section
open Go Go.RowKit
attribute [local go_sem] Oper.semAt_some
theorem jdc(x:UInt32)(s n:Nat)(hs:s+n=32)(hn:0 < n)(hn2:n < 32):bits .or .u32 ((x.toNat:Int) / (2:Int) ^ n) ((x.toNat:Int) * (2:Int) ^ s % (4294967296:Int))=((rotW x (UInt32.ofNat n)).toNat:Int):=by
 have e:(x.toNat:Int) * (2:Int) ^ s % (4294967296:Int)=((x <<< (32 - UInt32.ofNat n)).toNat:Int):=by
  rw[UInt32.toNat_shiftLeft];have m:(32 - UInt32.ofNat n).toNat=s:=by
   rw[UInt32.toNat_sub_of_le]
   ·rw[gD];show 32 - n % 2 ^ 32=s;omega
   ·rw[UInt32.le_iff_toNat_le,gD];show n % 2 ^ 32<=32;omega
  rw[m,fK (show s < 32 by omega),Nat.shiftLeft_eq]
  simp
 have o:(x.toNat:Int) / (2:Int) ^ n=((x >>> UInt32.ofNat n).toNat:Int):=by
  rw[UInt32.toNat_shiftRight];rw[gD,fK (show n < 2 ^ 32 by omega),fK hn2,Nat.shiftRight_eq_div_pow]
  simp
 rw[e,o,jga,UInt32.or_comm];rfl
theorem jAS(w:vW)(x:UInt32):vQ 117 #[wv x,.int .u64 2] w fun e w'=>e=.returned (wv (rotW x 2))/\w=w':=by
 have m:=Hd (jdc x 30 2 vI vI vI);unfold wv;go_enter Tryz.func117,Tryz.ntmps117;go_wp2;go_ret;have A:bits .or .u32 ((x.toNat:Int) / (4:Int)) ((x.toNat:Int) * (1073741824:Int) % (4294967296:Int))=((rotW x 2).toNat:Int):=m.o
 exact⟨congrArg (fun z=>Ending.returned (Value.int .u32 z)) A,rfl⟩
theorem jAT(w:vW)(x:UInt32):vQ 117 #[wv x,.int .u64 6] w fun e w'=>e=.returned (wv (rotW x 6))/\w=w':=by
 have m:=Hd (jdc x 26 6 vI vI vI);unfold wv;go_enter Tryz.func117,Tryz.ntmps117;go_wp2;go_ret;have A:bits .or .u32 ((x.toNat:Int) / (64:Int)) ((x.toNat:Int) * (67108864:Int) % (4294967296:Int))=((rotW x 6).toNat:Int):=m.o
 exact⟨congrArg (fun z=>Ending.returned (Value.int .u32 z)) A,rfl⟩
theorem jAU(w:vW)(x:UInt32):vQ 117 #[wv x,.int .u64 7] w fun e w'=>e=.returned (wv (rotW x 7))/\w=w':=by
 have m:=Hd (jdc x 25 7 vI vI vI);unfold wv;go_enter Tryz.func117,Tryz.ntmps117;go_wp2;go_ret;have A:bits .or .u32 ((x.toNat:Int) / (128:Int)) ((x.toNat:Int) * (33554432:Int) % (4294967296:Int))=((rotW x 7).toNat:Int):=m.o
 exact⟨congrArg (fun z=>Ending.returned (Value.int .u32 z)) A,rfl⟩
theorem jzB(w:vW)(x:UInt32):vQ 117 #[wv x,.int .u64 11] w fun e w'=>e=.returned (wv (rotW x 11))/\w=w':=by
 have m:=Hd (jdc x 21 11 vI vI vI);unfold wv;go_enter Tryz.func117,Tryz.ntmps117;go_wp2;go_ret;have A:bits .or .u32 ((x.toNat:Int) / (2048:Int)) ((x.toNat:Int) * (2097152:Int) % (4294967296:Int))=((rotW x 11).toNat:Int):=m.o
 exact⟨congrArg (fun z=>Ending.returned (Value.int .u32 z)) A,rfl⟩
theorem jzC(w:vW)(x:UInt32):vQ 117 #[wv x,.int .u64 13] w fun e w'=>e=.returned (wv (rotW x 13))/\w=w':=by
 have m:=Hd (jdc x 19 13 vI vI vI);unfold wv;go_enter Tryz.func117,Tryz.ntmps117;go_wp2;go_ret;have A:bits .or .u32 ((x.toNat:Int) / (8192:Int)) ((x.toNat:Int) * (524288:Int) % (4294967296:Int))=((rotW x 13).toNat:Int):=m.o
 exact⟨congrArg (fun z=>Ending.returned (Value.int .u32 z)) A,rfl⟩
theorem jzD(w:vW)(x:UInt32):vQ 117 #[wv x,.int .u64 17] w fun e w'=>e=.returned (wv (rotW x 17))/\w=w':=by
 have m:=Hd (jdc x 15 17 vI vI vI);unfold wv;go_enter Tryz.func117,Tryz.ntmps117;go_wp2;go_ret;have A:bits .or .u32 ((x.toNat:Int) / (131072:Int)) ((x.toNat:Int) * (32768:Int) % (4294967296:Int))=((rotW x 17).toNat:Int):=m.o
 exact⟨congrArg (fun z=>Ending.returned (Value.int .u32 z)) A,rfl⟩
theorem jzE(w:vW)(x:UInt32):vQ 117 #[wv x,.int .u64 18] w fun e w'=>e=.returned (wv (rotW x 18))/\w=w':=by
 have m:=Hd (jdc x 14 18 vI vI vI);unfold wv;go_enter Tryz.func117,Tryz.ntmps117;go_wp2;go_ret;have A:bits .or .u32 ((x.toNat:Int) / (262144:Int)) ((x.toNat:Int) * (16384:Int) % (4294967296:Int))=((rotW x 18).toNat:Int):=m.o
 exact⟨congrArg (fun z=>Ending.returned (Value.int .u32 z)) A,rfl⟩
theorem jzF(w:vW)(x:UInt32):vQ 117 #[wv x,.int .u64 19] w fun e w'=>e=.returned (wv (rotW x 19))/\w=w':=by
 have m:=Hd (jdc x 13 19 vI vI vI);unfold wv;go_enter Tryz.func117,Tryz.ntmps117;go_wp2;go_ret;have A:bits .or .u32 ((x.toNat:Int) / (524288:Int)) ((x.toNat:Int) * (8192:Int) % (4294967296:Int))=((rotW x 19).toNat:Int):=m.o
 exact⟨congrArg (fun z=>Ending.returned (Value.int .u32 z)) A,rfl⟩
theorem jzG(w:vW)(x:UInt32):vQ 117 #[wv x,.int .u64 22] w fun e w'=>e=.returned (wv (rotW x 22))/\w=w':=by
 have m:=Hd (jdc x 10 22 vI vI vI);unfold wv;go_enter Tryz.func117,Tryz.ntmps117;go_wp2;go_ret;have A:bits .or .u32 ((x.toNat:Int) / (4194304:Int)) ((x.toNat:Int) * (1024:Int) % (4294967296:Int))=((rotW x 22).toNat:Int):=m.o
 exact⟨congrArg (fun z=>Ending.returned (Value.int .u32 z)) A,rfl⟩
theorem jzH(w:vW)(x:UInt32):vQ 117 #[wv x,.int .u64 25] w fun e w'=>e=.returned (wv (rotW x 25))/\w=w':=by
 have m:=Hd (jdc x 7 25 vI vI vI);unfold wv;go_enter Tryz.func117,Tryz.ntmps117;go_wp2;go_ret;have A:bits .or .u32 ((x.toNat:Int) / (33554432:Int)) ((x.toNat:Int) * (128:Int) % (4294967296:Int))=((rotW x 25).toNat:Int):=m.o
 exact⟨congrArg (fun z=>Ending.returned (Value.int .u32 z)) A,rfl⟩
end
end Go.Proofs.YtegloohdmjadoaaGreatDoor
