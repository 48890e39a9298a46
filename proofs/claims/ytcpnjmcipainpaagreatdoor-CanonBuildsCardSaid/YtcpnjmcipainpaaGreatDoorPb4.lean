/- Parts of the proof, one behind the other: NibbleB, Word, RefPn. Each is under no condition but those that it states. -/
import Derived.Test.YtcpnjmcipainpaaGreatDoorPb3
import Derived.Test.YtcpnjmcipainpaaGreatDoorProg
import Derived.LoopTactic
import Derived.Outline
namespace Go.Proofs.YtcpnjmcipainpaaGreatDoor
set_option linter.unusedSimpArgs false
set_option linter.unusedVariables false
set_option maxRecDepth 100000
set_option maxHeartbeats 16000000
section
open Go Go.RowKit
def jch(l:List UInt8):List UInt8:=l.flatMap fun(b:UInt8)=>[b >>> 4,b &&& 15]
def jcg(s:ByteArray):ByteArray:=⟨(jch s.data.toList).toArray⟩
theorem Tryz.uBytes:Tryz.prog.underlying 92=some (.slice 5):=by kernel_rfl
theorem Tryz.uU8:Tryz.prog.underlying 5=some (.int .u8):=by kernel_rfl
theorem Tryz.uStr:Tryz.prog.underlying 9=some .string:=by kernel_rfl
theorem Tryz.infoU8:(Tryz.prog.info? 5).map (fun i=>(i.zero,i.size,i.bytes))=some (some (.int .u8 0),1,1):=by kernel_rfl
abbrev BRow(w0 w:World)(v:Value)(n:Nat)(l:List UInt8):Prop:=ORow 5 1 w0 w v n (jay l)
def jmg(w:World)(s:ByteArray)(v i:Value)(wr:World):Prop:=∃ k:Nat,k≤s.size∧i=.int .i64 k∧BRow w wr v (2 * k) (jch (s.data.toList.take k))
theorem jgT(s:ByteArray){k:Nat}(h:k < s.size):jch (s.data.toList.take (k+1))=jch (s.data.toList.take k)++[s[k] >>> 4,s[k] &&& 15]:=by
 have hl:k < s.data.toList.length:=by simpa using h
 rw[List.take_succ_eq_append_getElem hl];simp only[jch,List.flatMap_append,List.flatMap_cons,List.flatMap_nil,List.append_nil];rfl
theorem jj3(b:UInt8):([.int .u8 (b.toNat / 16),.int .u8 (bits BinOp.and .u8 b.toNat 15)]:List Value)=jay [b >>> 4,b &&& 15]:=by
 have h:∀ b:Fin 256,((b.1:Int) / (16:Int)=((UInt8.ofNat b.1 >>> 4).toNat:Int))∧bits BinOp.and .u8 b.1 15=((UInt8.ofNat b.1 &&& 15).toNat:Int):=by decide +kernel
 have:=h ⟨b.toNat,b.toNat_lt⟩
 simp only[UInt8.ofNat_toNat]at this;simp only[jay,List.map_cons,List.map_nil,this.1,this.2]
theorem jkf(w:World)(s:ByteArray)(hs:s.size≤1000000):Calls Tryz.prog 90 #[.string s] w fun e w'=>e=.returned (.string (jcg s))∧Ext w w':=by
 obtain⟨i0,hi,hz0,hz1,hz2⟩:=info_parts Tryz.infoU8
 obtain⟨w1,hmk0,hown,hgr⟩:=run_make_own (P:=Tryz.prog) (w:=w) w.heap.size 92 5 i0 _ 1 Tryz.uBytes hi hz0 hz1 .i64 .i64 (2 * s.size) (by rw[hz2];omega) (by unfold maxLen;omega) (Nat.le_refl _)
 have hmk:(Instr.makeSlice 92 (.int .i64 0) (.int .i64 (2 * (s.size:Int)))).run Tryz.prog w=.ok (.slice (some ⟨w.heap.size,0,none⟩) 0 (2 * s.size)) w1:=by rw[←hmk0];congr 3
 have HO:=Hd hown;have HG:=Hd hgr;clear hown hgr hmk0;go_enter Tryz.func90,Tryz.ntmps90;go_wp2;go_loopw [3,11] (fun v i wr=>jmg w s v i wr) (fun _ i _=>s.size - (intOf i).toNat)
 case atStart=>exact⟨0,Nat.zero_le _,rfl,ORow.made w HO.o HG.o⟩
 case round =>
  obtain⟨k,hk,rfl,hR⟩:=hrel
  obtain⟨a,c,rfl⟩:=hR.sl
  have HR:=Hd hR;clear hR
  by_cases hlt:k < s.size
  ·go_wp2
   refine jau [0,1,2,3,4,5,6,7,8,9,10,11] [9,10] Ext ExtR ExtT (by kernel_rfl) (by kernel_rfl) (by kernel_rfl) ?_;iterate 9 (refine jak _ rfl (by kernel_rfl) rfl rfl (fun K hK=>?_);go_big_quiet_op;refine hK _ ?_;clear hK K)
   refine jbh _ rfl (by kernel_rfl) rfl (fun w1 he K hK=>?_);go_simp;refine hK _ _ ?_;clear hK K;have HR1:=Hd ((HR.o.mono (jaj wr)).mono he);clear he HR;refine jbh _ rfl (by kernel_rfl) rfl (fun w2 he2 K hK=>?_);have hn:∀ j u,([.int .u8 (s[k].toNat / 16),.int .u8 (bits BinOp.and .u8 s[k].toNat 15)]:List Value)[j]?=some u→w2.cell? ((⟨w1.heap.size,0,none⟩:Addr).add j)=some u:=fun j u hj=>jab (jlw w1 5 _ j u hj) he2;have HR2:=HR1.o.mono (((ExtR w1).alloc _).trans he2);refine jdW w2 (.tmp 14) (.tmp 23) 92 rfl 5 i0 _ 1 1 Tryz.uBytes hi hz0 hz1 hz2 rfl (by decide) _ (2 * k) _ rfl HR2.own ⟨w1.heap.size,0,none⟩ 2 2 _ rfl rfl hn (by intro u hu;simp at hu;rcases hu with rfl | rfl <;> rfl) (by unfold maxLen;omega) (by omega) (fun v' w3 r1 r2 r3=>hK _ _ ?_);clear hK K hn;have e2:([.int .u8 (s[k].toNat / 16),.int .u8 (bits BinOp.and .u8 s[k].toNat 15)]:List Value)=jay [s[k] >>> 4,s[k] &&& 15]:=by
    exact jj3 s[k]
   rw[e2]at r1;have HR3:Hid (BRow w w3 v' (2 * k+2) (jch (s.data.toList.take k)++[s[k] >>> 4,s[k] &&& 15])):=Hd (by unfold BRow;rw[jb0];exact HR2.step r1 r2 r3);clear r1 r2 r3 HR2 he2 HR1 e2;simp only[Act.put,sA,sB,sC];refine jak _ rfl (by kernel_rfl) rfl rfl (fun K hK=>?_);go_big_quiet_op;refine hK _ ?_;clear hK K;refine ja6 (by kernel_rfl) (fun w4 he4=>?_);have HR4:=Hd (HR3.o.mono he4);clear he4 HR3;go_wp2;go_roundw
   case rel=>exact⟨k+1,by omega,by go_num,by rw[jgT s hlt];exact HR4.o⟩
   case measure=>simp[intOf];omega
  ·have hcv:=ja9 wr Tryz.uBytes Tryz.uU8 Tryz.uStr HR.o.own
   have e:(⟨(jch (s.data.toList.take k)).toArray⟩:ByteArray)=jcg s:=by unfold jcg;rw[List.take_of_length_le (by simp;omega)]
   rw[e]at hcv;clear e;go_wp2;go_ret
   exact⟨rfl,HR.o.ext⟩
def jbL:List UInt8→List UInt8
 | x :: y :: r=>(x <<< 4 ||| y) :: jbL r
 | _=>[]
def jdn(s:ByteArray):ByteArray:=⟨(jbL s.data.toList).toArray⟩
theorem jcf:∀ (l:List UInt8),(jbL l).length=l.length / 2
 | []=>rfl
 | [_]=>by simp[jbL]
 | _ :: _ :: r=>by simp only[jbL,List.length_cons,jcf r];omega
theorem je0:∀ (l:List UInt8) (j:Nat) (h:2 * j+1 < l.length),(jbL l)[j]?=some (l[2 * j] <<< 4 ||| l[2 * j+1])
 | [],_,h=>by simp at h
 | [_],_,h=>by simp at h
 | x :: y :: r,0,_=>by simp[jbL]
 | x :: y :: r,j+1,h=>by
  have:=je0 r j (by simp at h;omega)
  simp only[jbL,List.getElem?_cons_succ,this,Nat.mul_add,Nat.mul_one]
  congr 1
def jbz(s:ByteArray)(k:Nat):List Value:=jay ((jbL s.data.toList).take k)++List.replicate (s.size / 2 - k) (.int .u8 0)
theorem jf8(s:ByteArray)(k:Nat)(h:k≤s.size / 2):(jbz s k).length=s.size / 2:=by
 have:=jcf s.data.toList
 simp at this;simp[jbz,this];omega
theorem jf9(s:ByteArray)(k:Nat)(h:k < s.size / 2):(jbz s k).set k (.int .u8 (((s[2 * k]'(by omega)) <<< 4 |||(s[2 * k+1]'(by omega))).toNat:Int))=jbz s (k+1):=by
 have hl:=jcf s.data.toList;simp at hl;have h1:(jay ((jbL s.data.toList).take k)).length=k:=by simp[hl];omega
 have h2:s.size / 2 - k=(s.size / 2 - (k+1))+1:=by omega
 have h3:=je0 s.data.toList k (by simp;omega);have h4:k < (jbL s.data.toList).length:=by omega
 rw[List.getElem?_eq_getElem h4]at h3;have h5:=Option.some.inj h3;unfold jbz;rw[h2,List.replicate_succ,List.set_append_right _ _ (by omega),h1,Nat.sub_self,List.set_cons_zero,List.take_succ_eq_append_getElem h4,jb0,List.append_assoc]
 congr 1
 simp only[jay,List.map_cons,List.map_nil,List.cons_append,List.nil_append,h5];rfl
theorem jf7(s:ByteArray):jbz s (s.size / 2)=jay (jbL s.data.toList):=by
 have hl:=jcf s.data.toList;simp at hl;unfold jbz;rw[List.take_of_length_le (by omega)];simp
def jmf(w:World)(s:ByteArray)(n:Nat)(i:Value)(wr:World):Prop:=∃ k:Nat,k≤n∧i=.int .i64 k∧ORow 5 1 w wr (.slice (some ⟨w.heap.size,0,none⟩) n n) n (jbz s k)
theorem jke(w:World)(s:ByteArray)(hs:s.size≤1000000):Calls Tryz.prog 204 #[.string s] w fun e w'=>e=.returned (.string (jdn s))∧Ext w w':=by
 obtain⟨i0,hi,hz0,hz1,hz2⟩:=info_parts Tryz.infoU8
 obtain⟨n,hn⟩:∃ n,n=s.size / 2:=⟨_,rfl⟩
 have hq:(s.size:Int) / 2=(n:Int):=by omega
 have hle:2 * n≤s.size:=by omega
 have HN:=Hd hn;clear hn;have hmk:=jc6 (P:=Tryz.prog) w Tryz.uBytes hi hz0 hz1 rfl .i64 .i64 n (by rw[hz2];omega) (by unfold maxLen;omega);go_enter Tryz.func204,Tryz.ntmps204;go_wp2;clear hq hmk;go_loopw [11] (fun i wr=>jmf w s n i wr) (fun i _=>n - (intOf i).toNat)
 case atStart =>
  refine⟨0,Nat.zero_le _,rfl,?_⟩
  have h:=ORow.lit (T:=5) (sz:=1) (List.replicate n (.int .u8 0)).toArray (n:=n) (ExtR w) (by unfold maxLen;omega) (by simp);have e:jbz s 0=List.replicate n (.int .u8 0):=by simp[jbz,jay,HN.o]
  rw[e];simpa using h
 case round =>
  obtain⟨k,hk,rfl,hR⟩:=hrel
  have HR:=Hd hR;clear hR
  by_cases hlt:k < n
  ·have b1:2 * k < s.size:=by omega
   have b2:2 * k+1 < s.size:=by omega
   have c0:(0:Int)≤2 * (k:Int):=by omega
   have c1:2 * (k:Int) < (s.size:Int):=by omega
   have c2:(0:Int)≤2 * (k:Int)+1:=by omega
   have c3:2 * (k:Int)+1 < (s.size:Int):=by omega
   go_wp2;refine jau [0,1,2,3,4,5,6,7,8,9,10,11,12,13,14] [14] Ext ExtR ExtT (by kernel_rfl) (by kernel_rfl) (by kernel_rfl) ?_;iterate 14 (refine jak _ rfl (by kernel_rfl) rfl rfl (fun K hK=>?_);go_big_quiet_op;refine hK _ ?_;clear hK K)
   refine jbh _ rfl (by kernel_rfl) rfl (fun w1 he K hK=>?_);have HR1:=Hd (HR.o.mono ((jaj wr).trans he));clear he HR;have hcell:=HR1.o.own.cellAt k (by omega);rw[List.getElem?_eq_getElem (by rw[jf8 _ _ (by have:=HN.o;omega)];have:=HN.o;omega)]at hcell;have hfr:=HR1.o.own.frozenAt k;go_simp;refine hK _ _ ?_;clear hK K hcell hfr;have HR2:=HR1.o.set k (.int .u8 ((s[2 * k] <<< 4 ||| s[2 * k+1]).toNat:Int));rw[jf9 s k (by have:=HN.o;omega)]at HR2;have HR3:=Hd HR2;clear HR2 HR1;refine ja6 (by kernel_rfl) (fun w2 he=>?_);rw[jmT]at he;have HR4:=Hd (HR3.o.mono he);clear he HR3;go_wp2;go_roundw
   case rel=>exact⟨k+1,by omega,by go_num,HR4.o⟩
   case measure=>simp[intOf];omega
  ·have hcv:=ja9 wr Tryz.uBytes Tryz.uU8 Tryz.uStr (l:=jbL s.data.toList) (n:=n) (by have:=HR.o.own;rw[show k=s.size / 2 from by have:=HN.o;omega,jf7]at this;exact this)
   go_wp2;go_ret
   exact⟨rfl,HR.o.ext⟩
def jb4(a b:ByteArray):Bool:=Op.bytesLess a.toList b.toList
end
section
open Go Go.RowKit
theorem Tryz.uU32:Tryz.prog.underlying 206=some (.int .u32):=by kernel_rfl
theorem Tryz.iU32:(Tryz.prog.info? 206).map (·.size)=some 1:=by kernel_rfl
def addW(p q:UInt32):UInt32:=p+q
def xorW(p q:UInt32):UInt32:=p ^^^ q
def andW(p q:UInt32):UInt32:=p &&& q
def notW(p:UInt32):UInt32 := ~~~ p
def shrW(p:UInt32)(n:UInt32):UInt32:=p >>> n
def rotW(p:UInt32)(n:UInt32):UInt32:=(p <<< (32 - n)) |||(p >>> n)
def wv(p:UInt32):Value:=.int .u32 (p.toNat:Int)
theorem jbW(a:UInt32):BitVec.ofInt (IntKind.bits .u32) (a.toNat:Int)=a.toBitVec:=by
 show BitVec.ofInt 32 ((a.toNat:Nat):Int)=_;rw[BitVec.ofInt_natCast];simp
theorem jdX(a:UInt32):IntKind.u32.wrap (a.toNat:Int)=a.toNat:=by rw[IntKind.wrap_u32];have:=a.toNat_lt;omega
section
variable {P:Program} {w:World} {T:TypeId} {p q:UInt32}
theorem jgf:(binOp .add T (wv p) (wv q)).run P w=.ok (wv (addW p q)) w:=by
 have e:IntKind.u32.wrap ((p.toNat:Int)+(q.toNat:Int))=((addW p q).toNat:Int):=by
  rw[IntKind.wrap_u32,addW,UInt32.toNat_add];omega
 unfold wv;rw[←e];rfl
theorem jgh:(binOp .xor T (wv p) (wv q)).run P w=.ok (wv (xorW p q)) w:=by
 have e:bits .xor .u32 p.toNat q.toNat=((xorW p q).toNat:Int):=by
  unfold bits;rw[jbW,jbW];exact jdX (p ^^^ q)
 unfold wv;rw[←e];rfl
theorem jiq:(binOp .and T (wv p) (wv q)).run P w=.ok (wv (andW p q)) w:=by
 have e:bits .and .u32 p.toNat q.toNat=((andW p q).toNat:Int):=by
  unfold bits;rw[jbW,jbW];exact jdX (p &&& q)
 unfold wv;rw[←e];rfl
theorem jbT(n:Nat)(hn:n < 32)(k:IntKind):(binOp .shr T (wv p) (.int k n)).run P w=.ok (wv (shrW p (UInt32.ofNat n))) w:=by
 have e:((shrW p (UInt32.ofNat n)).toNat:Int)=(p.toNat:Int).fdiv (2 ^ n):=by
  unfold shrW;rw[UInt32.toNat_shiftRight,UInt32.toNat_ofNat',Nat.mod_eq_of_lt (show n < 2 ^ 32 by omega),Nat.mod_eq_of_lt hn,Nat.shiftRight_eq_div_pow];rw[Int.fdiv_eq_ediv_of_nonneg _ (by exact_mod_cast Nat.zero_le (2 ^ n))]
  simp
 unfold wv;rw[e];show (Op.shift .shr .u32 (p.toNat:Int) k (n:Int)).run P w=_;unfold Op.shift;rw[if_neg (by omega)];have h:min (n:Int).toNat (IntKind.bits .u32)=n:=by show min (n:Int).toNat 32=n;omega
 simp only[h];rfl
theorem jir:(Op.unary .xor (wv p)).run P w=.ok (wv (notW p)) w:=by
 have e:bits .xor .u32 (IntKind.max .u32) p.toNat=((notW p).toNat:Int):=by
  have e1:(IntKind.max .u32:Int)=((0xFFFFFFFF:UInt32).toNat:Int):=rfl;rw[e1];unfold bits;rw[jbW,jbW]
  have:(0xFFFFFFFF:UInt32) ^^^ p=notW p:=by
   unfold notW;apply UInt32.toBitVec_inj.1;show (BitVec.allOnes 32) ^^^ p.toBitVec = ~~~ p.toBitVec;rw[BitVec.allOnes_xor]
  have h2:=jdX ((0xFFFFFFFF:UInt32) ^^^ p);rw[this]at h2;rw[←h2, ←this];rfl
 unfold wv;rw[←e];rfl
end
section
variable {P:Program} {l:List Oper} {E:World→World→Prop} {Q:Act→World→Prop} {ord done hd:List Nat} {a:Act} {w:World} {k:Nat} {d:Option Tmp} {x y:Operand} {T T' ty:TypeId} {pos:String} {af:Array Edge} {g:Option (Nat × Bool)} {op:BinOp} {ops:Array Oper} {rest:List Oper} {QQ:Exit→Act→World→Prop}
theorem jli{vx vy v:Value}(hx:a.eval x=vx)(hy:a.eval y=vy)(hg:(eqGuard op T x y vx vy).run P w=.ok () w)(hr:(binOp op T vx vy).run P w=.ok v w):(execOp a.eval ⟨d,.binOp op T x y T',ty,pos,af,g⟩).run P w=.ok (.value v) w:=by
 simp only[execOp,hx,hy,Sem.run_bind,Sem.run_pure,Result.andThen,hg,hr]
end
theorem jgl{P:Program}{o:Oper}{a:Act}{w:World}{K:Act→World→Prop}{Q:Exit→Act→World→Prop}{t:TypeId}{x y:Operand}(b i:Nat)(v:Value)(ho:o.op=.store t x y)(hx:a.eval x=.pointer (some ⟨b,i,none⟩))(hy:a.eval y=v)(hv:v.oneCell'=true)
  (hi:(P.info? t).map (·.size)=some 1) {old:Value} (hc:w.cell? ⟨b,i,none⟩=some old) (hf:w.frozen? ⟨b,i,none⟩=false) (h:K (a.put o.dst undef) (w.setCell ⟨b,i,none⟩ v)):o.wp P a w K Q:=by
 obtain⟨inf,hi1,hi2⟩:=Option.map_eq_some_iff.1 hi
 have hs:(storeCells ⟨b,i,none⟩ [v]).run P w=.ok () (w.setCell ⟨b,i,none⟩ v):=by
  rw[jha,run_store P w _ v _ hv,hc,hf];rfl
 have hr:(Instr.storeAt t (.pointer (some ⟨b,i,none⟩)) v).run P w=.ok () (w.setCell ⟨b,i,none⟩ v):=by
  simp[Instr.storeAt,Instr.sureAddr,storeVar,Sem.run_bind,Result.andThen,jka hv,sizeOf,typeInfo,hi1,hi2,hs]
 unfold Oper.wp execOp;simp only[ho,hx,hy,Sem.run_bind,hr,Result.andThen,Sem.run_pure];exact h
theorem jdF(p q:UInt32):bits .or .u32 p.toNat q.toNat=((p ||| q).toNat:Int):=by
 unfold bits;rw[jbW,jbW];exact jdX (p ||| q)
theorem jdp(x:UInt32)(s n:Nat)(hs:s+n=32)(hn:0 < n)(hn2:n < 32):bits .or .u32 ((x.toNat:Int) * (2:Int) ^ s % (4294967296:Int)) ((x.toNat:Int) / (2:Int) ^ n)=((rotW x (UInt32.ofNat n)).toNat:Int):=by
 have e1:(x.toNat:Int) * (2:Int) ^ s % (4294967296:Int)=((x <<< (32 - UInt32.ofNat n)).toNat:Int):=by
  rw[UInt32.toNat_shiftLeft];have h1:(32 - UInt32.ofNat n).toNat=s:=by
   rw[UInt32.toNat_sub_of_le]
   ·rw[UInt32.toNat_ofNat'];show 32 - n % 2 ^ 32=s;omega
   ·rw[UInt32.le_iff_toNat_le,UInt32.toNat_ofNat'];show n % 2 ^ 32≤32;omega
  rw[h1,Nat.mod_eq_of_lt (show s < 32 by omega),Nat.shiftLeft_eq]
  simp
 have e2:(x.toNat:Int) / (2:Int) ^ n=((x >>> UInt32.ofNat n).toNat:Int):=by
  rw[UInt32.toNat_shiftRight];rw[UInt32.toNat_ofNat',Nat.mod_eq_of_lt (show n < 2 ^ 32 by omega),Nat.mod_eq_of_lt hn2,Nat.shiftRight_eq_div_pow]
  simp
 rw[e1,e2,jdF];rfl
theorem jol(w:World)(x:UInt32):Calls Tryz.prog 217 #[wv x,.int .i64 2] w fun e w'=>e=.returned (wv (rotW x 2))∧w=w':=by
 have e:bits BinOp.and .u64 (IntKind.u64.wrap (-2)) 31=30:=by decide +kernel
 have HR:=Hd (jdp x 30 2 (by decide) (by decide) (by decide));unfold wv;go_enter Tryz.func217,Tryz.ntmps217;go_wp2;go_ret;have h2:bits .or .u32 ((x.toNat:Int) * (1073741824:Int) % (4294967296:Int)) ((x.toNat:Int) / (4:Int))=((rotW x 2).toNat:Int):=HR.o
 exact⟨congrArg (fun z=>Ending.returned (Value.int .u32 z)) h2,rfl⟩
theorem jom(w:World)(x:UInt32):Calls Tryz.prog 217 #[wv x,.int .i64 6] w fun e w'=>e=.returned (wv (rotW x 6))∧w=w':=by
 have e:bits BinOp.and .u64 (IntKind.u64.wrap (-6)) 31=26:=by decide +kernel
 have HR:=Hd (jdp x 26 6 (by decide) (by decide) (by decide));unfold wv;go_enter Tryz.func217,Tryz.ntmps217;go_wp2;go_ret;have h2:bits .or .u32 ((x.toNat:Int) * (67108864:Int) % (4294967296:Int)) ((x.toNat:Int) / (64:Int))=((rotW x 6).toNat:Int):=HR.o
 exact⟨congrArg (fun z=>Ending.returned (Value.int .u32 z)) h2,rfl⟩
theorem jon(w:World)(x:UInt32):Calls Tryz.prog 217 #[wv x,.int .i64 7] w fun e w'=>e=.returned (wv (rotW x 7))∧w=w':=by
 have e:bits BinOp.and .u64 (IntKind.u64.wrap (-7)) 31=25:=by decide +kernel
 have HR:=Hd (jdp x 25 7 (by decide) (by decide) (by decide));unfold wv;go_enter Tryz.func217,Tryz.ntmps217;go_wp2;go_ret;have h2:bits .or .u32 ((x.toNat:Int) * (33554432:Int) % (4294967296:Int)) ((x.toNat:Int) / (128:Int))=((rotW x 7).toNat:Int):=HR.o
 exact⟨congrArg (fun z=>Ending.returned (Value.int .u32 z)) h2,rfl⟩
theorem jmZ(w:World)(x:UInt32):Calls Tryz.prog 217 #[wv x,.int .i64 11] w fun e w'=>e=.returned (wv (rotW x 11))∧w=w':=by
 have e:bits BinOp.and .u64 (IntKind.u64.wrap (-11)) 31=21:=by decide +kernel
 have HR:=Hd (jdp x 21 11 (by decide) (by decide) (by decide));unfold wv;go_enter Tryz.func217,Tryz.ntmps217;go_wp2;go_ret;have h2:bits .or .u32 ((x.toNat:Int) * (2097152:Int) % (4294967296:Int)) ((x.toNat:Int) / (2048:Int))=((rotW x 11).toNat:Int):=HR.o
 exact⟨congrArg (fun z=>Ending.returned (Value.int .u32 z)) h2,rfl⟩
theorem jm0(w:World)(x:UInt32):Calls Tryz.prog 217 #[wv x,.int .i64 13] w fun e w'=>e=.returned (wv (rotW x 13))∧w=w':=by
 have e:bits BinOp.and .u64 (IntKind.u64.wrap (-13)) 31=19:=by decide +kernel
 have HR:=Hd (jdp x 19 13 (by decide) (by decide) (by decide));unfold wv;go_enter Tryz.func217,Tryz.ntmps217;go_wp2;go_ret;have h2:bits .or .u32 ((x.toNat:Int) * (524288:Int) % (4294967296:Int)) ((x.toNat:Int) / (8192:Int))=((rotW x 13).toNat:Int):=HR.o
 exact⟨congrArg (fun z=>Ending.returned (Value.int .u32 z)) h2,rfl⟩
theorem jm1(w:World)(x:UInt32):Calls Tryz.prog 217 #[wv x,.int .i64 17] w fun e w'=>e=.returned (wv (rotW x 17))∧w=w':=by
 have e:bits BinOp.and .u64 (IntKind.u64.wrap (-17)) 31=15:=by decide +kernel
 have HR:=Hd (jdp x 15 17 (by decide) (by decide) (by decide));unfold wv;go_enter Tryz.func217,Tryz.ntmps217;go_wp2;go_ret;have h2:bits .or .u32 ((x.toNat:Int) * (32768:Int) % (4294967296:Int)) ((x.toNat:Int) / (131072:Int))=((rotW x 17).toNat:Int):=HR.o
 exact⟨congrArg (fun z=>Ending.returned (Value.int .u32 z)) h2,rfl⟩
theorem jm2(w:World)(x:UInt32):Calls Tryz.prog 217 #[wv x,.int .i64 18] w fun e w'=>e=.returned (wv (rotW x 18))∧w=w':=by
 have e:bits BinOp.and .u64 (IntKind.u64.wrap (-18)) 31=14:=by decide +kernel
 have HR:=Hd (jdp x 14 18 (by decide) (by decide) (by decide));unfold wv;go_enter Tryz.func217,Tryz.ntmps217;go_wp2;go_ret;have h2:bits .or .u32 ((x.toNat:Int) * (16384:Int) % (4294967296:Int)) ((x.toNat:Int) / (262144:Int))=((rotW x 18).toNat:Int):=HR.o
 exact⟨congrArg (fun z=>Ending.returned (Value.int .u32 z)) h2,rfl⟩
theorem jm3(w:World)(x:UInt32):Calls Tryz.prog 217 #[wv x,.int .i64 19] w fun e w'=>e=.returned (wv (rotW x 19))∧w=w':=by
 have e:bits BinOp.and .u64 (IntKind.u64.wrap (-19)) 31=13:=by decide +kernel
 have HR:=Hd (jdp x 13 19 (by decide) (by decide) (by decide));unfold wv;go_enter Tryz.func217,Tryz.ntmps217;go_wp2;go_ret;have h2:bits .or .u32 ((x.toNat:Int) * (8192:Int) % (4294967296:Int)) ((x.toNat:Int) / (524288:Int))=((rotW x 19).toNat:Int):=HR.o
 exact⟨congrArg (fun z=>Ending.returned (Value.int .u32 z)) h2,rfl⟩
theorem jm4(w:World)(x:UInt32):Calls Tryz.prog 217 #[wv x,.int .i64 22] w fun e w'=>e=.returned (wv (rotW x 22))∧w=w':=by
 have e:bits BinOp.and .u64 (IntKind.u64.wrap (-22)) 31=10:=by decide +kernel
 have HR:=Hd (jdp x 10 22 (by decide) (by decide) (by decide));unfold wv;go_enter Tryz.func217,Tryz.ntmps217;go_wp2;go_ret;have h2:bits .or .u32 ((x.toNat:Int) * (1024:Int) % (4294967296:Int)) ((x.toNat:Int) / (4194304:Int))=((rotW x 22).toNat:Int):=HR.o
 exact⟨congrArg (fun z=>Ending.returned (Value.int .u32 z)) h2,rfl⟩
theorem jm5(w:World)(x:UInt32):Calls Tryz.prog 217 #[wv x,.int .i64 25] w fun e w'=>e=.returned (wv (rotW x 25))∧w=w':=by
 have e:bits BinOp.and .u64 (IntKind.u64.wrap (-25)) 31=7:=by decide +kernel
 have HR:=Hd (jdp x 7 25 (by decide) (by decide) (by decide));unfold wv;go_enter Tryz.func217,Tryz.ntmps217;go_wp2;go_ret;have h2:bits .or .u32 ((x.toNat:Int) * (128:Int) % (4294967296:Int)) ((x.toNat:Int) / (33554432:Int))=((rotW x 25).toNat:Int):=HR.o
 exact⟨congrArg (fun z=>Ending.returned (Value.int .u32 z)) h2,rfl⟩
end
section
open Go Go.RowKit
attribute [local go_sem] Oper.semAt_some
theorem jbS(x:UInt32)(s n:Nat)(hs:s+n=32)(hn:0 < n)(hn2:n < 32):bits .or .u32 ((x.toNat:Int) / (2:Int) ^ n) ((x.toNat:Int) * (2:Int) ^ s % (4294967296:Int))=((rotW x (UInt32.ofNat n)).toNat:Int):=by
 have e1:(x.toNat:Int) * (2:Int) ^ s % (4294967296:Int)=((x <<< (32 - UInt32.ofNat n)).toNat:Int):=by
  rw[UInt32.toNat_shiftLeft];have h1:(32 - UInt32.ofNat n).toNat=s:=by
   rw[UInt32.toNat_sub_of_le]
   ·rw[UInt32.toNat_ofNat'];show 32 - n % 2 ^ 32=s;omega
   ·rw[UInt32.le_iff_toNat_le,UInt32.toNat_ofNat'];show n % 2 ^ 32≤32;omega
  rw[h1,Nat.mod_eq_of_lt (show s < 32 by omega),Nat.shiftLeft_eq]
  simp
 have e2:(x.toNat:Int) / (2:Int) ^ n=((x >>> UInt32.ofNat n).toNat:Int):=by
  rw[UInt32.toNat_shiftRight];rw[UInt32.toNat_ofNat',Nat.mod_eq_of_lt (show n < 2 ^ 32 by omega),Nat.mod_eq_of_lt hn2,Nat.shiftRight_eq_div_pow]
  simp
 rw[e1,e2,jdF,UInt32.or_comm];rfl
theorem jo0(w:World)(x:UInt32):Calls Tryz.prog 185 #[wv x,.int .u64 2] w fun e w'=>e=.returned (wv (rotW x 2))∧w=w':=by
 have HR:=Hd (jbS x 30 2 (by decide) (by decide) (by decide));unfold wv;go_enter Tryz.func185,Tryz.ntmps185;go_wp2;go_ret;have h2:bits .or .u32 ((x.toNat:Int) / (4:Int)) ((x.toNat:Int) * (1073741824:Int) % (4294967296:Int))=((rotW x 2).toNat:Int):=HR.o
 exact⟨congrArg (fun z=>Ending.returned (Value.int .u32 z)) h2,rfl⟩
theorem jo1(w:World)(x:UInt32):Calls Tryz.prog 185 #[wv x,.int .u64 6] w fun e w'=>e=.returned (wv (rotW x 6))∧w=w':=by
 have HR:=Hd (jbS x 26 6 (by decide) (by decide) (by decide));unfold wv;go_enter Tryz.func185,Tryz.ntmps185;go_wp2;go_ret;have h2:bits .or .u32 ((x.toNat:Int) / (64:Int)) ((x.toNat:Int) * (67108864:Int) % (4294967296:Int))=((rotW x 6).toNat:Int):=HR.o
 exact⟨congrArg (fun z=>Ending.returned (Value.int .u32 z)) h2,rfl⟩
theorem jo2(w:World)(x:UInt32):Calls Tryz.prog 185 #[wv x,.int .u64 7] w fun e w'=>e=.returned (wv (rotW x 7))∧w=w':=by
 have HR:=Hd (jbS x 25 7 (by decide) (by decide) (by decide));unfold wv;go_enter Tryz.func185,Tryz.ntmps185;go_wp2;go_ret;have h2:bits .or .u32 ((x.toNat:Int) / (128:Int)) ((x.toNat:Int) * (33554432:Int) % (4294967296:Int))=((rotW x 7).toNat:Int):=HR.o
 exact⟨congrArg (fun z=>Ending.returned (Value.int .u32 z)) h2,rfl⟩
theorem jod(w:World)(x:UInt32):Calls Tryz.prog 185 #[wv x,.int .u64 11] w fun e w'=>e=.returned (wv (rotW x 11))∧w=w':=by
 have HR:=Hd (jbS x 21 11 (by decide) (by decide) (by decide));unfold wv;go_enter Tryz.func185,Tryz.ntmps185;go_wp2;go_ret;have h2:bits .or .u32 ((x.toNat:Int) / (2048:Int)) ((x.toNat:Int) * (2097152:Int) % (4294967296:Int))=((rotW x 11).toNat:Int):=HR.o
 exact⟨congrArg (fun z=>Ending.returned (Value.int .u32 z)) h2,rfl⟩
theorem joe(w:World)(x:UInt32):Calls Tryz.prog 185 #[wv x,.int .u64 13] w fun e w'=>e=.returned (wv (rotW x 13))∧w=w':=by
 have HR:=Hd (jbS x 19 13 (by decide) (by decide) (by decide));unfold wv;go_enter Tryz.func185,Tryz.ntmps185;go_wp2;go_ret;have h2:bits .or .u32 ((x.toNat:Int) / (8192:Int)) ((x.toNat:Int) * (524288:Int) % (4294967296:Int))=((rotW x 13).toNat:Int):=HR.o
 exact⟨congrArg (fun z=>Ending.returned (Value.int .u32 z)) h2,rfl⟩
theorem jof(w:World)(x:UInt32):Calls Tryz.prog 185 #[wv x,.int .u64 17] w fun e w'=>e=.returned (wv (rotW x 17))∧w=w':=by
 have HR:=Hd (jbS x 15 17 (by decide) (by decide) (by decide));unfold wv;go_enter Tryz.func185,Tryz.ntmps185;go_wp2;go_ret;have h2:bits .or .u32 ((x.toNat:Int) / (131072:Int)) ((x.toNat:Int) * (32768:Int) % (4294967296:Int))=((rotW x 17).toNat:Int):=HR.o
 exact⟨congrArg (fun z=>Ending.returned (Value.int .u32 z)) h2,rfl⟩
theorem jog(w:World)(x:UInt32):Calls Tryz.prog 185 #[wv x,.int .u64 18] w fun e w'=>e=.returned (wv (rotW x 18))∧w=w':=by
 have HR:=Hd (jbS x 14 18 (by decide) (by decide) (by decide));unfold wv;go_enter Tryz.func185,Tryz.ntmps185;go_wp2;go_ret;have h2:bits .or .u32 ((x.toNat:Int) / (262144:Int)) ((x.toNat:Int) * (16384:Int) % (4294967296:Int))=((rotW x 18).toNat:Int):=HR.o
 exact⟨congrArg (fun z=>Ending.returned (Value.int .u32 z)) h2,rfl⟩
theorem joh(w:World)(x:UInt32):Calls Tryz.prog 185 #[wv x,.int .u64 19] w fun e w'=>e=.returned (wv (rotW x 19))∧w=w':=by
 have HR:=Hd (jbS x 13 19 (by decide) (by decide) (by decide));unfold wv;go_enter Tryz.func185,Tryz.ntmps185;go_wp2;go_ret;have h2:bits .or .u32 ((x.toNat:Int) / (524288:Int)) ((x.toNat:Int) * (8192:Int) % (4294967296:Int))=((rotW x 19).toNat:Int):=HR.o
 exact⟨congrArg (fun z=>Ending.returned (Value.int .u32 z)) h2,rfl⟩
theorem joi(w:World)(x:UInt32):Calls Tryz.prog 185 #[wv x,.int .u64 22] w fun e w'=>e=.returned (wv (rotW x 22))∧w=w':=by
 have HR:=Hd (jbS x 10 22 (by decide) (by decide) (by decide));unfold wv;go_enter Tryz.func185,Tryz.ntmps185;go_wp2;go_ret;have h2:bits .or .u32 ((x.toNat:Int) / (4194304:Int)) ((x.toNat:Int) * (1024:Int) % (4294967296:Int))=((rotW x 22).toNat:Int):=HR.o
 exact⟨congrArg (fun z=>Ending.returned (Value.int .u32 z)) h2,rfl⟩
theorem joj(w:World)(x:UInt32):Calls Tryz.prog 185 #[wv x,.int .u64 25] w fun e w'=>e=.returned (wv (rotW x 25))∧w=w':=by
 have HR:=Hd (jbS x 7 25 (by decide) (by decide) (by decide));unfold wv;go_enter Tryz.func185,Tryz.ntmps185;go_wp2;go_ret;have h2:bits .or .u32 ((x.toNat:Int) / (33554432:Int)) ((x.toNat:Int) * (128:Int) % (4294967296:Int))=((rotW x 25).toNat:Int):=HR.o
 exact⟨congrArg (fun z=>Ending.returned (Value.int .u32 z)) h2,rfl⟩
end
end Go.Proofs.YtcpnjmcipainpaaGreatDoor
