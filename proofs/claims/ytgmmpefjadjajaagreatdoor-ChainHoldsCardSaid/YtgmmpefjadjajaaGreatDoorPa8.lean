/- Lemmas. -/
import Derived.Test.YtgmmpefjadjajaaGreatDoorPa0
import Derived.Test.YtgmmpefjadjajaaGreatDoorPa7
import Derived.Lib.LazyBuf
namespace Go.Proofs.YtgmmpefjadjajaaGreatDoor
open Go.Proofs.Tryz
set_option linter.unusedSimpArgs false
set_option linter.unusedVariables false
set_option maxRecDepth 100000
set_option maxHeartbeats 16000000
open Go Go.RowKit
variable (l xs:vN)(z:Nat)(ws:List UInt32)(B:vN)(w:vW)(bh:Nat)(s:vB)(sz:UInt64){b n:Nat}{P:Program}{v:vV}{W w':vW}
theorem e_(w:vW)(dT sT ty elem:TypeId)(b o dLen dCap:Nat)(t:vB)(m:Nat)(hm:m=Nat.min t.size dLen)
  (hu:P.underlying dT=some (.slice elem)) (hz:∀ w,(Go.sizeOf elem).run P w=.ok 1 w)
  (hc:∀ j,j<m->(w.cell? ⟨b,o+j,none⟩).isSome=true) (hf:∀ j,j<m->w.frozen? ⟨b,o+j,none⟩=false) :
  (Builtin.copy_ #[dT,sT] ty #[.slice (some ⟨b,o,none⟩) dLen dCap,t]).run P w=.ok (goInt m) (w.setCells b o (El (t.data.toList.take m))):=by
 have q:(El (t.data.toList.take m)).length=m:=by have:=Lib.size_eq t;have A:Nat.min t.size dLen=min t.size dLen:=rfl;simp[El];rw[A]at hm;omega
 have e:=run_storeCells_cells (P:=P) b o (El (t.data.toList.take m)) 0 w (by rw[q];simpa using hc) (by rw[q];simpa using hf) (by intro v H;obtain⟨x,_,rfl⟩:=bC.1 H;rfl)
 simp[Builtin.copy_,run_underlying hu,Builtin.lenOf,Builtin.firstCells,hz, <-hm];unfold El at e;rw[jO]at e;rw[e];simp[El,jO]
structure Ll where
 V:W8
 B:vN
 n:Nat
def Ll.Ok(s:Ll):Prop:=s.B.length=64/\s.n<64
def Ze(s:Ll)(x:vU):Ll:=if s.n+1=64 then ⟨Zl s.V (s.B.set s.n x),s.B.set s.n x,0⟩else ⟨s.V,s.B.set s.n x,s.n+1⟩
def Pe(s:Ll)(l:vN):Ll:=l.foldl Ze s
theorem Ll.Ok.push{s:Ll}(h:s.Ok)(x:vU):(Ze s x).Ok:=by
 obtain⟨e,q⟩:=h
 unfold Ze Ll.Ok;split<;>simp[e]<;>omega
theorem Ll.Ok.all{s:Ll}(h:s.Ok)(l:vN):(Pe s l).Ok:=by
 unfold Pe;induction l generalizing s with
 |nil=>exact h
 |cons x r ih=>exact ih (h.push x)
theorem ZE(s:Ll)(l r:vN):Pe s (l++r)=Pe (Pe s l) r:=fE
def Je(B:vN)(n:Nat)(xs:vN):vN:=B.take n++xs++B.drop (n+xs.length)
theorem E5{B:vN}{xs:vN}(h:n+xs.length<=B.length):(Je B n xs).length=B.length:=by simp[Je];omega
theorem UE{B:vN}(x:vU)(xs:vN)(h:n+1+xs.length<=B.length):Je (B.set n x) (n+1) xs=Je B n (x::xs):=by
 unfold Je;have e:(B.set n x).take (n+1)=B.take n++[x]:=by rw[List.set_eq_take_append_cons_drop,if_pos vO,List.take_append,cG zd];simp[Nat.min_eq_left (show n<=B.length by omega)]
 have q:(B.set n x).drop (n+1+xs.length)=B.drop (n+(x::xs).length):=by rw[List.drop_set_of_lt vO];congr 1;simp;omega
 rw[e,q];simp
theorem jmt:∀ (s:Ll),s.Ok->s.n+xs.length<64->Pe s xs=⟨s.V,Je s.B s.n xs,s.n+xs.length⟩:=by
 induction xs with
 |nil=>intro s h _;simp[Pe,Je]
 |cons x r ih =>(intro s h q;simp only[bQ]at q;have e:Ze s x=⟨s.V,s.B.set s.n x,s.n+1⟩:=by unfold Ze;rw[if_neg vO]);show Pe (Ze s x) r=_;rw[ih _ (h.push x) (by rw[e];simp only;omega),e];simp only[bQ];rw[UE x r (by rw[h.1];omega),show s.n+1+r.length=s.n+(r.length+1) by omega]
theorem jms:∀ (s:Ll),s.Ok->s.n+xs.length=64->Pe s xs=⟨Zl s.V (Je s.B s.n xs),Je s.B s.n xs,0⟩:=by
 induction xs with
 |nil=>intro s h q;exact absurd h.2 (by simp at q;omega)
 |cons x r ih =>intro s h q;simp only[bQ]at q;show Pe (Ze s x) r=_;by_cases hr:r.length=0;{have A:r=[]:=bF hr;(subst A;have e:Ze s x=⟨Zl s.V (s.B.set s.n x),s.B.set s.n x,0⟩:=by unfold Ze;rw[if_pos (by simp at q;omega)]);rw[e];have:=UE (B:=s.B) (n:=s.n) x [] (by rw[h.1];simp at q ⊢;omega);rw[<-this];simp[Pe,Je]};(have e:Ze s x=⟨s.V,s.B.set s.n x,s.n+1⟩:=by unfold Ze;rw[if_neg vO]);rw[ih _ (h.push x) (by rw[e];simp only;omega),e];simp only;rw[UE x r (by rw[h.1];omega)]
def Li(w:vW)(b:Nat)(s:Ll)(sz:Int):Prop:=Ae w b (.cells (Jz s.V.words s.B (s.n:Int) sz).toArray 264)
theorem Zu(v:W8):v.words.length=8:=rfl
theorem Li.held{w:vW}{s:Ll}{sz:Int}(h:Li w b s sz)(hs:s.B.length=64):w.cell? ⟨b,72,none⟩=some (.int .i64 (s.n:Int)):=h.z1 (by
 unfold Jz;rw[cN (by simp[Zu,El,hs])];simp[Zu,El,hs])
theorem Li.siz{w:vW}{s:Ll}{sz:Int}(h:Li w b s sz)(hs:s.B.length=64):w.cell? ⟨b,73,none⟩=some (.int .u64 sz):=h.z1 (by
 unfold Jz;rw[cN (by simp[Zu,El,hs])];simp[Zu,El,hs])
theorem Li.setHeld{w:vW}{s:Ll}{sz:Int}(h:Li w b s sz)(hs:s.B.length=64)(n:Nat):Li (w.setCell ⟨b,72,none⟩ (n:Int)) b ⟨s.V,s.B,n⟩ sz:=by
 have:=h.z2 (i:=72) (n:Int)
 unfold Li;unfold Jz at this ⊢;rw[gA,dV _ _ (by simp[Zu,El,hs])]at this;simpa [Zu,El,hs]using this
theorem Li.setSiz{w:vW}{s:Ll}{sz:Int}(h:Li w b s sz)(hs:s.B.length=64)(z:Int):Li (w.setCell ⟨b,73,none⟩ (.int .u64 z)) b s z:=by
 have:=h.z2 (i:=73) (.int .u64 z)
 unfold Li;unfold Jz at this ⊢;rw[gA,dV _ _ (by simp[Zu,El,hs])]at this;simpa [Zu,El,hs]using this
theorem Li.lay{w:vW}{s:Ll}{sz:Int}(h:Li w b s sz)(hs:s.B.length=64)(xs:vN)(hx:s.n+xs.length<=64):Li (w.setCells b (8+s.n) (El xs)) b ⟨s.V,Je s.B s.n xs,s.n⟩ sz:=by
 have:=Ae.setCells (El xs) (8+s.n) w _ h (by simp[Jz,Zu,El,hs];omega)
 unfold Li;have e:(Jz s.V.words s.B (s.n:Int) sz).take (8+s.n)++El xs++(Jz s.V.words s.B (s.n:Int) sz).drop (8+s.n+(El xs).length)=Jz s.V.words (Je s.B s.n xs) (s.n:Int) sz:=by(unfold Jz Je;have q:(s.V.words.map wv).length=8:=rfl;have A:(El s.B).length=64:=by simp[El,hs]);(have H:(El xs).length=xs.length:=by simp[El]);rw[bZ (s.V.words.map wv),List.take_append,List.drop_append,q,H];rw[cG (by rw[q];omega),fZ (l:=s.V.words.map wv) (by rw[q];omega)];rw[show 8+s.n-8=s.n by omega,show 8+s.n+xs.length-8=s.n+xs.length by omega];rw[List.take_append_of_le_length (by rw[A];omega),List.drop_append_of_le_length (by rw[A];omega)];simp[El,jO,List.map_drop]
 rw[e]at this;exact this
theorem s6{a:Act}{w:vW}{p:Addr}{d:Option Tmp}{t ty:TypeId}{x:Operand}{pos:String}{af:Array Edge}{g:Option (Nat × Bool)}(h:(Instr.loadAt t p).run P w=.ok v w)(hx:a.eval x=.pointer (some p)):(execOp a.eval ⟨d,.load t x,ty,pos,af,g⟩).run P w=.ok (.value v) w:=by
 simp only[execOp,hx,bS,h,Result.andThen,cT]
def zL(v:vV):Nat:=match v with | .string t=>t.size|_=>0
def yP(w:vW)(bh:Nat)(s:Ll)(sz:Int)(t:vB)(v:vV)(wr:vW):Prop:=∃ j:Nat,j<=t.size/\v=.string (t.extract j t.size)/\Li wr bh (Pe s (t.data.toList.take j)) sz/\Ad (λx=>x=bh) w wr
theorem E3(n:Nat):IntKind.u64.wrap ((sz.toNat:Int)+IntKind.u64.wrap (n:Int))=((sz+UInt64.ofNat n).toNat:Int):=by
 rw[UInt64.toNat_add,UInt64.toNat_ofNat'];show ((sz.toNat:Int)+(n:Int) % (18446744073709551616:Int)) % (18446744073709551616:Int)=_;simp only[Int.natCast_emod,Int.natCast_add];rfl
theorem Un:prog.underlying 83=some (.slice 5):=vY
theorem Wu:(Go.sizeOf 5).run prog w=.ok 1 w:=vY
theorem Fl:prog.underlying 3=some (.int .i64):=vY
theorem sD(s:Ll)(hs:s.Ok)(sz:UInt64)(t:vB)(hB:Li w bh s (sz.toNat:Int))(hc:Ha w)(hbh:bh≠1):vQ 97 #[bh,t] w λe w'=>e=.returned bh/\Li w' bh (Pe s t.data.toList) ((sz+UInt64.ofNat t.size).toNat:Int)/\Ad (λx=>x=bh) w w':=by
 have e6:=hB.siz hs.1;have e7:w.frozen? ⟨bh,73,none⟩=false:=hB.frozen;have HB:=J hB;have HC:=J hc;have HS:=J hs;clear hB hc hs;unfold vQ;go_in;go_wp2_with fail
 have hz:=E3 sz t.size
 obtain⟨SZ,b8⟩:∃ z,z=IntKind.u64.wrap ((sz.toNat:Int)+IntKind.u64.wrap (t.size:Int)):=⟨_,rfl⟩
 rw[<-b8]at hz ⊢;have b2:=HB.o.setSiz HS.o.1 SZ;have a1:=(Ad.refl (λx=>x=bh) w).setCell (p:=⟨bh,73,none⟩) (.inl rfl) (.int .u64 SZ)
 obtain⟨w1,b9⟩:=vE (w.setCell ⟨bh,73,none⟩ (.int .u64 SZ))
 rw[<-b9]at b2 a1 ⊢;have e8:=J b2;have c0:=J a1;have HZ:=J hz;have c2:=J (HC.o.Z a1 (Ne.symm hbh));clear b2 a1 b9 hz b8 e6 e7 HB HC
 obtain⟨wt,c3⟩:∃ x,x=IntKind.u64.wrap (t.size:Int):=⟨_,rfl⟩
 rw[<-c3];clear c3;go_loopw [1] (λv wr=>yP w1 bh s SZ t v wr) (λv _=>zL v)
 case atStart=>exact⟨0,by omega,by rw[show t.extract 0 t.size=t by simp],e8.o,Ad.refl _ _⟩
 case round =>obtain⟨j,hj,rfl,hG,hK⟩:=hrel;have HK:=J hK;have e9:=J (c2.o.Z hK (Ne.symm hbh));obtain⟨st,a2⟩:=vE (Pe s (t.data.toList.take j));(have c4:st.Ok:=by rw[a2];exact HS.o.all _);rw[<-a2]at hG;have HG:=J hG;have a3:=J a2;obtain⟨r,hr⟩:=vE (t.extract j t.size);(have H:r.size=t.size-j:=by rw[hr];simp[dI]);have HR:=J hr;rw[<-hr];clear hG a2 hK hr;by_cases hlt:j<t.size;{have f4:=Sf (s:=r) vO;obtain⟨Vs,Bs,n⟩:=st;obtain⟨a4,hn⟩:=c4;simp only at a4 hn;obtain⟨m,hm⟩:=vE (Nat.min r.size (64-n));have c5:m=min r.size (64-n):=hm;have f5:0<m:=vO;have f6:m<=r.size:=vO;have f7:n+m<=64:=vO;have a5:Hid (Ll.Ok ⟨Vs,Bs,n⟩):=J ⟨a4,hn⟩;have c1:(n:Int)<=64:=vO;(have c7:=J H;have HM:=J hm;have f0:=J c5;have b3:=J a4;clear H hm c5 a4;go_wp2_with fail);refine Lc [0,1,2,3,4,5,8,6,7,9,10] [6,9] Af Aa Ap vY vY vY ?_;refine vP ?_;(refine qA _ bh rfl zf (vS ?_);iterate 2 refine vP ?_);(refine qA _ bh rfl zf (vS ?_);iterate 2 refine vP ?_);refine qH _ rfl (λw2 he K hK=>?_);have X2:=(Ao wr).trans he;refine Ro (w':=w2) (s6 (Bv Fl rfl (Am (HG.o.held a5.o.1) X2)) vY) (hK _ _ ?_);clear hK K he;refine vS ?_;refine vP ?_;refine qH _ rfl (λw3 he K hK=>?_);have X3:=X2.trans he;obtain⟨xs,a7⟩:∃ x,x=r.data.toList.take m:=⟨_,rfl⟩;(have c8:xs.length=m:=by rw[a7];have:=Lib.size_eq r;simp;omega);(have G1:=HG.o.Z X3 kI;have K1:=HK.o.O X3 kZ;have c9:(Jz Vs.words Bs (n:Int) SZ).length=74:=by simp[Jz,Zu,El,b3.o]);have a8:=e_ (P:=prog) w3 83 9 3 5 bh (8+n) (64-n) (64-n) r m HM.o Un Wu (by intro j hj;rw[Ae.z1 G1 (i:=8+n+j) (bB (by rw[c9];omega))];rfl) (by intro j hj;exact Ae.frozen G1);rw[<-a7]at a8;have G2:=Li.lay G1 a5.o.1 xs (by simp only;omega);have K2:=K1.trans (Ad.z9 bh (El xs) (8+n) w3);simp only at G2;obtain⟨w4,d0⟩:∃ x,x=w3.setCells bh (8+n) (El xs):=⟨_,rfl⟩;rw[<-d0]at a8 G2 K2;have d1:=J G2;have d2:=J K2;have d3:=J a7;have a9:=J c8;clear G1 K1 G2 K2 d0 he X2 X3 HG HK c9 a7 c8 e9;refine Ro (w':=w4) (kG a8 vY) (hK _ _ ?_);clear a8 hK K w3 w2;refine vS ?_;refine vP ?_;(refine qE (λw5 he=>?_);have O:Hid (Li w5 bh ⟨Vs,Je Bs n xs,n⟩ SZ):=J (d1.o.Z he kI);have b4:=J (d2.o.O he kZ);clear he d1 d2;have q:Hid (Ll.Ok ⟨Vs,Je Bs n xs,n⟩):=J ⟨by simp only;rw[E5 (by rw[a9.o,b3.o];omega),b3.o],hn⟩;have b0:=O.o.held q.o.1;have d4:w5.frozen? ⟨bh,72,none⟩=false:=Ae.frozen O.o;simp only at b0;have d5:r.data.toList=t.data.toList.drop j:=by rw[HR.o,fA,fV];have:=Lib.size_eq t;simp only[fB];rw[cG (by simp)]);(have X:Pe s (t.data.toList.take (j+m))=Pe ⟨Vs,Bs,n⟩ xs:=by rw[List.take_add,ZE, <-a3.o,d3.o,d5]);(have Z:r.extract m r.size=t.extract (j+m) t.size:=by have H:=c7.o;rw[HR.o]at H ⊢;rw[H,ByteArray.extract_extract];congr 1<;>omega);(have d6:(r.extract m r.size).size=r.size-m:=by simp[dI]);have d7:=J X;have d8:=J Z;have d9:=J d6;clear d5 X Z d6 HR a3 d3 HM f0;have e0:j+m<=t.size:=kL c7.o;by_cases hfull:n+m=64;{(have hq:((n:Int)+(m:Int) == 64)=true:=by simp;omega);(have A:=jms xs ⟨Vs,Bs,n⟩ a5.o (by simp only;rw[a9.o];exact hfull);simp only at A;have b5:=J A;have e1:=O.o.setHeld q.o.1 (n+m);have e2:=b4.o.setCell (p:=⟨bh,72,none⟩) (.inl rfl) ((n+m:Nat):Int);have b6:=J e1;have b1:=J e2;clear A e1 e2 O b4;go_wp2_with fail);rw[<-Int.natCast_add];obtain⟨w6,e3⟩:∃ x,x=w5.setCell ⟨bh,72,none⟩ ((n+m:Nat):Int):=⟨_,rfl⟩;(rw[<-e3]at b6 b1 ⊢;clear e3 b0 d4;refine (zT w6 bh Vs (Je Bs n xs) _ _ q.o.1 b6.o (c2.o.Z b1.o (Ne.symm hbh)) hbh).mono ?_;rintro e w7 ⟨rfl,e4,e5⟩;have b7:Hid (Li w7 bh ⟨Zl Vs (Je Bs n xs),Je Bs n xs,n+m⟩ SZ):=J e4;have f1:=J (b1.o.trans e5);clear e4 e5 b6 b1;have b0:=b7.o.held q.o.1;have d4:w7.frozen? ⟨bh,72,none⟩=false:=Ae.frozen b7.o;simp only at b0;go_wp2_with fail);refine⟨⟨j+m,e0,by rw[d8.o],?_,f1.o.setCell (.inl rfl) _⟩,?_⟩;{rw[d7.o,b5.o];exact b7.o.setHeld q.o.1 0};show (r.extract m r.size).size<r.size;rw[d9.o];omega};(have hq:((n:Int)+(m:Int) == 64)=false:=by simp;omega);(have A:=jmt xs ⟨Vs,Bs,n⟩ a5.o (by simp only;rw[a9.o];omega);simp only[a9.o]at A;have b5:=J A;clear A;go_wp2_with fail);refine⟨⟨j+m,e0,by rw[d8.o],?_,b4.o.setCell (.inl rfl) _⟩,?_⟩;{rw[d7.o,b5.o];exact O.o.setHeld q.o.1 (n+m)};show (r.extract m r.size).size<r.size;rw[d9.o];omega};(have f2:r=⟨#[]⟩:=by have:r.size=0:=vO;obtain⟨⟨l⟩⟩:=r;cases l with| nil=>rfl| cons x y=>exact absurd this (iM _));have f3:j=t.size:=vO;(subst f2;have a0:st=Pe s t.data.toList:=by rw[a3.o,f3];have:=Lib.size_eq t;rw[cG vO]);(rw[a0]at HG;have HF:=J (c0.o.trans HK.o);clear c0 HK HR a3 a0 H c4;go_wp2);go_ret;exact⟨rfl,by rw[<-HZ.o];exact HG.o,HF.o⟩
def QB(n:Nat):Nat:=(119-n) % 64
def IC(sz:UInt64)(i:Nat):vU:=UInt8.ofNat (sz.toNat*8 % 18446744073709551616 / 2 ^ (56-8*i))
def lenL(sz:UInt64):vN:=(List.range 8).map (IC sz)
def IW(z:Nat)(sz:UInt64):vN:=128 ::(List.replicate z 0++lenL sz)
def Zj(z:Nat)(sz:UInt64)(k:Nat):vN:=128 ::(List.replicate z 0++((lenL sz).take k++List.replicate (8-k) 0))
theorem UT:(lenL sz).length=8:=by simp[lenL]
theorem D2(k:Nat)(hk:k<=8):(Zj z sz k).length=1+z+8:=by simp[Zj,UT];omega
theorem D1:Zj z sz 8=IW z sz:=by
 unfold Zj IW;rw[cG (by rw[UT];omega)];simp
theorem D3(k:Nat)(hk:k<8):(Zj z sz k).set (1+z+k) (IC sz k)=Zj z sz (k+1):=by
 have e:=UT sz;have q:k<(lenL sz).length:=vO
 have A:(lenL sz)[k]=IC sz k:=by simp[lenL]
 unfold Zj;rw[show 1+z+k=(z+k)+1 by omega,dG,dV _ _ (by simp)];simp only[iK];rw[show z+k-z=k by omega,dV _ _ (by simp[e];omega)];rw[show 8-k=(8-(k+1))+1 by omega,fC,cP q,A];simp[e,Nat.min_eq_left (show k<=8 by omega)]
theorem wI(k:Nat):IntKind.u64.wrap ((sz.toNat:Int)*8) / 2 ^ (56-8*k) % 256=((IC sz k).toNat:Int):=by
 unfold IC;rw[iT];have h:∀ (a M p:Nat),((a:Int)*8 % (M:Int)) / ((p:Nat):Int) % 256=((a*8 % M / p % 256:Nat):Int):=by intro a M p;simp only[Int.natCast_emod,Int.natCast_ediv,Int.natCast_mul];rfl
 have e:=h sz.toNat 18446744073709551616 (2 ^ (56-8*k));rw[Int.natCast_pow]at e;exact e
theorem aM(k:Nat)(x:vU):(El l).set k (.int .u8 (x.toNat:Int))=El (l.set k x):=by unfold El;rw[gV]
theorem Tb:(match prog.underlying 264 with|some (.struct _)=>true|_=>false)=true:=vY
theorem Um:∃ fs,prog.underlying 264=some (.struct fs):=by
 have h:=Tb;cases hu:prog.underlying 264 with
 |none=>rw[hu]at h;cases h
 |some d=>rw[hu]at h;cases d<;>first|exact⟨_,rfl⟩|cases h
theorem Od:(prog.info? 264).map (·.size)=some 74:=vY
theorem Rg:(Instr.alloc 264 true (.tuple #[])).run prog w=.ok w (w.alloc (.cells (Jz (List.replicate 8 0) (List.replicate 64 0) 0 0).toArray 264)):=vY
theorem F_(n sz:Int):(Jz ws B n sz).length=ws.length+B.length+2:=by simp[Jz];omega
theorem z_(n sz:Int):∀ v∈Jz ws B n sz,v.oneCell'=true:=by
 intro v e;unfold Jz at e;rcases bR.1 e with e|e
 ·rcases bR.1 e with e|e;{exact XU v e};exact aL _ v e
 ·simp only[bU,gU,or_false]at e;rcases e with rfl|rfl<;>rfl
def IU(x:UInt32):vU:=UInt8.ofNat x.toNat
def PZ(x:UInt32):vN:=[IU (Mu x 24),IU (Mu x 16),IU (Mu x 8),IU x]
def Ts(ws:List UInt32):vN:=ws.flatMap PZ
theorem Oh(x:UInt32)(w:vW):(convert 260 5 (wv x)).run prog w=.ok (.int .u8 ((IU x).toNat:Int)) w:=by
 have h:∀ n:Int,(convert 260 5 (.int .u32 n)).run prog w=.ok (.int .u8 (IntKind.u8.wrap n)) w:=λn=>by kernel_rfl
 unfold wv IU;rw[h,i0,OP]
theorem Sq(V:W8)(k:Nat)(hk:k<8)(x:UInt32)(hx:V.words[k]?=some x)(w:vW):(Instr.index 261 (.agg (V.words.map wv).toArray) (k:Int)).run prog w=.ok (wv x) w:=by
 obtain⟨a,b,c,d,e,f,g,h⟩:=V
 rcases (show k=0\/k=1\/k=2\/k=3\/k=4\/k=5\/k=6\/k=7 by omega)with rfl|rfl|rfl|rfl|rfl|rfl|rfl|rfl <;>(cases hx;kernel_rfl)
def jzX(w:vW)(V:W8)(v i:vV)(wr:vW):Prop:=∃ k:Nat,k<=8/\i=.int .i64 k/\Ar 5 1 w wr v (4*k) (El (Ts (V.words.take k)))
def Xi(s:Ll)(sz:UInt64):vB:=⟨(Ts (Pe s (IW (QB s.n) sz)).V.words).toArray⟩
def yM(w:vW)(g z L:Nat)(sz:UInt64)(i:vV)(wr:vW):Prop:=∃ k:Nat,k<=8/\i=.int .i64 k/\Ar 5 1 w wr (.slice (some g) L L) L (El (Zj z sz k))
theorem b_(s:Ll)(hs:s.Ok)(sz:UInt64)(hB:Li w bh s (sz.toNat:Int))(hc:Ha w):vR 98 #[bh] w (Xi s sz):=by
 obtain⟨i0,hi,c3,c5,c7⟩:=info_parts He
 obtain⟨fs,e6⟩:=Um
 have c8:w.rangeAt bh 0 (Jz s.V.words s.B (s.n:Int) (sz.toNat:Int)):=λj v hv=>by rw[bX];exact hB.z1 hv
 have c9:(Jz s.V.words s.B (s.n:Int) (sz.toNat:Int)).length=74:=by rw[F_,hs.1];rfl
 have HB:=J hB;have HC:=J hc;have HS:=J hs;have d0:=J c8;have b0:=J c9;clear hB hc hs c8 c9;unfold vR vQ;go_in;go_wp2_with (first|(refine wpList_load_mid rfl 264 (.tmp 11) rfl bh 0 rfl _ _ d0.o e6 rfl (by rw[b0.o];exact Od) ?_)|(refine Di (cs:=Jz (List.replicate 8 0) (List.replicate 64 0) 0 0) Rg rfl rfl ?_))
 intro W2 B2 E2;refine Bt (old:=Jz (List.replicate 8 0) (List.replicate 64 0) 0 0) (vs:=Jz s.V.words s.B (s.n:Int) (sz.toNat:Int)) rfl rfl rfl rfl B2 (by rw[b0.o];rfl) (by rw[b0.o];exact Od) (z_ _ _ _ _) ?_;intro W3 B3 K3
 obtain⟨g3,b1⟩:∃ g,g=(w:Nat):=⟨_,rfl⟩
 have X3:=J (E2.O K3 (λx hx e=>by omega):Ad (λ_=>False) w W3);rw[<-b1]at B3 ⊢;have e7:g3<(W3:Nat):=B3.lt;have g4:1<g3:=by rw[b1];exact HC.o.lt
 have d1:Hid (Li W3 g3 s (sz.toNat:Int)):=J B3;have d2:=Li.held (HB.o.Z X3.o kI) HS.o.1;have d3:=J (Li.siz (HB.o.Z X3.o kI) HS.o.1);clear B2 E2 B3 K3 d0 b0 HB
 obtain⟨n,hn⟩:=vE s.n
 have f7:n<64:=by rw[hn];exact HS.o.2
 rw[<-hn]at d2
 obtain⟨z,hz⟩:=vE (QB n)
 have e8:(119-(n:Int)).tmod 64=(z:Int):=by rw[hz];unfold QB;rw[Int.tmod_eq_emod_of_nonneg vO];omega
 have f8:z<64:=by rw[hz];unfold QB;omega
 have HZ:=J hz;have HN:=J hn;clear hz hn
 obtain⟨L,hL⟩:=vE (1+z+8)
 have e9:1+(z:Int)+8=(L:Int):=vO
 have f0:(0:Int)<(L:Int):=vO
 have HL:=J hL;have f1:=J b1;have g5:L<=72:=vO
 clear b1 hL;have d4:=SJ (P:=prog) W3 Bh hi c3 c5 rfl .i64 .i64 L (by rw[c7];omega) zi;have K:=Ar.lit (T:=5) (sz:=1) (List.replicate L (.int .u8 0)).toArray (n:=L) (Aa W3) zi (by simp)
 obtain⟨g,hg⟩:=vE W3.heap.size
 obtain⟨W4,d5⟩:∃ W,W=W3.alloc (.cells (List.replicate L (Value.int .u8 0)).toArray 5):=⟨_,rfl⟩
 rw[<-hg, <-d5]at d4 K;clear hg d5 e7;have A:=K.own.cellAt 0 vO;have b7:=K.own.frozenAt 0;have d6:=J K;clear K;simp only at A;rw[bB zd]at A;go_wp2_with fail
 have H:=d6.o.set 0 (.int .u8 128);have e0:((List.replicate L (Value.int .u8 0)).toArray.toList).set 0 (.int .u8 128)=El (Zj z sz 0):=by(have e1:Zj z sz 0=(List.replicate L (0:vU)).set 0 128:=by rw[HL.o,show 1+z+8=(z+8)+1 by omega,fC,dM];unfold Zj;simp only[iG,cL,Nat.sub_zero,List.replicate_append_replicate]);rw[e1, <-aM];congr 1;simp[El]
 rw[e0]at H
 obtain⟨W5,d7⟩:∃ W,W=W4.setCell ⟨g,0,none⟩ (.int .u8 128):=⟨_,rfl⟩
 rw[<-d7]at H ⊢;have d8:=J H;clear H e0 A b7 d6 d4 e8 e9 f0 d2 d7;go_loopw [25] (λi wr=>yM W3 g z L sz i wr) (λi _=>8-(intOf i).toNat)
 case atStart=>exact⟨0,by omega,rfl,d8.o⟩
 case round =>obtain⟨k,hk,rfl,hR⟩:=hrel;have O:=J hR;clear hR;by_cases hlt:k<8;{have f9:=Am d3.o O.o.ext;have a9:=O.o.own.cellAt (1+z+k) (kL HL.o);have g6:=O.o.own.frozenAt (1+z+k);rw[bB (by rw[bytesV_len,D2 z sz k vO];omega)]at a9;have c0:(0:Int)<=1+(z:Int)+(k:Int):=vO;have c1:1+(z:Int)+(k:Int)<(L:Int):=kL HL.o;have c2:(1+(z:Int)+(k:Int)).toNat=1+z+k:=vO;have c4:(56-8*(k:Int)).toNat=56-8*k:=vO;(go_wp2_with fail);rw[wI];have a1:=O.o.set (1+z+k) (.int .u8 ((IC sz k).toNat:Int));rw[aM,D3 z sz k hlt]at a1;exact⟨⟨k+1,by omega,by go_num,a1⟩,by simp[intOf];omega⟩};have b3:k=8:=vO;(subst b3;have q:=O.o.own;rw[D1]at q;have b4:=CO wr Bh Ck Ag q;have b5:=J O.o.ext;clear q d8 O d3;go_wp2_with fail);rw[show ((8:Nat):Int)=(8:Int)from rfl];refine (sD wr g3 s HS.o sz ⟨(IW z sz).toArray⟩ (d1.o.Z b5.o kI) (HC.o.ext (X3.o.trans b5.o)) vO).mono ?_;rintro e w6 ⟨rfl,d9,e2⟩;obtain⟨S6,b2⟩:∃ x,x=Pe s (IW z sz):=⟨_,rfl⟩;(have a3:Li w6 g3 S6 ((sz+UInt64.ofNat (⟨(IW z sz).toArray⟩:vB).size).toNat:Int):=by rw[b2];exact d9);(have b8:S6.Ok:=by rw[b2];exact HS.o.all _);have f2:Hid (Af w w6):=J ((X3.o.trans b5.o).O e2 λx hx e=>kL f1.o);have f3:=J b2;obtain⟨w7,a4,X,a5⟩:=run_make_own (P:=prog) (w:=w6) w6 83 5 i0 _ 1 Bh hi c3 c5 .i64 .i64 32 (by rw[c7];omega) zi (bO _);(have b9:(Instr.makeSlice 83 qa (.int .i64 32)).run prog w6=.ok (.slice (some w6) 0 32) w7:=by rw[<-a4];rfl);(have e3:Hid (Ar 5 1 w6 w7 (.slice (some w6) 0 32) 0 []):=J (Ar.made w6 X a5);have e4:Li w7 g3 S6 _:=a3.Z e3.o.ext kI;have a7:w7.rangeAt g3 0 (S6.V.words.map wv):=λj v hv=>by rw[bX];exact e4.z1 (by unfold Jz;rw[bZ,cJ (bI.1 hv).1];exact hv));have Z:=J a7;obtain⟨V6,b6⟩:∃ v,v=S6.V:=⟨_,rfl⟩;(rw[<-b6]at Z;have f4:=J b6;clear d9 a3 b8 b2 a4 X a5 e4 a7 e2 b6 b4;go_wp2_with (refine wpList_load_mid rfl 261 (.tmp 49) rfl g3 0 rfl _ _ Z.o Oj rfl Kr ?_));(clear b9 Z HC d1;have g0:∀ (p:UInt32) (w:vW),(binOp .shr 260 (wv p) (.int .u64 24)).run prog w=.ok (wv (Mu p 24)) w:=λ_ _=>KZ 24 vI .u64;have g2:∀ (p:UInt32) (w:vW),(binOp .shr 260 (wv p) (.int .u64 16)).run prog w=.ok (wv (Mu p 16)) w:=λ_ _=>KZ 16 vI .u64;have g7:∀ (p:UInt32) (w:vW),(binOp .shr 260 (wv p) (.int .u64 8)).run prog w=.ok (wv (Mu p 8)) w:=λ_ _=>KZ 8 vI .u64;have g8:=Oh;go_loopw [7,51] (λv i wr=>jzX w6 V6 v i wr) (λ_ i _=>8-(intOf i).toNat));(case atStart=>exact⟨0,by omega,rfl,e3.o⟩);case round =>obtain⟨k,hk,rfl,hR⟩:=hrel;obtain⟨a,c,rfl⟩:=hR.sl;have O:=J hR;clear hR;by_cases hlt:k<8;{obtain⟨x,hx⟩:∃ x,V6.words[k]?=some x:=⟨_,bB (by simp[W8.words];omega)⟩;(have g9:=λw=>Sq V6 k hlt x hx w;have a0:Ts (V6.words.take (k+1))=Ts (V6.words.take k)++PZ x:=by unfold Ts;rw[cB,hx];simp);(have f5:=J a0;clear hx a0;go_wp2_with (at_builtin;refine Qm Mx (O.o.mono ((Aa wr).alloc _)) (.tmp 54) (.tmp 66) rfl rfl rfl (Jx (Ae.new wr _)) (news:=El (PZ x)) (aL _) rfl rfl ?c1 ?c2 λv' w' r1 r2 r3=>?_));(case c1=>unfold maxLen;omega);(case c2=>omega);rw[<-MM, <-f5.o,show 4*k+4=4*(k+1) by omega]at r1;have e5:=J r1;clear r1 r2 r3;obtain⟨a2,c2,rfl⟩:=e5.o.sl;(go_wp2_with fail);exact⟨⟨k+1,by omega,by go_num,e5.o⟩,by simp[intOf];omega⟩};have b3:k=8:=vO;(subst b3;have q:=O.o.own;rw[cG (by simp[W8.words])]at q;have b4:=CO wr Bh Ck Ag q;have a8:(⟨(Ts V6.words).toArray⟩:vB)=Xi s sz:=by unfold Xi;rw[f4.o,f3.o,HZ.o,HN.o]);(rw[a8]at b4;have f6:=J (f2.o.trans O.o.ext);clear q a8;go_wp2);go_ret;exact⟨rfl,f6.o⟩
def FH:Ll:=⟨⟨0x6a09e667,0xbb67ae85,0x3c6ef372,0xa54ff53a,0x510e527f,0x9b05688c,0x1f83d9ab,0x5be0cd19⟩,List.replicate 64 0,0⟩
theorem H2:FH.Ok:=⟨rfl,by decide⟩
def MF(l:vN):vB:=Xi (Pe FH l) (UInt64.ofNat l.length)
def Aj(s:vB):vB:=MF s.data.toList
theorem zU:vQ 96 #[] w λe w'=>e=.returned w/\Li w' w FH 0/\Af w w':=by
 unfold vQ;go_in;go_wp2
 go_ret
 refine⟨rfl,?_,(Aa w).alloc _⟩
 exact (congrArg (λc=>Ae (w.alloc (.cells c 264)) w (.cells (Jz FH.V.words FH.B (FH.n:Int) 0).toArray 264)) vY).mp (Ae.new w _)
def yE(w:vW)(g:Nat)(I:Ll)(xs:vM)(i:vV)(wr:vW):Prop:=∃ k:Nat,k<=xs.length/\i=.int .i64 k/\Li wr g (Pe I (Aw (xs.take k)).data.toList) ((UInt64.ofNat (Aw (xs.take k)).data.toList.length).toNat:Int)/\Ad (λx=>x=g) w wr
theorem Ie.slice{w:vW}{xs:vM}(h:Ie w v xs):∃ a c,v=.slice a xs.length c/\∀ (j:Nat) x,xs[j]?=some x->∃ b o,a=some ⟨b,o,none⟩/\w.cell? ⟨b,o+j,none⟩=some (.string x):=by
 rcases h with⟨a,c,rfl,rfl⟩|⟨b,o,c,rfl,h2,h3,h4⟩
 ·exact⟨a,c,rfl,λj x e=>by simp at e⟩
 ·exact⟨some ⟨b,o,none⟩,c,rfl,λj x e=>⟨b,o,rfl,h4 j x e⟩⟩
theorem l6(xs:vM)(k:Nat)(x:vB)(hx:xs[k]?=some x):(Aw (xs.take (k+1))).data.toList=(Aw (xs.take k)).data.toList++x.data.toList:=by
 unfold Aw;rw[cB,hx];simp
theorem Tr(v:vV)(xs:vM)(hlen:xs.length<=1000000)(hr:Ie w v xs)(hc:Ha w):vR 48 #[v] w (Aj (Aw xs)):=by
 obtain⟨a,c,rfl,X⟩:=hr.slice
 have a9:=J X;have HC:=J hc;clear X hc hr
 obtain⟨I,hI⟩:=vE FH
 have Z:I.Ok:=by rw[hI];exact H2
 have a1:=J Z;have HI:=J hI;clear hI Z;unfold vR vQ;go_in;go_wp2_with fail
 refine (zU w).mono ?_;rintro e w1 ⟨rfl,A,a2⟩
 obtain⟨g,hg⟩:=vE w.heap.size
 rw[<-hg]at A ⊢;rw[<-HI.o]at A;have b0:=J A;have H:=J a2;have a3:1≠g:=kL HC.o.lt
 have HG:=J hg;clear A a2 hg;go_wp2
 go_loopw [9] (λi wr=>yE w1 g I xs i wr) (λi _=>xs.length-(intOf i).toNat)
 case atStart=>exact⟨0,by omega,rfl,by simpa [Aw,Pe]using b0.o,Ad.refl _ _⟩
 case round =>obtain⟨k,hk,rfl,O,hK⟩:=hrel;have HH:=J O;have HK:=J hK;clear O hK;by_cases hlt:k<xs.length;{obtain⟨x,hx⟩:∃ x,xs[k]?=some x:=⟨_,bB hlt⟩;obtain⟨b,o,rfl,q⟩:=a9.o k x hx;(have b1:b≠g:=by have:b<(w:Nat):=dX w _ q;have:=HG.o;omega);(have b2:wr.cell? ⟨b,o+k,none⟩=some (.string x):=by have h1:=Am q H.o;have a0:b<(w1:Nat):=dX w1 _ h1;have e:=HK.o.block b a0 b1;unfold World.cell? at *;rw[e];exact h1);(have a4:=l6 xs k x hx;have K:=J a4;clear a4 q hx;go_wp2_with fail);(refine (sD wr g _ (a1.o.all _) _ x HH.o ((HC.o.ext H.o).Z HK.o a3) (Ne.symm a3)).mono ?_;rintro e w2 ⟨rfl,a5,a7⟩;have b3:=J a5;have b4:=J (HK.o.trans a7);clear a5 a7 b2;go_wp2_with fail);refine⟨⟨k+1,by omega,by go_num,?_,b4.o⟩,by simp[intOf];omega⟩;have h:=b3.o;rw[<-ZE, <-K.o]at h;rw[K.o,bK,UInt64.ofNat_add];rw[K.o,Lib.size_eq]at h;exact h};have b5:k=xs.length:=vO;(subst b5;have O:=HH.o;rw[cF]at O;have b6:=J O;clear O HH;have a8:Hid (Af w wr):=J (H.o.O HK.o λx hx e=>kL HG.o);go_wp2_with fail);(refine vH (b_ wr g _ (a1.o.all _) _ b6.o (HC.o.ext a8.o)) λw2 b7=>?_;have b8:=J (a8.o.trans b7);go_wp2);go_ret;refine⟨?_,b8.o⟩;rw[HI.o];unfold Aj MF;rfl
theorem TC{a b:vB}(h:a.toList=b.toList):a=b:=by
 rw[cA,cA]at h
 obtain⟨⟨l⟩⟩:=a;obtain⟨⟨m⟩⟩:=b
 simp at h;rw[h]
theorem CX(a:vB):Aw [a]=a:=by
 obtain⟨⟨l⟩⟩:=a;simp[Aw]
theorem S8{x:vB}{T:TypeId}(h:Af (W.alloc (.cells #[x] T)) w'):Ie w' (.slice (some W) 1 1) [x]:=by
 have e:Ae w' W (.cells #[x] T):=(Ae.new W _).Z h kI;exact .inr ⟨↑W,0,1,rfl,e.lt,bO _,λj y q=>by rcases j with _|j;{cases q;exact e.cell vF};simp at q⟩
theorem N8:(Ts ws).length=4*ws.length:=by
 unfold Ts;induction ws with
 |nil=>rfl
 |cons x r ih=>rw[dJ,bK,ih];simp[PZ];omega
theorem v0(s:Ll)(sz:UInt64):(Xi s sz).size=32:=by
 rw[Lib.size_eq];unfold Xi;rw[iQ,N8];rfl
theorem Rp:(Aj s).size=32:=v0 _ _
def Ax(s:vB):vB:=if s.size<32 then s else Av (Aj s)
theorem YB(hc:Ha w):vR 165 #[s] w (Ax s):=by
 have X:=J hc;clear hc
 by_cases hlt:s.size<32
 ·have Z:(s.size:Int)<32:=vO;(unfold vR vQ;go_in;go_wp2);go_ret;exact⟨by unfold Ax;rw[if_pos hlt];rfl,Aa w⟩
 ·have Z:¬(s.size:Int)<32:=vO;(unfold vR vQ;go_in;go_wp2_with fail);refine vH (Tr _ _ [s] (by simp) (S8 (Aa _)) (X.o.ext ((Aa w).alloc _))) λw1 A=>?_;rw[CX];have H:Hid (Af w w1):=J (((Aa w).alloc _).trans A);obtain⟨h,q⟩:=vE (Aj s);(have e:h.size<=1000000000:=by rw[q,Rp];omega);(rw[<-q];have HH:=J q;clear q;go_wp2_with fail);(refine vH (Rt w1 h e) λw2 K=>?_;have O:=J (H.o.trans K);clear e;go_wp2);go_ret;exact⟨by unfold Ax;rw[if_neg hlt, <-HH.o];rfl,O.o⟩
def Zd(s:vB)(r:Bool × Nat × Nat):Option vB:=if r.1=false/\r.2.1+r.2.2=s.size then some (s.extract r.2.1 (r.2.1+r.2.2))else none
def Cw:Option vB->vV
 |some x=>.tuple #[x,true]
 |none=>.tuple #[(),false]
theorem W5{s:vB}{r:Bool × Nat × Nat}(h:Dx s=some r):r.2.1+r.2.2<=s.size:=by
 unfold Dx at h
 by_cases h0:0<s.size
 ·rw[dif_pos h0]at h;simp only at h;by_cases h1:s[0].toNat<128;{rw[if_pos h1]at h;obtain rfl:=bV h;simp only;omega};rw[if_neg h1]at h;(obtain⟨e,q⟩:∃ e:Bool × Nat,e=if s[0].toNat<192 then (false,s[0].toNat-128)else (true,s[0].toNat-192):=⟨_,rfl⟩);rw[<-q]at h;obtain⟨l,m⟩:=e;simp only at h;by_cases h3:m<=55;{rw[if_pos h3]at h;split at h;{rename_i hc;obtain rfl:=bV h;exact hc.1};cases h};rw[if_neg h3]at h;split at h;{split at h;{rename_i hc;obtain rfl:=bV h;exact hc};cases h};cases h
 ·rw[dif_neg h0]at h;cases h
theorem LA(r:Bool × Nat × Nat)(hs:s.size<=1000000000)(h:Dx s=some r):vR 167 #[s] w (Cw (Zd s r)):=by
 have q:=W5 h;unfold vR vQ;go_in;go_wp2_with fail
 refine vH (GY w s r hs h) λw1 A=>?_
 obtain⟨x,H⟩:=vE (s.extract r.2.1 (r.2.1+r.2.2))
 obtain⟨y,K⟩:∃ x,x=s.extract (r.2.1+r.2.2) s.size:=⟨_,rfl⟩
 have e:y.size=s.size-(r.2.1+r.2.2):=by rw[K];simp[dI]
 rw[<-H, <-K]
 obtain⟨l,p⟩:=r
 simp only at e q;have X:=J H;clear h H K hs;simp only;cases l with
 |true =>(go_wp2_with fail);exact bodyPost_ret (v:=Cw none) vY rfl ⟨by unfold Zd;rw[if_neg (by simp)],A.o⟩
 |false =>by_cases he:p.1+p.2=s.size;{(have O:y=⟨#[]⟩:=by have:y.size=0:=vO;obtain⟨⟨l⟩⟩:=y;cases l with| nil=>rfl| cons x y=>exact absurd this (iM _));(subst O;clear e;go_wp2_with fail);exact bodyPost_ret (v:=Cw (some x)) vY rfl ⟨by unfold Zd;rw[if_pos ⟨rfl,he⟩,X.o],A.o⟩};have Z:=Sf (s:=y) vO;(clear e;go_wp2_with fail);exact bodyPost_ret (v:=Cw none) vY rfl ⟨by unfold Zd;rw[if_neg (by simp[he])],A.o⟩
def Vx(s:vB)(r:Bool × Nat × Nat):Option vB:=(Zd s r).filter (λx=>x.size=32)
theorem Xc(r:Bool × Nat × Nat)(hs:s.size<=1000000000)(h:Dx s=some r):vR 137 #[s] w (Cw (Vx s r)):=by
 unfold vR vQ;go_in;go_wp2_with fail
 refine vC (LA w s r hs h) λw1 H=>?_;have e:=J H;have hb:Vx s r=(Zd s r).filter (λx=>x.size=32):=rfl
 obtain⟨o,K⟩:=vE (Zd s r)
 rw[<-K]at hb ⊢;have q:=J hb;cases o with
 |none =>(unfold Cw;simp only;go_wp2_with fail);exact bodyPost_ret (v:=Cw none) vY rfl ⟨by rw[q.o];rfl,e.o⟩
 |some x =>unfold Cw;simp only;by_cases hx:x.size=32;{(have O:((x.size:Int) == 32)=true:=by simp;omega);have A:(x.size:Int)=32:=vO;(go_wp2_with fail);exact bodyPost_ret (v:=Cw (some x)) vY rfl ⟨by rw[q.o];simp[Option.filter,hx],e.o⟩};(have O:((x.size:Int) == 32)=false:=by simp;omega);have A:¬(x.size:Int)=32:=vO;(go_wp2_with fail);exact bodyPost_ret (v:=Cw none) vY rfl ⟨by rw[q.o];simp[Option.filter,hx],e.o⟩
