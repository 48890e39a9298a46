/- Lemmas; each is under no condition but those that it states. -/
import Derived.Test.YtdofbjccfkaijaaGreatDoorPn23
namespace Go.Proofs.YtdofbjccfkaijaaGreatDoor
set_option linter.unusedSimpArgs false
set_option linter.unusedVariables false
set_option maxRecDepth 100000
set_option maxHeartbeats 16000000
open Go Go.RowKit
def jkg(w:vW)(e:Ending)(w':vW):Prop:=∃ v,e=.returned (.tuple #[.bool false,.string ⟨#[]⟩,.string ⟨#[]⟩,v])/\Ext w w'/\Fa1 w w' v
theorem Tryz.errNeNil(b:Nat):∀ w,(binOp .neq 76 (.iface 263 (.pointer (some ⟨b,0,none⟩))) .nilIface).run Tryz.prog w=.ok (.bool true) w:=fun w=>by kernel_rfl
theorem jr4(w:vW):vQ 167 #[.string ⟨#[]⟩] w (jkg w):=by
 unfold vQ;go_in;go_wp2_with fail
 refine (jbQ w 0).mono ?_;rintro e w1 ⟨v,rfl,z,H⟩
 obtain⟨b,k,rfl,A⟩:=H
 have E:=Hd (bB z A);clear z A;go_wp2_with fail
 refine bodyPost_ret (v:=.tuple #[.bool false,.string ⟨#[]⟩,.string ⟨#[]⟩,.iface 263 (.pointer (some ⟨b,0,none⟩))]) (by simp[results,Tryz.results167,go_sem]) rfl ?_
 exact⟨_,rfl,E.o.1,b,k,rfl,E.o.2⟩
theorem jjm(w:vW)(s:vB)(n:Nat)(hs:s.size<=1000000000)(h0:0 < s.size)(hc2:(s[0].toNat:Int)=128+n)(hn:n<=55)(hle:s.size < 1+n):vQ 167 #[.string s] w (jkg w):=by
 have O:(0:Int) < (s.size:Int):=vO
 have Q:¬(s[0].toNat:Int) < 128:=vO
 have X:(s[0].toNat:Int) < 192:=vO
 have Z:¬(55:Int) < (n:Int):=vO
 have c5:(s.size:Int) - 1 < (n:Int):=vO
 have H:=jbe h0;have e1:(s[0].toNat:Int) - 128=(n:Int):=vO
 clear hc2;unfold vQ;go_in;go_wp2_with fail
 refine (jbQ w s.size).mono ?_;rintro e w1 ⟨v,rfl,z,J⟩
 obtain⟨b,K,rfl,A⟩:=J
 have E:=Hd (bB z A);clear z A;go_wp2_with fail
 refine bodyPost_ret (v:=.tuple #[.bool false,.string ⟨#[]⟩,.string ⟨#[]⟩,.iface 263 (.pointer (some ⟨b,0,none⟩))]) (by simp[results,Tryz.results167,go_sem]) rfl ?_
 exact⟨_,rfl,E.o.1,b,K,rfl,E.o.2⟩
theorem jir(w:vW)(s:vB)(k:Nat)(hs:s.size<=1000000000)(h0:0 < s.size)(hc2:(s[0].toNat:Int)=128+55+k)(hk:1<=k)(hk8:k<=8)(hL:lenB s (1+k)=none):vQ 167 #[.string s] w (jkg w):=by
 have E:=Hd hL;clear hL
 obtain⟨f,H⟩:=vE (1+k)
 obtain⟨m,Q⟩:=vE (55+k)
 have c0:(0:Int) < (s.size:Int):=vO
 have c2:¬(s[0].toNat:Int) < 128:=vO
 have c3:(s[0].toNat:Int) < 192:=vO
 have c4:¬(m:Int)<=55:=vO
 have X:(55:Int) < (m:Int):=vO
 have Z:=jbe h0;have e1:(s[0].toNat:Int) - 128=(m:Int):=vO
 have e2:1+(m:Int) - 55=(f:Int):=vO
 have z:2<=f:=vO
 have A:f<=1000:=vO
 have a0:(m:Int)<=63:=vO
 have a1:(0:Int)<=(m:Int):=vO
 have a2:=Tryz.errNeNil;rw[<-H]at E;clear hc2 H Q;unfold vQ;go_in;go_wp2_with fail
 refine (jmg w s f hs z A E.o).mono ?_;rintro e w1 ⟨v,rfl,J,hF⟩
 obtain⟨b,kk,rfl,K⟩:=hF
 have O:=Hd (bB J K);clear J K;go_wp2_with fail
 refine bodyPost_ret (v:=.tuple #[.bool false,.string ⟨#[]⟩,.string ⟨#[]⟩,.iface 263 (.pointer (some ⟨b,0,none⟩))]) (by simp[results,Tryz.results167,go_sem]) rfl ?_
 exact⟨_,rfl,O.o.1,b,kk,rfl,O.o.2⟩
theorem jgC(w:vW)(s:vB)(k n:Nat)(hs:s.size<=1000000000)(h0:0 < s.size)(hc2:(s[0].toNat:Int)=128+55+k)(hk:1<=k)(hk8:k<=8)(hL:lenB s (1+k)=some n)(hle:s.size < 1+k+n):vQ 167 #[.string s] w (jkg w):=by
 obtain⟨O,_,_,Q,X⟩:=jdi hL
 have A:=Hd hL;clear hL
 obtain⟨f,E⟩:=vE (1+k)
 obtain⟨m,Z⟩:=vE (55+k)
 have c0:(0:Int) < (s.size:Int):=vO
 have c2:¬(s[0].toNat:Int) < 128:=vO
 have c3:(s[0].toNat:Int) < 192:=vO
 have c4:¬(m:Int)<=55:=vO
 have a0:(55:Int) < (m:Int):=vO
 have c5:(s.size:Int) - (f:Int) < (n:Int):=vO
 have a1:=jbe h0;have e1:(s[0].toNat:Int) - 128=(m:Int):=vO
 have e2:1+(m:Int) - 55=(f:Int):=vO
 have z:2<=f:=vO
 have a2:(m:Int)<=63:=vO
 have a3:(0:Int)<=(m:Int):=vO
 have a4:(f:Int)<=(s.size:Int):=vO
 rw[<-E]at A;clear hc2 E Z hle;unfold vQ;go_in;go_wp2_with fail
 refine (jh6 w s f n hs z A.o).mono ?_;rintro e w1 ⟨rfl,rfl⟩;go_wp2_with fail
 refine (jbQ w s.size).mono ?_;rintro e w1 ⟨v,rfl,H,hF⟩
 obtain⟨b,kk,rfl,J⟩:=hF
 have K:=Hd (bB H J);clear H J;go_wp2_with fail
 refine bodyPost_ret (v:=.tuple #[.bool false,.string ⟨#[]⟩,.string ⟨#[]⟩,.iface 263 (.pointer (some ⟨b,0,none⟩))]) (by simp[results,Tryz.results167,go_sem]) rfl ?_
 exact⟨_,rfl,K.o.1,b,kk,rfl,K.o.2⟩
theorem jjl(w:vW)(s:vB)(n:Nat)(hs:s.size<=1000000000)(h0:0 < s.size)(hc2:(s[0].toNat:Int)=192+n)(hn:n<=55)(hle:s.size < 1+n):vQ 167 #[.string s] w (jkg w):=by
 have O:(0:Int) < (s.size:Int):=vO
 have Q:¬(s[0].toNat:Int) < 128:=vO
 have X:¬(s[0].toNat:Int) < 192:=vO
 have Z:¬(55:Int) < (n:Int):=vO
 have c5:(s.size:Int) - 1 < (n:Int):=vO
 have H:=jbe h0;have e1:(s[0].toNat:Int) - 192=(n:Int):=vO
 clear hc2;unfold vQ;go_in;go_wp2_with fail
 refine (jbQ w s.size).mono ?_;rintro e w1 ⟨v,rfl,z,J⟩
 obtain⟨b,K,rfl,A⟩:=J
 have E:=Hd (bB z A);clear z A;go_wp2_with fail
 refine bodyPost_ret (v:=.tuple #[.bool false,.string ⟨#[]⟩,.string ⟨#[]⟩,.iface 263 (.pointer (some ⟨b,0,none⟩))]) (by simp[results,Tryz.results167,go_sem]) rfl ?_
 exact⟨_,rfl,E.o.1,b,K,rfl,E.o.2⟩
theorem jip(w:vW)(s:vB)(k:Nat)(hs:s.size<=1000000000)(h0:0 < s.size)(hc2:(s[0].toNat:Int)=192+55+k)(hk:1<=k)(hk8:k<=8)(hL:lenB s (1+k)=none):vQ 167 #[.string s] w (jkg w):=by
 have E:=Hd hL;clear hL
 obtain⟨f,H⟩:=vE (1+k)
 obtain⟨m,Q⟩:=vE (55+k)
 have c0:(0:Int) < (s.size:Int):=vO
 have c2:¬(s[0].toNat:Int) < 128:=vO
 have c3:¬(s[0].toNat:Int) < 192:=vO
 have c4:¬(m:Int)<=55:=vO
 have X:(55:Int) < (m:Int):=vO
 have Z:=jbe h0;have e1:(s[0].toNat:Int) - 192=(m:Int):=vO
 have e2:1+(m:Int) - 55=(f:Int):=vO
 have z:2<=f:=vO
 have A:f<=1000:=vO
 have a0:(m:Int)<=63:=vO
 have a1:(0:Int)<=(m:Int):=vO
 have a2:=Tryz.errNeNil;rw[<-H]at E;clear hc2 H Q;unfold vQ;go_in;go_wp2_with fail
 refine (jmg w s f hs z A E.o).mono ?_;rintro e w1 ⟨v,rfl,J,hF⟩
 obtain⟨b,kk,rfl,K⟩:=hF
 have O:=Hd (bB J K);clear J K;go_wp2_with fail
 refine bodyPost_ret (v:=.tuple #[.bool false,.string ⟨#[]⟩,.string ⟨#[]⟩,.iface 263 (.pointer (some ⟨b,0,none⟩))]) (by simp[results,Tryz.results167,go_sem]) rfl ?_
 exact⟨_,rfl,O.o.1,b,kk,rfl,O.o.2⟩
theorem jgB(w:vW)(s:vB)(k n:Nat)(hs:s.size<=1000000000)(h0:0 < s.size)(hc2:(s[0].toNat:Int)=192+55+k)(hk:1<=k)(hk8:k<=8)(hL:lenB s (1+k)=some n)(hle:s.size < 1+k+n):vQ 167 #[.string s] w (jkg w):=by
 obtain⟨O,_,_,Q,X⟩:=jdi hL
 have A:=Hd hL;clear hL
 obtain⟨f,E⟩:=vE (1+k)
 obtain⟨m,Z⟩:=vE (55+k)
 have c0:(0:Int) < (s.size:Int):=vO
 have c2:¬(s[0].toNat:Int) < 128:=vO
 have c3:¬(s[0].toNat:Int) < 192:=vO
 have c4:¬(m:Int)<=55:=vO
 have a0:(55:Int) < (m:Int):=vO
 have c5:(s.size:Int) - (f:Int) < (n:Int):=vO
 have a1:=jbe h0;have e1:(s[0].toNat:Int) - 192=(m:Int):=vO
 have e2:1+(m:Int) - 55=(f:Int):=vO
 have z:2<=f:=vO
 have a2:(m:Int)<=63:=vO
 have a3:(0:Int)<=(m:Int):=vO
 have a4:(f:Int)<=(s.size:Int):=vO
 rw[<-E]at A;clear hc2 E Z hle;unfold vQ;go_in;go_wp2_with fail
 refine (jh6 w s f n hs z A.o).mono ?_;rintro e w1 ⟨rfl,rfl⟩;go_wp2_with fail
 refine (jbQ w s.size).mono ?_;rintro e w1 ⟨v,rfl,H,hF⟩
 obtain⟨b,kk,rfl,J⟩:=hF
 have K:=Hd (bB H J);clear H J;go_wp2_with fail
 refine bodyPost_ret (v:=.tuple #[.bool false,.string ⟨#[]⟩,.string ⟨#[]⟩,.iface 263 (.pointer (some ⟨b,0,none⟩))]) (by simp[results,Tryz.results167,go_sem]) rfl ?_
 exact⟨_,rfl,K.o.1,b,kk,rfl,K.o.2⟩
theorem juY(w:vW)(s:vB)(hs:s.size<=1000000000)(h0:1 < s.size)(hc2:(s[0].toNat:Int)=128+1)(h1:(s[1].toNat:Int) < 128):vQ 167 #[.string s] w (jkg w):=by
 have O:(0:Int) < (s.size:Int):=vO
 have Q:(1:Int) < (s.size:Int):=vO
 have X:¬(s[0].toNat:Int) < 128:=vO
 have Z:(s[0].toNat:Int) < 192:=vO
 have c5:¬(s.size:Int) - 1 < 1:=vO
 have H:=jbe (show 0 < s.size by omega);have e1:(s[0].toNat:Int) - 128=1:=vO
 clear hc2;unfold vQ;go_in;go_wp2_with fail
 refine (jbQ w 1).mono ?_;rintro e w1 ⟨v,rfl,z,J⟩
 obtain⟨b,K,rfl,A⟩:=J
 have E:=Hd (bB z A);clear z A;go_wp2_with fail
 refine bodyPost_ret (v:=.tuple #[.bool false,.string ⟨#[]⟩,.string ⟨#[]⟩,.iface 263 (.pointer (some ⟨b,0,none⟩))]) (by simp[results,Tryz.results167,go_sem]) rfl ?_
 exact⟨_,rfl,E.o.1,b,K,rfl,E.o.2⟩
section
attribute [local go_sem] Oper.semAt_some
theorem jzP(w:vW)(s:vB)(hs:s.size<=1000000000)(h:cutN s=none):vQ 167 #[.string s] w (jkg w):=by
 unfold cutN at h
 by_cases h0:0 < s.size
 case neg =>
  have:s=⟨#[]⟩:=by
   have z:s.size=0:=vO
   obtain⟨⟨l⟩⟩:=s
   have:l=[]:=bD z
   rw[this]
  rw[this];exact jr4 w
 rw[dif_pos h0]at h;simp only at h;have hb:=s[0].toNat_lt
 by_cases h1:s[0].toNat < 128
 ·rw[if_pos h1]at h;cases h
 rw[if_neg h1]at h
 by_cases h2:s[0].toNat < 192
 ·rw[if_pos h2]at h
  simp only at h
  by_cases h3:s[0].toNat - 128<=55
  ·rw[if_pos h3]at h
   split at h
   ·cases h
   rename_i e
   by_cases hsz:1+(s[0].toNat - 128)<=s.size
   ·have e:s[0].toNat - 128=1/\¬ 128<=(s.data.toList.getD 1 0).toNat:=by
     refine⟨Classical.byContradiction fun A=>e ⟨hsz,.inr (.inl A)⟩,fun A=>e ⟨hsz,.inr (.inr A)⟩⟩
    obtain⟨H,o⟩:=e
    have E:1 < s.size:=vO
    rw[bG,bA (by simpa using E)]at o;have J:¬ 128<=(s[1]'E).toNat:=o;exact juY w s hs E vO vO
   ·exact jjm w s (s[0].toNat - 128) hs h0 vO h3 vO
  ·rw[if_neg h3]at h
   split at h
   ·rename_i n hl
    split at h
    ·cases h
    rename_i e
    exact jgC w s (s[0].toNat - 128 - 55) n hs h0 vO vO vO hl vO
   ·rename_i hl
    exact jir w s (s[0].toNat - 128 - 55) hs h0 vO vO vO hl
 ·rw[if_neg h2]at h
  simp only at h
  by_cases h3:s[0].toNat - 192<=55
  ·rw[if_pos h3]at h
   split at h
   ·cases h
   rename_i e
   refine jjl w s (s[0].toNat - 192) hs h0 vO h3 ?_
   have:¬ 1+(s[0].toNat - 192)<=s.size:=fun z=>e ⟨z,.inl trivial⟩
   omega
  ·rw[if_neg h3]at h
   split at h
   ·rename_i n hl
    split at h
    ·cases h
    rename_i e
    exact jgB w s (s[0].toNat - 192 - 55) n hs h0 vO vO vO hl vO
   ·rename_i hl
    exact jip w s (s[0].toNat - 192 - 55) hs h0 vO vO vO hl
theorem Tryz.noIsF(v:vV)(xT:TypeId)(w:vW):(Instr.typeAssert (.iface 263 v) xT 171 true).run Tryz.prog w=.ok (.tuple #[.nilIface,.bool false]) w:=run_typeAssert_lacksB Tryz.underlying171 vY vY v xT w
theorem Tryz.hasUnwrapF(v:vV)(xT:TypeId)(w:vW):(Instr.typeAssert (.iface 263 v) xT 174 true).run Tryz.prog w=.ok (.tuple #[.iface 263 v,.bool true]) w:=run_typeAssert_hasB Tryz.underlying174 vY v xT w
end
theorem Tryz.isMethodComparable(n:Nat)(v:vV)(w:vW):(Go.method (n+1) 169 v "Comparable").run Tryz.prog w=.ok (225,v) w:=vY
theorem Tryz.methodUnwrapF(n:Nat)(v:vV)(w:vW):(Go.method (n+1) 263 v "Unwrap").run Tryz.prog w=.ok (258,v) w:=vY
theorem jwA(w:vW)(b:Nat)(k:Int)(c:vV)(hB:Blk w b (.cells #[.int .i64 k,c] 265)):vQ 258 #[.pointer (some ⟨b,0,none⟩)] w fun e w'=>e=.returned c/\w=w':=by
 have o:=hB.cell (i:=1) (v:=c) vF;clear hB;unfold vQ;go_in;go_wp2_with fail
 go_ret
 exact⟨rfl,rfl⟩
theorem jBB(w:vW)(b:Nat)(k:Int)(hB:Blk w b (.cells #[.int .i64 k,malE] 265)):vQ 62 #[.iface 263 (.pointer (some ⟨b,0,none⟩)),malE,.bool true] w fun e w'=>e=.returned (.bool true)/\w=w':=by
 have z:=Hd hB;clear hB;have A:=fun w=>run_eql_iface_types (P:=Tryz.prog) 263 25 (.pointer (some ⟨b,0,none⟩)) (.int .i64 2) Tryz.underlying76 vI w;have E:∀ w,(binOp .eql 76 malE malE).run Tryz.prog w=.ok (.bool true) w:=fun w=>by kernel_rfl
 have H:∀ w,(binOp .eql 76 malE .nilIface).run Tryz.prog w=.ok (.bool false) w:=fun w=>by kernel_rfl
 unfold malE at *;have J:=Tryz.noIsF;have K:=Tryz.hasUnwrapF;have O:=Tryz.methodUnwrapF 420;unfold vQ;go_in;go_wp2_with fail
 refine wp_loop_rounds 2 ?_;rw[rounds_succ];go_wp2_with fail
 refine (jwA w b k _ z.o).mono ?_;rintro e w1 ⟨rfl,rfl⟩;go_wp2_with fail
 rw[rounds_succ];go_wp2_with fail
 go_ret
 exact⟨rfl,rfl⟩
theorem jvw(w:vW)(b:Nat)(k:Int)(hB:Blk w b (.cells #[.int .i64 k,malE] 265)):vQ 32 #[.iface 263 (.pointer (some ⟨b,0,none⟩)),malE] w fun e w'=>e=.returned (.bool true)/\w=w':=by
 have z:=Hd (jBB w b k hB);clear hB;have A:∀ w,(binOp .eql 76 (.iface 263 (.pointer (some ⟨b,0,none⟩))) .nilIface).run Tryz.prog w=.ok (.bool false) w:=fun w=>by kernel_rfl
 have E:∀ w,(binOp .eql 76 malE .nilIface).run Tryz.prog w=.ok (.bool false) w:=fun w=>by kernel_rfl
 unfold malE at *;have J:∀ w,(callFunc 61 #[.iface 25 (.int .i64 2)]).run Tryz.prog w=.ok (.value (.iface 169 (.agg #[.pointer (some ⟨3,25,none⟩)]))) w:=fun w=>by kernel_rfl
 have H:∀ w,(callFunc 225 #[.agg #[.pointer (some ⟨3,25,none⟩)]]).run Tryz.prog w=.ok (.value (.bool true)) w:=fun w=>by kernel_rfl
 have K:=Tryz.isMethodComparable 420;unfold vQ;go_in;go_wp2_with fail
 refine z.o.mono ?_;rintro e w1 ⟨rfl,rfl⟩;go_wp2_with fail
 go_ret
 exact⟨rfl,rfl⟩
section
attribute [local go_sem] Oper.semAt_some
theorem jwr(w:vW)(s:vB)(hs:s.size<=1000000000)(h:cutN s=none):vR 146 #[.string s] w (.tuple #[.bool false,.string ⟨#[]⟩,.string ⟨#[]⟩,.int .i64 2]):=by
 have E:=Hd (jzP w s hs h);clear h;unfold vR vQ;go_in;go_wp2_with fail
 refine E.o.mono ?_;rintro e w1 ⟨v,rfl,z,b,k,rfl,A,_⟩;have H:=Hd z;have J:=Hd A;clear z A;go_wp2_with fail
 refine (show vQ 32 #[.iface 263 (.pointer (some ⟨b,0,none⟩)),.iface 25 (.int .i64 2)] w1 fun e w'=>e=.returned (.bool true)/\w1=w' from jvw w1 b k J.o).mono ?_;rintro e K ⟨rfl,rfl⟩;go_wp2_with fail
 exact bodyPost_ret (v:=.tuple #[.bool false,.string ⟨#[]⟩,.string ⟨#[]⟩,.int .i64 2]) (by simp[results,Tryz.results146,go_sem]) rfl ⟨rfl,H.o⟩
theorem jvX(w:vW)(s:vB)(hs:s.size<=1000000000)(h:cutN s=none):vR 118 #[.string s] w (optV none):=by
 have A:=Hd (jwr w s hs h);clear h;unfold vR vQ;go_in;go_wp2_with fail
 refine A.o.mono ?_;rintro e w1 ⟨rfl,z⟩;have E:=Hd z;clear z;go_wp2_with fail
 go_ret2
 exact⟨rfl,E.o⟩
theorem jxR(w:vW)(s:vB)(hs:s.size<=1000000000)(h:cutN s=none):vR 87 #[.string s] w (optV none):=by
 have A:=Hd (jvX w s hs h);clear h;unfold vR vQ;go_in;go_wp2_with fail
 refine A.o.mono ?_;rintro e w1 ⟨rfl,z⟩;unfold optV;have E:=Hd z;clear z;go_wp2_with fail
 go_ret2
 exact⟨rfl,E.o⟩
def jkB(s:vB):Option vB:=match cutN s with | some r=>jfc s r | none=>none
theorem jh2(w:vW)(s:vB)(hs:s.size<=1000000000):vR 87 #[.string s] w (optV (jkB s)):=by
 unfold jkB;cases h:cutN s with
 | none=>exact jxR w s hs h
 | some r=>exact je1 w s r hs h
end
def jy8(w:vW)(e:Ending)(w':vW):Prop:=e=.returned (.tuple #[jaG.V,.int .i64 2])/\Ext w w'
section
attribute [local go_sem] Oper.semAt_some
theorem jzB(W:vW)(s bm:Nat)(room:Int)(S:vT)(hs:jaS W s bm room S)(u:vV)(k:vB)(hH:atL S k.data.toList=none) :
  vR 134 #[.pointer (some ⟨s,0,none⟩),.string k,u] W (.tuple #[jaG.V,.bool false]):=by
 have z:=fun w (h:jaS w s bm room S)=>jjd w s bm room S k h;rw[hH]at z;simp only[Option.map_none,optV]at z;have H:=Hd z;have Z:=Hd hs;clear z hs hH;go_enter Tryz.func134,Tryz.ntmps134;go_wp2_with (refine jaj Tryz.allocNode rfl rfl ?_;intro W1 E A)
 refine vC (H.o W1 (Z.o.ext A)) fun w3 J=>?_;have K:=E.keeps J (fun h=>h);have O:=Hd (A.trans J);clear J E A;go_wp2_with (refine jai (vs:=jaG.cells) rfl rfl rfl rfl K rfl Tryz.szNode jaG.one ?_;intro W8 Q X)
 refine bodyPost_ret (jaE rfl rfl rfl (jau W8 _ jaG rfl Q)) rfl ?_
 exact⟨rfl,O.o.trans' X (fun x hx e=>by have e:x=W.heap.size:=e;omega)⟩
end
noncomputable def inlOf(r:vB):jad:=@dite _ (∃ m d,InlD d r m) (Classical.propDecidable _) (fun h=>h.choose) (fun _=>jaG)
theorem jvv(w:vW){d g:Nat}{r:vB}{m n:jad}(h:InlD d r m)(k:InlD g r n):m=n:=by
 cases d with
 | zero=>exact h.elim
 | succ d =>
  cases g with
  | zero=>exact k.elim
  | succ g=>exact jdl w h.1 k.1 (h.2.1.symm.trans k.2.1)
theorem jo4(w:vW){d:Nat}{r:vB}{m:jad}(h:InlD d r m):inlOf r=m:=by
 have e:∃ m d,InlD d r m:=⟨m,d,h⟩;unfold inlOf;rw[dif_pos e]
 obtain⟨g,o⟩:=e.choose_spec
 exact jvv w o h
noncomputable def gRef(S:vT)(r:vB):Option jad:=match jcM r with
 | some h=>(atL S h.data.toList).map fun x=>nodeOf x.2.2.text
 | none=>some (inlOf r)
def jfm(R:jad->Nat->Option (PA × Nat))(G:vB->Option jad)(rs:vM):Nat->Nat->Option ((Nat->PA) × Nat)
 | 0,left=>some (fun _=>.nil,left)
 | k+1,left=>(jfm R G rs k left).bind fun x=>if (rs.getD k ⟨#[]⟩).size=0 then some x else (G (rs.getD k ⟨#[]⟩)).bind fun m=>(R m x.2).map fun y=>(setK x.1 k y.1,y.2)
def jbV(G:vB->Option jad):Nat->jad->Nat->Option (PA × Nat)
 | 0,_,_=>none
 | f+1,n,left=>if left=0 then none
  else if n.kind=1 then some (.leaf n.path n.value,left - 1)
  else if n.kind=2 then (G (n.refs.getD 0 ⟨#[]⟩)).bind fun m=>(jbV G f m (left - 1)).map fun x=>(.ext n.path x.1,x.2)
  else if n.kind=3 then (jfm (jbV G f) G n.refs 16 (left - 1)).map fun x=>(.br n.value x.1,x.2)
  else some (.no,left - 1)
theorem jj6(G:vB->Option jad)(f:Nat)(n:jad):jbV G f n 0=none:=by
 cases f with
 | zero=>rfl
 | succ f=>rfl
theorem jfL(R:jad->Nat->Option (PA × Nat))(G:vB->Option jad)(rs:vM)(k left:Nat):jfm R G rs (k+1) left=(jfm R G rs k left).bind fun x=>if (rs.getD k ⟨#[]⟩).size=0 then some x else (G (rs.getD k ⟨#[]⟩)).bind fun m=>(R m x.2).map fun y=>(setK x.1 k y.1,y.2):=rfl
theorem jez(G:vB->Option jad)(f:Nat)(n:jad)(left:Nat):jbV G (f+1) n left=if left=0 then none
  else if n.kind=1 then some (.leaf n.path n.value,left - 1)
  else if n.kind=2 then (G (n.refs.getD 0 ⟨#[]⟩)).bind fun m=>(jbV G f m (left - 1)).map fun x=>(.ext n.path x.1,x.2)
  else if n.kind=3 then (jfm (jbV G f) G n.refs 16 (left - 1)).map fun x=>(.br n.value x.1,x.2)
  else some (.no,left - 1):=rfl
theorem jk4{R:jad->Nat->Option (PA × Nat)}{G:vB->Option jad}{rs:vM}(hR:∀ m l y,R m l=some y->y.2<=l):∀ (k left:Nat) (x:(Nat->PA) × Nat),jfm R G rs k left=some x->x.2<=left
 | 0,left,x,h=>by
  have h:some ((fun _=>PA.nil),left)=some x:=h;rw[<-bS h];exact bL _
 | k+1,left,x,h=>by
  rw[jfL,Option.bind_eq_some_iff]at h
  obtain⟨y,A,h⟩:=h
  have o:=jk4 hR k left y A
  by_cases h0:(rs.getD k ⟨#[]⟩).size=0
  ·rw[if_pos h0]at h
   rw[<-bS h];exact o
  ·rw[if_neg h0,Option.bind_eq_some_iff]at h
   obtain⟨m,_,h⟩:=h
   rw[fM]at h
   obtain⟨z,E,e⟩:=h
   have:=hR m y.2 z E
   rw[<-e];exact bK this o
theorem jk5(G:vB->Option jad):∀ (f:Nat) (n:jad) (left:Nat) (y:PA × Nat),jbV G f n left=some y->y.2<=left - 1
 | 0,_,_,_,h=>by cases h
 | f+1,n,left,y,h=>by
  rw[jez]at h
  by_cases h0:left=0
  ·rw[if_pos h0]at h;cases h
  rw[if_neg h0]at h
  by_cases h1:n.kind=1
  ·rw[if_pos h1]at h
   rw[<-bS h];exact bL _
  rw[if_neg h1]at h
  by_cases h2:n.kind=2
  ·rw[if_pos h2,Option.bind_eq_some_iff]at h
   obtain⟨m,_,h⟩:=h
   rw[fM]at h
   obtain⟨z,o,e⟩:=h
   have:=jk5 G f m _ z o
   rw[<-e];show z.2<=left - 1;omega
  rw[if_neg h2]at h
  by_cases h3:n.kind=3
  ·rw[if_pos h3,fM]at h
   obtain⟨z,o,e⟩:=h
   have:=jk4 (fun m l y h=>bK (jk5 G f m l y h) (Nat.sub_le _ _)) 16 _ z o
   rw[<-e];exact this
  rw[if_neg h3]at h;rw[<-bS h];exact bL _
def RdAt(W:vW)(rb s left:Nat):Prop:=Blk W rb (.cells #[.pointer (some ⟨s,0,none⟩),.int .i64 (left:Int)] 182)
def jlu(W W':vW):Nat->Prop:=fun z=>W.heap.size<=z/\z < W'.heap.size
def RdO(W:vW)(rb s:Nat)(o:Option (PA × Nat))(e:Ending)(w':vW):Prop:=jaf (fun z=>z=rb) W w'/\match o with
 | some (P,l)=>∃ T x,e=.returned (.tuple #[.iface T x,.bool true])/\PaAt P (.iface T x) (jlu W w') w'/\RdAt w' rb s l
 | none=>∃ v l,e=.returned (.tuple #[v,.bool false])/\(v=.nilIface\/∃ T x,v=.iface T x)/\RdAt w' rb s l
def jjs(S:vT):Prop:=∀ x∈S,∃ n,jbr x.2.2.text n
section
attribute [local go_sem] Oper.semAt_some
def jgV:vV:=.iface 25 (.int .i64 4)
theorem jhp(w:vW):vQ 32 #[.nilIface,jgV] w fun e w'=>e=.returned (.bool false)/\w=w':=by
 unfold jgV;have o:∀ w,(binOp .eql 76 .nilIface (.iface 25 (.int .i64 4))).run Tryz.prog w=.ok (.bool false) w:=fun w=>by kernel_rfl
 unfold vQ;go_in;go_wp2_with fail
 go_ret
 exact⟨rfl,rfl⟩
theorem jBC(w:vW):vQ 62 #[jgV,jgV,.bool true] w fun e w'=>e=.returned (.bool true)/\w=w':=by
 have o:∀ w,(binOp .eql 76 jgV jgV).run Tryz.prog w=.ok (.bool true) w:=fun w=>by kernel_rfl
 unfold jgV at *;unfold vQ;go_in;go_wp2_with fail
 refine wp_loop_rounds 1 ?_;rw[rounds_succ];go_wp2_with fail
 go_ret
 exact⟨rfl,rfl⟩
theorem jkI(w:vW):vQ 32 #[jgV,jgV] w fun e w'=>e=.returned (.bool true)/\w=w':=by
 have z:=Hd (jBC w);have A:∀ w,(binOp .eql 76 jgV .nilIface).run Tryz.prog w=.ok (.bool false) w:=fun w=>by kernel_rfl
 unfold jgV at *;have H:∀ w,(callFunc 61 #[.iface 25 (.int .i64 4)]).run Tryz.prog w=.ok (.value (.iface 169 (.agg #[.pointer (some ⟨3,25,none⟩)]))) w:=fun w=>by kernel_rfl
 have E:∀ w,(callFunc 225 #[.agg #[.pointer (some ⟨3,25,none⟩)]]).run Tryz.prog w=.ok (.value (.bool true)) w:=fun w=>by kernel_rfl
 have J:=Tryz.isMethodComparable 420;unfold vQ;go_in;go_wp2_with fail
 refine z.o.mono ?_;rintro e w1 ⟨rfl,rfl⟩;go_wp2_with fail
 go_ret
 exact⟨rfl,rfl⟩
def jdC(S:vT)(r:vB):Bool:=(atL S r.data.toList).isSome
def KnR(w:vW)(S:vT)(rs:vM)(iv:vV)(wr:vW):Prop:=∃ i:Nat,i<=rs.length/\iv=.int .i64 i/\Ext w wr/\∀ r∈rs.take i,jdC S r=true
theorem jiJ(w:vW)(s bm:Nat)(room:Int)(S:vT)(hs:jaS w s bm room S)(v:vV)(rs:vM)(hv:RdS w v rs)(hn:rs.length<=1000) :
  vR 33 #[.pointer (some ⟨s,0,none⟩),v] w (if rs.all (jdC S)then .nilIface else jgV):=by
 have HS:=Hd hs;have HV:=Hd hv
 obtain⟨a,c,rfl,Q⟩:=hv.slice
 have a0:=Hd Q;clear hs hv Q;go_enter Tryz.func33,Tryz.ntmps33;go_wp2_with fail
 go_loopw [11] (fun iv wr=>KnR w S rs iv wr) (fun iv _=>rs.length - (intOf iv).toNat)
 case atStart=>exact⟨0,cE _,rfl,ExtR w,by simp⟩
 case round =>
  obtain⟨i,hi,rfl,J,A⟩:=hrel
  have K:=Hd J;have HA:=Hd A;clear J A
  by_cases hlt:i < rs.length
  ·have b1:(i:Int) < (rs.length:Int):=vO
   obtain⟨r,hr⟩:∃ r,rs[i]?=some r:=⟨_,bA hlt⟩
   obtain⟨b,o,rfl,z⟩:=a0.o i r hr
   have q1:=jaa z K.o;have e:=fun w2 (h:jaS w2 s bm room S)=>jjd w2 s bm room S r h;have HR:=Hd hr;clear z hr;cases hy:atL S r.data.toList with
   | none =>
    have hF:¬(rs.all (jdC S)=true):=by
     rw[fB];intro h
     have:=h r (bI HR.o)
     unfold jdC at this;rw[hy]at this;cases this
    rw[hy]at e;have E:=Hd e;clear e hy;go_wp2_with fail
    refine vH (E.o wr (HS.o.ext K.o)) fun w2 J=>?_;rw[show optV ((none:Option Nd5).map (·.2.2.text))=.tuple #[.string ⟨#[]⟩,.bool false]from rfl];have H:=Hd (K.o.trans J);go_wp2_with fail
    go_ret
    exact⟨rfl,H.o⟩
   | some y =>
    have X:jdC S r=true:=by unfold jdC;rw[hy];rfl
    rw[hy]at e;have E:=Hd e;have a1:=Hd X;clear e hy X;go_wp2_with fail
    refine vH (E.o wr (HS.o.ext K.o)) fun w2 J=>?_;rw[show optV ((some y:Option Nd5).map (·.2.2.text))=.tuple #[.string y.2.2.text,.bool true]from rfl];have H:=Hd (K.o.trans J)
    obtain⟨tx,Z⟩:=vE y.2.2.text
    rw[<-Z];clear Z;have a3:i<=1000:=vO
    go_wp2_with fail
    go_roundw
    case rel=>exact⟨i+1,by omega,by go_num,H.o,by rw[bY,HR.o];intro x O;rcases bT.1 O with O | O;exact HA.o x O;simp at O;rw[O];exact a1.o⟩
    case measure=>exact vJ
  ·have b1:¬(i:Int) < (rs.length:Int):=vO
   have a2:i=rs.length:=vO
   have hF:rs.all (jdC S)=true:=by
    rw[fB];have h:=HA.o;subst a2;rw[cJ]at h;exact h
   clear HA;go_wp2_with fail
   go_ret
   exact⟨rfl,K.o⟩
theorem jlT(W:vW)(sv:vV)(r q)(n:jad)(hn:n.refs.length=16)(hr:r.size<=1000)(hq:cutN r=some q)(hh:jfc r q=none)(hi:∀ w,vR 113 #[.string r] w (.tuple #[n.V,.bool true])) :
  vR 80 #[sv,.string r] W (.tuple #[n.V,.nilIface]):=by
 have HQ:=Hd hq;have HH:=Hd hh;have HI:=Hd hi;have HN:=Hd hn;have Q:=Hd (n.cells_len hn);clear hq hh hi hn;unfold vR vQ;go_in;go_wp2_with (refine jaj Tryz.allocNode rfl rfl ?_;intro W1 E H)
 refine vC (je1 W1 r q vO HQ.o) fun w2 A=>?_;rw[HH.o];unfold optV;have X:=Hd (E.keeps A (fun h=>h));have Z:=Hd (H.trans A);clear A E H;go_wp2_with fail
 refine vC (HI.o w2) fun w3 A=>?_;have z:=X.o.keeps A (fun h=>h);have a0:=Hd (Z.o.trans A);clear A;unfold jad.V;go_wp2_with (first |(refine jaj Tryz.allocNode rfl rfl ?_;intro W5 a1 J;refine jai (vs:=n.cells) rfl rfl rfl rfl a1 (by rw[Q.o];rfl) (by rw[Q.o];exact Tryz.szNode) n.one ?_;intro W6 a2 K;have O:=(z.keeps J (fun h=>h)).keeps K (by have:=z.lt;omega)) |(refine jae 94 (.tmp 8) rfl rfl _ _ rfl (jao _ _ n HN.o a2) ?_) |(refine jai (vs:=n.cells) rfl rfl rfl rfl O (by rw[Q.o];rfl) (by rw[Q.o];exact Tryz.szNode) n.one ?_;intro W8 a3 a4))
 refine bodyPost_ret (jaE rfl rfl rfl (jau W8 _ n HN.o a3)) rfl ?_;have a5:Ext w3 W6:=J.trans' K (fun x hx e=>by have e:x=w3.heap.size:=e;omega)
 exact⟨rfl,(a0.o.trans a5).trans' a4 (fun x hx e=>by have e:x=W.heap.size:=e;omega)⟩
theorem jqp(W:vW)(s bm:Nat)(room:Int)(S:vT)(hs:jaS W s bm room S)(x t k:vB)(q)(f:Nat)(n:jad)(hg:jbT (InlD f) n)(ht:t=jaP n)
  (hx:x.size<=1000) (hq:cutN x=some q) (hh:jfc x q=some k) (y:Nd5) (hy:atL S k.data.toList=some y) (hyt:y.2.2.text=t) :
  vR 80 #[.pointer (some ⟨s,0,none⟩),.string x] W (.tuple #[n.V,.nilIface]):=by
 have HS:=Hd hs;have HQ:=Hd hq;have HH:=Hd hh;have HT:=Hd ht;have HG:=Hd hg;have hn:=(hg.one (inlP f)).refs;have HN:=Hd hn;have HL:=Hd (n.cells_len hn);have E:=fun w (h:jaS w s bm room S)=>jjd w s bm room S k h;rw[hy]at E;have J:(some y).map (fun z:Nd5=>z.2.2.text)=some t:=by rw[<-hyt];rfl
 simp only[J]at E;have a3:=Hd E;clear hs hq hh ht hg hn hy hyt E J;go_enter Tryz.func80,Tryz.ntmps80;go_wp2_with (refine jaj Tryz.allocNode rfl rfl ?_;intro W1 K O)
 refine vC (je1 W1 x q vO HQ.o) fun w2 A=>?_;rw[HH.o];unfold optV;have Q:=Hd (K.keeps A (fun h=>h));have X:=Hd (O.trans A);clear A K O;go_wp2_with fail
 refine vC (a3.o w2 (HS.o.ext X.o)) fun w3 A=>?_;unfold optV;have Z:=Hd (Q.o.keeps A (fun h=>h));have a4:=Hd (X.o.trans A);clear A Q;go_wp2_with fail
 rw[HT.o];refine vC (jjP (inlP f) w3 n HG.o) fun w4 A=>?_;rw[<-HT.o];have H:=Z.o.keeps A (fun h=>h);have a5:=Hd (a4.o.trans A);clear A Z;unfold jad.V;go_wp2_with (first |(refine jaj Tryz.allocNode rfl rfl ?_;intro W5 a6 a1;refine jai (vs:=n.cells) rfl rfl rfl rfl a6 (by rw[HL.o];rfl) (by rw[HL.o];exact Tryz.szNode) n.one ?_;intro W6 a7 a2;have a0:=(H.keeps a1 (fun h=>h)).keeps a2 (by have:=H.lt;omega)) |(refine jae 94 (.tmp 11) rfl rfl _ _ rfl (jao _ _ n HN.o a7) ?_) |(refine jai (vs:=n.cells) rfl rfl rfl rfl a0 (by rw[HL.o];rfl) (by rw[HL.o];exact Tryz.szNode) n.one ?_;intro W8 a8 a9))
 refine bodyPost_ret (jaE rfl rfl rfl (jau W8 _ n HN.o a8)) rfl ?_;have b0:Ext w4 W6:=a1.trans' a2 (fun x hx e=>by have e:x=w4.heap.size:=e;omega)
 exact⟨rfl,(a5.o.trans b0).trans' a9 (fun x hx e=>by have e:x=W.heap.size:=e;omega)⟩
theorem jnD(W:vW)(s bm:Nat)(room:Int)(S:vT)(hs:jaS W s bm room S)(x k:vB)(q)(hx:x.size<=1000)(hq:cutN x=some q)(hh:jfc x q=some k)(hy:atL S k.data.toList=none) :
  vR 80 #[.pointer (some ⟨s,0,none⟩),.string x] W (.tuple #[jaG.V,jgV]):=by
 have HS:=Hd hs;have HQ:=Hd hq;have HH:=Hd hh;have z:=fun w (h:jaS w s bm room S)=>jjd w s bm room S k h;rw[hy]at z;have O:=Hd z;clear hs hq hh hy z;go_enter Tryz.func80,Tryz.ntmps80;go_wp2_with (refine jaj Tryz.allocNode rfl rfl ?_;intro W1 E H)
 refine vC (je1 W1 x q vO HQ.o) fun w2 A=>?_;rw[HH.o];unfold optV;have J:=Hd (E.keeps A (fun h=>h));have K:=Hd (H.trans A);clear A E H;go_wp2_with fail
 refine vC (O.o w2 (HS.o.ext K.o)) fun w3 A=>?_;rw[show optV ((none:Option Nd5).map (·.2.2.text))=.tuple #[.string ⟨#[]⟩,.bool false]from rfl];have Q:=J.o.keeps A (fun h=>h);have X:=Hd (K.o.trans A);clear A J;go_wp2_with (refine jai (vs:=jaG.cells) rfl rfl rfl rfl Q rfl Tryz.szNode jaG.one ?_;intro W8 Z a0)
 refine bodyPost_ret (jaE rfl rfl rfl (jau W8 _ jaG rfl Z)) rfl ?_
 exact⟨rfl,X.o.trans' a0 (fun x hx e=>by have e:x=W.heap.size:=e;omega)⟩
theorem joH(W:vW)(s bm:Nat)(room:Int)(S:vT)(hs:jaS W s bm room S){r:vB}{n:jad}(hr:jg4 S r (some n)) :
  vR 80 #[.pointer (some ⟨s,0,none⟩),.string r] W (.tuple #[n.V,.nilIface]):=by
 rcases hr with⟨d,m,hI,hm⟩ |⟨k,e,o,⟨_,h3⟩ |⟨y,m,h3,z,hm⟩⟩
 ·obtain rfl:=bS hm
  obtain⟨q,e,o⟩:=(inlP d).nohash _ _ hI
  exact jlT W _ _ q n ((inlP d).refs _ _ hI) (by have:=(inlP d).small _ _ hI;omega) e o ((inlP d).inl _ _ hI)
 ·cases h3
 ·obtain rfl:=bS hm
  obtain⟨q,A,E⟩:=jdU k e
  obtain⟨z,g,H⟩:=z
  rw[o];refine jqp W s bm room S hs _ y.2.2.text k q g n H z ?_ A E y h3 rfl
  have:=jaN k
  omega
theorem jlS(W:vW)(s bm:Nat)(room:Int)(S:vT)(hs:jaS W s bm room S){r:vB}(hr:jg4 S r none) :
  vR 80 #[.pointer (some ⟨s,0,none⟩),.string r] W (.tuple #[jaG.V,jgV]):=by
 rcases hr with⟨d,m,hI,hm⟩ |⟨k,h1,h2,⟨h3,_⟩ |⟨y,m,h3,h4,hm⟩⟩
 ·cases hm
 ·obtain⟨q,e,o⟩:=jdU k h1
  rw[h2];refine jnD W s bm room S hs _ k q ?_ e o h3
  have:=jaN k
  omega
 ·cases hm
end
