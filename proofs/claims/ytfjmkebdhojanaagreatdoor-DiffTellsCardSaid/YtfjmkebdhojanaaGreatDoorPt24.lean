/- Lemmas; each is under no condition but those that it states. -/
import Derived.Test.YtfjmkebdhojanaaGreatDoorPt23
namespace Go.Proofs.YtfjmkebdhojanaaGreatDoor
set_option linter.unusedSimpArgs false
set_option linter.unusedVariables false
set_option maxRecDepth 100000
set_option maxHeartbeats 16000000
open Go Go.RowKit
def jkm(w:vW)(e:Ending)(w':vW):Prop:=∃ v,e=.returned (.tuple #[.bool false,.string ⟨#[]⟩,.string ⟨#[]⟩,v])/\Ext w w'/\Fa1 w w' v
theorem Tryz.errNeNil(b:Nat):∀ w,(binOp .neq 55 (.iface 259 (.pointer (some ⟨b,0,none⟩))) .nilIface).run Tryz.prog w=.ok (.bool true) w:=fun w=>by kernel_rfl
theorem jr3(w:vW):vQ 163 #[.string ⟨#[]⟩] w (jkm w):=by
 unfold vQ;go_in;go_wp2_with fail
 refine (jbQ w 0).mono ?_;rintro e w1 ⟨v,rfl,A,J⟩
 obtain⟨b,k,rfl,E⟩:=J
 have H:=Hd (bB A E);clear A E;go_wp2_with fail
 refine bodyPost_ret (v:=.tuple #[.bool false,.string ⟨#[]⟩,.string ⟨#[]⟩,.iface 259 (.pointer (some ⟨b,0,none⟩))]) (by simp[results,Tryz.results163,go_sem]) rfl ?_
 exact⟨_,rfl,H.o.1,b,k,rfl,H.o.2⟩
theorem jjo(w:vW)(s:vB)(n:Nat)(hs:s.size<=1000000000)(h0:0 < s.size)(hc2:(s[0].toNat:Int)=128+n)(hn:n<=55)(hle:s.size < 1+n):vQ 163 #[.string s] w (jkm w):=by
 have Q:(0:Int) < (s.size:Int):=vO
 have X:¬(s[0].toNat:Int) < 128:=vO
 have Z:(s[0].toNat:Int) < 192:=vO
 have c4:¬(55:Int) < (n:Int):=vO
 have c5:(s.size:Int) - 1 < (n:Int):=vO
 have J:=jbe h0;have e1:(s[0].toNat:Int) - 128=(n:Int):=vO
 clear hc2;unfold vQ;go_in;go_wp2_with fail
 refine (jbQ w s.size).mono ?_;rintro e w1 ⟨v,rfl,A,K⟩
 obtain⟨b,O,rfl,E⟩:=K
 have H:=Hd (bB A E);clear A E;go_wp2_with fail
 refine bodyPost_ret (v:=.tuple #[.bool false,.string ⟨#[]⟩,.string ⟨#[]⟩,.iface 259 (.pointer (some ⟨b,0,none⟩))]) (by simp[results,Tryz.results163,go_sem]) rfl ?_
 exact⟨_,rfl,H.o.1,b,O,rfl,H.o.2⟩
theorem jiq(w:vW)(s:vB)(k:Nat)(hs:s.size<=1000000000)(h0:0 < s.size)(hc2:(s[0].toNat:Int)=128+55+k)(hk:1<=k)(hk8:k<=8)(hL:lenB s (1+k)=none):vQ 163 #[.string s] w (jkm w):=by
 have H:=Hd hL;clear hL
 obtain⟨f,J⟩:=vE (1+k)
 obtain⟨m,X⟩:=vE (55+k)
 have c0:(0:Int) < (s.size:Int):=vO
 have c2:¬(s[0].toNat:Int) < 128:=vO
 have c3:(s[0].toNat:Int) < 192:=vO
 have c4:¬(m:Int)<=55:=vO
 have Z:(55:Int) < (m:Int):=vO
 have a0:=jbe h0;have e1:(s[0].toNat:Int) - 128=(m:Int):=vO
 have e2:1+(m:Int) - 55=(f:Int):=vO
 have A:2<=f:=vO
 have E:f<=1000:=vO
 have a1:(m:Int)<=63:=vO
 have a2:(0:Int)<=(m:Int):=vO
 have a3:=Tryz.errNeNil;rw[<-J]at H;clear hc2 J X;unfold vQ;go_in;go_wp2_with fail
 refine (jmr w s f hs A E H.o).mono ?_;rintro e w1 ⟨v,rfl,K,hF⟩
 obtain⟨b,kk,rfl,O⟩:=hF
 have Q:=Hd (bB K O);clear K O;go_wp2_with fail
 refine bodyPost_ret (v:=.tuple #[.bool false,.string ⟨#[]⟩,.string ⟨#[]⟩,.iface 259 (.pointer (some ⟨b,0,none⟩))]) (by simp[results,Tryz.results163,go_sem]) rfl ?_
 exact⟨_,rfl,Q.o.1,b,kk,rfl,Q.o.2⟩
theorem jgw(w:vW)(s:vB)(k n:Nat)(hs:s.size<=1000000000)(h0:0 < s.size)(hc2:(s[0].toNat:Int)=128+55+k)(hk:1<=k)(hk8:k<=8)(hL:lenB s (1+k)=some n)(hle:s.size < 1+k+n):vQ 163 #[.string s] w (jkm w):=by
 obtain⟨Q,_,_,X,Z⟩:=jdk hL
 have E:=Hd hL;clear hL
 obtain⟨f,H⟩:=vE (1+k)
 obtain⟨m,hm⟩:=vE (55+k)
 have c0:(0:Int) < (s.size:Int):=vO
 have c2:¬(s[0].toNat:Int) < 128:=vO
 have c3:(s[0].toNat:Int) < 192:=vO
 have c4:¬(m:Int)<=55:=vO
 have a0:(55:Int) < (m:Int):=vO
 have c5:(s.size:Int) - (f:Int) < (n:Int):=vO
 have a1:=jbe h0;have e1:(s[0].toNat:Int) - 128=(m:Int):=vO
 have e2:1+(m:Int) - 55=(f:Int):=vO
 have A:2<=f:=vO
 have a2:(m:Int)<=63:=vO
 have a3:(0:Int)<=(m:Int):=vO
 have a4:(f:Int)<=(s.size:Int):=vO
 rw[<-H]at E;clear hc2 H hm hle;unfold vQ;go_in;go_wp2_with fail
 refine (jh2 w s f n hs A E.o).mono ?_;rintro e w1 ⟨rfl,rfl⟩;go_wp2_with fail
 refine (jbQ w s.size).mono ?_;rintro e w1 ⟨v,rfl,J,hF⟩
 obtain⟨b,kk,rfl,K⟩:=hF
 have O:=Hd (bB J K);clear J K;go_wp2_with fail
 refine bodyPost_ret (v:=.tuple #[.bool false,.string ⟨#[]⟩,.string ⟨#[]⟩,.iface 259 (.pointer (some ⟨b,0,none⟩))]) (by simp[results,Tryz.results163,go_sem]) rfl ?_
 exact⟨_,rfl,O.o.1,b,kk,rfl,O.o.2⟩
theorem jjn(w:vW)(s:vB)(n:Nat)(hs:s.size<=1000000000)(h0:0 < s.size)(hc2:(s[0].toNat:Int)=192+n)(hn:n<=55)(hle:s.size < 1+n):vQ 163 #[.string s] w (jkm w):=by
 have Q:(0:Int) < (s.size:Int):=vO
 have X:¬(s[0].toNat:Int) < 128:=vO
 have Z:¬(s[0].toNat:Int) < 192:=vO
 have c4:¬(55:Int) < (n:Int):=vO
 have c5:(s.size:Int) - 1 < (n:Int):=vO
 have J:=jbe h0;have e1:(s[0].toNat:Int) - 192=(n:Int):=vO
 clear hc2;unfold vQ;go_in;go_wp2_with fail
 refine (jbQ w s.size).mono ?_;rintro e w1 ⟨v,rfl,A,K⟩
 obtain⟨b,O,rfl,E⟩:=K
 have H:=Hd (bB A E);clear A E;go_wp2_with fail
 refine bodyPost_ret (v:=.tuple #[.bool false,.string ⟨#[]⟩,.string ⟨#[]⟩,.iface 259 (.pointer (some ⟨b,0,none⟩))]) (by simp[results,Tryz.results163,go_sem]) rfl ?_
 exact⟨_,rfl,H.o.1,b,O,rfl,H.o.2⟩
theorem jio(w:vW)(s:vB)(k:Nat)(hs:s.size<=1000000000)(h0:0 < s.size)(hc2:(s[0].toNat:Int)=192+55+k)(hk:1<=k)(hk8:k<=8)(hL:lenB s (1+k)=none):vQ 163 #[.string s] w (jkm w):=by
 have H:=Hd hL;clear hL
 obtain⟨f,J⟩:=vE (1+k)
 obtain⟨m,X⟩:=vE (55+k)
 have c0:(0:Int) < (s.size:Int):=vO
 have c2:¬(s[0].toNat:Int) < 128:=vO
 have c3:¬(s[0].toNat:Int) < 192:=vO
 have c4:¬(m:Int)<=55:=vO
 have Z:(55:Int) < (m:Int):=vO
 have a0:=jbe h0;have e1:(s[0].toNat:Int) - 192=(m:Int):=vO
 have e2:1+(m:Int) - 55=(f:Int):=vO
 have A:2<=f:=vO
 have E:f<=1000:=vO
 have a1:(m:Int)<=63:=vO
 have a2:(0:Int)<=(m:Int):=vO
 have a3:=Tryz.errNeNil;rw[<-J]at H;clear hc2 J X;unfold vQ;go_in;go_wp2_with fail
 refine (jmr w s f hs A E H.o).mono ?_;rintro e w1 ⟨v,rfl,K,hF⟩
 obtain⟨b,kk,rfl,O⟩:=hF
 have Q:=Hd (bB K O);clear K O;go_wp2_with fail
 refine bodyPost_ret (v:=.tuple #[.bool false,.string ⟨#[]⟩,.string ⟨#[]⟩,.iface 259 (.pointer (some ⟨b,0,none⟩))]) (by simp[results,Tryz.results163,go_sem]) rfl ?_
 exact⟨_,rfl,Q.o.1,b,kk,rfl,Q.o.2⟩
theorem jgv(w:vW)(s:vB)(k n:Nat)(hs:s.size<=1000000000)(h0:0 < s.size)(hc2:(s[0].toNat:Int)=192+55+k)(hk:1<=k)(hk8:k<=8)(hL:lenB s (1+k)=some n)(hle:s.size < 1+k+n):vQ 163 #[.string s] w (jkm w):=by
 obtain⟨Q,_,_,X,Z⟩:=jdk hL
 have E:=Hd hL;clear hL
 obtain⟨f,H⟩:=vE (1+k)
 obtain⟨m,hm⟩:=vE (55+k)
 have c0:(0:Int) < (s.size:Int):=vO
 have c2:¬(s[0].toNat:Int) < 128:=vO
 have c3:¬(s[0].toNat:Int) < 192:=vO
 have c4:¬(m:Int)<=55:=vO
 have a0:(55:Int) < (m:Int):=vO
 have c5:(s.size:Int) - (f:Int) < (n:Int):=vO
 have a1:=jbe h0;have e1:(s[0].toNat:Int) - 192=(m:Int):=vO
 have e2:1+(m:Int) - 55=(f:Int):=vO
 have A:2<=f:=vO
 have a2:(m:Int)<=63:=vO
 have a3:(0:Int)<=(m:Int):=vO
 have a4:(f:Int)<=(s.size:Int):=vO
 rw[<-H]at E;clear hc2 H hm hle;unfold vQ;go_in;go_wp2_with fail
 refine (jh2 w s f n hs A E.o).mono ?_;rintro e w1 ⟨rfl,rfl⟩;go_wp2_with fail
 refine (jbQ w s.size).mono ?_;rintro e w1 ⟨v,rfl,J,hF⟩
 obtain⟨b,kk,rfl,K⟩:=hF
 have O:=Hd (bB J K);clear J K;go_wp2_with fail
 refine bodyPost_ret (v:=.tuple #[.bool false,.string ⟨#[]⟩,.string ⟨#[]⟩,.iface 259 (.pointer (some ⟨b,0,none⟩))]) (by simp[results,Tryz.results163,go_sem]) rfl ?_
 exact⟨_,rfl,O.o.1,b,kk,rfl,O.o.2⟩
theorem juV(w:vW)(s:vB)(hs:s.size<=1000000000)(h0:1 < s.size)(hc2:(s[0].toNat:Int)=128+1)(h1:(s[1].toNat:Int) < 128):vQ 163 #[.string s] w (jkm w):=by
 have Q:(0:Int) < (s.size:Int):=vO
 have X:(1:Int) < (s.size:Int):=vO
 have Z:¬(s[0].toNat:Int) < 128:=vO
 have c3:(s[0].toNat:Int) < 192:=vO
 have c5:¬(s.size:Int) - 1 < 1:=vO
 have J:=jbe (show 0 < s.size by omega);have e1:(s[0].toNat:Int) - 128=1:=vO
 clear hc2;unfold vQ;go_in;go_wp2_with fail
 refine (jbQ w 1).mono ?_;rintro e w1 ⟨v,rfl,A,K⟩
 obtain⟨b,O,rfl,E⟩:=K
 have H:=Hd (bB A E);clear A E;go_wp2_with fail
 refine bodyPost_ret (v:=.tuple #[.bool false,.string ⟨#[]⟩,.string ⟨#[]⟩,.iface 259 (.pointer (some ⟨b,0,none⟩))]) (by simp[results,Tryz.results163,go_sem]) rfl ?_
 exact⟨_,rfl,H.o.1,b,O,rfl,H.o.2⟩
section
attribute [local go_sem] Oper.semAt_some
theorem jzD(w:vW)(s:vB)(hs:s.size<=1000000000)(h:cutN s=none):vQ 163 #[.string s] w (jkm w):=by
 unfold cutN at h
 by_cases h0:0 < s.size
 case neg =>
  have:s=⟨#[]⟩:=by
   have A:s.size=0:=vO
   obtain⟨⟨l⟩⟩:=s
   have:l=[]:=bE A
   rw[this]
  rw[this];exact jr3 w
 rw[dif_pos h0]at h;simp only at h;have hb:=s[0].toNat_lt
 by_cases h1:s[0].toNat < 128
 ·rw[if_pos h1]at h;cases h
 rw[if_neg h1]at h
 by_cases h2:s[0].toNat < 192
 ·rw[if_pos h2]at h
  simp only at h
  by_cases h3:s[0].toNat - 128<=55
  ·rw[if_pos h3]at h
   split at h
   ·cases h
   rename_i e
   by_cases hsz:1+(s[0].toNat - 128)<=s.size
   ·have e:s[0].toNat - 128=1/\¬ 128<=(s.data.toList.getD 1 0).toNat:=by
     refine⟨Classical.byContradiction fun E=>e ⟨hsz,.inr (.inl E)⟩,fun E=>e ⟨hsz,.inr (.inr E)⟩⟩
    obtain⟨J,o⟩:=e
    have H:1 < s.size:=vO
    rw[bH,bA (by simpa using H)]at o;have K:¬ 128<=(s[1]'H).toNat:=o;exact juV w s hs H vO vO
   ·exact jjo w s (s[0].toNat - 128) hs h0 vO h3 vO
  ·rw[if_neg h3]at h
   split at h
   ·rename_i n hl
    split at h
    ·cases h
    rename_i e
    exact jgw w s (s[0].toNat - 128 - 55) n hs h0 vO vO vO hl vO
   ·rename_i hl
    exact jiq w s (s[0].toNat - 128 - 55) hs h0 vO vO vO hl
 ·rw[if_neg h2]at h
  simp only at h
  by_cases h3:s[0].toNat - 192<=55
  ·rw[if_pos h3]at h
   split at h
   ·cases h
   rename_i e
   refine jjn w s (s[0].toNat - 192) hs h0 vO h3 ?_
   have:¬ 1+(s[0].toNat - 192)<=s.size:=fun A=>e ⟨A,.inl trivial⟩
   omega
  ·rw[if_neg h3]at h
   split at h
   ·rename_i n hl
    split at h
    ·cases h
    rename_i e
    exact jgv w s (s[0].toNat - 192 - 55) n hs h0 vO vO vO hl vO
   ·rename_i hl
    exact jio w s (s[0].toNat - 192 - 55) hs h0 vO vO vO hl
theorem Tryz.noIsF(v:vV)(xT:TypeId)(w:vW):(Instr.typeAssert (.iface 259 v) xT 157 true).run Tryz.prog w=.ok (.tuple #[.nilIface,.bool false]) w:=run_typeAssert_lacksB Tryz.underlying157 vY vY v xT w
theorem Tryz.hasUnwrapF(v:vV)(xT:TypeId)(w:vW):(Instr.typeAssert (.iface 259 v) xT 160 true).run Tryz.prog w=.ok (.tuple #[.iface 259 v,.bool true]) w:=run_typeAssert_hasB Tryz.underlying160 vY v xT w
end
theorem Tryz.isMethodComparable(n:Nat)(v:vV)(w:vW):(Go.method (n+1) 155 v "Comparable").run Tryz.prog w=.ok (221,v) w:=vY
theorem Tryz.methodUnwrapF(n:Nat)(v:vV)(w:vW):(Go.method (n+1) 259 v "Unwrap").run Tryz.prog w=.ok (253,v) w:=vY
theorem jwt(w:vW)(b:Nat)(k:Int)(c:vV)(hB:Blk w b (.cells #[.int .i64 k,c] 261)):vQ 253 #[.pointer (some ⟨b,0,none⟩)] w fun e w'=>e=.returned c/\w=w':=by
 have o:=hB.cell (i:=1) (v:=c) vF;clear hB;unfold vQ;go_in;go_wp2_with fail
 go_ret
 exact⟨rfl,rfl⟩
theorem jBq(w:vW)(b:Nat)(k:Int)(hB:Blk w b (.cells #[.int .i64 k,malE] 261)):vQ 44 #[.iface 259 (.pointer (some ⟨b,0,none⟩)),malE,.bool true] w fun e w'=>e=.returned (.bool true)/\w=w':=by
 have A:=Hd hB;clear hB;have E:=fun w=>run_eql_iface_types (P:=Tryz.prog) 259 28 (.pointer (some ⟨b,0,none⟩)) (.int .i64 2) Tryz.underlying55 vI w;have H:∀ w,(binOp .eql 55 malE malE).run Tryz.prog w=.ok (.bool true) w:=fun w=>by kernel_rfl
 have J:∀ w,(binOp .eql 55 malE .nilIface).run Tryz.prog w=.ok (.bool false) w:=fun w=>by kernel_rfl
 unfold malE at *;have K:=Tryz.noIsF;have O:=Tryz.hasUnwrapF;have Q:=Tryz.methodUnwrapF 421;unfold vQ;go_in;go_wp2_with fail
 refine wp_loop_rounds 2 ?_;rw[rounds_succ];go_wp2_with fail
 refine (jwt w b k _ A.o).mono ?_;rintro e w1 ⟨rfl,rfl⟩;go_wp2_with fail
 rw[rounds_succ];go_wp2_with fail
 go_ret
 exact⟨rfl,rfl⟩
theorem jvt(w:vW)(b:Nat)(k:Int)(hB:Blk w b (.cells #[.int .i64 k,malE] 261)):vQ 20 #[.iface 259 (.pointer (some ⟨b,0,none⟩)),malE] w fun e w'=>e=.returned (.bool true)/\w=w':=by
 have A:=Hd (jBq w b k hB);clear hB;have E:∀ w,(binOp .eql 55 (.iface 259 (.pointer (some ⟨b,0,none⟩))) .nilIface).run Tryz.prog w=.ok (.bool false) w:=fun w=>by kernel_rfl
 have H:∀ w,(binOp .eql 55 malE .nilIface).run Tryz.prog w=.ok (.bool false) w:=fun w=>by kernel_rfl
 unfold malE at *;have K:∀ w,(callFunc 43 #[.iface 28 (.int .i64 2)]).run Tryz.prog w=.ok (.value (.iface 155 (.agg #[.pointer (some ⟨3,28,none⟩)]))) w:=fun w=>by kernel_rfl
 have J:∀ w,(callFunc 221 #[.agg #[.pointer (some ⟨3,28,none⟩)]]).run Tryz.prog w=.ok (.value (.bool true)) w:=fun w=>by kernel_rfl
 have O:=Tryz.isMethodComparable 421;unfold vQ;go_in;go_wp2_with fail
 refine A.o.mono ?_;rintro e w1 ⟨rfl,rfl⟩;go_wp2_with fail
 go_ret
 exact⟨rfl,rfl⟩
section
attribute [local go_sem] Oper.semAt_some
theorem jwl(w:vW)(s:vB)(hs:s.size<=1000000000)(h:cutN s=none):vR 143 #[.string s] w (.tuple #[.bool false,.string ⟨#[]⟩,.string ⟨#[]⟩,.int .i64 2]):=by
 have H:=Hd (jzD w s hs h);clear h;unfold vR vQ;go_in;go_wp2_with fail
 refine H.o.mono ?_;rintro e w1 ⟨v,rfl,A,b,k,rfl,E,_⟩;have J:=Hd A;have K:=Hd E;clear A E;go_wp2_with fail
 refine (show vQ 20 #[.iface 259 (.pointer (some ⟨b,0,none⟩)),.iface 28 (.int .i64 2)] w1 fun e w'=>e=.returned (.bool true)/\w1=w' from jvt w1 b k K.o).mono ?_;rintro e O ⟨rfl,rfl⟩;go_wp2_with fail
 exact bodyPost_ret (v:=.tuple #[.bool false,.string ⟨#[]⟩,.string ⟨#[]⟩,.int .i64 2]) (by simp[results,Tryz.results143,go_sem]) rfl ⟨rfl,J.o⟩
theorem jvS(w:vW)(s:vB)(hs:s.size<=1000000000)(h:cutN s=none):vR 116 #[.string s] w (optV none):=by
 have E:=Hd (jwl w s hs h);clear h;unfold vR vQ;go_in;go_wp2_with fail
 refine E.o.mono ?_;rintro e w1 ⟨rfl,A⟩;have H:=Hd A;clear A;go_wp2_with fail
 go_ret2
 exact⟨rfl,H.o⟩
theorem jxN(w:vW)(s:vB)(hs:s.size<=1000000000)(h:cutN s=none):vR 83 #[.string s] w (optV none):=by
 have E:=Hd (jvS w s hs h);clear h;unfold vR vQ;go_in;go_wp2_with fail
 refine E.o.mono ?_;rintro e w1 ⟨rfl,A⟩;unfold optV;have H:=Hd A;clear A;go_wp2_with fail
 go_ret2
 exact⟨rfl,H.o⟩
def jkI(s:vB):Option vB:=match cutN s with | some r=>jfi s r | none=>none
theorem jhY(w:vW)(s:vB)(hs:s.size<=1000000000):vR 83 #[.string s] w (optV (jkI s)):=by
 unfold jkI;cases h:cutN s with
 | none=>exact jxN w s hs h
 | some r=>exact je3 w s r hs h
end
def jyY(w:vW)(e:Ending)(w':vW):Prop:=e=.returned (.tuple #[jaH.V,.int .i64 2])/\Ext w w'
section
attribute [local go_sem] Oper.semAt_some
theorem jzp(W:vW)(s bm:Nat)(room:Int)(S:vT)(hs:jaT W s bm room S)(u:vV)(k:vB)(hH:atL S k.data.toList=none) :
  vR 133 #[.pointer (some ⟨s,0,none⟩),.string k,u] W (.tuple #[jaH.V,.bool false]):=by
 have A:=fun w (h:jaT w s bm room S)=>jjc w s bm room S k h;rw[hH]at A;simp only[Option.map_none,optV]at A;have J:=Hd A;have HS:=Hd hs;clear A hs hH;go_enter Tryz.func133,Tryz.ntmps133;go_wp2_with (refine jaj Tryz.allocNode rfl rfl ?_;intro W1 H E)
 refine vC (J.o W1 (HS.o.ext E)) fun w3 K=>?_;have O:=H.keeps K (fun h=>h);have Q:=Hd (E.trans K);clear K H E;go_wp2_with (refine jah (vs:=jaH.cells) rfl rfl rfl rfl O rfl Tryz.szNode jaH.one ?_;intro W8 X Z)
 refine bodyPost_ret (jaF rfl rfl rfl (jaw W8 _ jaH rfl X)) rfl ?_
 exact⟨rfl,Q.o.trans' Z (fun x hx e=>by have e:x=W.heap.size:=e;omega)⟩
end
noncomputable def inlOf(r:vB):jad:=@dite _ (∃ m d,InlD d r m) (Classical.propDecidable _) (fun h=>h.choose) (fun _=>jaH)
theorem jvs(w:vW){d g:Nat}{r:vB}{m n:jad}(h:InlD d r m)(k:InlD g r n):m=n:=by
 cases d with
 | zero=>exact h.elim
 | succ d =>
  cases g with
  | zero=>exact k.elim
  | succ g=>exact jdl w h.1 k.1 (h.2.1.symm.trans k.2.1)
theorem jpg(w:vW){d:Nat}{r:vB}{m:jad}(h:InlD d r m):inlOf r=m:=by
 have e:∃ m d,InlD d r m:=⟨m,d,h⟩;unfold inlOf;rw[dif_pos e]
 obtain⟨g,o⟩:=e.choose_spec
 exact jvs w o h
noncomputable def gRef(S:vT)(r:vB):Option jad:=match jcP r with
 | some h=>(atL S h.data.toList).map fun x=>nodeOf x.2.2.text
 | none=>some (inlOf r)
def jfs(R:jad->Nat->Option (PA × Nat))(G:vB->Option jad)(rs:vM):Nat->Nat->Option ((Nat->PA) × Nat)
 | 0,left=>some (fun _=>.nil,left)
 | k+1,left=>(jfs R G rs k left).bind fun x=>if (rs.getD k ⟨#[]⟩).size=0 then some x else (G (rs.getD k ⟨#[]⟩)).bind fun m=>(R m x.2).map fun y=>(setK x.1 k y.1,y.2)
def jbU(G:vB->Option jad):Nat->jad->Nat->Option (PA × Nat)
 | 0,_,_=>none
 | f+1,n,left=>if left=0 then none
  else if n.kind=1 then some (.leaf n.path n.value,left - 1)
  else if n.kind=2 then (G (n.refs.getD 0 ⟨#[]⟩)).bind fun m=>(jbU G f m (left - 1)).map fun x=>(.ext n.path x.1,x.2)
  else if n.kind=3 then (jfs (jbU G f) G n.refs 16 (left - 1)).map fun x=>(.br n.value x.1,x.2)
  else some (.no,left - 1)
theorem jkb(G:vB->Option jad)(f:Nat)(n:jad):jbU G f n 0=none:=by
 cases f with
 | zero=>rfl
 | succ f=>rfl
theorem jfM(R:jad->Nat->Option (PA × Nat))(G:vB->Option jad)(rs:vM)(k left:Nat):jfs R G rs (k+1) left=(jfs R G rs k left).bind fun x=>if (rs.getD k ⟨#[]⟩).size=0 then some x else (G (rs.getD k ⟨#[]⟩)).bind fun m=>(R m x.2).map fun y=>(setK x.1 k y.1,y.2):=rfl
theorem jez(G:vB->Option jad)(f:Nat)(n:jad)(left:Nat):jbU G (f+1) n left=if left=0 then none
  else if n.kind=1 then some (.leaf n.path n.value,left - 1)
  else if n.kind=2 then (G (n.refs.getD 0 ⟨#[]⟩)).bind fun m=>(jbU G f m (left - 1)).map fun x=>(.ext n.path x.1,x.2)
  else if n.kind=3 then (jfs (jbU G f) G n.refs 16 (left - 1)).map fun x=>(.br n.value x.1,x.2)
  else some (.no,left - 1):=rfl
theorem jla{R:jad->Nat->Option (PA × Nat)}{G:vB->Option jad}{rs:vM}(hR:∀ m l y,R m l=some y->y.2<=l):∀ (k left:Nat) (x:(Nat->PA) × Nat),jfs R G rs k left=some x->x.2<=left
 | 0,left,x,h=>by
  have h:some ((fun _=>PA.nil),left)=some x:=h;rw[<-bO h];exact bL _
 | k+1,left,x,h=>by
  rw[jfM,Option.bind_eq_some_iff]at h
  obtain⟨y,A,h⟩:=h
  have o:=jla hR k left y A
  by_cases h0:(rs.getD k ⟨#[]⟩).size=0
  ·rw[if_pos h0]at h
   rw[<-bO h];exact o
  ·rw[if_neg h0,Option.bind_eq_some_iff]at h
   obtain⟨m,_,h⟩:=h
   rw[fE]at h
   obtain⟨z,E,e⟩:=h
   have:=hR m y.2 z E
   rw[<-e];exact bJ this o
theorem jlb(G:vB->Option jad):∀ (f:Nat) (n:jad) (left:Nat) (y:PA × Nat),jbU G f n left=some y->y.2<=left - 1
 | 0,_,_,_,h=>by cases h
 | f+1,n,left,y,h=>by
  rw[jez]at h
  by_cases h0:left=0
  ·rw[if_pos h0]at h;cases h
  rw[if_neg h0]at h
  by_cases h1:n.kind=1
  ·rw[if_pos h1]at h
   rw[<-bO h];exact bL _
  rw[if_neg h1]at h
  by_cases h2:n.kind=2
  ·rw[if_pos h2,Option.bind_eq_some_iff]at h
   obtain⟨m,_,h⟩:=h
   rw[fE]at h
   obtain⟨z,o,e⟩:=h
   have:=jlb G f m _ z o
   rw[<-e];show z.2<=left - 1;omega
  rw[if_neg h2]at h
  by_cases h3:n.kind=3
  ·rw[if_pos h3,fE]at h
   obtain⟨z,o,e⟩:=h
   have:=jla (fun m l y h=>bJ (jlb G f m l y h) (Nat.sub_le _ _)) 16 _ z o
   rw[<-e];exact this
  rw[if_neg h3]at h;rw[<-bO h];exact bL _
def RdAt(W:vW)(rb s left:Nat):Prop:=Blk W rb (.cells #[.pointer (some ⟨s,0,none⟩),.int .i64 (left:Int)] 192)
def jlC(W W':vW):Nat->Prop:=fun z=>W.heap.size<=z/\z < W'.heap.size
def RdO(W:vW)(rb s:Nat)(o:Option (PA × Nat))(e:Ending)(w':vW):Prop:=jae (fun z=>z=rb) W w'/\match o with
 | some (P,l)=>∃ T x,e=.returned (.tuple #[.iface T x,.bool true])/\PaAt P (.iface T x) (jlC W w') w'/\RdAt w' rb s l
 | none=>∃ v l,e=.returned (.tuple #[v,.bool false])/\(v=.nilIface\/∃ T x,v=.iface T x)/\RdAt w' rb s l
def jic(S:vT):Prop:=∀ x∈S,∃ n,jbs x.2.2.text n
section
attribute [local go_sem] Oper.semAt_some
def jgQ:vV:=.iface 28 (.int .i64 4)
theorem jhk(w:vW):vQ 20 #[.nilIface,jgQ] w fun e w'=>e=.returned (.bool false)/\w=w':=by
 unfold jgQ;have o:∀ w,(binOp .eql 55 .nilIface (.iface 28 (.int .i64 4))).run Tryz.prog w=.ok (.bool false) w:=fun w=>by kernel_rfl
 unfold vQ;go_in;go_wp2_with fail
 go_ret
 exact⟨rfl,rfl⟩
theorem jBr(w:vW):vQ 44 #[jgQ,jgQ,.bool true] w fun e w'=>e=.returned (.bool true)/\w=w':=by
 have o:∀ w,(binOp .eql 55 jgQ jgQ).run Tryz.prog w=.ok (.bool true) w:=fun w=>by kernel_rfl
 unfold jgQ at *;unfold vQ;go_in;go_wp2_with fail
 refine wp_loop_rounds 1 ?_;rw[rounds_succ];go_wp2_with fail
 go_ret
 exact⟨rfl,rfl⟩
theorem jkO(w:vW):vQ 20 #[jgQ,jgQ] w fun e w'=>e=.returned (.bool true)/\w=w':=by
 have A:=Hd (jBr w);have E:∀ w,(binOp .eql 55 jgQ .nilIface).run Tryz.prog w=.ok (.bool false) w:=fun w=>by kernel_rfl
 unfold jgQ at *;have J:∀ w,(callFunc 43 #[.iface 28 (.int .i64 4)]).run Tryz.prog w=.ok (.value (.iface 155 (.agg #[.pointer (some ⟨3,28,none⟩)]))) w:=fun w=>by kernel_rfl
 have H:∀ w,(callFunc 221 #[.agg #[.pointer (some ⟨3,28,none⟩)]]).run Tryz.prog w=.ok (.value (.bool true)) w:=fun w=>by kernel_rfl
 have K:=Tryz.isMethodComparable 421;unfold vQ;go_in;go_wp2_with fail
 refine A.o.mono ?_;rintro e w1 ⟨rfl,rfl⟩;go_wp2_with fail
 go_ret
 exact⟨rfl,rfl⟩
def jdB(S:vT)(r:vB):Bool:=(atL S r.data.toList).isSome
def KnR(w:vW)(S:vT)(rs:vM)(iv:vV)(wr:vW):Prop:=∃ i:Nat,i<=rs.length/\iv=.int .i64 i/\Ext w wr/\∀ r∈rs.take i,jdB S r=true
theorem jiJ(w:vW)(s bm:Nat)(room:Int)(S:vT)(hs:jaT w s bm room S)(v:vV)(rs:vM)(hv:RdS w v rs)(hn:rs.length<=1000) :
  vR 21 #[.pointer (some ⟨s,0,none⟩),v] w (if rs.all (jdB S)then .nilIface else jgQ):=by
 have HS:=Hd hs;have HV:=Hd hv
 obtain⟨a,c,rfl,X⟩:=hv.slice
 have a1:=Hd X;clear hs hv X;go_enter Tryz.func21,Tryz.ntmps21;go_wp2_with fail
 go_loopw [11] (fun iv wr=>KnR w S rs iv wr) (fun iv _=>rs.length - (intOf iv).toNat)
 case atStart=>exact⟨0,cD _,rfl,ExtR w,by simp⟩
 case round =>
  obtain⟨i,hi,rfl,K,E⟩:=hrel
  have O:=Hd K;have HA:=Hd E;clear K E
  by_cases hlt:i < rs.length
  ·have b1:(i:Int) < (rs.length:Int):=vO
   obtain⟨r,hr⟩:∃ r,rs[i]?=some r:=⟨_,bA hlt⟩
   obtain⟨b,o,rfl,A⟩:=a1.o i r hr
   have q1:=jaa A O.o;have e:=fun w2 (h:jaT w2 s bm room S)=>jjc w2 s bm room S r h;have HR:=Hd hr;clear A hr;cases hy:atL S r.data.toList with
   | none =>
    have hF:¬(rs.all (jdB S)=true):=by
     rw[fH];intro h
     have:=h r (bI HR.o)
     unfold jdB at this;rw[hy]at this;cases this
    rw[hy]at e;have H:=Hd e;clear e hy;go_wp2_with fail
    refine vH (H.o wr (HS.o.ext O.o)) fun w2 K=>?_;rw[show optV ((none:Option Nd5).map (·.2.2.text))=.tuple #[.string ⟨#[]⟩,.bool false]from rfl];have J:=Hd (O.o.trans K);go_wp2_with fail
    go_ret
    exact⟨rfl,J.o⟩
   | some y =>
    have Z:jdB S r=true:=by unfold jdB;rw[hy];rfl
    rw[hy]at e;have H:=Hd e;have a2:=Hd Z;clear e hy Z;go_wp2_with fail
    refine vH (H.o wr (HS.o.ext O.o)) fun w2 K=>?_;rw[show optV ((some y:Option Nd5).map (·.2.2.text))=.tuple #[.string y.2.2.text,.bool true]from rfl];have J:=Hd (O.o.trans K)
    obtain⟨tx,a0⟩:=vE y.2.2.text
    rw[<-a0];clear a0;have a4:i<=1000:=vO
    go_wp2_with fail
    go_roundw
    case rel=>exact⟨i+1,by omega,by go_num,J.o,by rw[bW,HR.o];intro x Q;rcases bU.1 Q with Q | Q;exact HA.o x Q;simp at Q;rw[Q];exact a2.o⟩
    case measure=>exact vJ
  ·have b1:¬(i:Int) < (rs.length:Int):=vO
   have a3:i=rs.length:=vO
   have hF:rs.all (jdB S)=true:=by
    rw[fH];have h:=HA.o;subst a3;rw[cL]at h;exact h
   clear HA;go_wp2_with fail
   go_ret
   exact⟨rfl,O.o⟩
theorem jl3(W:vW)(sv:vV)(r q)(n:jad)(hn:n.refs.length=16)(hr:r.size<=1000)(hq:cutN r=some q)(hh:jfi r q=none)(hi:∀ w,vR 84 #[.string r] w (.tuple #[n.V,.bool true])) :
  vR 47 #[sv,.string r] W (.tuple #[n.V,.nilIface]):=by
 have HQ:=Hd hq;have HH:=Hd hh;have HI:=Hd hi;have HN:=Hd hn;have X:=Hd (n.cells_len hn);clear hq hh hi hn;unfold vR vQ;go_in;go_wp2_with (refine jaj Tryz.allocNode rfl rfl ?_;intro W1 H J)
 refine vC (je3 W1 r q vO HQ.o) fun w2 E=>?_;rw[HH.o];unfold optV;have Z:=Hd (H.keeps E (fun h=>h));have a0:=Hd (J.trans E);clear E H J;go_wp2_with fail
 refine vC (HI.o w2) fun w3 E=>?_;have A:=Z.o.keeps E (fun h=>h);have a1:=Hd (a0.o.trans E);clear E;unfold jad.V;go_wp2_with (first |(refine jaj Tryz.allocNode rfl rfl ?_;intro W5 a2 K;refine jah (vs:=n.cells) rfl rfl rfl rfl a2 (by rw[X.o];rfl) (by rw[X.o];exact Tryz.szNode) n.one ?_;intro W6 a3 O;have Q:=(A.keeps K (fun h=>h)).keeps O (by have:=A.lt;omega)) |(refine jaf 103 (.tmp 8) rfl rfl _ _ rfl (jaq _ _ n HN.o a3) ?_) |(refine jah (vs:=n.cells) rfl rfl rfl rfl Q (by rw[X.o];rfl) (by rw[X.o];exact Tryz.szNode) n.one ?_;intro W8 a4 a5))
 refine bodyPost_ret (jaF rfl rfl rfl (jaw W8 _ n HN.o a4)) rfl ?_;have a6:Ext w3 W6:=K.trans' O (fun x hx e=>by have e:x=w3.heap.size:=e;omega)
 exact⟨rfl,(a1.o.trans a6).trans' a5 (fun x hx e=>by have e:x=W.heap.size:=e;omega)⟩
theorem jqt(W:vW)(s bm:Nat)(room:Int)(S:vT)(hs:jaT W s bm room S)(x t k:vB)(q)(f:Nat)(n:jad)(hg:jbS (InlD f) n)(ht:t=jaQ n)
  (hx:x.size<=1000) (hq:cutN x=some q) (hh:jfi x q=some k) (y:Nd5) (hy:atL S k.data.toList=some y) (hyt:y.2.2.text=t) :
  vR 47 #[.pointer (some ⟨s,0,none⟩),.string x] W (.tuple #[n.V,.nilIface]):=by
 have HS:=Hd hs;have HQ:=Hd hq;have HH:=Hd hh;have HT:=Hd ht;have HG:=Hd hg;have hn:=(hg.one (inlP f)).refs;have HN:=Hd hn;have HL:=Hd (n.cells_len hn);have E:=fun w (h:jaT w s bm room S)=>jjc w s bm room S k h;rw[hy]at E;have J:(some y).map (fun z:Nd5=>z.2.2.text)=some t:=by rw[<-hyt];rfl
 simp only[J]at E;have a3:=Hd E;clear hs hq hh ht hg hn hy hyt E J;go_enter Tryz.func47,Tryz.ntmps47;go_wp2_with (refine jaj Tryz.allocNode rfl rfl ?_;intro W1 K O)
 refine vC (je3 W1 x q vO HQ.o) fun w2 A=>?_;rw[HH.o];unfold optV;have Q:=Hd (K.keeps A (fun h=>h));have X:=Hd (O.trans A);clear A K O;go_wp2_with fail
 refine vC (a3.o w2 (HS.o.ext X.o)) fun w3 A=>?_;unfold optV;have Z:=Hd (Q.o.keeps A (fun h=>h));have a4:=Hd (X.o.trans A);clear A Q;go_wp2_with fail
 rw[HT.o];refine vC (jjT (inlP f) w3 n HG.o) fun w4 A=>?_;rw[<-HT.o];have H:=Z.o.keeps A (fun h=>h);have a5:=Hd (a4.o.trans A);clear A Z;unfold jad.V;go_wp2_with (first |(refine jaj Tryz.allocNode rfl rfl ?_;intro W5 a6 a1;refine jah (vs:=n.cells) rfl rfl rfl rfl a6 (by rw[HL.o];rfl) (by rw[HL.o];exact Tryz.szNode) n.one ?_;intro W6 a7 a2;have a0:=(H.keeps a1 (fun h=>h)).keeps a2 (by have:=H.lt;omega)) |(refine jaf 103 (.tmp 11) rfl rfl _ _ rfl (jaq _ _ n HN.o a7) ?_) |(refine jah (vs:=n.cells) rfl rfl rfl rfl a0 (by rw[HL.o];rfl) (by rw[HL.o];exact Tryz.szNode) n.one ?_;intro W8 a8 a9))
 refine bodyPost_ret (jaF rfl rfl rfl (jaw W8 _ n HN.o a8)) rfl ?_;have b0:Ext w4 W6:=a1.trans' a2 (fun x hx e=>by have e:x=w4.heap.size:=e;omega)
 exact⟨rfl,(a5.o.trans b0).trans' a9 (fun x hx e=>by have e:x=W.heap.size:=e;omega)⟩
theorem jnS(W:vW)(s bm:Nat)(room:Int)(S:vT)(hs:jaT W s bm room S)(x k:vB)(q)(hx:x.size<=1000)(hq:cutN x=some q)(hh:jfi x q=some k)(hy:atL S k.data.toList=none) :
  vR 47 #[.pointer (some ⟨s,0,none⟩),.string x] W (.tuple #[jaH.V,jgQ]):=by
 have HS:=Hd hs;have HQ:=Hd hq;have HH:=Hd hh;have A:=fun w (h:jaT w s bm room S)=>jjc w s bm room S k h;rw[hy]at A;have Q:=Hd A;clear hs hq hh hy A;go_enter Tryz.func47,Tryz.ntmps47;go_wp2_with (refine jaj Tryz.allocNode rfl rfl ?_;intro W1 H J)
 refine vC (je3 W1 x q vO HQ.o) fun w2 E=>?_;rw[HH.o];unfold optV;have K:=Hd (H.keeps E (fun h=>h));have O:=Hd (J.trans E);clear E H J;go_wp2_with fail
 refine vC (Q.o w2 (HS.o.ext O.o)) fun w3 E=>?_;rw[show optV ((none:Option Nd5).map (·.2.2.text))=.tuple #[.string ⟨#[]⟩,.bool false]from rfl];have X:=K.o.keeps E (fun h=>h);have Z:=Hd (O.o.trans E);clear E K;go_wp2_with (refine jah (vs:=jaH.cells) rfl rfl rfl rfl X rfl Tryz.szNode jaH.one ?_;intro W8 a0 a1)
 refine bodyPost_ret (jaF rfl rfl rfl (jaw W8 _ jaH rfl a0)) rfl ?_
 exact⟨rfl,Z.o.trans' a1 (fun x hx e=>by have e:x=W.heap.size:=e;omega)⟩
theorem joU(W:vW)(s bm:Nat)(room:Int)(S:vT)(hs:jaT W s bm room S){r:vB}{n:jad}(hr:jg0 S r (some n)) :
  vR 47 #[.pointer (some ⟨s,0,none⟩),.string r] W (.tuple #[n.V,.nilIface]):=by
 rcases hr with⟨d,m,hI,hm⟩ |⟨k,e,o,⟨_,h3⟩ |⟨y,m,h3,A,hm⟩⟩
 ·obtain rfl:=bO hm
  obtain⟨q,e,o⟩:=(inlP d).nohash _ _ hI
  exact jl3 W _ _ q n ((inlP d).refs _ _ hI) (by have:=(inlP d).small _ _ hI;omega) e o ((inlP d).inl _ _ hI)
 ·cases h3
 ·obtain rfl:=bO hm
  obtain⟨q,E,H⟩:=jdT k e
  obtain⟨A,g,J⟩:=A
  rw[o];refine jqt W s bm room S hs _ y.2.2.text k q g n J A ?_ E H y h3 rfl
  have:=jaN k
  omega
theorem jl2(W:vW)(s bm:Nat)(room:Int)(S:vT)(hs:jaT W s bm room S){r:vB}(hr:jg0 S r none) :
  vR 47 #[.pointer (some ⟨s,0,none⟩),.string r] W (.tuple #[jaH.V,jgQ]):=by
 rcases hr with⟨d,m,hI,hm⟩ |⟨k,h1,h2,⟨h3,_⟩ |⟨y,m,h3,h4,hm⟩⟩
 ·cases hm
 ·obtain⟨q,e,o⟩:=jdT k h1
  rw[h2];refine jnS W s bm room S hs _ k q ?_ e o h3
  have:=jaN k
  omega
 ·cases hm
end
