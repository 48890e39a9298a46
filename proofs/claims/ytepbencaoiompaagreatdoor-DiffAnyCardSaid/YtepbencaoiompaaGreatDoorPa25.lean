/- Lemmas; each is under no condition but those that it states. -/
import Derived.Test.YtepbencaoiompaaGreatDoorPa23
namespace Go.Proofs.YtepbencaoiompaaGreatDoor
set_option linter.unusedSimpArgs false
set_option linter.unusedVariables false
set_option maxRecDepth 100000
set_option maxHeartbeats 16000000
open Go Go.RowKit
def jks(w:vW)(e:Ending)(w':vW):Prop:=∃ v,e=.returned (.tuple #[.bool false,.string ⟨#[]⟩,.string ⟨#[]⟩,v])/\Ext w w'/\Fa1 w w' v
theorem Tryz.errNeNil(b:Nat):∀ w,(binOp .neq 89 (.iface 242 (.pointer (some ⟨b,0,none⟩))) .nilIface).run Tryz.prog w=.ok (.bool true) w:=fun w=>by kernel_rfl
theorem jsl(w:vW):vQ 132 #[.string ⟨#[]⟩] w (jks w):=by
 go_enter Tryz.func132,Tryz.ntmps132;go_wp2_with fail
 refine (jca w 0).mono ?_;rintro e w1 ⟨v,rfl,q,E⟩
 obtain⟨b,k,rfl,z⟩:=E
 have A:=Hd (bB q z);clear q z;go_wp2_with fail
 refine bodyPost_ret (v:=.tuple #[.bool false,.string ⟨#[]⟩,.string ⟨#[]⟩,.iface 242 (.pointer (some ⟨b,0,none⟩))]) (by simp[results,Tryz.results132,go_sem]) rfl ?_
 exact⟨_,rfl,A.o.1,b,k,rfl,A.o.2⟩
theorem jjq(w:vW)(s:vB)(n:Nat)(hs:s.size<=1000000000)(h0:0 < s.size)(hc2:(s[0].toNat:Int)=128+n)(hn:n<=55)(hle:s.size < 1+n):vQ 132 #[.string s] w (jks w):=by
 have K:(0:Int) < (s.size:Int):=vO
 have O:¬(s[0].toNat:Int) < 128:=vO
 have Q:(s[0].toNat:Int) < 192:=vO
 have X:¬(55:Int) < (n:Int):=vO
 have Z:(s.size:Int) - 1 < (n:Int):=vO
 have E:=ja4 h0;have e1:(s[0].toNat:Int) - 128=(n:Int):=vO
 clear hc2;go_enter Tryz.func132,Tryz.ntmps132;go_wp2_with fail
 refine (jca w s.size).mono ?_;rintro e w1 ⟨v,rfl,q,H⟩
 obtain⟨b,J,rfl,z⟩:=H
 have A:=Hd (bB q z);clear q z;go_wp2_with fail
 refine bodyPost_ret (v:=.tuple #[.bool false,.string ⟨#[]⟩,.string ⟨#[]⟩,.iface 242 (.pointer (some ⟨b,0,none⟩))]) (by simp[results,Tryz.results132,go_sem]) rfl ?_
 exact⟨_,rfl,A.o.1,b,J,rfl,A.o.2⟩
theorem jiy(w:vW)(s:vB)(k:Nat)(hs:s.size<=1000000000)(h0:0 < s.size)(hc2:(s[0].toNat:Int)=128+55+k)(hk:1<=k)(hk8:k<=8)(hL:lenB s (1+k)=none):vQ 132 #[.string s] w (jks w):=by
 have A:=Hd hL;clear hL
 obtain⟨f,E⟩:=vE (1+k)
 obtain⟨m,O⟩:=vE (55+k)
 have c0:(0:Int) < (s.size:Int):=vO
 have c2:¬(s[0].toNat:Int) < 128:=vO
 have c3:(s[0].toNat:Int) < 192:=vO
 have c4:¬(m:Int)<=55:=vO
 have Q:(55:Int) < (m:Int):=vO
 have X:=ja4 h0;have e1:(s[0].toNat:Int) - 128=(m:Int):=vO
 have e2:1+(m:Int) - 55=(f:Int):=vO
 have q:2<=f:=vO
 have z:f<=1000:=vO
 have Z:(m:Int)<=63:=vO
 have a0:(0:Int)<=(m:Int):=vO
 have a1:=Tryz.errNeNil;rw[<-E]at A;clear hc2 E O;go_enter Tryz.func132,Tryz.ntmps132;go_wp2_with fail
 refine (jmJ w s f hs q z A.o).mono ?_;rintro e w1 ⟨v,rfl,H,hF⟩
 obtain⟨b,kk,rfl,J⟩:=hF
 have K:=Hd (bB H J);clear H J;go_wp2_with fail
 refine bodyPost_ret (v:=.tuple #[.bool false,.string ⟨#[]⟩,.string ⟨#[]⟩,.iface 242 (.pointer (some ⟨b,0,none⟩))]) (by simp[results,Tryz.results132,go_sem]) rfl ?_
 exact⟨_,rfl,K.o.1,b,kk,rfl,K.o.2⟩
theorem jgA(w:vW)(s:vB)(k n:Nat)(hs:s.size<=1000000000)(h0:0 < s.size)(hc2:(s[0].toNat:Int)=128+55+k)(hk:1<=k)(hk8:k<=8)(hL:lenB s (1+k)=some n)(hle:s.size < 1+k+n):vQ 132 #[.string s] w (jks w):=by
 obtain⟨K,_,_,O,Q⟩:=jd4 hL
 have z:=Hd hL;clear hL
 obtain⟨f,A⟩:=vE (1+k)
 obtain⟨m,X⟩:=vE (55+k)
 have c0:(0:Int) < (s.size:Int):=vO
 have c2:¬(s[0].toNat:Int) < 128:=vO
 have c3:(s[0].toNat:Int) < 192:=vO
 have c4:¬(m:Int)<=55:=vO
 have Z:(55:Int) < (m:Int):=vO
 have c5:(s.size:Int) - (f:Int) < (n:Int):=vO
 have a0:=ja4 h0;have e1:(s[0].toNat:Int) - 128=(m:Int):=vO
 have e2:1+(m:Int) - 55=(f:Int):=vO
 have q:2<=f:=vO
 have a1:(m:Int)<=63:=vO
 have a2:(0:Int)<=(m:Int):=vO
 have a3:(f:Int)<=(s.size:Int):=vO
 rw[<-A]at z;clear hc2 A X hle;go_enter Tryz.func132,Tryz.ntmps132;go_wp2_with fail
 refine (jid w s f n hs q z.o).mono ?_;rintro e w1 ⟨rfl,rfl⟩;go_wp2_with fail
 refine (jca w s.size).mono ?_;rintro e w1 ⟨v,rfl,E,hF⟩
 obtain⟨b,kk,rfl,H⟩:=hF
 have J:=Hd (bB E H);clear E H;go_wp2_with fail
 refine bodyPost_ret (v:=.tuple #[.bool false,.string ⟨#[]⟩,.string ⟨#[]⟩,.iface 242 (.pointer (some ⟨b,0,none⟩))]) (by simp[results,Tryz.results132,go_sem]) rfl ?_
 exact⟨_,rfl,J.o.1,b,kk,rfl,J.o.2⟩
theorem jjp(w:vW)(s:vB)(n:Nat)(hs:s.size<=1000000000)(h0:0 < s.size)(hc2:(s[0].toNat:Int)=192+n)(hn:n<=55)(hle:s.size < 1+n):vQ 132 #[.string s] w (jks w):=by
 have K:(0:Int) < (s.size:Int):=vO
 have O:¬(s[0].toNat:Int) < 128:=vO
 have Q:¬(s[0].toNat:Int) < 192:=vO
 have X:¬(55:Int) < (n:Int):=vO
 have Z:(s.size:Int) - 1 < (n:Int):=vO
 have E:=ja4 h0;have e1:(s[0].toNat:Int) - 192=(n:Int):=vO
 clear hc2;go_enter Tryz.func132,Tryz.ntmps132;go_wp2_with fail
 refine (jca w s.size).mono ?_;rintro e w1 ⟨v,rfl,q,H⟩
 obtain⟨b,J,rfl,z⟩:=H
 have A:=Hd (bB q z);clear q z;go_wp2_with fail
 refine bodyPost_ret (v:=.tuple #[.bool false,.string ⟨#[]⟩,.string ⟨#[]⟩,.iface 242 (.pointer (some ⟨b,0,none⟩))]) (by simp[results,Tryz.results132,go_sem]) rfl ?_
 exact⟨_,rfl,A.o.1,b,J,rfl,A.o.2⟩
theorem jiw(w:vW)(s:vB)(k:Nat)(hs:s.size<=1000000000)(h0:0 < s.size)(hc2:(s[0].toNat:Int)=192+55+k)(hk:1<=k)(hk8:k<=8)(hL:lenB s (1+k)=none):vQ 132 #[.string s] w (jks w):=by
 have A:=Hd hL;clear hL
 obtain⟨f,E⟩:=vE (1+k)
 obtain⟨m,O⟩:=vE (55+k)
 have c0:(0:Int) < (s.size:Int):=vO
 have c2:¬(s[0].toNat:Int) < 128:=vO
 have c3:¬(s[0].toNat:Int) < 192:=vO
 have c4:¬(m:Int)<=55:=vO
 have Q:(55:Int) < (m:Int):=vO
 have X:=ja4 h0;have e1:(s[0].toNat:Int) - 192=(m:Int):=vO
 have e2:1+(m:Int) - 55=(f:Int):=vO
 have q:2<=f:=vO
 have z:f<=1000:=vO
 have Z:(m:Int)<=63:=vO
 have a0:(0:Int)<=(m:Int):=vO
 have a1:=Tryz.errNeNil;rw[<-E]at A;clear hc2 E O;go_enter Tryz.func132,Tryz.ntmps132;go_wp2_with fail
 refine (jmJ w s f hs q z A.o).mono ?_;rintro e w1 ⟨v,rfl,H,hF⟩
 obtain⟨b,kk,rfl,J⟩:=hF
 have K:=Hd (bB H J);clear H J;go_wp2_with fail
 refine bodyPost_ret (v:=.tuple #[.bool false,.string ⟨#[]⟩,.string ⟨#[]⟩,.iface 242 (.pointer (some ⟨b,0,none⟩))]) (by simp[results,Tryz.results132,go_sem]) rfl ?_
 exact⟨_,rfl,K.o.1,b,kk,rfl,K.o.2⟩
theorem jgz(w:vW)(s:vB)(k n:Nat)(hs:s.size<=1000000000)(h0:0 < s.size)(hc2:(s[0].toNat:Int)=192+55+k)(hk:1<=k)(hk8:k<=8)(hL:lenB s (1+k)=some n)(hle:s.size < 1+k+n):vQ 132 #[.string s] w (jks w):=by
 obtain⟨K,_,_,O,Q⟩:=jd4 hL
 have z:=Hd hL;clear hL
 obtain⟨f,A⟩:=vE (1+k)
 obtain⟨m,X⟩:=vE (55+k)
 have c0:(0:Int) < (s.size:Int):=vO
 have c2:¬(s[0].toNat:Int) < 128:=vO
 have c3:¬(s[0].toNat:Int) < 192:=vO
 have c4:¬(m:Int)<=55:=vO
 have Z:(55:Int) < (m:Int):=vO
 have c5:(s.size:Int) - (f:Int) < (n:Int):=vO
 have a0:=ja4 h0;have e1:(s[0].toNat:Int) - 192=(m:Int):=vO
 have e2:1+(m:Int) - 55=(f:Int):=vO
 have q:2<=f:=vO
 have a1:(m:Int)<=63:=vO
 have a2:(0:Int)<=(m:Int):=vO
 have a3:(f:Int)<=(s.size:Int):=vO
 rw[<-A]at z;clear hc2 A X hle;go_enter Tryz.func132,Tryz.ntmps132;go_wp2_with fail
 refine (jid w s f n hs q z.o).mono ?_;rintro e w1 ⟨rfl,rfl⟩;go_wp2_with fail
 refine (jca w s.size).mono ?_;rintro e w1 ⟨v,rfl,E,hF⟩
 obtain⟨b,kk,rfl,H⟩:=hF
 have J:=Hd (bB E H);clear E H;go_wp2_with fail
 refine bodyPost_ret (v:=.tuple #[.bool false,.string ⟨#[]⟩,.string ⟨#[]⟩,.iface 242 (.pointer (some ⟨b,0,none⟩))]) (by simp[results,Tryz.results132,go_sem]) rfl ?_
 exact⟨_,rfl,J.o.1,b,kk,rfl,J.o.2⟩
theorem jvf(w:vW)(s:vB)(hs:s.size<=1000000000)(h0:1 < s.size)(hc2:(s[0].toNat:Int)=128+1)(h1:(s[1].toNat:Int) < 128):vQ 132 #[.string s] w (jks w):=by
 have K:(0:Int) < (s.size:Int):=vO
 have O:(1:Int) < (s.size:Int):=vO
 have Q:¬(s[0].toNat:Int) < 128:=vO
 have X:(s[0].toNat:Int) < 192:=vO
 have Z:¬(s.size:Int) - 1 < 1:=vO
 have E:=ja4 (show 0 < s.size by omega);have e1:(s[0].toNat:Int) - 128=1:=vO
 clear hc2;go_enter Tryz.func132,Tryz.ntmps132;go_wp2_with fail
 refine (jca w 1).mono ?_;rintro e w1 ⟨v,rfl,q,H⟩
 obtain⟨b,J,rfl,z⟩:=H
 have A:=Hd (bB q z);clear q z;go_wp2_with fail
 refine bodyPost_ret (v:=.tuple #[.bool false,.string ⟨#[]⟩,.string ⟨#[]⟩,.iface 242 (.pointer (some ⟨b,0,none⟩))]) (by simp[results,Tryz.results132,go_sem]) rfl ?_
 exact⟨_,rfl,A.o.1,b,J,rfl,A.o.2⟩
section
attribute [local go_sem] Oper.semAt_some
theorem jxi(w:vW)(s:vB)(hs:s.size<=1000000000)(h:cutN s=none):vQ 132 #[.string s] w (jks w):=by
 unfold cutN at h
 by_cases h0:0 < s.size
 case neg =>
  have:s=⟨#[]⟩:=by
   have q:s.size=0:=vO
   obtain⟨⟨l⟩⟩:=s
   have:l=[]:=bG q
   rw[this]
  rw[this];exact jsl w
 rw[dif_pos h0]at h;simp only at h;have hb:=s[0].toNat_lt
 by_cases h1:s[0].toNat < 128
 ·rw[if_pos h1]at h;cases h
 rw[if_neg h1]at h
 by_cases h2:s[0].toNat < 192
 ·rw[if_pos h2]at h
  simp only at h
  by_cases h3:s[0].toNat - 128<=55
  ·rw[if_pos h3]at h
   split at h
   ·cases h
   rename_i e
   by_cases hsz:1+(s[0].toNat - 128)<=s.size
   ·have e:s[0].toNat - 128=1/\¬ 128<=(s.data.toList.getD 1 0).toNat:=by
     refine⟨Classical.byContradiction fun z=>e ⟨hsz,.inr (.inl z)⟩,fun z=>e ⟨hsz,.inr (.inr z)⟩⟩
    obtain⟨E,o⟩:=e
    have A:1 < s.size:=vO
    rw[bE,bA (by simpa using A)]at o;have H:¬ 128<=(s[1]'A).toNat:=o;exact jvf w s hs A vO vO
   ·exact jjq w s (s[0].toNat - 128) hs h0 vO h3 vO
  ·rw[if_neg h3]at h
   split at h
   ·rename_i n hl
    split at h
    ·cases h
    rename_i e
    exact jgA w s (s[0].toNat - 128 - 55) n hs h0 vO vO vO hl vO
   ·rename_i hl
    exact jiy w s (s[0].toNat - 128 - 55) hs h0 vO vO vO hl
 ·rw[if_neg h2]at h
  simp only at h
  by_cases h3:s[0].toNat - 192<=55
  ·rw[if_pos h3]at h
   split at h
   ·cases h
   rename_i e
   refine jjp w s (s[0].toNat - 192) hs h0 vO h3 ?_
   have:¬ 1+(s[0].toNat - 192)<=s.size:=fun q=>e ⟨q,.inl trivial⟩
   omega
  ·rw[if_neg h3]at h
   split at h
   ·rename_i n hl
    split at h
    ·cases h
    rename_i e
    exact jgz w s (s[0].toNat - 192 - 55) n hs h0 vO vO vO hl vO
   ·rename_i hl
    exact jiw w s (s[0].toNat - 192 - 55) hs h0 vO vO vO hl
theorem Tryz.noIsF(v:vV)(xT:TypeId)(w:vW):(Instr.typeAssert (.iface 242 v) xT 163 true).run Tryz.prog w=.ok (.tuple #[.nilIface,.bool false]) w:=run_typeAssert_lacksB Tryz.underlying163 vY vY v xT w
theorem Tryz.hasUnwrapF(v:vV)(xT:TypeId)(w:vW):(Instr.typeAssert (.iface 242 v) xT 166 true).run Tryz.prog w=.ok (.tuple #[.iface 242 v,.bool true]) w:=run_typeAssert_hasB Tryz.underlying166 vY v xT w
end
theorem Tryz.isMethodComparable(n:Nat)(v:vV)(w:vW):(Go.method (n+1) 161 v "Comparable").run Tryz.prog w=.ok (185,v) w:=vY
theorem Tryz.methodUnwrapF(n:Nat)(v:vV)(w:vW):(Go.method (n+1) 242 v "Unwrap").run Tryz.prog w=.ok (216,v) w:=vY
theorem jlH(w:vW)(b:Nat)(k:Int)(c:vV)(hB:Blk w b (.cells #[.int .i64 k,c] 244)):vQ 216 #[.pointer (some ⟨b,0,none⟩)] w fun e w'=>e=.returned c/\w=w':=by
 have o:=hB.cell (i:=1) (v:=c) vF;clear hB;go_enter Tryz.func216,Tryz.ntmps216;go_wp2_with fail
 go_ret
 exact⟨rfl,rfl⟩
theorem jBR(w:vW)(b:Nat)(k:Int)(hB:Blk w b (.cells #[.int .i64 k,malE] 244)):vQ 64 #[.iface 242 (.pointer (some ⟨b,0,none⟩)),malE,.bool true] w fun e w'=>e=.returned (.bool true)/\w=w':=by
 have q:=Hd hB;clear hB;have z:=fun w=>run_eql_iface_types (P:=Tryz.prog) 242 28 (.pointer (some ⟨b,0,none⟩)) (.int .i64 2) Tryz.underlying89 vI w;have A:∀ w,(binOp .eql 89 malE malE).run Tryz.prog w=.ok (.bool true) w:=fun w=>by kernel_rfl
 have E:∀ w,(binOp .eql 89 malE .nilIface).run Tryz.prog w=.ok (.bool false) w:=fun w=>by kernel_rfl
 unfold malE at *;have H:=Tryz.noIsF;have J:=Tryz.hasUnwrapF;have K:=Tryz.methodUnwrapF 403;go_enter Tryz.func64,Tryz.ntmps64;go_wp2_with fail
 refine wp_loop_rounds 2 ?_;rw[rounds_succ];go_wp2_with fail
 refine (jlH w b k _ q.o).mono ?_;rintro e w1 ⟨rfl,rfl⟩;go_wp2_with fail
 rw[rounds_succ];go_wp2_with fail
 go_ret
 exact⟨rfl,rfl⟩
theorem jvR(w:vW)(b:Nat)(k:Int)(hB:Blk w b (.cells #[.int .i64 k,malE] 244)):vQ 37 #[.iface 242 (.pointer (some ⟨b,0,none⟩)),malE] w fun e w'=>e=.returned (.bool true)/\w=w':=by
 have q:=Hd (jBR w b k hB);clear hB;have z:∀ w,(binOp .eql 89 (.iface 242 (.pointer (some ⟨b,0,none⟩))) .nilIface).run Tryz.prog w=.ok (.bool false) w:=fun w=>by kernel_rfl
 have A:∀ w,(binOp .eql 89 malE .nilIface).run Tryz.prog w=.ok (.bool false) w:=fun w=>by kernel_rfl
 unfold malE at *;have H:∀ w,(callFunc 63 #[.iface 28 (.int .i64 2)]).run Tryz.prog w=.ok (.value (.iface 161 (.agg #[.pointer (some ⟨3,28,none⟩)]))) w:=fun w=>by kernel_rfl
 have E:∀ w,(callFunc 185 #[.agg #[.pointer (some ⟨3,28,none⟩)]]).run Tryz.prog w=.ok (.value (.bool true)) w:=fun w=>by kernel_rfl
 have J:=Tryz.isMethodComparable 403;go_enter Tryz.func37,Tryz.ntmps37;go_wp2_with fail
 refine q.o.mono ?_;rintro e w1 ⟨rfl,rfl⟩;go_wp2_with fail
 go_ret
 exact⟨rfl,rfl⟩
section
attribute [local go_sem] Oper.semAt_some
theorem jp1(w:vW)(s:vB)(hs:s.size<=1000000000)(h:cutN s=none):vR 105 #[.string s] w (.tuple #[.bool false,.string ⟨#[]⟩,.string ⟨#[]⟩,.int .i64 2]):=by
 have A:=Hd (jxi w s hs h);clear h;go_enter Tryz.func105,Tryz.ntmps105;go_wp2_with fail
 refine A.o.mono ?_;rintro e w1 ⟨v,rfl,q,b,k,rfl,z,_⟩;have E:=Hd q;have H:=Hd z;clear q z;go_wp2_with fail
 refine (show vQ 37 #[.iface 242 (.pointer (some ⟨b,0,none⟩)),.iface 28 (.int .i64 2)] w1 fun e w'=>e=.returned (.bool true)/\w1=w' from jvR w1 b k H.o).mono ?_;rintro e J ⟨rfl,rfl⟩;go_wp2_with fail
 exact bodyPost_ret (v:=.tuple #[.bool false,.string ⟨#[]⟩,.string ⟨#[]⟩,.int .i64 2]) (by simp[results,Tryz.results105,go_sem]) rfl ⟨rfl,E.o⟩
theorem jpN(w:vW)(s:vB)(hs:s.size<=1000000000)(h:cutN s=none):vR 80 #[.string s] w (optV none):=by
 have z:=Hd (jp1 w s hs h);clear h;go_enter Tryz.func80,Tryz.ntmps80;go_wp2_with fail
 refine z.o.mono ?_;rintro e w1 ⟨rfl,q⟩;have A:=Hd q;clear q;go_wp2_with fail
 go_ret2
 exact⟨rfl,A.o⟩
def jek(s:vB):Option vB:=match cutN s with | some r=>jeF s r | none=>none
theorem jgR(w:vW)(s:vB)(hs:s.size<=1000000000):vR 80 #[.string s] w (optV (jek s)):=by
 unfold jek;cases h:cutN s with
 | none=>exact jpN w s hs h
 | some r=>exact jhy w s r hs h
theorem jys(w:vW)(s:vB)(hs:s.size<=1000000000)(h:cutN s=none):vR 51 #[.string s] w (optV none):=by
 have z:=Hd (jpN w s hs h);clear h;go_enter Tryz.func51,Tryz.ntmps51;go_wp2_with fail
 refine z.o.mono ?_;rintro e w1 ⟨rfl,q⟩;unfold optV;have A:=Hd q;clear q;go_wp2_with fail
 go_ret2
 exact⟨rfl,A.o⟩
def jgG(s:vB):Option vB:=match cutN s with | some r=>jfm s r | none=>none
theorem jdK(w:vW)(s:vB)(hs:s.size<=1000000000):vR 51 #[.string s] w (optV (jgG s)):=by
 unfold jgG;cases h:cutN s with
 | none=>exact jys w s hs h
 | some r=>exact jdE w s r hs h
end
def RdNo(w:vW)(e:Ending)(w':vW):Prop:=∃ m:jad,m.refs.length=16/\e=.returned (.tuple #[m.V,.bool false])/\Ext w w'
def juK(w:vW)(e:Ending)(w':vW):Prop:=e=.returned (.tuple #[jak.V,.int .i64 2])/\Ext w w'
theorem jfw(w:vW)(s:vB)(hs:s.size<=1000000000)(h:cutN s=none):vQ 74 #[.string s] w (RdNo w):=by
 obtain⟨em,q⟩:=vE (jaz ⟨#[]⟩)
 have A:s≠em:=fun e=>by
  obtain⟨o,h1,_⟩:=jix ⟨#[]⟩ vI
  rw[e,q,h1]at h;cases h
 have a1:=jb6 A;have K:=Hd q;have HS:=Hd (fun w=>jp1 w s hs h);have HZ:=Hd hs;clear q A h hs;go_enter Tryz.func74,Tryz.ntmps74;go_wp2_with (refine jah Tryz.allocNode rfl rfl ?_;intro W1 E H)
 refine vC (jcv _ ⟨#[]⟩ vI) fun w2 z=>?_;rw[<-K.o];have J:=Hd (E.keeps z (fun h=>h));have O:=Hd (H.trans z);clear E H z;go_wp2_with fail
 refine vC (HS.o w2) fun w3 z=>?_;have Q:=J.o.keeps z (fun h=>h);have X:=Hd (O.o.trans z);clear z J;go_wp2_with (refine jae (vs:=jak.cells) rfl rfl rfl rfl Q rfl Tryz.szNode (jad.one _) ?_;intro W8 Z a0)
 refine bodyPost_ret (jaj rfl rfl rfl (jai W8 _ jak rfl Z)) rfl ?_
 exact⟨jak,rfl,rfl,X.o.trans' a0 (fun x hx e=>by have e:x=w.heap.size:=e;omega)⟩
theorem jsL(w:vW)(s:vB)(h:∀ w,vQ 74 #[.string s] w (RdNo w)):vQ 43 #[.string s] w (juK w):=by
 have HR:=Hd h;clear h;go_enter Tryz.func43,Tryz.ntmps43;go_wp2_with (refine jah Tryz.allocNode rfl rfl ?_;intro W1 q z)
 refine (HR.o W1).mono ?_;rintro e w2 ⟨m,K,rfl,O⟩;have A:=q.keeps O (fun h=>h);have Q:=Hd (z.trans O);have HL:=Hd (m.cells_len K);have HM:=Hd K;clear q z O K;unfold jad.V;go_wp2_with (first |(refine jah Tryz.allocNode rfl rfl ?_;intro W3 X E;refine jae (vs:=m.cells) rfl rfl rfl rfl X (by rw[HL.o];rfl) (by rw[HL.o];exact Tryz.szNode) m.one ?_;intro W4 a2 H;have J:=(A.keeps E (fun h=>h)).keeps H (by have:=A.lt;omega)) |(refine jae (vs:=jak.cells) rfl rfl rfl rfl J rfl Tryz.szNode (jad.one _) ?_;intro W8 Z a0))
 refine bodyPost_ret (jaj rfl rfl rfl (jai W8 _ jak rfl Z)) rfl ?_;have a1:Ext w2 W4:=E.trans' H (fun x hx e=>by have e:x=w2.heap.size:=e;omega)
 exact⟨rfl,(Q.o.trans a1).trans' a0 (fun x hx e=>by have e:x=w.heap.size:=e;omega)⟩
theorem jAu(w:vW)(s:vB)(hs:s.size < 32)(h:∀ w,vQ 43 #[.string s] w (juK w)):vR 52 #[.string s] w (.tuple #[jak.V,.bool false]):=by
 have HR:=Hd h;have c1:¬(32:Int)<=(s.size:Int):=vO
 clear h;go_enter Tryz.func52,Tryz.ntmps52;go_wp2_with (refine jah Tryz.allocNode rfl rfl ?_;intro W1 q z)
 refine vC (HR.o W1) fun K O=>?_;have A:=q.keeps O (fun h=>h);have Q:=Hd (z.trans O);clear q z O;unfold jad.V;go_wp2_with (first |(refine jah Tryz.allocNode rfl rfl ?_;intro W3 X E;refine jae (vs:=jak.cells) rfl rfl rfl rfl X rfl Tryz.szNode jak.one ?_;intro W4 Z H;have q0:W4.cell? ⟨K.heap.size,0,none⟩=some (.int .i64 0):=Z.cellL vF;have J:=(A.keeps E (fun h=>h)).keeps H (by have:=A.lt;omega)) |(refine jae (vs:=jak.cells) rfl rfl rfl rfl J rfl Tryz.szNode (jad.one _) ?_;intro W8 a0 a1))
 refine bodyPost_ret (jaj rfl rfl rfl (jai W8 _ jak rfl a0)) rfl ?_;have a2:Ext K W4:=E.trans' H (fun x hx e=>by have e:x=K.heap.size:=e;omega)
 exact⟨rfl,(Q.o.trans a2).trans' a1 (fun x hx e=>by have e:x=w.heap.size:=e;omega)⟩
theorem jyu(w:vW)(s:vB)(hs:32<=s.size):vR 52 #[.string s] w (.tuple #[jak.V,.bool false]):=by
 have E:(32:Int)<=(s.size:Int):=vO
 go_enter Tryz.func52,Tryz.ntmps52;go_wp2_with (first |(refine jah Tryz.allocNode rfl rfl ?_;intro H o q) |(refine jae (vs:=jak.cells) rfl rfl rfl rfl o rfl Tryz.szNode (jad.one _) ?_;intro W8 z A))
 refine bodyPost_ret (jaj rfl rfl rfl (jai W8 _ jak rfl z)) rfl ?_
 exact⟨rfl,q.trans' A (fun x J e=>by have e:x=w.heap.size:=e;omega)⟩
theorem jso:cutN ⟨#[]⟩=none:=by decide +kernel
theorem jbR(w:vW):vR 52 #[.string ⟨#[]⟩] w (.tuple #[jak.V,.bool false]):=
 jAu w ⟨#[]⟩ vI fun w=>jsL w _ fun w=>jfw w _ vI jso
theorem jbs(w:vW):vR 51 #[.string ⟨#[]⟩] w (.tuple #[.string ⟨#[]⟩,.bool false]):=jdK w ⟨#[]⟩ vI
end Go.Proofs.YtepbencaoiompaaGreatDoor
