/- Lemmas; each is under no condition but those that it states. -/
import Derived.Test.YtmobgkphhbmhbaaGreatDoorPe24
namespace Go.Proofs.YtmobgkphhbmhbaaGreatDoor
set_option linter.unusedSimpArgs false
set_option linter.unusedVariables false
set_option maxRecDepth 100000
set_option maxHeartbeats 16000000
open Go Go.RowKit
def jjJ(w:vW)(e:Ending)(w':vW):Prop:=∃ v,e=.returned (.tuple #[.bool false,.string ⟨#[]⟩,.string ⟨#[]⟩,v])/\Ext w w'/\Fa1 w w' v
theorem Tryz.errNeNil(b:Nat):∀ w,(binOp .neq 106 (.iface 272 (.pointer (some ⟨b,0,none⟩))) .nilIface).run Tryz.prog w=.ok (.bool true) w:=fun w=>by kernel_rfl
theorem jqK(w:vW):vQ 178 #[.string ⟨#[]⟩] w (jjJ w):=by
 go_enter Tryz.func178,Tryz.ntmps178;go_wp2_with fail
 refine (jbN w 0).mono ?_;rintro e w1 ⟨v,rfl,q,H⟩
 obtain⟨b,k,rfl,z⟩:=H
 have E:=Hd (bB q z);clear q z;go_wp2_with fail
 refine bodyPost_ret (v:=.tuple #[.bool false,.string ⟨#[]⟩,.string ⟨#[]⟩,.iface 272 (.pointer (some ⟨b,0,none⟩))]) (by simp[results,Tryz.results178,go_sem]) rfl ?_
 exact⟨_,rfl,E.o.1,b,k,rfl,E.o.2⟩
theorem jiO(w:vW)(s:vB)(n:Nat)(hs:s.size<=1000000000)(h0:0 < s.size)(hc2:(s[0].toNat:Int)=128+n)(hn:n<=55)(hle:s.size < 1+n):vQ 178 #[.string s] w (jjJ w):=by
 have O:(0:Int) < (s.size:Int):=vO
 have Q:¬(s[0].toNat:Int) < 128:=vO
 have X:(s[0].toNat:Int) < 192:=vO
 have Z:¬(55:Int) < (n:Int):=vO
 have c5:(s.size:Int) - 1 < (n:Int):=vO
 have H:=jbe h0;have e1:(s[0].toNat:Int) - 128=(n:Int):=vO
 clear hc2;go_enter Tryz.func178,Tryz.ntmps178;go_wp2_with fail
 refine (jbN w s.size).mono ?_;rintro e w1 ⟨v,rfl,q,J⟩
 obtain⟨b,K,rfl,z⟩:=J
 have E:=Hd (bB q z);clear q z;go_wp2_with fail
 refine bodyPost_ret (v:=.tuple #[.bool false,.string ⟨#[]⟩,.string ⟨#[]⟩,.iface 272 (.pointer (some ⟨b,0,none⟩))]) (by simp[results,Tryz.results178,go_sem]) rfl ?_
 exact⟨_,rfl,E.o.1,b,K,rfl,E.o.2⟩
theorem jhY(w:vW)(s:vB)(k:Nat)(hs:s.size<=1000000000)(h0:0 < s.size)(hc2:(s[0].toNat:Int)=128+55+k)(hk:1<=k)(hk8:k<=8)(hL:lenB s (1+k)=none):vQ 178 #[.string s] w (jjJ w):=by
 have E:=Hd hL;clear hL
 obtain⟨f,H⟩:=vE (1+k)
 obtain⟨m,Q⟩:=vE (55+k)
 have c0:(0:Int) < (s.size:Int):=vO
 have c2:¬(s[0].toNat:Int) < 128:=vO
 have c3:(s[0].toNat:Int) < 192:=vO
 have c4:¬(m:Int)<=55:=vO
 have X:(55:Int) < (m:Int):=vO
 have Z:=jbe h0;have e1:(s[0].toNat:Int) - 128=(m:Int):=vO
 have e2:1+(m:Int) - 55=(f:Int):=vO
 have q:2<=f:=vO
 have z:f<=1000:=vO
 have a0:(m:Int)<=63:=vO
 have a1:(0:Int)<=(m:Int):=vO
 have a2:=Tryz.errNeNil;rw[<-H]at E;clear hc2 H Q;go_enter Tryz.func178,Tryz.ntmps178;go_wp2_with fail
 refine (jly w s f hs q z E.o).mono ?_;rintro e w1 ⟨v,rfl,J,hF⟩
 obtain⟨b,kk,rfl,K⟩:=hF
 have O:=Hd (bB J K);clear J K;go_wp2_with fail
 refine bodyPost_ret (v:=.tuple #[.bool false,.string ⟨#[]⟩,.string ⟨#[]⟩,.iface 272 (.pointer (some ⟨b,0,none⟩))]) (by simp[results,Tryz.results178,go_sem]) rfl ?_
 exact⟨_,rfl,O.o.1,b,kk,rfl,O.o.2⟩
theorem jgj(w:vW)(s:vB)(k n:Nat)(hs:s.size<=1000000000)(h0:0 < s.size)(hc2:(s[0].toNat:Int)=128+55+k)(hk:1<=k)(hk8:k<=8)(hL:lenB s (1+k)=some n)(hle:s.size < 1+k+n):vQ 178 #[.string s] w (jjJ w):=by
 obtain⟨O,_,_,Q,X⟩:=jeb hL
 have z:=Hd hL;clear hL
 obtain⟨f,E⟩:=vE (1+k)
 obtain⟨m,Z⟩:=vE (55+k)
 have c0:(0:Int) < (s.size:Int):=vO
 have c2:¬(s[0].toNat:Int) < 128:=vO
 have c3:(s[0].toNat:Int) < 192:=vO
 have c4:¬(m:Int)<=55:=vO
 have a0:(55:Int) < (m:Int):=vO
 have c5:(s.size:Int) - (f:Int) < (n:Int):=vO
 have a1:=jbe h0;have e1:(s[0].toNat:Int) - 128=(m:Int):=vO
 have e2:1+(m:Int) - 55=(f:Int):=vO
 have q:2<=f:=vO
 have a2:(m:Int)<=63:=vO
 have a3:(0:Int)<=(m:Int):=vO
 have a4:(f:Int)<=(s.size:Int):=vO
 rw[<-E]at z;clear hc2 E Z hle;go_enter Tryz.func178,Tryz.ntmps178;go_wp2_with fail
 refine (jhG w s f n hs q z.o).mono ?_;rintro e w1 ⟨rfl,rfl⟩;go_wp2_with fail
 refine (jbN w s.size).mono ?_;rintro e w1 ⟨v,rfl,H,hF⟩
 obtain⟨b,kk,rfl,J⟩:=hF
 have K:=Hd (bB H J);clear H J;go_wp2_with fail
 refine bodyPost_ret (v:=.tuple #[.bool false,.string ⟨#[]⟩,.string ⟨#[]⟩,.iface 272 (.pointer (some ⟨b,0,none⟩))]) (by simp[results,Tryz.results178,go_sem]) rfl ?_
 exact⟨_,rfl,K.o.1,b,kk,rfl,K.o.2⟩
theorem jiN(w:vW)(s:vB)(n:Nat)(hs:s.size<=1000000000)(h0:0 < s.size)(hc2:(s[0].toNat:Int)=192+n)(hn:n<=55)(hle:s.size < 1+n):vQ 178 #[.string s] w (jjJ w):=by
 have O:(0:Int) < (s.size:Int):=vO
 have Q:¬(s[0].toNat:Int) < 128:=vO
 have X:¬(s[0].toNat:Int) < 192:=vO
 have Z:¬(55:Int) < (n:Int):=vO
 have c5:(s.size:Int) - 1 < (n:Int):=vO
 have H:=jbe h0;have e1:(s[0].toNat:Int) - 192=(n:Int):=vO
 clear hc2;go_enter Tryz.func178,Tryz.ntmps178;go_wp2_with fail
 refine (jbN w s.size).mono ?_;rintro e w1 ⟨v,rfl,q,J⟩
 obtain⟨b,K,rfl,z⟩:=J
 have E:=Hd (bB q z);clear q z;go_wp2_with fail
 refine bodyPost_ret (v:=.tuple #[.bool false,.string ⟨#[]⟩,.string ⟨#[]⟩,.iface 272 (.pointer (some ⟨b,0,none⟩))]) (by simp[results,Tryz.results178,go_sem]) rfl ?_
 exact⟨_,rfl,E.o.1,b,K,rfl,E.o.2⟩
theorem jhX(w:vW)(s:vB)(k:Nat)(hs:s.size<=1000000000)(h0:0 < s.size)(hc2:(s[0].toNat:Int)=192+55+k)(hk:1<=k)(hk8:k<=8)(hL:lenB s (1+k)=none):vQ 178 #[.string s] w (jjJ w):=by
 have E:=Hd hL;clear hL
 obtain⟨f,H⟩:=vE (1+k)
 obtain⟨m,Q⟩:=vE (55+k)
 have c0:(0:Int) < (s.size:Int):=vO
 have c2:¬(s[0].toNat:Int) < 128:=vO
 have c3:¬(s[0].toNat:Int) < 192:=vO
 have c4:¬(m:Int)<=55:=vO
 have X:(55:Int) < (m:Int):=vO
 have Z:=jbe h0;have e1:(s[0].toNat:Int) - 192=(m:Int):=vO
 have e2:1+(m:Int) - 55=(f:Int):=vO
 have q:2<=f:=vO
 have z:f<=1000:=vO
 have a0:(m:Int)<=63:=vO
 have a1:(0:Int)<=(m:Int):=vO
 have a2:=Tryz.errNeNil;rw[<-H]at E;clear hc2 H Q;go_enter Tryz.func178,Tryz.ntmps178;go_wp2_with fail
 refine (jly w s f hs q z E.o).mono ?_;rintro e w1 ⟨v,rfl,J,hF⟩
 obtain⟨b,kk,rfl,K⟩:=hF
 have O:=Hd (bB J K);clear J K;go_wp2_with fail
 refine bodyPost_ret (v:=.tuple #[.bool false,.string ⟨#[]⟩,.string ⟨#[]⟩,.iface 272 (.pointer (some ⟨b,0,none⟩))]) (by simp[results,Tryz.results178,go_sem]) rfl ?_
 exact⟨_,rfl,O.o.1,b,kk,rfl,O.o.2⟩
theorem jgi(w:vW)(s:vB)(k n:Nat)(hs:s.size<=1000000000)(h0:0 < s.size)(hc2:(s[0].toNat:Int)=192+55+k)(hk:1<=k)(hk8:k<=8)(hL:lenB s (1+k)=some n)(hle:s.size < 1+k+n):vQ 178 #[.string s] w (jjJ w):=by
 obtain⟨O,_,_,Q,X⟩:=jeb hL
 have z:=Hd hL;clear hL
 obtain⟨f,E⟩:=vE (1+k)
 obtain⟨m,Z⟩:=vE (55+k)
 have c0:(0:Int) < (s.size:Int):=vO
 have c2:¬(s[0].toNat:Int) < 128:=vO
 have c3:¬(s[0].toNat:Int) < 192:=vO
 have c4:¬(m:Int)<=55:=vO
 have a0:(55:Int) < (m:Int):=vO
 have c5:(s.size:Int) - (f:Int) < (n:Int):=vO
 have a1:=jbe h0;have e1:(s[0].toNat:Int) - 192=(m:Int):=vO
 have e2:1+(m:Int) - 55=(f:Int):=vO
 have q:2<=f:=vO
 have a2:(m:Int)<=63:=vO
 have a3:(0:Int)<=(m:Int):=vO
 have a4:(f:Int)<=(s.size:Int):=vO
 rw[<-E]at z;clear hc2 E Z hle;go_enter Tryz.func178,Tryz.ntmps178;go_wp2_with fail
 refine (jhG w s f n hs q z.o).mono ?_;rintro e w1 ⟨rfl,rfl⟩;go_wp2_with fail
 refine (jbN w s.size).mono ?_;rintro e w1 ⟨v,rfl,H,hF⟩
 obtain⟨b,kk,rfl,J⟩:=hF
 have K:=Hd (bB H J);clear H J;go_wp2_with fail
 refine bodyPost_ret (v:=.tuple #[.bool false,.string ⟨#[]⟩,.string ⟨#[]⟩,.iface 272 (.pointer (some ⟨b,0,none⟩))]) (by simp[results,Tryz.results178,go_sem]) rfl ?_
 exact⟨_,rfl,K.o.1,b,kk,rfl,K.o.2⟩
theorem jtv(w:vW)(s:vB)(hs:s.size<=1000000000)(h0:1 < s.size)(hc2:(s[0].toNat:Int)=128+1)(h1:(s[1].toNat:Int) < 128):vQ 178 #[.string s] w (jjJ w):=by
 have O:(0:Int) < (s.size:Int):=vO
 have Q:(1:Int) < (s.size:Int):=vO
 have X:¬(s[0].toNat:Int) < 128:=vO
 have Z:(s[0].toNat:Int) < 192:=vO
 have c5:¬(s.size:Int) - 1 < 1:=vO
 have H:=jbe (show 0 < s.size by omega);have e1:(s[0].toNat:Int) - 128=1:=vO
 clear hc2;go_enter Tryz.func178,Tryz.ntmps178;go_wp2_with fail
 refine (jbN w 1).mono ?_;rintro e w1 ⟨v,rfl,q,J⟩
 obtain⟨b,K,rfl,z⟩:=J
 have E:=Hd (bB q z);clear q z;go_wp2_with fail
 refine bodyPost_ret (v:=.tuple #[.bool false,.string ⟨#[]⟩,.string ⟨#[]⟩,.iface 272 (.pointer (some ⟨b,0,none⟩))]) (by simp[results,Tryz.results178,go_sem]) rfl ?_
 exact⟨_,rfl,E.o.1,b,K,rfl,E.o.2⟩
section
attribute [local go_sem] Oper.semAt_some
theorem jxW(w:vW)(s:vB)(hs:s.size<=1000000000)(h:cutN s=none):vQ 178 #[.string s] w (jjJ w):=by
 unfold cutN at h
 by_cases h0:0 < s.size
 case neg =>
  have:s=⟨#[]⟩:=by
   have q:s.size=0:=vO
   obtain⟨⟨l⟩⟩:=s
   have:l=[]:=bE q
   rw[this]
  rw[this];exact jqK w
 rw[dif_pos h0]at h;simp only at h;have hb:=s[0].toNat_lt
 by_cases h1:s[0].toNat < 128
 ·rw[if_pos h1]at h;cases h
 rw[if_neg h1]at h
 by_cases h2:s[0].toNat < 192
 ·rw[if_pos h2]at h
  simp only at h
  by_cases h3:s[0].toNat - 128<=55
  ·rw[if_pos h3]at h
   split at h
   ·cases h
   rename_i e
   by_cases hsz:1+(s[0].toNat - 128)<=s.size
   ·have e:s[0].toNat - 128=1/\¬ 128<=(s.data.toList.getD 1 0).toNat:=by
     refine⟨Classical.byContradiction fun z=>e ⟨hsz,.inr (.inl z)⟩,fun z=>e ⟨hsz,.inr (.inr z)⟩⟩
    obtain⟨H,o⟩:=e
    have E:1 < s.size:=vO
    rw[bH,bA (by simpa using E)]at o;have J:¬ 128<=(s[1]'E).toNat:=o;exact jtv w s hs E vO vO
   ·exact jiO w s (s[0].toNat - 128) hs h0 vO h3 vO
  ·rw[if_neg h3]at h
   split at h
   ·rename_i n hl
    split at h
    ·cases h
    rename_i e
    exact jgj w s (s[0].toNat - 128 - 55) n hs h0 vO vO vO hl vO
   ·rename_i hl
    exact jhY w s (s[0].toNat - 128 - 55) hs h0 vO vO vO hl
 ·rw[if_neg h2]at h
  simp only at h
  by_cases h3:s[0].toNat - 192<=55
  ·rw[if_pos h3]at h
   split at h
   ·cases h
   rename_i e
   refine jiN w s (s[0].toNat - 192) hs h0 vO h3 ?_
   have:¬ 1+(s[0].toNat - 192)<=s.size:=fun q=>e ⟨q,.inl trivial⟩
   omega
  ·rw[if_neg h3]at h
   split at h
   ·rename_i n hl
    split at h
    ·cases h
    rename_i e
    exact jgi w s (s[0].toNat - 192 - 55) n hs h0 vO vO vO hl vO
   ·rename_i hl
    exact jhX w s (s[0].toNat - 192 - 55) hs h0 vO vO vO hl
theorem Tryz.noIsF(v:vV)(xT:TypeId)(w:vW):(Instr.typeAssert (.iface 272 v) xT 195 true).run Tryz.prog w=.ok (.tuple #[.nilIface,.bool false]) w:=run_typeAssert_lacksB Tryz.underlying195 vY vY v xT w
theorem Tryz.hasUnwrapF(v:vV)(xT:TypeId)(w:vW):(Instr.typeAssert (.iface 272 v) xT 198 true).run Tryz.prog w=.ok (.tuple #[.iface 272 v,.bool true]) w:=run_typeAssert_hasB Tryz.underlying198 vY v xT w
end
theorem Tryz.isMethodComparable(n:Nat)(v:vV)(w:vW):(Go.method (n+1) 193 v "Comparable").run Tryz.prog w=.ok (251,v) w:=vY
theorem Tryz.methodUnwrapF(n:Nat)(v:vV)(w:vW):(Go.method (n+1) 272 v "Unwrap").run Tryz.prog w=.ok (282,v) w:=vY
theorem juW(w:vW)(b:Nat)(k:Int)(c:vV)(hB:Blk w b (.cells #[.int .i64 k,c] 274)):vQ 282 #[.pointer (some ⟨b,0,none⟩)] w fun e w'=>e=.returned c/\w=w':=by
 have o:=hB.cell (i:=1) (v:=c) vF;clear hB;go_enter Tryz.func282,Tryz.ntmps282;go_wp2_with fail
 go_ret
 exact⟨rfl,rfl⟩
theorem jzl(w:vW)(b:Nat)(k:Int)(hB:Blk w b (.cells #[.int .i64 k,malE] 274)):vQ 92 #[.iface 272 (.pointer (some ⟨b,0,none⟩)),malE,.bool true] w fun e w'=>e=.returned (.bool true)/\w=w':=by
 have q:=Hd hB;clear hB;have z:=fun w=>run_eql_iface_types (P:=Tryz.prog) 272 28 (.pointer (some ⟨b,0,none⟩)) (.int .i64 2) Tryz.underlying106 vI w;have E:∀ w,(binOp .eql 106 malE malE).run Tryz.prog w=.ok (.bool true) w:=fun w=>by kernel_rfl
 have H:∀ w,(binOp .eql 106 malE .nilIface).run Tryz.prog w=.ok (.bool false) w:=fun w=>by kernel_rfl
 unfold malE at *;have J:=Tryz.noIsF;have K:=Tryz.hasUnwrapF;have O:=Tryz.methodUnwrapF 437;go_enter Tryz.func92,Tryz.ntmps92;go_wp2_with fail
 refine wp_loop_rounds 2 ?_;rw[rounds_succ];go_wp2_with fail
 refine (juW w b k _ q.o).mono ?_;rintro e w1 ⟨rfl,rfl⟩;go_wp2_with fail
 rw[rounds_succ];go_wp2_with fail
 go_ret
 exact⟨rfl,rfl⟩
theorem jt3(w:vW)(b:Nat)(k:Int)(hB:Blk w b (.cells #[.int .i64 k,malE] 274)):vQ 56 #[.iface 272 (.pointer (some ⟨b,0,none⟩)),malE] w fun e w'=>e=.returned (.bool true)/\w=w':=by
 have q:=Hd (jzl w b k hB);clear hB;have z:∀ w,(binOp .eql 106 (.iface 272 (.pointer (some ⟨b,0,none⟩))) .nilIface).run Tryz.prog w=.ok (.bool false) w:=fun w=>by kernel_rfl
 have E:∀ w,(binOp .eql 106 malE .nilIface).run Tryz.prog w=.ok (.bool false) w:=fun w=>by kernel_rfl
 unfold malE at *;have J:∀ w,(callFunc 91 #[.iface 28 (.int .i64 2)]).run Tryz.prog w=.ok (.value (.iface 193 (.agg #[.pointer (some ⟨3,28,none⟩)]))) w:=fun w=>by kernel_rfl
 have H:∀ w,(callFunc 251 #[.agg #[.pointer (some ⟨3,28,none⟩)]]).run Tryz.prog w=.ok (.value (.bool true)) w:=fun w=>by kernel_rfl
 have K:=Tryz.isMethodComparable 437;go_enter Tryz.func56,Tryz.ntmps56;go_wp2_with fail
 refine q.o.mono ?_;rintro e w1 ⟨rfl,rfl⟩;go_wp2_with fail
 go_ret
 exact⟨rfl,rfl⟩
section
attribute [local go_sem] Oper.semAt_some
theorem juO(w:vW)(s:vB)(hs:s.size<=1000000000)(h:cutN s=none):vR 151 #[.string s] w (.tuple #[.bool false,.string ⟨#[]⟩,.string ⟨#[]⟩,.int .i64 2]):=by
 have E:=Hd (jxW w s hs h);clear h;go_enter Tryz.func151,Tryz.ntmps151;go_wp2_with fail
 refine E.o.mono ?_;rintro e w1 ⟨v,rfl,q,b,k,rfl,z,_⟩;have H:=Hd q;have J:=Hd z;clear q z;go_wp2_with fail
 refine (show vQ 56 #[.iface 272 (.pointer (some ⟨b,0,none⟩)),.iface 28 (.int .i64 2)] w1 fun e w'=>e=.returned (.bool true)/\w1=w' from jt3 w1 b k J.o).mono ?_;rintro e K ⟨rfl,rfl⟩;go_wp2_with fail
 exact bodyPost_ret (v:=.tuple #[.bool false,.string ⟨#[]⟩,.string ⟨#[]⟩,.int .i64 2]) (by simp[results,Tryz.results151,go_sem]) rfl ⟨rfl,H.o⟩
theorem jut(w:vW)(s:vB)(hs:s.size<=1000000000)(h:cutN s=none):vR 125 #[.string s] w (optV none):=by
 have z:=Hd (juO w s hs h);clear h;go_enter Tryz.func125,Tryz.ntmps125;go_wp2_with fail
 refine z.o.mono ?_;rintro e w1 ⟨rfl,q⟩;have E:=Hd q;clear q;go_wp2_with fail
 go_ret2
 exact⟨rfl,E.o⟩
theorem jwg(w:vW)(s:vB)(hs:s.size<=1000000000)(h:cutN s=none):vR 87 #[.string s] w (optV none):=by
 have z:=Hd (jut w s hs h);clear h;go_enter Tryz.func87,Tryz.ntmps87;go_wp2_with fail
 refine z.o.mono ?_;rintro e w1 ⟨rfl,q⟩;unfold optV;have E:=Hd q;clear q;go_wp2_with fail
 go_ret2
 exact⟨rfl,E.o⟩
def jjZ(s:vB):Option vB:=match cutN s with | some r=>jeX s r | none=>none
theorem jhD(w:vW)(s:vB)(hs:s.size<=1000000000):vR 87 #[.string s] w (optV (jjZ s)):=by
 unfold jjZ;cases h:cutN s with
 | none=>exact jwg w s hs h
 | some r=>exact jeM w s r hs h
end
def jxk(w:vW)(e:Ending)(w':vW):Prop:=e=.returned (.tuple #[jaV.V,.int .i64 2])/\Ext w w'
section
attribute [local go_sem] Oper.semAt_some
theorem jxM(W:vW)(s bm:Nat)(room:Int)(S:vT)(hs:jaz W s bm room S)(u:vV)(k:vB)(hH:atL S k.data.toList=none) :
  vR 85 #[.pointer (some ⟨s,0,none⟩),.string k,u] W (.tuple #[jaV.V,.bool false]):=by
 have q:=fun w (h:jaz w s bm room S)=>jiD w s bm room S k h;rw[hH]at q;simp only[Option.map_none,optV]at q;have H:=Hd q;have Z:=Hd hs;clear q hs hH;go_enter Tryz.func85,Tryz.ntmps85;go_wp2_with (refine jal Tryz.allocNode rfl rfl ?_;intro W1 E z)
 refine vC (H.o W1 (Z.o.ext z)) fun w3 J=>?_;have K:=E.keeps J (fun h=>h);have O:=Hd (z.trans J);clear J E z;go_wp2_with (refine jah (vs:=jaV.cells) rfl rfl rfl rfl K rfl Tryz.szNode jaV.one ?_;intro W8 Q X)
 refine bodyPost_ret (jaP rfl rfl rfl (jaH W8 _ jaV rfl Q)) rfl ?_
 exact⟨rfl,O.o.trans' X (fun x hx e=>by have e:x=W.heap.size:=e;omega)⟩
end
noncomputable def inlOf(r:vB):jae:=@dite _ (∃ m d,InlD d r m) (Classical.propDecidable _) (fun h=>h.choose) (fun _=>jaV)
theorem jt2(w:vW){d g:Nat}{r:vB}{m n:jae}(h:InlD d r m)(k:InlD g r n):m=n:=by
 cases d with
 | zero=>exact h.elim
 | succ d =>
  cases g with
  | zero=>exact k.elim
  | succ g=>exact jdd w h.1 k.1 (h.2.1.symm.trans k.2.1)
theorem jn2(w:vW){d:Nat}{r:vB}{m:jae}(h:InlD d r m):inlOf r=m:=by
 have e:∃ m d,InlD d r m:=⟨m,d,h⟩;unfold inlOf;rw[dif_pos e]
 obtain⟨g,o⟩:=e.choose_spec
 exact jt2 w o h
noncomputable def gRef(S:vT)(r:vB):Option jae:=match jcA r with
 | some h=>(atL S h.data.toList).map fun x=>nodeOf x.2.2.text
 | none=>some (inlOf r)
def je7(R:jae->Nat->Option (PA × Nat))(G:vB->Option jae)(rs:vM):Nat->Nat->Option ((Nat->PA) × Nat)
 | 0,left=>some (fun _=>.nil,left)
 | k+1,left=>(je7 R G rs k left).bind fun x=>if (rs.getD k ⟨#[]⟩).size=0 then some x else (G (rs.getD k ⟨#[]⟩)).bind fun m=>(R m x.2).map fun y=>(setK x.1 k y.1,y.2)
def jbP(G:vB->Option jae):Nat->jae->Nat->Option (PA × Nat)
 | 0,_,_=>none
 | f+1,n,left=>if left=0 then none
  else if n.kind=1 then some (.leaf n.path n.value,left - 1)
  else if n.kind=2 then (G (n.refs.getD 0 ⟨#[]⟩)).bind fun m=>(jbP G f m (left - 1)).map fun x=>(.ext n.path x.1,x.2)
  else if n.kind=3 then (je7 (jbP G f) G n.refs 16 (left - 1)).map fun x=>(.br n.value x.1,x.2)
  else some (.no,left - 1)
theorem jjy(G:vB->Option jae)(f:Nat)(n:jae):jbP G f n 0=none:=by
 cases f with
 | zero=>rfl
 | succ f=>rfl
theorem jfx(R:jae->Nat->Option (PA × Nat))(G:vB->Option jae)(rs:vM)(k left:Nat):je7 R G rs (k+1) left=(je7 R G rs k left).bind fun x=>if (rs.getD k ⟨#[]⟩).size=0 then some x else (G (rs.getD k ⟨#[]⟩)).bind fun m=>(R m x.2).map fun y=>(setK x.1 k y.1,y.2):=rfl
theorem jek(G:vB->Option jae)(f:Nat)(n:jae)(left:Nat):jbP G (f+1) n left=if left=0 then none
  else if n.kind=1 then some (.leaf n.path n.value,left - 1)
  else if n.kind=2 then (G (n.refs.getD 0 ⟨#[]⟩)).bind fun m=>(jbP G f m (left - 1)).map fun x=>(.ext n.path x.1,x.2)
  else if n.kind=3 then (je7 (jbP G f) G n.refs 16 (left - 1)).map fun x=>(.br n.value x.1,x.2)
  else some (.no,left - 1):=rfl
theorem jkq{R:jae->Nat->Option (PA × Nat)}{G:vB->Option jae}{rs:vM}(hR:∀ m l y,R m l=some y->y.2<=l):∀ (k left:Nat) (x:(Nat->PA) × Nat),je7 R G rs k left=some x->x.2<=left
 | 0,left,x,h=>by
  have h:some ((fun _=>PA.nil),left)=some x:=h;rw[<-bV h];exact bM _
 | k+1,left,x,h=>by
  rw[jfx,Option.bind_eq_some_iff]at h
  obtain⟨y,q,h⟩:=h
  have o:=jkq hR k left y q
  by_cases h0:(rs.getD k ⟨#[]⟩).size=0
  ·rw[if_pos h0]at h
   rw[<-bV h];exact o
  ·rw[if_neg h0,Option.bind_eq_some_iff]at h
   obtain⟨m,_,h⟩:=h
   rw[fA]at h
   obtain⟨z,E,e⟩:=h
   have:=hR m y.2 z E
   rw[<-e];exact bL this o
theorem jkr(G:vB->Option jae):∀ (f:Nat) (n:jae) (left:Nat) (y:PA × Nat),jbP G f n left=some y->y.2<=left - 1
 | 0,_,_,_,h=>by cases h
 | f+1,n,left,y,h=>by
  rw[jek]at h
  by_cases h0:left=0
  ·rw[if_pos h0]at h;cases h
  rw[if_neg h0]at h
  by_cases h1:n.kind=1
  ·rw[if_pos h1]at h
   rw[<-bV h];exact bM _
  rw[if_neg h1]at h
  by_cases h2:n.kind=2
  ·rw[if_pos h2,Option.bind_eq_some_iff]at h
   obtain⟨m,_,h⟩:=h
   rw[fA]at h
   obtain⟨z,o,e⟩:=h
   have:=jkr G f m _ z o
   rw[<-e];show z.2<=left - 1;omega
  rw[if_neg h2]at h
  by_cases h3:n.kind=3
  ·rw[if_pos h3,fA]at h
   obtain⟨z,o,e⟩:=h
   have:=jkq (fun m l y h=>bL (jkr G f m l y h) (Nat.sub_le _ _)) 16 _ z o
   rw[<-e];exact this
  rw[if_neg h3]at h;rw[<-bV h];exact bM _
def RdAt(W:vW)(rb s left:Nat):Prop:=Blk W rb (.cells #[.pointer (some ⟨s,0,none⟩),.int .i64 (left:Int)] 144)
def jkO(W W':vW):Nat->Prop:=fun z=>W.heap.size<=z/\z < W'.heap.size
def RdO(W:vW)(rb s:Nat)(o:Option (PA × Nat))(e:Ending)(w':vW):Prop:=jad (fun z=>z=rb) W w'/\match o with
 | some (P,l)=>∃ T x,e=.returned (.tuple #[.iface T x,.bool true])/\PaAt P (.iface T x) (jkO W w') w'/\RdAt w' rb s l
 | none=>∃ v l,e=.returned (.tuple #[v,.bool false])/\(v=.nilIface\/∃ T x,v=.iface T x)/\RdAt w' rb s l
def jhM(S:vT):Prop:=∀ x∈S,∃ n,jbj x.2.2.text n
section
attribute [local go_sem] Oper.semAt_some
def jgA:vV:=.iface 28 (.int .i64 4)
theorem jg0(w:vW):vQ 56 #[.nilIface,jgA] w fun e w'=>e=.returned (.bool false)/\w=w':=by
 unfold jgA;have o:∀ w,(binOp .eql 106 .nilIface (.iface 28 (.int .i64 4))).run Tryz.prog w=.ok (.bool false) w:=fun w=>by kernel_rfl
 go_enter Tryz.func56,Tryz.ntmps56;go_wp2_with fail
 go_ret
 exact⟨rfl,rfl⟩
theorem jzm(w:vW):vQ 92 #[jgA,jgA,.bool true] w fun e w'=>e=.returned (.bool true)/\w=w':=by
 have o:∀ w,(binOp .eql 106 jgA jgA).run Tryz.prog w=.ok (.bool true) w:=fun w=>by kernel_rfl
 unfold jgA at *;go_enter Tryz.func92,Tryz.ntmps92;go_wp2_with fail
 refine wp_loop_rounds 1 ?_;rw[rounds_succ];go_wp2_with fail
 go_ret
 exact⟨rfl,rfl⟩
theorem jj5(w:vW):vQ 56 #[jgA,jgA] w fun e w'=>e=.returned (.bool true)/\w=w':=by
 have q:=Hd (jzm w);have z:∀ w,(binOp .eql 106 jgA .nilIface).run Tryz.prog w=.ok (.bool false) w:=fun w=>by kernel_rfl
 unfold jgA at *;have H:∀ w,(callFunc 91 #[.iface 28 (.int .i64 4)]).run Tryz.prog w=.ok (.value (.iface 193 (.agg #[.pointer (some ⟨3,28,none⟩)]))) w:=fun w=>by kernel_rfl
 have E:∀ w,(callFunc 251 #[.agg #[.pointer (some ⟨3,28,none⟩)]]).run Tryz.prog w=.ok (.value (.bool true)) w:=fun w=>by kernel_rfl
 have J:=Tryz.isMethodComparable 437;go_enter Tryz.func56,Tryz.ntmps56;go_wp2_with fail
 refine q.o.mono ?_;rintro e w1 ⟨rfl,rfl⟩;go_wp2_with fail
 go_ret
 exact⟨rfl,rfl⟩
def jdu(S:vT)(r:vB):Bool:=(atL S r.data.toList).isSome
def KnR(w:vW)(S:vT)(rs:vM)(iv:vV)(wr:vW):Prop:=∃ i:Nat,i<=rs.length/\iv=.int .i64 i/\Ext w wr/\∀ r∈rs.take i,jdu S r=true
theorem jim(w:vW)(s bm:Nat)(room:Int)(S:vT)(hs:jaz w s bm room S)(v:vV)(rs:vM)(hv:RdS w v rs)(hn:rs.length<=1000) :
  vR 57 #[.pointer (some ⟨s,0,none⟩),v] w (if rs.all (jdu S)then .nilIface else jgA):=by
 have HS:=Hd hs;have HV:=Hd hv
 obtain⟨a,c,rfl,Q⟩:=hv.slice
 have a0:=Hd Q;clear hs hv Q;go_enter Tryz.func57,Tryz.ntmps57;go_wp2_with fail
 go_loopw [11] (fun iv wr=>KnR w S rs iv wr) (fun iv _=>rs.length - (intOf iv).toNat)
 case atStart=>exact⟨0,cC _,rfl,ExtR w,by simp⟩
 case round =>
  obtain⟨i,hi,rfl,J,z⟩:=hrel
  have K:=Hd J;have HA:=Hd z;clear J z
  by_cases hlt:i < rs.length
  ·have b1:(i:Int) < (rs.length:Int):=vO
   obtain⟨r,hr⟩:∃ r,rs[i]?=some r:=⟨_,bA hlt⟩
   obtain⟨b,o,rfl,q⟩:=a0.o i r hr
   have q1:=jaa q K.o;have e:=fun w2 (h:jaz w2 s bm room S)=>jiD w2 s bm room S r h;have HR:=Hd hr;clear q hr;cases hy:atL S r.data.toList with
   | none =>
    have hF:¬(rs.all (jdu S)=true):=by
     rw[dU];intro h
     have:=h r (bI HR.o)
     unfold jdu at this;rw[hy]at this;cases this
    rw[hy]at e;have E:=Hd e;clear e hy;go_wp2_with fail
    refine vH (E.o wr (HS.o.ext K.o)) fun w2 J=>?_;rw[show optV ((none:Option Nd5).map (·.2.2.text))=.tuple #[.string ⟨#[]⟩,.bool false]from rfl];have H:=Hd (K.o.trans J);go_wp2_with fail
    go_ret
    exact⟨rfl,H.o⟩
   | some y =>
    have X:jdu S r=true:=by unfold jdu;rw[hy];rfl
    rw[hy]at e;have E:=Hd e;have a1:=Hd X;clear e hy X;go_wp2_with fail
    refine vH (E.o wr (HS.o.ext K.o)) fun w2 J=>?_;rw[show optV ((some y:Option Nd5).map (·.2.2.text))=.tuple #[.string y.2.2.text,.bool true]from rfl];have H:=Hd (K.o.trans J)
    obtain⟨tx,Z⟩:=vE y.2.2.text
    rw[<-Z];clear Z;have a3:i<=1000:=vO
    go_wp2_with fail
    go_roundw
    case rel=>exact⟨i+1,by omega,by go_num,H.o,by rw[cB,HR.o];intro x O;rcases bO.1 O with O | O;exact HA.o x O;simp at O;rw[O];exact a1.o⟩
    case measure=>exact vJ
  ·have b1:¬(i:Int) < (rs.length:Int):=vO
   have a2:i=rs.length:=vO
   have hF:rs.all (jdu S)=true:=by
    rw[dU];have h:=HA.o;subst a2;rw[cF]at h;exact h
   clear HA;go_wp2_with fail
   go_ret
   exact⟨rfl,K.o⟩
theorem jla(W:vW)(sv:vV)(r q)(n:jae)(hn:n.refs.length=16)(hr:r.size<=1000)(hq:cutN r=some q)(hh:jeX r q=none)(hi:∀ w,vR 88 #[.string r] w (.tuple #[n.V,.bool true])) :
  vR 94 #[sv,.string r] W (.tuple #[n.V,.nilIface]):=by
 have HQ:=Hd hq;have HH:=Hd hh;have HI:=Hd hi;have HN:=Hd hn;have X:=Hd (n.cells_len hn);clear hq hh hi hn;go_enter Tryz.func94,Tryz.ntmps94;go_wp2_with (refine jal Tryz.allocNode rfl rfl ?_;intro W1 H J)
 refine vC (jeM W1 r q vO HQ.o) fun w2 E=>?_;rw[HH.o];unfold optV;have Z:=Hd (H.keeps E (fun h=>h));have a0:=Hd (J.trans E);clear E H J;go_wp2_with fail
 refine vC (HI.o w2) fun w3 E=>?_;have z:=Z.o.keeps E (fun h=>h);have a1:=Hd (a0.o.trans E);clear E;unfold jae.V;go_wp2_with (first |(refine jal Tryz.allocNode rfl rfl ?_;intro W5 a2 K;refine jah (vs:=n.cells) rfl rfl rfl rfl a2 (by rw[X.o];rfl) (by rw[X.o];exact Tryz.szNode) n.one ?_;intro W6 a3 O;have Q:=(z.keeps K (fun h=>h)).keeps O (by have:=z.lt;omega)) |(refine jaf 132 (.tmp 8) rfl rfl _ _ rfl (jax _ _ n HN.o a3) ?_) |(refine jah (vs:=n.cells) rfl rfl rfl rfl Q (by rw[X.o];rfl) (by rw[X.o];exact Tryz.szNode) n.one ?_;intro W8 a4 a5))
 refine bodyPost_ret (jaP rfl rfl rfl (jaH W8 _ n HN.o a4)) rfl ?_;have a6:Ext w3 W6:=K.trans' O (fun x hx e=>by have e:x=w3.heap.size:=e;omega)
 exact⟨rfl,(a1.o.trans a6).trans' a5 (fun x hx e=>by have e:x=W.heap.size:=e;omega)⟩
theorem jpe(W:vW)(s bm:Nat)(room:Int)(S:vT)(hs:jaz W s bm room S)(x t k:vB)(q)(f:Nat)(n:jae)(hg:jcg (InlD f) n)(ht:t=jaS n)
  (hx:x.size<=1000) (hq:cutN x=some q) (hh:jeX x q=some k) (y:Nd5) (hy:atL S k.data.toList=some y) (hyt:y.2.2.text=t) :
  vR 94 #[.pointer (some ⟨s,0,none⟩),.string x] W (.tuple #[n.V,.nilIface]):=by
 have HS:=Hd hs;have HQ:=Hd hq;have HH:=Hd hh;have HT:=Hd ht;have HG:=Hd hg;have hn:=(hg.one (inlP f)).refs;have HN:=Hd hn;have HL:=Hd (n.cells_len hn);have H:=fun w (h:jaz w s bm room S)=>jiD w s bm room S k h;rw[hy]at H;have K:(some y).map (fun z:Nd5=>z.2.2.text)=some t:=by rw[<-hyt];rfl
 simp only[K]at H;have a4:=Hd H;clear hs hq hh ht hg hn hy hyt H K;go_enter Tryz.func94,Tryz.ntmps94;go_wp2_with (refine jal Tryz.allocNode rfl rfl ?_;intro W1 O Q)
 refine vC (jeM W1 x q vO HQ.o) fun w2 E=>?_;rw[HH.o];unfold optV;have X:=Hd (O.keeps E (fun h=>h));have Z:=Hd (Q.trans E);clear E O Q;go_wp2_with fail
 refine vC (a4.o w2 (HS.o.ext Z.o)) fun w3 E=>?_;unfold optV;have a1:=Hd (X.o.keeps E (fun h=>h));have a5:=Hd (Z.o.trans E);clear E X;go_wp2_with fail
 rw[HT.o];refine vC (jjh (inlP f) w3 n HG.o) fun w4 E=>?_;rw[<-HT.o];have J:=a1.o.keeps E (fun h=>h);have a6:=Hd (a5.o.trans E);clear E a1;unfold jae.V;go_wp2_with (first |(refine jal Tryz.allocNode rfl rfl ?_;intro W5 a7 a2;refine jah (vs:=n.cells) rfl rfl rfl rfl a7 (by rw[HL.o];rfl) (by rw[HL.o];exact Tryz.szNode) n.one ?_;intro W6 a8 a3;have a0:=(J.keeps a2 (fun h=>h)).keeps a3 (by have:=J.lt;omega)) |(refine jaf 132 (.tmp 11) rfl rfl _ _ rfl (jax _ _ n HN.o a8) ?_) |(refine jah (vs:=n.cells) rfl rfl rfl rfl a0 (by rw[HL.o];rfl) (by rw[HL.o];exact Tryz.szNode) n.one ?_;intro W8 a9 b0))
 refine bodyPost_ret (jaP rfl rfl rfl (jaH W8 _ n HN.o a9)) rfl ?_;have b1:Ext w4 W6:=a2.trans' a3 (fun x hx e=>by have e:x=w4.heap.size:=e;omega)
 exact⟨rfl,(a6.o.trans b1).trans' b0 (fun x hx e=>by have e:x=W.heap.size:=e;omega)⟩
theorem jmG(W:vW)(s bm:Nat)(room:Int)(S:vT)(hs:jaz W s bm room S)(x k:vB)(q)(hx:x.size<=1000)(hq:cutN x=some q)(hh:jeX x q=some k)(hy:atL S k.data.toList=none) :
  vR 94 #[.pointer (some ⟨s,0,none⟩),.string x] W (.tuple #[jaV.V,jgA]):=by
 have HS:=Hd hs;have HQ:=Hd hq;have HH:=Hd hh;have z:=fun w (h:jaz w s bm room S)=>jiD w s bm room S k h;rw[hy]at z;have Q:=Hd z;clear hs hq hh hy z;go_enter Tryz.func94,Tryz.ntmps94;go_wp2_with (refine jal Tryz.allocNode rfl rfl ?_;intro W1 H J)
 refine vC (jeM W1 x q vO HQ.o) fun w2 E=>?_;rw[HH.o];unfold optV;have K:=Hd (H.keeps E (fun h=>h));have O:=Hd (J.trans E);clear E H J;go_wp2_with fail
 refine vC (Q.o w2 (HS.o.ext O.o)) fun w3 E=>?_;rw[show optV ((none:Option Nd5).map (·.2.2.text))=.tuple #[.string ⟨#[]⟩,.bool false]from rfl];have X:=K.o.keeps E (fun h=>h);have Z:=Hd (O.o.trans E);clear E K;go_wp2_with (refine jah (vs:=jaV.cells) rfl rfl rfl rfl X rfl Tryz.szNode jaV.one ?_;intro W8 a0 a1)
 refine bodyPost_ret (jaP rfl rfl rfl (jaH W8 _ jaV rfl a0)) rfl ?_
 exact⟨rfl,Z.o.trans' a1 (fun x hx e=>by have e:x=W.heap.size:=e;omega)⟩
theorem jnG(W:vW)(s bm:Nat)(room:Int)(S:vT)(hs:jaz W s bm room S){r:vB}{n:jae}(hr:jgH S r (some n)) :
  vR 94 #[.pointer (some ⟨s,0,none⟩),.string r] W (.tuple #[n.V,.nilIface]):=by
 rcases hr with⟨d,m,hI,hm⟩ |⟨k,e,o,⟨_,h3⟩ |⟨y,m,h3,z,hm⟩⟩
 ·obtain rfl:=bV hm
  obtain⟨q,e,o⟩:=(inlP d).nohash _ _ hI
  exact jla W _ _ q n ((inlP d).refs _ _ hI) (by have:=(inlP d).small _ _ hI;omega) e o ((inlP d).inl _ _ hI)
 ·cases h3
 ·obtain rfl:=bV hm
  obtain⟨q,E,H⟩:=jdI k e
  obtain⟨z,g,J⟩:=z
  rw[o];refine jpe W s bm room S hs _ y.2.2.text k q g n J z ?_ E H y h3 rfl
  have:=ja1 k
  omega
theorem jk9(W:vW)(s bm:Nat)(room:Int)(S:vT)(hs:jaz W s bm room S){r:vB}(hr:jgH S r none) :
  vR 94 #[.pointer (some ⟨s,0,none⟩),.string r] W (.tuple #[jaV.V,jgA]):=by
 rcases hr with⟨d,m,hI,hm⟩ |⟨k,h1,h2,⟨h3,_⟩ |⟨y,m,h3,h4,hm⟩⟩
 ·cases hm
 ·obtain⟨q,e,o⟩:=jdI k h1
  rw[h2];refine jmG W s bm room S hs _ k q ?_ e o h3
  have:=ja1 k
  omega
 ·cases hm
end
end Go.Proofs.YtmobgkphhbmhbaaGreatDoor
