/- Lemmas; each is under no condition but those that it states. -/
import Derived.Test.YtmobgkphhbmhbaaGreatDoorPb24
namespace Go.Proofs.YtmobgkphhbmhbaaGreatDoor
set_option linter.unusedSimpArgs false
set_option linter.unusedVariables false
set_option maxRecDepth 100000
set_option maxHeartbeats 16000000
open Go Go.RowKit
def jjK(w:vW)(e:Ending)(w':vW):Prop:=∃ v,e=.returned (.tuple #[.bool false,.string ⟨#[]⟩,.string ⟨#[]⟩,v])/\Ext w w'/\Fa1 w w' v
theorem Tryz.errNeNil(b:Nat):∀ w,(binOp .neq 106 (.iface 272 (.pointer (some ⟨b,0,none⟩))) .nilIface).run Tryz.prog w=.ok (.bool true) w:=fun w=>by kernel_rfl
theorem jqN(w:vW):vQ 178 #[.string ⟨#[]⟩] w (jjK w):=by
 go_enter Tryz.func178,Tryz.ntmps178;go_wp2_with fail
 refine (jbO w 0).mono ?_;rintro e w1 ⟨v,rfl,q,E⟩
 obtain⟨b,k,rfl,z⟩:=E
 have A:=Hd (bB q z);clear q z;go_wp2_with fail
 refine bodyPost_ret (v:=.tuple #[.bool false,.string ⟨#[]⟩,.string ⟨#[]⟩,.iface 272 (.pointer (some ⟨b,0,none⟩))]) (by simp[results,Tryz.results178,go_sem]) rfl ?_
 exact⟨_,rfl,A.o.1,b,k,rfl,A.o.2⟩
theorem jiN(w:vW)(s:vB)(n:Nat)(hs:s.size<=1000000000)(h0:0 < s.size)(hc2:(s[0].toNat:Int)=128+n)(hn:n<=55)(hle:s.size < 1+n):vQ 178 #[.string s] w (jjK w):=by
 have K:(0:Int) < (s.size:Int):=vO
 have O:¬(s[0].toNat:Int) < 128:=vO
 have Q:(s[0].toNat:Int) < 192:=vO
 have X:¬(55:Int) < (n:Int):=vO
 have Z:(s.size:Int) - 1 < (n:Int):=vO
 have E:=jbe h0;have e1:(s[0].toNat:Int) - 128=(n:Int):=vO
 clear hc2;go_enter Tryz.func178,Tryz.ntmps178;go_wp2_with fail
 refine (jbO w s.size).mono ?_;rintro e w1 ⟨v,rfl,q,H⟩
 obtain⟨b,J,rfl,z⟩:=H
 have A:=Hd (bB q z);clear q z;go_wp2_with fail
 refine bodyPost_ret (v:=.tuple #[.bool false,.string ⟨#[]⟩,.string ⟨#[]⟩,.iface 272 (.pointer (some ⟨b,0,none⟩))]) (by simp[results,Tryz.results178,go_sem]) rfl ?_
 exact⟨_,rfl,A.o.1,b,J,rfl,A.o.2⟩
theorem jhX(w:vW)(s:vB)(k:Nat)(hs:s.size<=1000000000)(h0:0 < s.size)(hc2:(s[0].toNat:Int)=128+55+k)(hk:1<=k)(hk8:k<=8)(hL:lenB s (1+k)=none):vQ 178 #[.string s] w (jjK w):=by
 have A:=Hd hL;clear hL
 obtain⟨f,E⟩:=vE (1+k)
 obtain⟨m,O⟩:=vE (55+k)
 have c0:(0:Int) < (s.size:Int):=vO
 have c2:¬(s[0].toNat:Int) < 128:=vO
 have c3:(s[0].toNat:Int) < 192:=vO
 have c4:¬(m:Int)<=55:=vO
 have Q:(55:Int) < (m:Int):=vO
 have X:=jbe h0;have e1:(s[0].toNat:Int) - 128=(m:Int):=vO
 have e2:1+(m:Int) - 55=(f:Int):=vO
 have q:2<=f:=vO
 have z:f<=1000:=vO
 have Z:(m:Int)<=63:=vO
 have a0:(0:Int)<=(m:Int):=vO
 have a1:=Tryz.errNeNil;rw[<-E]at A;clear hc2 E O;go_enter Tryz.func178,Tryz.ntmps178;go_wp2_with fail
 refine (jlI w s f hs q z A.o).mono ?_;rintro e w1 ⟨v,rfl,H,hF⟩
 obtain⟨b,kk,rfl,J⟩:=hF
 have K:=Hd (bB H J);clear H J;go_wp2_with fail
 refine bodyPost_ret (v:=.tuple #[.bool false,.string ⟨#[]⟩,.string ⟨#[]⟩,.iface 272 (.pointer (some ⟨b,0,none⟩))]) (by simp[results,Tryz.results178,go_sem]) rfl ?_
 exact⟨_,rfl,K.o.1,b,kk,rfl,K.o.2⟩
theorem jgh(w:vW)(s:vB)(k n:Nat)(hs:s.size<=1000000000)(h0:0 < s.size)(hc2:(s[0].toNat:Int)=128+55+k)(hk:1<=k)(hk8:k<=8)(hL:lenB s (1+k)=some n)(hle:s.size < 1+k+n):vQ 178 #[.string s] w (jjK w):=by
 obtain⟨K,_,_,O,Q⟩:=jea hL
 have z:=Hd hL;clear hL
 obtain⟨f,A⟩:=vE (1+k)
 obtain⟨m,X⟩:=vE (55+k)
 have c0:(0:Int) < (s.size:Int):=vO
 have c2:¬(s[0].toNat:Int) < 128:=vO
 have c3:(s[0].toNat:Int) < 192:=vO
 have c4:¬(m:Int)<=55:=vO
 have Z:(55:Int) < (m:Int):=vO
 have c5:(s.size:Int) - (f:Int) < (n:Int):=vO
 have a0:=jbe h0;have e1:(s[0].toNat:Int) - 128=(m:Int):=vO
 have e2:1+(m:Int) - 55=(f:Int):=vO
 have q:2<=f:=vO
 have a1:(m:Int)<=63:=vO
 have a2:(0:Int)<=(m:Int):=vO
 have a3:(f:Int)<=(s.size:Int):=vO
 rw[<-A]at z;clear hc2 A X hle;go_enter Tryz.func178,Tryz.ntmps178;go_wp2_with fail
 refine (jhB w s f n hs q z.o).mono ?_;rintro e w1 ⟨rfl,rfl⟩;go_wp2_with fail
 refine (jbO w s.size).mono ?_;rintro e w1 ⟨v,rfl,E,hF⟩
 obtain⟨b,kk,rfl,H⟩:=hF
 have J:=Hd (bB E H);clear E H;go_wp2_with fail
 refine bodyPost_ret (v:=.tuple #[.bool false,.string ⟨#[]⟩,.string ⟨#[]⟩,.iface 272 (.pointer (some ⟨b,0,none⟩))]) (by simp[results,Tryz.results178,go_sem]) rfl ?_
 exact⟨_,rfl,J.o.1,b,kk,rfl,J.o.2⟩
theorem jiM(w:vW)(s:vB)(n:Nat)(hs:s.size<=1000000000)(h0:0 < s.size)(hc2:(s[0].toNat:Int)=192+n)(hn:n<=55)(hle:s.size < 1+n):vQ 178 #[.string s] w (jjK w):=by
 have K:(0:Int) < (s.size:Int):=vO
 have O:¬(s[0].toNat:Int) < 128:=vO
 have Q:¬(s[0].toNat:Int) < 192:=vO
 have X:¬(55:Int) < (n:Int):=vO
 have Z:(s.size:Int) - 1 < (n:Int):=vO
 have E:=jbe h0;have e1:(s[0].toNat:Int) - 192=(n:Int):=vO
 clear hc2;go_enter Tryz.func178,Tryz.ntmps178;go_wp2_with fail
 refine (jbO w s.size).mono ?_;rintro e w1 ⟨v,rfl,q,H⟩
 obtain⟨b,J,rfl,z⟩:=H
 have A:=Hd (bB q z);clear q z;go_wp2_with fail
 refine bodyPost_ret (v:=.tuple #[.bool false,.string ⟨#[]⟩,.string ⟨#[]⟩,.iface 272 (.pointer (some ⟨b,0,none⟩))]) (by simp[results,Tryz.results178,go_sem]) rfl ?_
 exact⟨_,rfl,A.o.1,b,J,rfl,A.o.2⟩
theorem jhW(w:vW)(s:vB)(k:Nat)(hs:s.size<=1000000000)(h0:0 < s.size)(hc2:(s[0].toNat:Int)=192+55+k)(hk:1<=k)(hk8:k<=8)(hL:lenB s (1+k)=none):vQ 178 #[.string s] w (jjK w):=by
 have A:=Hd hL;clear hL
 obtain⟨f,E⟩:=vE (1+k)
 obtain⟨m,O⟩:=vE (55+k)
 have c0:(0:Int) < (s.size:Int):=vO
 have c2:¬(s[0].toNat:Int) < 128:=vO
 have c3:¬(s[0].toNat:Int) < 192:=vO
 have c4:¬(m:Int)<=55:=vO
 have Q:(55:Int) < (m:Int):=vO
 have X:=jbe h0;have e1:(s[0].toNat:Int) - 192=(m:Int):=vO
 have e2:1+(m:Int) - 55=(f:Int):=vO
 have q:2<=f:=vO
 have z:f<=1000:=vO
 have Z:(m:Int)<=63:=vO
 have a0:(0:Int)<=(m:Int):=vO
 have a1:=Tryz.errNeNil;rw[<-E]at A;clear hc2 E O;go_enter Tryz.func178,Tryz.ntmps178;go_wp2_with fail
 refine (jlI w s f hs q z A.o).mono ?_;rintro e w1 ⟨v,rfl,H,hF⟩
 obtain⟨b,kk,rfl,J⟩:=hF
 have K:=Hd (bB H J);clear H J;go_wp2_with fail
 refine bodyPost_ret (v:=.tuple #[.bool false,.string ⟨#[]⟩,.string ⟨#[]⟩,.iface 272 (.pointer (some ⟨b,0,none⟩))]) (by simp[results,Tryz.results178,go_sem]) rfl ?_
 exact⟨_,rfl,K.o.1,b,kk,rfl,K.o.2⟩
theorem jgg(w:vW)(s:vB)(k n:Nat)(hs:s.size<=1000000000)(h0:0 < s.size)(hc2:(s[0].toNat:Int)=192+55+k)(hk:1<=k)(hk8:k<=8)(hL:lenB s (1+k)=some n)(hle:s.size < 1+k+n):vQ 178 #[.string s] w (jjK w):=by
 obtain⟨K,_,_,O,Q⟩:=jea hL
 have z:=Hd hL;clear hL
 obtain⟨f,A⟩:=vE (1+k)
 obtain⟨m,X⟩:=vE (55+k)
 have c0:(0:Int) < (s.size:Int):=vO
 have c2:¬(s[0].toNat:Int) < 128:=vO
 have c3:¬(s[0].toNat:Int) < 192:=vO
 have c4:¬(m:Int)<=55:=vO
 have Z:(55:Int) < (m:Int):=vO
 have c5:(s.size:Int) - (f:Int) < (n:Int):=vO
 have a0:=jbe h0;have e1:(s[0].toNat:Int) - 192=(m:Int):=vO
 have e2:1+(m:Int) - 55=(f:Int):=vO
 have q:2<=f:=vO
 have a1:(m:Int)<=63:=vO
 have a2:(0:Int)<=(m:Int):=vO
 have a3:(f:Int)<=(s.size:Int):=vO
 rw[<-A]at z;clear hc2 A X hle;go_enter Tryz.func178,Tryz.ntmps178;go_wp2_with fail
 refine (jhB w s f n hs q z.o).mono ?_;rintro e w1 ⟨rfl,rfl⟩;go_wp2_with fail
 refine (jbO w s.size).mono ?_;rintro e w1 ⟨v,rfl,E,hF⟩
 obtain⟨b,kk,rfl,H⟩:=hF
 have J:=Hd (bB E H);clear E H;go_wp2_with fail
 refine bodyPost_ret (v:=.tuple #[.bool false,.string ⟨#[]⟩,.string ⟨#[]⟩,.iface 272 (.pointer (some ⟨b,0,none⟩))]) (by simp[results,Tryz.results178,go_sem]) rfl ?_
 exact⟨_,rfl,J.o.1,b,kk,rfl,J.o.2⟩
theorem jtj(w:vW)(s:vB)(hs:s.size<=1000000000)(h0:1 < s.size)(hc2:(s[0].toNat:Int)=128+1)(h1:(s[1].toNat:Int) < 128):vQ 178 #[.string s] w (jjK w):=by
 have K:(0:Int) < (s.size:Int):=vO
 have O:(1:Int) < (s.size:Int):=vO
 have Q:¬(s[0].toNat:Int) < 128:=vO
 have X:(s[0].toNat:Int) < 192:=vO
 have Z:¬(s.size:Int) - 1 < 1:=vO
 have E:=jbe (show 0 < s.size by omega);have e1:(s[0].toNat:Int) - 128=1:=vO
 clear hc2;go_enter Tryz.func178,Tryz.ntmps178;go_wp2_with fail
 refine (jbO w 1).mono ?_;rintro e w1 ⟨v,rfl,q,H⟩
 obtain⟨b,J,rfl,z⟩:=H
 have A:=Hd (bB q z);clear q z;go_wp2_with fail
 refine bodyPost_ret (v:=.tuple #[.bool false,.string ⟨#[]⟩,.string ⟨#[]⟩,.iface 272 (.pointer (some ⟨b,0,none⟩))]) (by simp[results,Tryz.results178,go_sem]) rfl ?_
 exact⟨_,rfl,A.o.1,b,J,rfl,A.o.2⟩
section
attribute [local go_sem] Oper.semAt_some
theorem jxt(w:vW)(s:vB)(hs:s.size<=1000000000)(h:cutN s=none):vQ 178 #[.string s] w (jjK w):=by
 unfold cutN at h
 by_cases h0:0 < s.size
 case neg =>
  have:s=⟨#[]⟩:=by
   have q:s.size=0:=vO
   obtain⟨⟨l⟩⟩:=s
   have:l=[]:=bE q
   rw[this]
  rw[this];exact jqN w
 rw[dif_pos h0]at h;simp only at h;have hb:=s[0].toNat_lt
 by_cases h1:s[0].toNat < 128
 ·rw[if_pos h1]at h;cases h
 rw[if_neg h1]at h
 by_cases h2:s[0].toNat < 192
 ·rw[if_pos h2]at h
  simp only at h
  by_cases h3:s[0].toNat - 128<=55
  ·rw[if_pos h3]at h
   split at h
   ·cases h
   rename_i e
   by_cases hsz:1+(s[0].toNat - 128)<=s.size
   ·have e:s[0].toNat - 128=1/\¬ 128<=(s.data.toList.getD 1 0).toNat:=by
     refine⟨Classical.byContradiction fun z=>e ⟨hsz,.inr (.inl z)⟩,fun z=>e ⟨hsz,.inr (.inr z)⟩⟩
    obtain⟨E,o⟩:=e
    have A:1 < s.size:=vO
    rw[bG,bA (by simpa using A)]at o;have H:¬ 128<=(s[1]'A).toNat:=o;exact jtj w s hs A vO vO
   ·exact jiN w s (s[0].toNat - 128) hs h0 vO h3 vO
  ·rw[if_neg h3]at h
   split at h
   ·rename_i n hl
    split at h
    ·cases h
    rename_i e
    exact jgh w s (s[0].toNat - 128 - 55) n hs h0 vO vO vO hl vO
   ·rename_i hl
    exact jhX w s (s[0].toNat - 128 - 55) hs h0 vO vO vO hl
 ·rw[if_neg h2]at h
  simp only at h
  by_cases h3:s[0].toNat - 192<=55
  ·rw[if_pos h3]at h
   split at h
   ·cases h
   rename_i e
   refine jiM w s (s[0].toNat - 192) hs h0 vO h3 ?_
   have:¬ 1+(s[0].toNat - 192)<=s.size:=fun q=>e ⟨q,.inl trivial⟩
   omega
  ·rw[if_neg h3]at h
   split at h
   ·rename_i n hl
    split at h
    ·cases h
    rename_i e
    exact jgg w s (s[0].toNat - 192 - 55) n hs h0 vO vO vO hl vO
   ·rename_i hl
    exact jhW w s (s[0].toNat - 192 - 55) hs h0 vO vO vO hl
theorem Tryz.noIsF(v:vV)(xT:TypeId)(w:vW):(Instr.typeAssert (.iface 272 v) xT 195 true).run Tryz.prog w=.ok (.tuple #[.nilIface,.bool false]) w:=run_typeAssert_lacksB Tryz.underlying195 vY vY v xT w
theorem Tryz.hasUnwrapF(v:vV)(xT:TypeId)(w:vW):(Instr.typeAssert (.iface 272 v) xT 198 true).run Tryz.prog w=.ok (.tuple #[.iface 272 v,.bool true]) w:=run_typeAssert_hasB Tryz.underlying198 vY v xT w
end
theorem Tryz.isMethodComparable(n:Nat)(v:vV)(w:vW):(Go.method (n+1) 193 v "Comparable").run Tryz.prog w=.ok (251,v) w:=vY
theorem Tryz.methodUnwrapF(n:Nat)(v:vV)(w:vW):(Go.method (n+1) 272 v "Unwrap").run Tryz.prog w=.ok (282,v) w:=vY
theorem juF(w:vW)(b:Nat)(k:Int)(c:vV)(hB:Blk w b (.cells #[.int .i64 k,c] 274)):vQ 282 #[.pointer (some ⟨b,0,none⟩)] w fun e w'=>e=.returned c/\w=w':=by
 have o:=hB.cell (i:=1) (v:=c) vF;clear hB;go_enter Tryz.func282,Tryz.ntmps282;go_wp2_with fail
 go_ret
 exact⟨rfl,rfl⟩
theorem jyQ(w:vW)(b:Nat)(k:Int)(hB:Blk w b (.cells #[.int .i64 k,malE] 274)):vQ 92 #[.iface 272 (.pointer (some ⟨b,0,none⟩)),malE,.bool true] w fun e w'=>e=.returned (.bool true)/\w=w':=by
 have q:=Hd hB;clear hB;have z:=fun w=>run_eql_iface_types (P:=Tryz.prog) 272 28 (.pointer (some ⟨b,0,none⟩)) (.int .i64 2) Tryz.underlying106 vI w;have A:∀ w,(binOp .eql 106 malE malE).run Tryz.prog w=.ok (.bool true) w:=fun w=>by kernel_rfl
 have E:∀ w,(binOp .eql 106 malE .nilIface).run Tryz.prog w=.ok (.bool false) w:=fun w=>by kernel_rfl
 unfold malE at *;have H:=Tryz.noIsF;have J:=Tryz.hasUnwrapF;have K:=Tryz.methodUnwrapF 437;go_enter Tryz.func92,Tryz.ntmps92;go_wp2_with fail
 refine wp_loop_rounds 2 ?_;rw[rounds_succ];go_wp2_with fail
 refine (juF w b k _ q.o).mono ?_;rintro e w1 ⟨rfl,rfl⟩;go_wp2_with fail
 rw[rounds_succ];go_wp2_with fail
 go_ret
 exact⟨rfl,rfl⟩
theorem jtP(w:vW)(b:Nat)(k:Int)(hB:Blk w b (.cells #[.int .i64 k,malE] 274)):vQ 56 #[.iface 272 (.pointer (some ⟨b,0,none⟩)),malE] w fun e w'=>e=.returned (.bool true)/\w=w':=by
 have q:=Hd (jyQ w b k hB);clear hB;have z:∀ w,(binOp .eql 106 (.iface 272 (.pointer (some ⟨b,0,none⟩))) .nilIface).run Tryz.prog w=.ok (.bool false) w:=fun w=>by kernel_rfl
 have A:∀ w,(binOp .eql 106 malE .nilIface).run Tryz.prog w=.ok (.bool false) w:=fun w=>by kernel_rfl
 unfold malE at *;have H:∀ w,(callFunc 91 #[.iface 28 (.int .i64 2)]).run Tryz.prog w=.ok (.value (.iface 193 (.agg #[.pointer (some ⟨3,28,none⟩)]))) w:=fun w=>by kernel_rfl
 have E:∀ w,(callFunc 251 #[.agg #[.pointer (some ⟨3,28,none⟩)]]).run Tryz.prog w=.ok (.value (.bool true)) w:=fun w=>by kernel_rfl
 have J:=Tryz.isMethodComparable 437;go_enter Tryz.func56,Tryz.ntmps56;go_wp2_with fail
 refine q.o.mono ?_;rintro e w1 ⟨rfl,rfl⟩;go_wp2_with fail
 go_ret
 exact⟨rfl,rfl⟩
section
attribute [local go_sem] Oper.semAt_some
theorem juy(w:vW)(s:vB)(hs:s.size<=1000000000)(h:cutN s=none):vR 151 #[.string s] w (.tuple #[.bool false,.string ⟨#[]⟩,.string ⟨#[]⟩,.int .i64 2]):=by
 have A:=Hd (jxt w s hs h);clear h;go_enter Tryz.func151,Tryz.ntmps151;go_wp2_with fail
 refine A.o.mono ?_;rintro e w1 ⟨v,rfl,q,b,k,rfl,z,_⟩;have E:=Hd q;have H:=Hd z;clear q z;go_wp2_with fail
 refine (show vQ 56 #[.iface 272 (.pointer (some ⟨b,0,none⟩)),.iface 28 (.int .i64 2)] w1 fun e w'=>e=.returned (.bool true)/\w1=w' from jtP w1 b k H.o).mono ?_;rintro e J ⟨rfl,rfl⟩;go_wp2_with fail
 exact bodyPost_ret (v:=.tuple #[.bool false,.string ⟨#[]⟩,.string ⟨#[]⟩,.int .i64 2]) (by simp[results,Tryz.results151,go_sem]) rfl ⟨rfl,E.o⟩
theorem jue(w:vW)(s:vB)(hs:s.size<=1000000000)(h:cutN s=none):vR 125 #[.string s] w (optV none):=by
 have z:=Hd (juy w s hs h);clear h;go_enter Tryz.func125,Tryz.ntmps125;go_wp2_with fail
 refine z.o.mono ?_;rintro e w1 ⟨rfl,q⟩;have A:=Hd q;clear q;go_wp2_with fail
 go_ret2
 exact⟨rfl,A.o⟩
theorem jvV(w:vW)(s:vB)(hs:s.size<=1000000000)(h:cutN s=none):vR 87 #[.string s] w (optV none):=by
 have z:=Hd (jue w s hs h);clear h;go_enter Tryz.func87,Tryz.ntmps87;go_wp2_with fail
 refine z.o.mono ?_;rintro e w1 ⟨rfl,q⟩;unfold optV;have A:=Hd q;clear q;go_wp2_with fail
 go_ret2
 exact⟨rfl,A.o⟩
def jj9(s:vB):Option vB:=match cutN s with | some r=>jeV s r | none=>none
theorem jhy(w:vW)(s:vB)(hs:s.size<=1000000000):vR 87 #[.string s] w (optV (jj9 s)):=by
 unfold jj9;cases h:cutN s with
 | none=>exact jvV w s hs h
 | some r=>exact jeJ w s r hs h
end
def jwT(w:vW)(e:Ending)(w':vW):Prop:=e=.returned (.tuple #[jaV.V,.int .i64 2])/\Ext w w'
section
attribute [local go_sem] Oper.semAt_some
theorem jxj(W:vW)(s bm:Nat)(room:Int)(S:vT)(hs:jaL W s bm room S)(u:vV)(k:vB)(hH:atL S k.data.toList=none) :
  vR 85 #[.pointer (some ⟨s,0,none⟩),.string k,u] W (.tuple #[jaV.V,.bool false]):=by
 have q:=fun w (h:jaL w s bm room S)=>jiB w s bm room S k h;rw[hH]at q;simp only[Option.map_none,optV]at q;have E:=Hd q;have X:=Hd hs;clear q hs hH;go_enter Tryz.func85,Tryz.ntmps85;go_wp2_with (refine jal Tryz.allocNode rfl rfl ?_;intro Z A z)
 refine vC (E.o Z (X.o.ext z)) fun w3 H=>?_;have J:=A.keeps H (fun h=>h);have K:=Hd (z.trans H);clear H A z;go_wp2_with (refine jah (vs:=jaV.cells) rfl rfl rfl rfl J rfl Tryz.szNode jaV.one ?_;intro W8 O Q)
 refine bodyPost_ret (jaQ rfl rfl rfl (jaH W8 _ jaV rfl O)) rfl ?_
 exact⟨rfl,K.o.trans' Q (fun x hx e=>by have e:x=W.heap.size:=e;omega)⟩
end
noncomputable def inlOf(r:vB):jae:=@dite _ (∃ m d,InlD d r m) (Classical.propDecidable _) (fun h=>h.choose) (fun _=>jaV)
theorem jtO(w:vW){d g:Nat}{r:vB}{m n:jae}(h:InlD d r m)(k:InlD g r n):m=n:=by
 cases d with
 | zero=>exact h.elim
 | succ d =>
  cases g with
  | zero=>exact k.elim
  | succ g=>exact jdc w h.1 k.1 (h.2.1.symm.trans k.2.1)
theorem jn8(w:vW){d:Nat}{r:vB}{m:jae}(h:InlD d r m):inlOf r=m:=by
 have e:∃ m d,InlD d r m:=⟨m,d,h⟩;unfold inlOf;rw[dif_pos e]
 obtain⟨g,o⟩:=e.choose_spec
 exact jtO w o h
noncomputable def gRef(S:vT)(r:vB):Option jae:=match jcA r with
 | some h=>(atL S h.data.toList).map fun x=>nodeOf x.2.2.text
 | none=>some (inlOf r)
def je7(R:jae->Nat->Option (PA × Nat))(G:vB->Option jae)(rs:vM):Nat->Nat->Option ((Nat->PA) × Nat)
 | 0,left=>some (fun _=>.nil,left)
 | k+1,left=>(je7 R G rs k left).bind fun x=>if (rs.getD k ⟨#[]⟩).size=0 then some x else (G (rs.getD k ⟨#[]⟩)).bind fun m=>(R m x.2).map fun y=>(setK x.1 k y.1,y.2)
def jbQ(G:vB->Option jae):Nat->jae->Nat->Option (PA × Nat)
 | 0,_,_=>none
 | f+1,n,left=>if left=0 then none
  else if n.kind=1 then some (.leaf n.path n.value,left - 1)
  else if n.kind=2 then (G (n.refs.getD 0 ⟨#[]⟩)).bind fun m=>(jbQ G f m (left - 1)).map fun x=>(.ext n.path x.1,x.2)
  else if n.kind=3 then (je7 (jbQ G f) G n.refs 16 (left - 1)).map fun x=>(.br n.value x.1,x.2)
  else some (.no,left - 1)
theorem jjB(G:vB->Option jae)(f:Nat)(n:jae):jbQ G f n 0=none:=by
 cases f with
 | zero=>rfl
 | succ f=>rfl
theorem jfv(R:jae->Nat->Option (PA × Nat))(G:vB->Option jae)(rs:vM)(k left:Nat):je7 R G rs (k+1) left=(je7 R G rs k left).bind fun x=>if (rs.getD k ⟨#[]⟩).size=0 then some x else (G (rs.getD k ⟨#[]⟩)).bind fun m=>(R m x.2).map fun y=>(setK x.1 k y.1,y.2):=rfl
theorem jei(G:vB->Option jae)(f:Nat)(n:jae)(left:Nat):jbQ G (f+1) n left=if left=0 then none
  else if n.kind=1 then some (.leaf n.path n.value,left - 1)
  else if n.kind=2 then (G (n.refs.getD 0 ⟨#[]⟩)).bind fun m=>(jbQ G f m (left - 1)).map fun x=>(.ext n.path x.1,x.2)
  else if n.kind=3 then (je7 (jbQ G f) G n.refs 16 (left - 1)).map fun x=>(.br n.value x.1,x.2)
  else some (.no,left - 1):=rfl
theorem jkB{R:jae->Nat->Option (PA × Nat)}{G:vB->Option jae}{rs:vM}(hR:∀ m l y,R m l=some y->y.2<=l):∀ (k left:Nat) (x:(Nat->PA) × Nat),je7 R G rs k left=some x->x.2<=left
 | 0,left,x,h=>by
  have h:some ((fun _=>PA.nil),left)=some x:=h;rw[<-bV h];exact bM _
 | k+1,left,x,h=>by
  rw[jfv,Option.bind_eq_some_iff]at h
  obtain⟨y,q,h⟩:=h
  have o:=jkB hR k left y q
  by_cases h0:(rs.getD k ⟨#[]⟩).size=0
  ·rw[if_pos h0]at h
   rw[<-bV h];exact o
  ·rw[if_neg h0,Option.bind_eq_some_iff]at h
   obtain⟨m,_,h⟩:=h
   rw[fA]at h
   obtain⟨z,A,e⟩:=h
   have:=hR m y.2 z A
   rw[<-e];exact bK this o
theorem jkC(G:vB->Option jae):∀ (f:Nat) (n:jae) (left:Nat) (y:PA × Nat),jbQ G f n left=some y->y.2<=left - 1
 | 0,_,_,_,h=>by cases h
 | f+1,n,left,y,h=>by
  rw[jei]at h
  by_cases h0:left=0
  ·rw[if_pos h0]at h;cases h
  rw[if_neg h0]at h
  by_cases h1:n.kind=1
  ·rw[if_pos h1]at h
   rw[<-bV h];exact bM _
  rw[if_neg h1]at h
  by_cases h2:n.kind=2
  ·rw[if_pos h2,Option.bind_eq_some_iff]at h
   obtain⟨m,_,h⟩:=h
   rw[fA]at h
   obtain⟨z,o,e⟩:=h
   have:=jkC G f m _ z o
   rw[<-e];show z.2<=left - 1;omega
  rw[if_neg h2]at h
  by_cases h3:n.kind=3
  ·rw[if_pos h3,fA]at h
   obtain⟨z,o,e⟩:=h
   have:=jkB (fun m l y h=>bK (jkC G f m l y h) (Nat.sub_le _ _)) 16 _ z o
   rw[<-e];exact this
  rw[if_neg h3]at h;rw[<-bV h];exact bM _
def RdAt(W:vW)(rb s left:Nat):Prop:=Blk W rb (.cells #[.pointer (some ⟨s,0,none⟩),.int .i64 (left:Int)] 144)
def jkY(W W':vW):Nat->Prop:=fun z=>W.heap.size<=z/\z < W'.heap.size
def RdO(W:vW)(rb s:Nat)(o:Option (PA × Nat))(e:Ending)(w':vW):Prop:=jad (fun z=>z=rb) W w'/\match o with
 | some (P,l)=>∃ T x,e=.returned (.tuple #[.iface T x,.bool true])/\PaAt P (.iface T x) (jkY W w') w'/\RdAt w' rb s l
 | none=>∃ v l,e=.returned (.tuple #[v,.bool false])/\(v=.nilIface\/∃ T x,v=.iface T x)/\RdAt w' rb s l
def jhJ(S:vT):Prop:=∀ x∈S,∃ n,jbi x.2.2.text n
section
attribute [local go_sem] Oper.semAt_some
def jgA:vV:=.iface 28 (.int .i64 4)
theorem jg0(w:vW):vQ 56 #[.nilIface,jgA] w fun e w'=>e=.returned (.bool false)/\w=w':=by
 unfold jgA;have o:∀ w,(binOp .eql 106 .nilIface (.iface 28 (.int .i64 4))).run Tryz.prog w=.ok (.bool false) w:=fun w=>by kernel_rfl
 go_enter Tryz.func56,Tryz.ntmps56;go_wp2_with fail
 go_ret
 exact⟨rfl,rfl⟩
theorem jyR(w:vW):vQ 92 #[jgA,jgA,.bool true] w fun e w'=>e=.returned (.bool true)/\w=w':=by
 have o:∀ w,(binOp .eql 106 jgA jgA).run Tryz.prog w=.ok (.bool true) w:=fun w=>by kernel_rfl
 unfold jgA at *;go_enter Tryz.func92,Tryz.ntmps92;go_wp2_with fail
 refine wp_loop_rounds 1 ?_;rw[rounds_succ];go_wp2_with fail
 go_ret
 exact⟨rfl,rfl⟩
theorem jkf(w:vW):vQ 56 #[jgA,jgA] w fun e w'=>e=.returned (.bool true)/\w=w':=by
 have q:=Hd (jyR w);have z:∀ w,(binOp .eql 106 jgA .nilIface).run Tryz.prog w=.ok (.bool false) w:=fun w=>by kernel_rfl
 unfold jgA at *;have E:∀ w,(callFunc 91 #[.iface 28 (.int .i64 4)]).run Tryz.prog w=.ok (.value (.iface 193 (.agg #[.pointer (some ⟨3,28,none⟩)]))) w:=fun w=>by kernel_rfl
 have A:∀ w,(callFunc 251 #[.agg #[.pointer (some ⟨3,28,none⟩)]]).run Tryz.prog w=.ok (.value (.bool true)) w:=fun w=>by kernel_rfl
 have H:=Tryz.isMethodComparable 437;go_enter Tryz.func56,Tryz.ntmps56;go_wp2_with fail
 refine q.o.mono ?_;rintro e w1 ⟨rfl,rfl⟩;go_wp2_with fail
 go_ret
 exact⟨rfl,rfl⟩
def jdr(S:vT)(r:vB):Bool:=(atL S r.data.toList).isSome
def KnR(w:vW)(S:vT)(rs:vM)(iv:vV)(wr:vW):Prop:=∃ i:Nat,i<=rs.length/\iv=.int .i64 i/\Ext w wr/\∀ r∈rs.take i,jdr S r=true
theorem jik(w:vW)(s bm:Nat)(room:Int)(S:vT)(hs:jaL w s bm room S)(v:vV)(rs:vM)(hv:RdS w v rs)(hn:rs.length<=1000) :
  vR 57 #[.pointer (some ⟨s,0,none⟩),v] w (if rs.all (jdr S)then .nilIface else jgA):=by
 have HS:=Hd hs;have HV:=Hd hv
 obtain⟨a,c,rfl,O⟩:=hv.slice
 have a0:=Hd O;clear hs hv O;go_enter Tryz.func57,Tryz.ntmps57;go_wp2_with fail
 go_loopw [11] (fun iv wr=>KnR w S rs iv wr) (fun iv _=>rs.length - (intOf iv).toNat)
 case atStart=>exact⟨0,cB _,rfl,ExtR w,by simp⟩
 case round =>
  obtain⟨i,hi,rfl,H,z⟩:=hrel
  have J:=Hd H;have HA:=Hd z;clear H z
  by_cases hlt:i < rs.length
  ·have b1:(i:Int) < (rs.length:Int):=vO
   obtain⟨r,hr⟩:∃ r,rs[i]?=some r:=⟨_,bA hlt⟩
   obtain⟨b,o,rfl,q⟩:=a0.o i r hr
   have q1:=jaa q J.o;have e:=fun Z (h:jaL Z s bm room S)=>jiB Z s bm room S r h;have HR:=Hd hr;clear q hr;cases hy:atL S r.data.toList with
   | none =>
    have hF:¬(rs.all (jdr S)=true):=by
     rw[dS];intro h
     have:=h r (bI HR.o)
     unfold jdr at this;rw[hy]at this;cases this
    rw[hy]at e;have A:=Hd e;clear e hy;go_wp2_with fail
    refine vH (A.o wr (HS.o.ext J.o)) fun Z H=>?_;rw[show optV ((none:Option Nd5).map (·.2.2.text))=.tuple #[.string ⟨#[]⟩,.bool false]from rfl];have E:=Hd (J.o.trans H);go_wp2_with fail
    go_ret
    exact⟨rfl,E.o⟩
   | some y =>
    have Q:jdr S r=true:=by unfold jdr;rw[hy];rfl
    rw[hy]at e;have A:=Hd e;have a1:=Hd Q;clear e hy Q;go_wp2_with fail
    refine vH (A.o wr (HS.o.ext J.o)) fun Z H=>?_;rw[show optV ((some y:Option Nd5).map (·.2.2.text))=.tuple #[.string y.2.2.text,.bool true]from rfl];have E:=Hd (J.o.trans H)
    obtain⟨tx,X⟩:=vE y.2.2.text
    rw[<-X];clear X;have a3:i<=1000:=vO
    go_wp2_with fail
    go_roundw
    case rel=>exact⟨i+1,by omega,by go_num,E.o,by rw[cE,HR.o];intro x K;rcases bR.1 K with K | K;exact HA.o x K;simp at K;rw[K];exact a1.o⟩
    case measure=>exact vJ
  ·have b1:¬(i:Int) < (rs.length:Int):=vO
   have a2:i=rs.length:=vO
   have hF:rs.all (jdr S)=true:=by
    rw[dS];have h:=HA.o;subst a2;rw[cG]at h;exact h
   clear HA;go_wp2_with fail
   go_ret
   exact⟨rfl,J.o⟩
theorem jlk(W:vW)(sv:vV)(r q)(n:jae)(hn:n.refs.length=16)(hr:r.size<=1000)(hq:cutN r=some q)(hh:jeV r q=none)(hi:∀ w,vR 88 #[.string r] w (.tuple #[n.V,.bool true])) :
  vR 94 #[sv,.string r] W (.tuple #[n.V,.nilIface]):=by
 have HQ:=Hd hq;have HH:=Hd hh;have HI:=Hd hi;have HN:=Hd hn;have Q:=Hd (n.cells_len hn);clear hq hh hi hn;go_enter Tryz.func94,Tryz.ntmps94;go_wp2_with (refine jal Tryz.allocNode rfl rfl ?_;intro W1 E H)
 refine vC (jeJ W1 r q vO HQ.o) fun w2 A=>?_;rw[HH.o];unfold optV;have X:=Hd (E.keeps A (fun h=>h));have Z:=Hd (H.trans A);clear A E H;go_wp2_with fail
 refine vC (HI.o w2) fun w3 A=>?_;have z:=X.o.keeps A (fun h=>h);have a0:=Hd (Z.o.trans A);clear A;unfold jae.V;go_wp2_with (first |(refine jal Tryz.allocNode rfl rfl ?_;intro W5 a1 J;refine jah (vs:=n.cells) rfl rfl rfl rfl a1 (by rw[Q.o];rfl) (by rw[Q.o];exact Tryz.szNode) n.one ?_;intro W6 a2 K;have O:=(z.keeps J (fun h=>h)).keeps K (by have:=z.lt;omega)) |(refine jaf 132 (.tmp 8) rfl rfl _ _ rfl (jax _ _ n HN.o a2) ?_) |(refine jah (vs:=n.cells) rfl rfl rfl rfl O (by rw[Q.o];rfl) (by rw[Q.o];exact Tryz.szNode) n.one ?_;intro W8 a3 a4))
 refine bodyPost_ret (jaQ rfl rfl rfl (jaH W8 _ n HN.o a3)) rfl ?_;have a5:Ext w3 W6:=J.trans' K (fun x hx e=>by have e:x=w3.heap.size:=e;omega)
 exact⟨rfl,(a0.o.trans a5).trans' a4 (fun x hx e=>by have e:x=W.heap.size:=e;omega)⟩
theorem jpi(W:vW)(s bm:Nat)(room:Int)(S:vT)(hs:jaL W s bm room S)(x t k:vB)(q)(f:Nat)(n:jae)(hg:jck (InlD f) n)(ht:t=jaU n)
  (hx:x.size<=1000) (hq:cutN x=some q) (hh:jeV x q=some k) (y:Nd5) (hy:atL S k.data.toList=some y) (hyt:y.2.2.text=t) :
  vR 94 #[.pointer (some ⟨s,0,none⟩),.string x] W (.tuple #[n.V,.nilIface]):=by
 have HS:=Hd hs;have HQ:=Hd hq;have HH:=Hd hh;have HT:=Hd ht;have HG:=Hd hg;have hn:=(hg.one (inlP f)).refs;have HN:=Hd hn;have HL:=Hd (n.cells_len hn);have E:=fun w (h:jaL w s bm room S)=>jiB w s bm room S k h;rw[hy]at E;have J:(some y).map (fun z:Nd5=>z.2.2.text)=some t:=by rw[<-hyt];rfl
 simp only[J]at E;have a3:=Hd E;clear hs hq hh ht hg hn hy hyt E J;go_enter Tryz.func94,Tryz.ntmps94;go_wp2_with (refine jal Tryz.allocNode rfl rfl ?_;intro W1 K O)
 refine vC (jeJ W1 x q vO HQ.o) fun w2 A=>?_;rw[HH.o];unfold optV;have Q:=Hd (K.keeps A (fun h=>h));have X:=Hd (O.trans A);clear A K O;go_wp2_with fail
 refine vC (a3.o w2 (HS.o.ext X.o)) fun w3 A=>?_;unfold optV;have Z:=Hd (Q.o.keeps A (fun h=>h));have a4:=Hd (X.o.trans A);clear A Q;go_wp2_with fail
 rw[HT.o];refine vC (jji (inlP f) w3 n HG.o) fun w4 A=>?_;rw[<-HT.o];have H:=Z.o.keeps A (fun h=>h);have a5:=Hd (a4.o.trans A);clear A Z;unfold jae.V;go_wp2_with (first |(refine jal Tryz.allocNode rfl rfl ?_;intro W5 a6 a1;refine jah (vs:=n.cells) rfl rfl rfl rfl a6 (by rw[HL.o];rfl) (by rw[HL.o];exact Tryz.szNode) n.one ?_;intro W6 a7 a2;have a0:=(H.keeps a1 (fun h=>h)).keeps a2 (by have:=H.lt;omega)) |(refine jaf 132 (.tmp 11) rfl rfl _ _ rfl (jax _ _ n HN.o a7) ?_) |(refine jah (vs:=n.cells) rfl rfl rfl rfl a0 (by rw[HL.o];rfl) (by rw[HL.o];exact Tryz.szNode) n.one ?_;intro W8 a8 a9))
 refine bodyPost_ret (jaQ rfl rfl rfl (jaH W8 _ n HN.o a8)) rfl ?_;have b0:Ext w4 W6:=a1.trans' a2 (fun x hx e=>by have e:x=w4.heap.size:=e;omega)
 exact⟨rfl,(a5.o.trans b0).trans' a9 (fun x hx e=>by have e:x=W.heap.size:=e;omega)⟩
theorem jmN(W:vW)(s bm:Nat)(room:Int)(S:vT)(hs:jaL W s bm room S)(x k:vB)(q)(hx:x.size<=1000)(hq:cutN x=some q)(hh:jeV x q=some k)(hy:atL S k.data.toList=none) :
  vR 94 #[.pointer (some ⟨s,0,none⟩),.string x] W (.tuple #[jaV.V,jgA]):=by
 have HS:=Hd hs;have HQ:=Hd hq;have HH:=Hd hh;have z:=fun w (h:jaL w s bm room S)=>jiB w s bm room S k h;rw[hy]at z;have O:=Hd z;clear hs hq hh hy z;go_enter Tryz.func94,Tryz.ntmps94;go_wp2_with (refine jal Tryz.allocNode rfl rfl ?_;intro W1 E H)
 refine vC (jeJ W1 x q vO HQ.o) fun w2 A=>?_;rw[HH.o];unfold optV;have J:=Hd (E.keeps A (fun h=>h));have K:=Hd (H.trans A);clear A E H;go_wp2_with fail
 refine vC (O.o w2 (HS.o.ext K.o)) fun w3 A=>?_;rw[show optV ((none:Option Nd5).map (·.2.2.text))=.tuple #[.string ⟨#[]⟩,.bool false]from rfl];have Q:=J.o.keeps A (fun h=>h);have X:=Hd (K.o.trans A);clear A J;go_wp2_with (refine jah (vs:=jaV.cells) rfl rfl rfl rfl Q rfl Tryz.szNode jaV.one ?_;intro W8 Z a0)
 refine bodyPost_ret (jaQ rfl rfl rfl (jaH W8 _ jaV rfl Z)) rfl ?_
 exact⟨rfl,X.o.trans' a0 (fun x hx e=>by have e:x=W.heap.size:=e;omega)⟩
theorem jnL(W:vW)(s bm:Nat)(room:Int)(S:vT)(hs:jaL W s bm room S){r:vB}{n:jae}(hr:jgK S r (some n)) :
  vR 94 #[.pointer (some ⟨s,0,none⟩),.string r] W (.tuple #[n.V,.nilIface]):=by
 rcases hr with⟨d,m,hI,hm⟩ |⟨k,e,o,⟨_,h3⟩ |⟨y,m,h3,z,hm⟩⟩
 ·obtain rfl:=bV hm
  obtain⟨q,e,o⟩:=(inlP d).nohash _ _ hI
  exact jlk W _ _ q n ((inlP d).refs _ _ hI) (by have:=(inlP d).small _ _ hI;omega) e o ((inlP d).inl _ _ hI)
 ·cases h3
 ·obtain rfl:=bV hm
  obtain⟨q,A,E⟩:=jdF k e
  obtain⟨z,g,H⟩:=z
  rw[o];refine jpi W s bm room S hs _ y.2.2.text k q g n H z ?_ A E y h3 rfl
  have:=jaZ k
  omega
theorem jlj(W:vW)(s bm:Nat)(room:Int)(S:vT)(hs:jaL W s bm room S){r:vB}(hr:jgK S r none) :
  vR 94 #[.pointer (some ⟨s,0,none⟩),.string r] W (.tuple #[jaV.V,jgA]):=by
 rcases hr with⟨d,m,hI,hm⟩ |⟨k,h1,h2,⟨h3,_⟩ |⟨y,m,h3,h4,hm⟩⟩
 ·cases hm
 ·obtain⟨q,e,o⟩:=jdF k h1
  rw[h2];refine jmN W s bm room S hs _ k q ?_ e o h3
  have:=jaZ k
  omega
 ·cases hm
end
end Go.Proofs.YtmobgkphhbmhbaaGreatDoor
