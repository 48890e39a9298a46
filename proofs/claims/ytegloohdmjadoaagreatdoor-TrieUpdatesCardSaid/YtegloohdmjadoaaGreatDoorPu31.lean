/- Lemmas; each is under no condition but those that it states. -/
import Derived.Test.YtegloohdmjadoaaGreatDoorPu30
namespace Go.Proofs.YtegloohdmjadoaaGreatDoor
set_option linter.unusedSimpArgs false
set_option linter.unusedVariables false
set_option maxRecDepth 100000
set_option maxHeartbeats 16000000
open Go Go.RowKit
def jj2(w:vW)(e:Ending)(w':vW):Prop:=∃ v,e=.returned (.tuple #[.bool false,.string ⟨#[]⟩,.string ⟨#[]⟩,v])/\Ext w w'/\Fa1 w w' v
theorem Tryz.errNeNil(b:Nat):∀ w,(binOp .neq 211 (.iface 237 (.pointer (some ⟨b,0,none⟩))) .nilIface).run Tryz.prog w=.ok (.bool true) w:=fun w=>by kernel_rfl
theorem jry(w:vW):vQ 157 #[.string ⟨#[]⟩] w (jj2 w):=by
 go_enter Tryz.func157,Tryz.ntmps157;go_wp2_with fail
 refine (jbP w 0).mono ?_;rintro e w1 ⟨v,rfl,m,H⟩
 obtain⟨b,k,rfl,A⟩:=H
 have E:=Hd (bB m A);clear m A;go_wp2_with fail
 refine bodyPost_ret (v:=.tuple #[.bool false,.string ⟨#[]⟩,.string ⟨#[]⟩,.iface 237 (.pointer (some ⟨b,0,none⟩))]) (by simp[results,Tryz.results157,go_sem]) rfl ?_
 exact⟨_,rfl,E.o.1,b,k,rfl,E.o.2⟩
theorem jjh(w:vW)(s:vB)(n:Nat)(hs:s.size<=1000000000)(h0:0 < s.size)(hc2:(s[0].toNat:Int)=128+n)(hn:n<=55)(hle:s.size < 1+n):vQ 157 #[.string s] w (jj2 w):=by
 have O:(0:Int) < (s.size:Int):=vO
 have Q:¬(s[0].toNat:Int) < 128:=vO
 have X:(s[0].toNat:Int) < 192:=vO
 have Z:¬(55:Int) < (n:Int):=vO
 have c5:(s.size:Int) - 1 < (n:Int):=vO
 have H:=jbe h0;have e1:(s[0].toNat:Int) - 128=(n:Int):=vO
 clear hc2;go_enter Tryz.func157,Tryz.ntmps157;go_wp2_with fail
 refine (jbP w s.size).mono ?_;rintro e w1 ⟨v,rfl,m,J⟩
 obtain⟨b,K,rfl,A⟩:=J
 have E:=Hd (bB m A);clear m A;go_wp2_with fail
 refine bodyPost_ret (v:=.tuple #[.bool false,.string ⟨#[]⟩,.string ⟨#[]⟩,.iface 237 (.pointer (some ⟨b,0,none⟩))]) (by simp[results,Tryz.results157,go_sem]) rfl ?_
 exact⟨_,rfl,E.o.1,b,K,rfl,E.o.2⟩
theorem jil(w:vW)(s:vB)(k:Nat)(hs:s.size<=1000000000)(h0:0 < s.size)(hc2:(s[0].toNat:Int)=128+55+k)(hk:1<=k)(hk8:k<=8)(hL:lenB s (1+k)=none):vQ 157 #[.string s] w (jj2 w):=by
 have H:=Hd hL;clear hL
 obtain⟨f,J⟩:=vE (1+k)
 obtain⟨m,X⟩:=vE (55+k)
 have c0:(0:Int) < (s.size:Int):=vO
 have c2:¬(s[0].toNat:Int) < 128:=vO
 have c3:(s[0].toNat:Int) < 192:=vO
 have c4:¬(m:Int)<=55:=vO
 have Z:(55:Int) < (m:Int):=vO
 have a0:=jbe h0;have e1:(s[0].toNat:Int) - 128=(m:Int):=vO
 have e2:1+(m:Int) - 55=(f:Int):=vO
 have A:2<=f:=vO
 have E:f<=1000:=vO
 have a1:(m:Int)<=63:=vO
 have a2:(0:Int)<=(m:Int):=vO
 have a3:=Tryz.errNeNil;rw[<-J]at H;clear hc2 J X;go_enter Tryz.func157,Tryz.ntmps157;go_wp2_with fail
 refine (jlY w s f hs A E H.o).mono ?_;rintro e w1 ⟨v,rfl,K,hF⟩
 obtain⟨b,kk,rfl,O⟩:=hF
 have Q:=Hd (bB K O);clear K O;go_wp2_with fail
 refine bodyPost_ret (v:=.tuple #[.bool false,.string ⟨#[]⟩,.string ⟨#[]⟩,.iface 237 (.pointer (some ⟨b,0,none⟩))]) (by simp[results,Tryz.results157,go_sem]) rfl ?_
 exact⟨_,rfl,Q.o.1,b,kk,rfl,Q.o.2⟩
theorem jgi(w:vW)(s:vB)(k n:Nat)(hs:s.size<=1000000000)(h0:0 < s.size)(hc2:(s[0].toNat:Int)=128+55+k)(hk:1<=k)(hk8:k<=8)(hL:lenB s (1+k)=some n)(hle:s.size < 1+k+n):vQ 157 #[.string s] w (jj2 w):=by
 obtain⟨Q,_,_,X,Z⟩:=jdi hL
 have E:=Hd hL;clear hL
 obtain⟨f,H⟩:=vE (1+k)
 obtain⟨m,hm⟩:=vE (55+k)
 have c0:(0:Int) < (s.size:Int):=vO
 have c2:¬(s[0].toNat:Int) < 128:=vO
 have c3:(s[0].toNat:Int) < 192:=vO
 have c4:¬(m:Int)<=55:=vO
 have a0:(55:Int) < (m:Int):=vO
 have c5:(s.size:Int) - (f:Int) < (n:Int):=vO
 have a1:=jbe h0;have e1:(s[0].toNat:Int) - 128=(m:Int):=vO
 have e2:1+(m:Int) - 55=(f:Int):=vO
 have A:2<=f:=vO
 have a2:(m:Int)<=63:=vO
 have a3:(0:Int)<=(m:Int):=vO
 have a4:(f:Int)<=(s.size:Int):=vO
 rw[<-H]at E;clear hc2 H hm hle;go_enter Tryz.func157,Tryz.ntmps157;go_wp2_with fail
 refine (jhW w s f n hs A E.o).mono ?_;rintro e w1 ⟨rfl,rfl⟩;go_wp2_with fail
 refine (jbP w s.size).mono ?_;rintro e w1 ⟨v,rfl,J,hF⟩
 obtain⟨b,kk,rfl,K⟩:=hF
 have O:=Hd (bB J K);clear J K;go_wp2_with fail
 refine bodyPost_ret (v:=.tuple #[.bool false,.string ⟨#[]⟩,.string ⟨#[]⟩,.iface 237 (.pointer (some ⟨b,0,none⟩))]) (by simp[results,Tryz.results157,go_sem]) rfl ?_
 exact⟨_,rfl,O.o.1,b,kk,rfl,O.o.2⟩
theorem jjg(w:vW)(s:vB)(n:Nat)(hs:s.size<=1000000000)(h0:0 < s.size)(hc2:(s[0].toNat:Int)=192+n)(hn:n<=55)(hle:s.size < 1+n):vQ 157 #[.string s] w (jj2 w):=by
 have O:(0:Int) < (s.size:Int):=vO
 have Q:¬(s[0].toNat:Int) < 128:=vO
 have X:¬(s[0].toNat:Int) < 192:=vO
 have Z:¬(55:Int) < (n:Int):=vO
 have c5:(s.size:Int) - 1 < (n:Int):=vO
 have H:=jbe h0;have e1:(s[0].toNat:Int) - 192=(n:Int):=vO
 clear hc2;go_enter Tryz.func157,Tryz.ntmps157;go_wp2_with fail
 refine (jbP w s.size).mono ?_;rintro e w1 ⟨v,rfl,m,J⟩
 obtain⟨b,K,rfl,A⟩:=J
 have E:=Hd (bB m A);clear m A;go_wp2_with fail
 refine bodyPost_ret (v:=.tuple #[.bool false,.string ⟨#[]⟩,.string ⟨#[]⟩,.iface 237 (.pointer (some ⟨b,0,none⟩))]) (by simp[results,Tryz.results157,go_sem]) rfl ?_
 exact⟨_,rfl,E.o.1,b,K,rfl,E.o.2⟩
theorem jii(w:vW)(s:vB)(k:Nat)(hs:s.size<=1000000000)(h0:0 < s.size)(hc2:(s[0].toNat:Int)=192+55+k)(hk:1<=k)(hk8:k<=8)(hL:lenB s (1+k)=none):vQ 157 #[.string s] w (jj2 w):=by
 have H:=Hd hL;clear hL
 obtain⟨f,J⟩:=vE (1+k)
 obtain⟨m,X⟩:=vE (55+k)
 have c0:(0:Int) < (s.size:Int):=vO
 have c2:¬(s[0].toNat:Int) < 128:=vO
 have c3:¬(s[0].toNat:Int) < 192:=vO
 have c4:¬(m:Int)<=55:=vO
 have Z:(55:Int) < (m:Int):=vO
 have a0:=jbe h0;have e1:(s[0].toNat:Int) - 192=(m:Int):=vO
 have e2:1+(m:Int) - 55=(f:Int):=vO
 have A:2<=f:=vO
 have E:f<=1000:=vO
 have a1:(m:Int)<=63:=vO
 have a2:(0:Int)<=(m:Int):=vO
 have a3:=Tryz.errNeNil;rw[<-J]at H;clear hc2 J X;go_enter Tryz.func157,Tryz.ntmps157;go_wp2_with fail
 refine (jlY w s f hs A E H.o).mono ?_;rintro e w1 ⟨v,rfl,K,hF⟩
 obtain⟨b,kk,rfl,O⟩:=hF
 have Q:=Hd (bB K O);clear K O;go_wp2_with fail
 refine bodyPost_ret (v:=.tuple #[.bool false,.string ⟨#[]⟩,.string ⟨#[]⟩,.iface 237 (.pointer (some ⟨b,0,none⟩))]) (by simp[results,Tryz.results157,go_sem]) rfl ?_
 exact⟨_,rfl,Q.o.1,b,kk,rfl,Q.o.2⟩
theorem jgh(w:vW)(s:vB)(k n:Nat)(hs:s.size<=1000000000)(h0:0 < s.size)(hc2:(s[0].toNat:Int)=192+55+k)(hk:1<=k)(hk8:k<=8)(hL:lenB s (1+k)=some n)(hle:s.size < 1+k+n):vQ 157 #[.string s] w (jj2 w):=by
 obtain⟨Q,_,_,X,Z⟩:=jdi hL
 have E:=Hd hL;clear hL
 obtain⟨f,H⟩:=vE (1+k)
 obtain⟨m,hm⟩:=vE (55+k)
 have c0:(0:Int) < (s.size:Int):=vO
 have c2:¬(s[0].toNat:Int) < 128:=vO
 have c3:¬(s[0].toNat:Int) < 192:=vO
 have c4:¬(m:Int)<=55:=vO
 have a0:(55:Int) < (m:Int):=vO
 have c5:(s.size:Int) - (f:Int) < (n:Int):=vO
 have a1:=jbe h0;have e1:(s[0].toNat:Int) - 192=(m:Int):=vO
 have e2:1+(m:Int) - 55=(f:Int):=vO
 have A:2<=f:=vO
 have a2:(m:Int)<=63:=vO
 have a3:(0:Int)<=(m:Int):=vO
 have a4:(f:Int)<=(s.size:Int):=vO
 rw[<-H]at E;clear hc2 H hm hle;go_enter Tryz.func157,Tryz.ntmps157;go_wp2_with fail
 refine (jhW w s f n hs A E.o).mono ?_;rintro e w1 ⟨rfl,rfl⟩;go_wp2_with fail
 refine (jbP w s.size).mono ?_;rintro e w1 ⟨v,rfl,J,hF⟩
 obtain⟨b,kk,rfl,K⟩:=hF
 have O:=Hd (bB J K);clear J K;go_wp2_with fail
 refine bodyPost_ret (v:=.tuple #[.bool false,.string ⟨#[]⟩,.string ⟨#[]⟩,.iface 237 (.pointer (some ⟨b,0,none⟩))]) (by simp[results,Tryz.results157,go_sem]) rfl ?_
 exact⟨_,rfl,O.o.1,b,kk,rfl,O.o.2⟩
theorem juf(w:vW)(s:vB)(hs:s.size<=1000000000)(h0:1 < s.size)(hc2:(s[0].toNat:Int)=128+1)(h1:(s[1].toNat:Int) < 128):vQ 157 #[.string s] w (jj2 w):=by
 have O:(0:Int) < (s.size:Int):=vO
 have Q:(1:Int) < (s.size:Int):=vO
 have X:¬(s[0].toNat:Int) < 128:=vO
 have Z:(s[0].toNat:Int) < 192:=vO
 have c5:¬(s.size:Int) - 1 < 1:=vO
 have H:=jbe (show 0 < s.size by omega);have e1:(s[0].toNat:Int) - 128=1:=vO
 clear hc2;go_enter Tryz.func157,Tryz.ntmps157;go_wp2_with fail
 refine (jbP w 1).mono ?_;rintro e w1 ⟨v,rfl,m,J⟩
 obtain⟨b,K,rfl,A⟩:=J
 have E:=Hd (bB m A);clear m A;go_wp2_with fail
 refine bodyPost_ret (v:=.tuple #[.bool false,.string ⟨#[]⟩,.string ⟨#[]⟩,.iface 237 (.pointer (some ⟨b,0,none⟩))]) (by simp[results,Tryz.results157,go_sem]) rfl ?_
 exact⟨_,rfl,E.o.1,b,K,rfl,E.o.2⟩
section
attribute [local go_sem] Oper.semAt_some
theorem jy0(w:vW)(s:vB)(hs:s.size<=1000000000)(h:cutN s=none):vQ 157 #[.string s] w (jj2 w):=by
 unfold cutN at h
 by_cases h0:0 < s.size
 case neg =>
  have:s=⟨#[]⟩:=by
   have o:s.size=0:=vO
   obtain⟨⟨l⟩⟩:=s
   have:l=[]:=bD o
   rw[this]
  rw[this];exact jry w
 rw[dif_pos h0]at h;simp only at h;have hb:=s[0].toNat_lt
 by_cases h1:s[0].toNat < 128
 ·rw[if_pos h1]at h;cases h
 rw[if_neg h1]at h
 by_cases h2:s[0].toNat < 192
 ·rw[if_pos h2]at h
  simp only at h
  by_cases h3:s[0].toNat - 128<=55
  ·rw[if_pos h3]at h
   split at h
   ·cases h
   rename_i e
   by_cases hsz:1+(s[0].toNat - 128)<=s.size
   ·have e:s[0].toNat - 128=1/\¬ 128<=(s.data.toList.getD 1 0).toNat:=by
     refine⟨Classical.byContradiction fun A=>e ⟨hsz,.inr (.inl A)⟩,fun A=>e ⟨hsz,.inr (.inr A)⟩⟩
    obtain⟨H,m⟩:=e
    have E:1 < s.size:=vO
    rw[bC,bA (by simpa using E)]at m;have J:¬ 128<=(s[1]'E).toNat:=m;exact juf w s hs E vO vO
   ·exact jjh w s (s[0].toNat - 128) hs h0 vO h3 vO
  ·rw[if_neg h3]at h
   split at h
   ·rename_i n hl
    split at h
    ·cases h
    rename_i e
    exact jgi w s (s[0].toNat - 128 - 55) n hs h0 vO vO vO hl vO
   ·rename_i hl
    exact jil w s (s[0].toNat - 128 - 55) hs h0 vO vO vO hl
 ·rw[if_neg h2]at h
  simp only at h
  by_cases h3:s[0].toNat - 192<=55
  ·rw[if_pos h3]at h
   split at h
   ·cases h
   rename_i e
   refine jjg w s (s[0].toNat - 192) hs h0 vO h3 ?_
   have:¬ 1+(s[0].toNat - 192)<=s.size:=fun o=>e ⟨o,.inl trivial⟩
   omega
  ·rw[if_neg h3]at h
   split at h
   ·rename_i n hl
    split at h
    ·cases h
    rename_i e
    exact jgh w s (s[0].toNat - 192 - 55) n hs h0 vO vO vO hl vO
   ·rename_i hl
    exact jii w s (s[0].toNat - 192 - 55) hs h0 vO vO vO hl
theorem Tryz.noIsF(v:vV)(xT:TypeId)(w:vW):(Instr.typeAssert (.iface 237 v) xT 252 true).run Tryz.prog w=.ok (.tuple #[.nilIface,.bool false]) w:=run_typeAssert_lacksB Tryz.underlying252 vY vY v xT w
theorem Tryz.hasUnwrapF(v:vV)(xT:TypeId)(w:vW):(Instr.typeAssert (.iface 237 v) xT 255 true).run Tryz.prog w=.ok (.tuple #[.iface 237 v,.bool true]) w:=run_typeAssert_hasB Tryz.underlying255 vY v xT w
end
theorem Tryz.isMethodComparable(n:Nat)(v:vV)(w:vW):(Go.method (n+1) 250 v "Comparable").run Tryz.prog w=.ok (249,v) w:=vY
theorem Tryz.methodUnwrapF(n:Nat)(v:vV)(w:vW):(Go.method (n+1) 237 v "Unwrap").run Tryz.prog w=.ok (245,v) w:=vY
theorem jvM(w:vW)(b:Nat)(k:Int)(c:vV)(hB:Blk w b (.cells #[.int .i64 k,c] 239)):vQ 245 #[.pointer (some ⟨b,0,none⟩)] w fun e w'=>e=.returned c/\w=w':=by
 have m:=hB.cell (i:=1) (v:=c) vF;clear hB;go_enter Tryz.func245,Tryz.ntmps245;go_wp2_with fail
 go_ret
 exact⟨rfl,rfl⟩
theorem jAH(w:vW)(b:Nat)(k:Int)(hB:Blk w b (.cells #[.int .i64 k,malE] 239)):vQ 179 #[.iface 237 (.pointer (some ⟨b,0,none⟩)),malE,.bool true] w fun e w'=>e=.returned (.bool true)/\w=w':=by
 have m:=Hd hB;clear hB;have A:=fun w=>run_eql_iface_types (P:=Tryz.prog) 237 31 (.pointer (some ⟨b,0,none⟩)) (.int .i64 2) Tryz.underlying211 vI w;have E:∀ w,(binOp .eql 211 malE malE).run Tryz.prog w=.ok (.bool true) w:=fun w=>by kernel_rfl
 have H:∀ w,(binOp .eql 211 malE .nilIface).run Tryz.prog w=.ok (.bool false) w:=fun w=>by kernel_rfl
 unfold malE at *;have J:=Tryz.noIsF;have K:=Tryz.hasUnwrapF;have O:=Tryz.methodUnwrapF 410;go_enter Tryz.func179,Tryz.ntmps179;go_wp2_with fail
 refine wp_loop_rounds 2 ?_;rw[rounds_succ];go_wp2_with fail
 refine (jvM w b k _ m.o).mono ?_;rintro e w1 ⟨rfl,rfl⟩;go_wp2_with fail
 rw[rounds_succ];go_wp2_with fail
 go_ret
 exact⟨rfl,rfl⟩
theorem juL(w:vW)(b:Nat)(k:Int)(hB:Blk w b (.cells #[.int .i64 k,malE] 239)):vQ 158 #[.iface 237 (.pointer (some ⟨b,0,none⟩)),malE] w fun e w'=>e=.returned (.bool true)/\w=w':=by
 have m:=Hd (jAH w b k hB);clear hB;have A:∀ w,(binOp .eql 211 (.iface 237 (.pointer (some ⟨b,0,none⟩))) .nilIface).run Tryz.prog w=.ok (.bool false) w:=fun w=>by kernel_rfl
 have E:∀ w,(binOp .eql 211 malE .nilIface).run Tryz.prog w=.ok (.bool false) w:=fun w=>by kernel_rfl
 unfold malE at *;have J:∀ w,(callFunc 178 #[.iface 31 (.int .i64 2)]).run Tryz.prog w=.ok (.value (.iface 250 (.agg #[.pointer (some ⟨3,31,none⟩)]))) w:=fun w=>by kernel_rfl
 have H:∀ w,(callFunc 249 #[.agg #[.pointer (some ⟨3,31,none⟩)]]).run Tryz.prog w=.ok (.value (.bool true)) w:=fun w=>by kernel_rfl
 have K:=Tryz.isMethodComparable 410;go_enter Tryz.func158,Tryz.ntmps158;go_wp2_with fail
 refine m.o.mono ?_;rintro e w1 ⟨rfl,rfl⟩;go_wp2_with fail
 go_ret
 exact⟨rfl,rfl⟩
section
attribute [local go_sem] Oper.semAt_some
theorem jpb(w:vW)(s:vB)(hs:s.size<=1000000000)(h:cutN s=none):vR 129 #[.string s] w (.tuple #[.bool false,.string ⟨#[]⟩,.string ⟨#[]⟩,.int .i64 2]):=by
 have E:=Hd (jy0 w s hs h);clear h;go_enter Tryz.func129,Tryz.ntmps129;go_wp2_with fail
 refine E.o.mono ?_;rintro e w1 ⟨v,rfl,m,b,k,rfl,A,_⟩;have H:=Hd m;have J:=Hd A;clear m A;go_wp2_with fail
 refine (show vQ 158 #[.iface 237 (.pointer (some ⟨b,0,none⟩)),.iface 31 (.int .i64 2)] w1 fun e w'=>e=.returned (.bool true)/\w1=w' from juL w1 b k J.o).mono ?_;rintro e K ⟨rfl,rfl⟩;go_wp2_with fail
 exact bodyPost_ret (v:=.tuple #[.bool false,.string ⟨#[]⟩,.string ⟨#[]⟩,.int .i64 2]) (by simp[results,Tryz.results129,go_sem]) rfl ⟨rfl,H.o⟩
theorem jvd(w:vW)(s:vB)(hs:s.size<=1000000000)(h:cutN s=none):vR 119 #[.string s] w (optV none):=by
 have A:=Hd (jpb w s hs h);clear h;go_enter Tryz.func119,Tryz.ntmps119;go_wp2_with fail
 refine A.o.mono ?_;rintro e w1 ⟨rfl,m⟩;have E:=Hd m;clear m;go_wp2_with fail
 go_ret2
 exact⟨rfl,E.o⟩
theorem jxa(w:vW)(s:vB)(hs:s.size<=1000000000)(h:cutN s=none):vR 89 #[.string s] w (optV none):=by
 have A:=Hd (jvd w s hs h);clear h;go_enter Tryz.func89,Tryz.ntmps89;go_wp2_with fail
 refine A.o.mono ?_;rintro e w1 ⟨rfl,m⟩;unfold optV;have E:=Hd m;clear m;go_wp2_with fail
 go_ret2
 exact⟨rfl,E.o⟩
def jkr(s:vB):Option vB:=match cutN s with | some r=>jgl s r | none=>none
theorem jfB(w:vW)(s:vB)(hs:s.size<=1000000000):vR 89 #[.string s] w (optV (jkr s)):=by
 unfold jkr;cases h:cutN s with
 | none=>exact jxa w s hs h
 | some r=>exact jei w s r hs h
end
def RdNo(w:vW)(e:Ending)(w':vW):Prop:=∃ m:jad,m.refs.length=16/\e=.returned (.tuple #[m.V,.bool false])/\Ext w w'
def jtJ(w:vW)(e:Ending)(w':vW):Prop:=e=.returned (.tuple #[jav.V,.int .i64 2])/\Ext w w'
theorem jmo(w:vW)(s:vB)(hs:s.size<=1000000000)(h:cutN s=none):vQ 94 #[.string s] w (RdNo w):=by
 obtain⟨em,m⟩:=vE (jap ⟨#[]⟩)
 have E:s≠em:=fun e=>by
  obtain⟨o,h1,_⟩:=jij ⟨#[]⟩ vI
  rw[e,m,h1]at h;cases h
 have a2:=jfq E;have O:=Hd m;have HS:=Hd (fun w=>jpb w s hs h);have HZ:=Hd hs;clear m E h hs;go_enter Tryz.func94,Tryz.ntmps94;go_wp2_with (refine jaj Tryz.allocNode rfl rfl ?_;intro W1 H J)
 refine vC (jew _ ⟨#[]⟩ vI) fun w2 A=>?_;rw[<-O.o];have K:=Hd (H.keeps A (fun h=>h));have Q:=Hd (J.trans A);clear H J A;go_wp2_with fail
 refine vC (HS.o w2) fun w3 A=>?_;have X:=K.o.keeps A (fun h=>h);have Z:=Hd (Q.o.trans A);clear A K;go_wp2_with (refine jag (vs:=jav.cells) rfl rfl rfl rfl X rfl Tryz.szNode (jad.one _) ?_;intro W8 a0 a1)
 refine bodyPost_ret (jaC rfl rfl rfl (jas W8 _ jav rfl a0)) rfl ?_
 exact⟨jav,rfl,rfl,Z.o.trans' a1 (fun x hx e=>by have e:x=w.heap.size:=e;omega)⟩
theorem jw6(w:vW)(s:vB)(h:∀ w,vQ 94 #[.string s] w (RdNo w)):vQ 65 #[.string s] w (jtJ w):=by
 have HR:=Hd h;clear h;go_enter Tryz.func65,Tryz.ntmps65;go_wp2_with (refine jaj Tryz.allocNode rfl rfl ?_;intro W1 A E)
 refine (HR.o W1).mono ?_;rintro e w2 ⟨m,Q,rfl,X⟩;have H:=A.keeps X (fun h=>h);have Z:=Hd (E.trans X);have HL:=Hd (m.cells_len Q);have HM:=Hd Q;clear A E X Q;unfold jad.V;go_wp2_with (first |(refine jaj Tryz.allocNode rfl rfl ?_;intro W3 a0 J;refine jag (vs:=m.cells) rfl rfl rfl rfl a0 (by rw[HL.o];rfl) (by rw[HL.o];exact Tryz.szNode) m.one ?_;intro W4 a4 K;have O:=(H.keeps J (fun h=>h)).keeps K (by have:=H.lt;omega)) |(refine jag (vs:=jav.cells) rfl rfl rfl rfl O rfl Tryz.szNode (jad.one _) ?_;intro W8 a1 a2))
 refine bodyPost_ret (jaC rfl rfl rfl (jas W8 _ jav rfl a1)) rfl ?_;have a3:Ext w2 W4:=J.trans' K (fun x hx e=>by have e:x=w2.heap.size:=e;omega)
 exact⟨rfl,(Z.o.trans a3).trans' a2 (fun x hx e=>by have e:x=w.heap.size:=e;omega)⟩
theorem jze(w:vW)(s:vB)(hs:s.size < 32)(h:∀ w,vQ 65 #[.string s] w (jtJ w)):vR 90 #[.string s] w (.tuple #[jav.V,.bool false]):=by
 have HR:=Hd h;have c1:¬(32:Int)<=(s.size:Int):=vO
 clear h;go_enter Tryz.func90,Tryz.ntmps90;go_wp2_with (refine jaj Tryz.allocNode rfl rfl ?_;intro W1 m A)
 refine vC (HR.o W1) fun O Q=>?_;have E:=m.keeps Q (fun h=>h);have X:=Hd (A.trans Q);clear m A Q;unfold jad.V;go_wp2_with (first |(refine jaj Tryz.allocNode rfl rfl ?_;intro W3 Z H;refine jag (vs:=jav.cells) rfl rfl rfl rfl Z rfl Tryz.szNode jav.one ?_;intro W4 a0 J;have q0:W4.cell? ⟨O.heap.size,0,none⟩=some (.int .i64 0):=a0.cellL vF;have K:=(E.keeps H (fun h=>h)).keeps J (by have:=E.lt;omega)) |(refine jag (vs:=jav.cells) rfl rfl rfl rfl K rfl Tryz.szNode (jad.one _) ?_;intro W8 a1 a2))
 refine bodyPost_ret (jaC rfl rfl rfl (jas W8 _ jav rfl a1)) rfl ?_;have a3:Ext O W4:=H.trans' J (fun x hx e=>by have e:x=O.heap.size:=e;omega)
 exact⟨rfl,(X.o.trans a3).trans' a2 (fun x hx e=>by have e:x=w.heap.size:=e;omega)⟩
theorem jwT:cutN ⟨#[]⟩=none:=by decide +kernel
theorem jcy(w:vW):vR 90 #[.string ⟨#[]⟩] w (.tuple #[jav.V,.bool false]):=
 jze w ⟨#[]⟩ vI fun w=>jw6 w _ fun w=>jmo w _ vI jwT
theorem jb3(w:vW):vR 89 #[.string ⟨#[]⟩] w (.tuple #[.string ⟨#[]⟩,.bool false]):=jfB w ⟨#[]⟩ vI
end Go.Proofs.YtegloohdmjadoaaGreatDoor
