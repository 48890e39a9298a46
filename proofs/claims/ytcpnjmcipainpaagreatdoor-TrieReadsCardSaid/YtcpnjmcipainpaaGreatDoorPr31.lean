/- Lemmas; each is under no condition but those that it states. -/
import Derived.Test.YtcpnjmcipainpaaGreatDoorPr6
import Derived.Stop.Asserts
namespace Go.Proofs.YtcpnjmcipainpaaGreatDoor
set_option linter.unusedSimpArgs false
set_option linter.unusedVariables false
set_option maxRecDepth 100000
set_option maxHeartbeats 16000000
open Go Go.RowKit
def malE:Value:=.iface 27 (.int .i64 2)
def Fa1(W0 W:World)(v:Value):Prop:=∃ (b:Nat) (k:Int),v=.iface 324 (.pointer (some ⟨b,0,none⟩))/\Blk W b (.cells #[.int .i64 k,malE] 326)/\W0.heap.size<=b
def MalP(w:World)(e:Ending)(w':World):Prop:=∃ v,e=.returned v/\Ext w w'/\Fa1 w w' v
theorem jbI(w:World)(k:Int):vQ 244 #[.int .i64 k] w (MalP w):=by
 go_enter Tryz.func244,Tryz.ntmps244;go_wp2_with fail
 go_ret
 exact⟨_,rfl,(ExtR w).alloc _,_,k,rfl,Blk.new w _,Nat.le_refl _⟩
def jyl(w:World)(e:Ending)(w':World):Prop:=∃ v,e=.returned (.tuple #[.int .i64 0,v])/\Ext w w'/\Fa1 w w' v
def juH(s:vB)(to:Nat)(w:World)(n i:Value)(wr:World):Prop:=∃ k:Nat,1<=k/\k<=to/\i=.int .i64 k/\n=.int .i64 (beN ((s.data.toList.take k).drop 1))/\beN ((s.data.toList.take k).drop 1)<=1048576/\wr=w
theorem jk4(w:World)(s:vB)(to:Nat)(hs:s.size<=1000000000)(h2:2<=to)(h9:to<=1000)(h:lenB s to=none):vQ 245 #[.string s,.int .i64 to] w (jyl w):=by
 by_cases hto:s.size < to
 ·have c0:(s.size:Int) < (to:Int):=by omega
  clear h;go_enter Tryz.func245,Tryz.ntmps245;go_wp2_with fail
  refine (jbI w s.size).mono ?_;rintro e w1 ⟨v,rfl,hE,hF⟩
  obtain⟨b,k,rfl,hB⟩:=hF
  have HE:=Hd (And.intro hE hB);clear hE hB;go_wp2_with fail
  go_ret2
  exact⟨_,rfl,HE.o.1,b,k,rfl,HE.o.2⟩
 have c0:¬(s.size:Int) < (to:Int):=by omega
 have c1:(1:Int) < (s.size:Int):=by omega
 by_cases hz:(s[1]'(by omega)).toNat=0
 ·have hz2:(((s[1]'(by omega)).toNat:Int) == 0)=true:=by simp[hz]
  clear h;go_enter Tryz.func245,Tryz.ntmps245;go_wp2_with fail
  refine (jbI w 1).mono ?_;rintro e w1 ⟨v,rfl,hE,hF⟩
  obtain⟨b,k,rfl,hB⟩:=hF
  have HE:=Hd (And.intro hE hB);clear hE hB;go_wp2_with fail
  go_ret2
  exact⟨_,rfl,HE.o.1,b,k,rfl,HE.o.2⟩
 have hz2:(((s[1]'(by omega)).toNat:Int) == 0)=false:=by simpa using hz
 have HH:=Hd (show ¬(55 < beN ((s.data.toList.take to).drop 1)/\beN ((s.data.toList.take to).drop 1)<=1048576)from fun hc=>by
  unfold lenB at h;rw[if_neg ?_,if_pos hc]at h
  ·cases h
  ·rintro (h1 | h1)
   ·exact hto h1
   ·rw[List.getD_eq_getElem?_getD,List.getElem?_eq_getElem (by simp;omega)]at h1
    have h1:(s[1]'(by omega))=0:=h1;exact hz (by rw[h1];rfl))
 clear h hz;go_enter Tryz.func245,Tryz.ntmps245;go_wp2_with fail
 go_loopw [6,7] (fun m i wr=>juH s to w m i wr) (fun _ i _=>to - (intOf i).toNat)
 case atStart=>exact⟨1,Nat.le_refl _,by omega,rfl,by simp[beN],by simp[beN],rfl⟩
 case round =>
  obtain⟨k,hk1,hk2,rfl,rfl,hm3,rfl⟩:=hrel
  by_cases hlt:k < to
  ·have hks:k < s.size:=by omega
   have c2:(k:Int) < (s.size:Int):=by omega
   have c3:(k:Int) < (to:Int):=by omega
   have hsn:=jfs s hk1 hks
   obtain⟨m,hm⟩:=vE (beN ((s.data.toList.take k).drop 1))
   rw[<-hm]at hm3;have hor:=jq8 m s[k] hm3;have hor':bits BinOp.or .i64 ((m:Int) * 256) (wrap64 (s[k].toNat:Int))=((m * 256+s[k].toNat:Nat):Int):=by
    have hb:=s[k].toNat_lt;rw[<-hor];congr 1;unfold wrap64;omega
   clear hor;have e5:beN ((s.data.toList.take (k+1)).drop 1)=m * 256+s[k].toNat:=by rw[hsn,jjj, <-hm]
   have H5:=Hd e5;rw[<-hm];clear hm hsn e5
   obtain⟨m',hm'⟩:∃ m',m'=m * 256+s[k].toNat:=⟨_,rfl⟩
   rw[<-hm']at hor';have HM':=Hd hm';clear hm'
   by_cases hbig:1048576 < m'
   ·have c4:(1048576:Int) < (m':Int):=by omega
    go_wp2_with fail
    refine (jbI wr k).mono ?_;rintro e w1 ⟨v,rfl,hE,hF⟩
    obtain⟨b,kk,rfl,hB⟩:=hF
    have HE:=Hd (And.intro hE hB);clear hE hB;go_wp2_with fail
    go_ret2
    exact⟨_,rfl,HE.o.1,b,kk,rfl,HE.o.2⟩
   ·have c4:¬(1048576:Int) < (m':Int):=by omega
    go_wp2_with fail
    go_roundw
    case rel=>exact⟨k+1,by omega,by omega,by go_num,by rw[H5.o,HM'.o],by rw[H5.o, <-HM'.o];omega,rfl⟩
    case measure=>simp[intOf];omega
  ·have hkt:k=to:=by omega
   subst hkt;have c3:¬(k:Int) < (k:Int):=by omega
   obtain⟨m,hm⟩:=vE (beN ((s.data.toList.take k).drop 1))
   have hh:=HH.o;rw[<-hm]at hm3 hh ⊢;have c4:¬(55:Int) < (m:Int):=by omega
   clear hm hh;go_wp2_with fail
   refine (jbI wr 1).mono ?_;rintro e w1 ⟨v,rfl,hE,hF⟩
   obtain⟨b,kk,rfl,hB⟩:=hF
   have HE:=Hd (And.intro hE hB);clear hE hB;go_wp2_with fail
   go_ret2
   exact⟨_,rfl,HE.o.1,b,kk,rfl,HE.o.2⟩
def jje(w:World)(e:Ending)(w':World):Prop:=∃ v,e=.returned (.tuple #[.bool false,.string ⟨#[]⟩,.string ⟨#[]⟩,v])/\Ext w w'/\Fa1 w w' v
theorem Tryz.errNeNil(b:Nat):∀ w,(binOp .neq 162 (.iface 324 (.pointer (some ⟨b,0,none⟩))) .nilIface).run Tryz.prog w=.ok (.bool true) w:=fun w=>by kernel_rfl
theorem jpZ(w:World):vQ 225 #[.string ⟨#[]⟩] w (jje w):=by
 go_enter Tryz.func225,Tryz.ntmps225;go_wp2_with fail
 refine (jbI w 0).mono ?_;rintro e w1 ⟨v,rfl,hE,hF⟩
 obtain⟨b,k,rfl,hB⟩:=hF
 have HE:=Hd (And.intro hE hB);clear hE hB;go_wp2_with fail
 refine bodyPost_ret (v:=.tuple #[.bool false,.string ⟨#[]⟩,.string ⟨#[]⟩,.iface 324 (.pointer (some ⟨b,0,none⟩))]) (by simp[results,Tryz.results225,go_sem]) rfl ?_
 exact⟨_,rfl,HE.o.1,b,k,rfl,HE.o.2⟩
theorem jiu(w:World)(s:vB)(n:Nat)(hs:s.size<=1000000000)(h0:0 < s.size)(hc2:(s[0].toNat:Int)=128+n)(hn:n<=55)(hle:s.size < 1+n):vQ 225 #[.string s] w (jje w):=by
 have c0:(0:Int) < (s.size:Int):=by omega
 have c2:¬(s[0].toNat:Int) < 128:=by omega
 have c3:(s[0].toNat:Int) < 192:=by omega
 have c4:¬(55:Int) < (n:Int):=by omega
 have c5:(s.size:Int) - 1 < (n:Int):=by omega
 have hne:=ja8 h0;have e1:(s[0].toNat:Int) - 128=(n:Int):=by omega
 clear hc2;go_enter Tryz.func225,Tryz.ntmps225;go_wp2_with fail
 refine (jbI w s.size).mono ?_;rintro e w1 ⟨v,rfl,hE,hF⟩
 obtain⟨b,kk,rfl,hB⟩:=hF
 have HE:=Hd (And.intro hE hB);clear hE hB;go_wp2_with fail
 refine bodyPost_ret (v:=.tuple #[.bool false,.string ⟨#[]⟩,.string ⟨#[]⟩,.iface 324 (.pointer (some ⟨b,0,none⟩))]) (by simp[results,Tryz.results225,go_sem]) rfl ?_
 exact⟨_,rfl,HE.o.1,b,kk,rfl,HE.o.2⟩
theorem jhz(w:World)(s:vB)(k:Nat)(hs:s.size<=1000000000)(h0:0 < s.size)(hc2:(s[0].toNat:Int)=128+55+k)(hk:1<=k)(hk8:k<=8)(hL:lenB s (1+k)=none):vQ 225 #[.string s] w (jje w):=by
 have HL:=Hd hL;clear hL
 obtain⟨f,hf⟩:=vE (1+k)
 obtain⟨m,hm⟩:=vE (55+k)
 have c0:(0:Int) < (s.size:Int):=by omega
 have c2:¬(s[0].toNat:Int) < 128:=by omega
 have c3:(s[0].toNat:Int) < 192:=by omega
 have c4:¬(m:Int)<=55:=by omega
 have c4b:(55:Int) < (m:Int):=by omega
 have hne:=ja8 h0;have e1:(s[0].toNat:Int) - 128=(m:Int):=by omega
 have e2:1+(m:Int) - 55=(f:Int):=by omega
 have hf2:2<=f:=by omega
 have hf9:f<=1000:=by omega
 have c10:(m:Int)<=63:=by omega
 have c11:(0:Int)<=(m:Int):=by omega
 have hnn:=Tryz.errNeNil;rw[<-hf]at HL;clear hc2 hf hm;go_enter Tryz.func225,Tryz.ntmps225;go_wp2_with fail
 refine (jk4 w s f hs hf2 hf9 HL.o).mono ?_;rintro e w1 ⟨v,rfl,hE,hF⟩
 obtain⟨b,kk,rfl,hB⟩:=hF
 have HE:=Hd (And.intro hE hB);clear hE hB;go_wp2_with fail
 refine bodyPost_ret (v:=.tuple #[.bool false,.string ⟨#[]⟩,.string ⟨#[]⟩,.iface 324 (.pointer (some ⟨b,0,none⟩))]) (by simp[results,Tryz.results225,go_sem]) rfl ?_
 exact⟨_,rfl,HE.o.1,b,kk,rfl,HE.o.2⟩
theorem jfX(w:World)(s:vB)(k n:Nat)(hs:s.size<=1000000000)(h0:0 < s.size)(hc2:(s[0].toNat:Int)=128+55+k)(hk:1<=k)(hk8:k<=8)(hL:lenB s (1+k)=some n)(hle:s.size < 1+k+n):vQ 225 #[.string s] w (jje w):=by
 obtain⟨hto,_,_,hn1,hn2⟩:=jc6 hL
 have HL:=Hd hL;clear hL
 obtain⟨f,hf⟩:=vE (1+k)
 obtain⟨m,hm⟩:=vE (55+k)
 have c0:(0:Int) < (s.size:Int):=by omega
 have c2:¬(s[0].toNat:Int) < 128:=by omega
 have c3:(s[0].toNat:Int) < 192:=by omega
 have c4:¬(m:Int)<=55:=by omega
 have c4b:(55:Int) < (m:Int):=by omega
 have c5:(s.size:Int) - (f:Int) < (n:Int):=by omega
 have hne:=ja8 h0;have e1:(s[0].toNat:Int) - 128=(m:Int):=by omega
 have e2:1+(m:Int) - 55=(f:Int):=by omega
 have hf2:2<=f:=by omega
 have c10:(m:Int)<=63:=by omega
 have c11:(0:Int)<=(m:Int):=by omega
 have c12:(f:Int)<=(s.size:Int):=by omega
 rw[<-hf]at HL;clear hc2 hf hm hle;go_enter Tryz.func225,Tryz.ntmps225;go_wp2_with fail
 refine (jhh w s f n hs hf2 HL.o).mono ?_;rintro e w1 ⟨rfl,rfl⟩;go_wp2_with fail
 refine (jbI w s.size).mono ?_;rintro e w1 ⟨v,rfl,hE,hF⟩
 obtain⟨b,kk,rfl,hB⟩:=hF
 have HE:=Hd (And.intro hE hB);clear hE hB;go_wp2_with fail
 refine bodyPost_ret (v:=.tuple #[.bool false,.string ⟨#[]⟩,.string ⟨#[]⟩,.iface 324 (.pointer (some ⟨b,0,none⟩))]) (by simp[results,Tryz.results225,go_sem]) rfl ?_
 exact⟨_,rfl,HE.o.1,b,kk,rfl,HE.o.2⟩
theorem jit(w:World)(s:vB)(n:Nat)(hs:s.size<=1000000000)(h0:0 < s.size)(hc2:(s[0].toNat:Int)=192+n)(hn:n<=55)(hle:s.size < 1+n):vQ 225 #[.string s] w (jje w):=by
 have c0:(0:Int) < (s.size:Int):=by omega
 have c2:¬(s[0].toNat:Int) < 128:=by omega
 have c3:¬(s[0].toNat:Int) < 192:=by omega
 have c4:¬(55:Int) < (n:Int):=by omega
 have c5:(s.size:Int) - 1 < (n:Int):=by omega
 have hne:=ja8 h0;have e1:(s[0].toNat:Int) - 192=(n:Int):=by omega
 clear hc2;go_enter Tryz.func225,Tryz.ntmps225;go_wp2_with fail
 refine (jbI w s.size).mono ?_;rintro e w1 ⟨v,rfl,hE,hF⟩
 obtain⟨b,kk,rfl,hB⟩:=hF
 have HE:=Hd (And.intro hE hB);clear hE hB;go_wp2_with fail
 refine bodyPost_ret (v:=.tuple #[.bool false,.string ⟨#[]⟩,.string ⟨#[]⟩,.iface 324 (.pointer (some ⟨b,0,none⟩))]) (by simp[results,Tryz.results225,go_sem]) rfl ?_
 exact⟨_,rfl,HE.o.1,b,kk,rfl,HE.o.2⟩
theorem jhw(w:World)(s:vB)(k:Nat)(hs:s.size<=1000000000)(h0:0 < s.size)(hc2:(s[0].toNat:Int)=192+55+k)(hk:1<=k)(hk8:k<=8)(hL:lenB s (1+k)=none):vQ 225 #[.string s] w (jje w):=by
 have HL:=Hd hL;clear hL
 obtain⟨f,hf⟩:=vE (1+k)
 obtain⟨m,hm⟩:=vE (55+k)
 have c0:(0:Int) < (s.size:Int):=by omega
 have c2:¬(s[0].toNat:Int) < 128:=by omega
 have c3:¬(s[0].toNat:Int) < 192:=by omega
 have c4:¬(m:Int)<=55:=by omega
 have c4b:(55:Int) < (m:Int):=by omega
 have hne:=ja8 h0;have e1:(s[0].toNat:Int) - 192=(m:Int):=by omega
 have e2:1+(m:Int) - 55=(f:Int):=by omega
 have hf2:2<=f:=by omega
 have hf9:f<=1000:=by omega
 have c10:(m:Int)<=63:=by omega
 have c11:(0:Int)<=(m:Int):=by omega
 have hnn:=Tryz.errNeNil;rw[<-hf]at HL;clear hc2 hf hm;go_enter Tryz.func225,Tryz.ntmps225;go_wp2_with fail
 refine (jk4 w s f hs hf2 hf9 HL.o).mono ?_;rintro e w1 ⟨v,rfl,hE,hF⟩
 obtain⟨b,kk,rfl,hB⟩:=hF
 have HE:=Hd (And.intro hE hB);clear hE hB;go_wp2_with fail
 refine bodyPost_ret (v:=.tuple #[.bool false,.string ⟨#[]⟩,.string ⟨#[]⟩,.iface 324 (.pointer (some ⟨b,0,none⟩))]) (by simp[results,Tryz.results225,go_sem]) rfl ?_
 exact⟨_,rfl,HE.o.1,b,kk,rfl,HE.o.2⟩
theorem jfW(w:World)(s:vB)(k n:Nat)(hs:s.size<=1000000000)(h0:0 < s.size)(hc2:(s[0].toNat:Int)=192+55+k)(hk:1<=k)(hk8:k<=8)(hL:lenB s (1+k)=some n)(hle:s.size < 1+k+n):vQ 225 #[.string s] w (jje w):=by
 obtain⟨hto,_,_,hn1,hn2⟩:=jc6 hL
 have HL:=Hd hL;clear hL
 obtain⟨f,hf⟩:=vE (1+k)
 obtain⟨m,hm⟩:=vE (55+k)
 have c0:(0:Int) < (s.size:Int):=by omega
 have c2:¬(s[0].toNat:Int) < 128:=by omega
 have c3:¬(s[0].toNat:Int) < 192:=by omega
 have c4:¬(m:Int)<=55:=by omega
 have c4b:(55:Int) < (m:Int):=by omega
 have c5:(s.size:Int) - (f:Int) < (n:Int):=by omega
 have hne:=ja8 h0;have e1:(s[0].toNat:Int) - 192=(m:Int):=by omega
 have e2:1+(m:Int) - 55=(f:Int):=by omega
 have hf2:2<=f:=by omega
 have c10:(m:Int)<=63:=by omega
 have c11:(0:Int)<=(m:Int):=by omega
 have c12:(f:Int)<=(s.size:Int):=by omega
 rw[<-hf]at HL;clear hc2 hf hm hle;go_enter Tryz.func225,Tryz.ntmps225;go_wp2_with fail
 refine (jhh w s f n hs hf2 HL.o).mono ?_;rintro e w1 ⟨rfl,rfl⟩;go_wp2_with fail
 refine (jbI w s.size).mono ?_;rintro e w1 ⟨v,rfl,hE,hF⟩
 obtain⟨b,kk,rfl,hB⟩:=hF
 have HE:=Hd (And.intro hE hB);clear hE hB;go_wp2_with fail
 refine bodyPost_ret (v:=.tuple #[.bool false,.string ⟨#[]⟩,.string ⟨#[]⟩,.iface 324 (.pointer (some ⟨b,0,none⟩))]) (by simp[results,Tryz.results225,go_sem]) rfl ?_
 exact⟨_,rfl,HE.o.1,b,kk,rfl,HE.o.2⟩
theorem jsA(w:World)(s:vB)(hs:s.size<=1000000000)(h0:1 < s.size)(hc2:(s[0].toNat:Int)=128+1)(h1:(s[1].toNat:Int) < 128):vQ 225 #[.string s] w (jje w):=by
 have c0:(0:Int) < (s.size:Int):=by omega
 have d0:(1:Int) < (s.size:Int):=by omega
 have c2:¬(s[0].toNat:Int) < 128:=by omega
 have c3:(s[0].toNat:Int) < 192:=by omega
 have c5:¬(s.size:Int) - 1 < 1:=by omega
 have hne:=ja8 (show 0 < s.size by omega);have e1:(s[0].toNat:Int) - 128=1:=by omega
 clear hc2;go_enter Tryz.func225,Tryz.ntmps225;go_wp2_with fail
 refine (jbI w 1).mono ?_;rintro e w1 ⟨v,rfl,hE,hF⟩
 obtain⟨b,kk,rfl,hB⟩:=hF
 have HE:=Hd (And.intro hE hB);clear hE hB;go_wp2_with fail
 refine bodyPost_ret (v:=.tuple #[.bool false,.string ⟨#[]⟩,.string ⟨#[]⟩,.iface 324 (.pointer (some ⟨b,0,none⟩))]) (by simp[results,Tryz.results225,go_sem]) rfl ?_
 exact⟨_,rfl,HE.o.1,b,kk,rfl,HE.o.2⟩
section
attribute [local go_sem] Oper.semAt_some
theorem jxa(w:World)(s:vB)(hs:s.size<=1000000000)(h:cutN s=none):vQ 225 #[.string s] w (jje w):=by
 unfold cutN at h
 by_cases h0:0 < s.size
 case neg =>
  have:s=⟨#[]⟩:=by
   have hz:s.size=0:=by omega
   obtain⟨⟨l⟩⟩:=s
   have:l=[]:=List.eq_nil_of_length_eq_zero hz
   rw[this]
  rw[this];exact jpZ w
 rw[dif_pos h0]at h;simp only at h;have hb:=s[0].toNat_lt
 by_cases h1:s[0].toNat < 128
 ·rw[if_pos h1]at h;cases h
 rw[if_neg h1]at h
 by_cases h2:s[0].toNat < 192
 ·rw[if_pos h2]at h
  simp only at h
  by_cases h3:s[0].toNat - 128<=55
  ·rw[if_pos h3]at h
   split at h
   ·cases h
   rename_i hc
   by_cases hsz:1+(s[0].toNat - 128)<=s.size
   ·have hc:s[0].toNat - 128=1/\¬ 128<=(s.data.toList.getD 1 0).toNat:=by
     refine⟨Classical.byContradiction fun hn=>hc ⟨hsz,.inr (.inl hn)⟩,fun hn=>hc ⟨hsz,.inr (.inr hn)⟩⟩
    obtain⟨hc1,hc2⟩:=hc
    have h5:1 < s.size:=by omega
    rw[List.getD_eq_getElem?_getD,List.getElem?_eq_getElem (by simpa using h5)]at hc2;have h6:¬ 128<=(s[1]'h5).toNat:=hc2;exact jsA w s hs h5 vO vO
   ·exact jiu w s (s[0].toNat - 128) hs h0 vO h3 vO
  ·rw[if_neg h3]at h
   split at h
   ·rename_i n hl
    split at h
    ·cases h
    rename_i hc
    exact jfX w s (s[0].toNat - 128 - 55) n hs h0 vO vO vO hl vO
   ·rename_i hl
    exact jhz w s (s[0].toNat - 128 - 55) hs h0 vO vO vO hl
 ·rw[if_neg h2]at h
  simp only at h
  by_cases h3:s[0].toNat - 192<=55
  ·rw[if_pos h3]at h
   split at h
   ·cases h
   rename_i hc
   refine jit w s (s[0].toNat - 192) hs h0 vO h3 ?_
   have:¬ 1+(s[0].toNat - 192)<=s.size:=fun hz=>hc ⟨hz,.inl trivial⟩
   omega
  ·rw[if_neg h3]at h
   split at h
   ·rename_i n hl
    split at h
    ·cases h
    rename_i hc
    exact jfW w s (s[0].toNat - 192 - 55) n hs h0 vO vO vO hl vO
   ·rename_i hl
    exact jhw w s (s[0].toNat - 192 - 55) hs h0 vO vO vO hl
theorem Tryz.noIsF(v:Value)(xT:TypeId)(w:World):(Instr.typeAssert (.iface 324 v) xT 271 true).run Tryz.prog w=.ok (.tuple #[.nilIface,.bool false]) w:=run_typeAssert_lacksB Tryz.underlying271 vY vY v xT w
theorem Tryz.hasUnwrapF(v:Value)(xT:TypeId)(w:World):(Instr.typeAssert (.iface 324 v) xT 274 true).run Tryz.prog w=.ok (.tuple #[.iface 324 v,.bool true]) w:=run_typeAssert_hasB Tryz.underlying274 vY v xT w
end
theorem Tryz.isMethodComparable(n:Nat)(v:Value)(w:World):(Go.method (n+1) 269 v "Comparable").run Tryz.prog w=.ok (296,v) w:=by kernel_rfl
theorem Tryz.methodUnwrapF(n:Nat)(v:Value)(w:World):(Go.method (n+1) 324 v "Unwrap").run Tryz.prog w=.ok (325,v) w:=by kernel_rfl
theorem jt7(w:World)(b:Nat)(k:Int)(c:Value)(hB:Blk w b (.cells #[.int .i64 k,c] 326)):vQ 325 #[.pointer (some ⟨b,0,none⟩)] w fun e w'=>e=.returned c/\w=w':=by
 have q1:=hB.cell (i:=1) (v:=c) vF;clear hB;go_enter Tryz.func325,Tryz.ntmps325;go_wp2_with fail
 go_ret
 exact⟨rfl,rfl⟩
theorem jyI(w:World)(b:Nat)(k:Int)(hB:Blk w b (.cells #[.int .i64 k,malE] 326)):vQ 155 #[.iface 324 (.pointer (some ⟨b,0,none⟩)),malE,.bool true] w fun e w'=>e=.returned (.bool true)/\w=w':=by
 have HB:=Hd hB;clear hB;have hq3:=fun w=>run_eql_iface_types (P:=Tryz.prog) 324 27 (.pointer (some ⟨b,0,none⟩)) (.int .i64 2) Tryz.underlying162 vI w;have hq4:∀ w,(binOp .eql 162 malE malE).run Tryz.prog w=.ok (.bool true) w:=fun w=>by kernel_rfl
 have hq5:∀ w,(binOp .eql 162 malE .nilIface).run Tryz.prog w=.ok (.bool false) w:=fun w=>by kernel_rfl
 unfold malE at *;have n1:=Tryz.noIsF;have n2:=Tryz.hasUnwrapF;have n3:=Tryz.methodUnwrapF 487;go_enter Tryz.func155,Tryz.ntmps155;go_wp2_with fail
 refine wp_loop_rounds 2 ?_;rw[rounds_succ];go_wp2_with fail
 refine (jt7 w b k _ HB.o).mono ?_;rintro e w1 ⟨rfl,rfl⟩;go_wp2_with fail
 rw[rounds_succ];go_wp2_with fail
 go_ret
 exact⟨rfl,rfl⟩
theorem js8(w:World)(b:Nat)(k:Int)(hB:Blk w b (.cells #[.int .i64 k,malE] 326)):vQ 107 #[.iface 324 (.pointer (some ⟨b,0,none⟩)),malE] w fun e w'=>e=.returned (.bool true)/\w=w':=by
 have HB:=Hd (jyI w b k hB);clear hB;have hq1:∀ w,(binOp .eql 162 (.iface 324 (.pointer (some ⟨b,0,none⟩))) .nilIface).run Tryz.prog w=.ok (.bool false) w:=fun w=>by kernel_rfl
 have hq2:∀ w,(binOp .eql 162 malE .nilIface).run Tryz.prog w=.ok (.bool false) w:=fun w=>by kernel_rfl
 unfold malE at *;have h8:∀ w,(callFunc 154 #[.iface 27 (.int .i64 2)]).run Tryz.prog w=.ok (.value (.iface 269 (.agg #[.pointer (some ⟨3,27,none⟩)]))) w:=fun w=>by kernel_rfl
 have h32:∀ w,(callFunc 296 #[.agg #[.pointer (some ⟨3,27,none⟩)]]).run Tryz.prog w=.ok (.value (.bool true)) w:=fun w=>by kernel_rfl
 have mR:=Tryz.isMethodComparable 487;go_enter Tryz.func107,Tryz.ntmps107;go_wp2_with fail
 refine HB.o.mono ?_;rintro e w1 ⟨rfl,rfl⟩;go_wp2_with fail
 go_ret
 exact⟨rfl,rfl⟩
end Go.Proofs.YtcpnjmcipainpaaGreatDoor
