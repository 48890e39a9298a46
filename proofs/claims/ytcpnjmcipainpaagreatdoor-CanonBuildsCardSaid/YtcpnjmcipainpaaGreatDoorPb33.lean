/- Parts of the proof, one behind the other: CanonX, CanonY, FewC, SameA, Rises, MapA, MapB, ChgS, RefAh, RefA, RefB, Same2, CanonZ, CanonZa, BuildsA. Each is under no condition but those that it states. -/
import Derived.Test.YtcpnjmcipainpaaGreatDoorPb32
import Derived.Test.YtcpnjmcipainpaaGreatDoorPb24
import Derived.Test.YtcpnjmcipainpaaGreatDoorPb21
import Derived.Test.YtcpnjmcipainpaaGreatDoorPb27
import Derived.Test.YtcpnjmcipainpaaGreatDoorPb28
namespace Go.Proofs.YtcpnjmcipainpaaGreatDoor
set_option linter.unusedSimpArgs false
set_option linter.unusedVariables false
set_option maxRecDepth 100000
set_option maxHeartbeats 16000000
section
open Go Go.RowKit
def RdC(w:World)(v:Value)(xs:List Chg):Prop:=
 (∃ a c,v=.slice a 0 c∧xs=[])∨∃ b o c,v=.slice (some ⟨b,o,none⟩) xs.length c∧b < w.heap.size∧xs.length≤c∧∀ (j:Nat) x,xs[j]?=some x→w.cell? ⟨b,o+j * 3,none⟩=some (.string x.key)∧w.cell? ⟨b,o+j * 3+1,none⟩=some (.string x.value)∧w.cell? ⟨b,o+j * 3+2,none⟩=some (.bool x.gone)
theorem RdC.ext{w w':World}{v:Value}{xs:List Chg}(h:RdC w v xs)(k:Ext w w'):RdC w' v xs:=by
 rcases h with h |⟨b,o,c,h1,h2,h3,h4⟩
 ·exact .inl h
 ·exact .inr ⟨b,o,c,h1,Nat.lt_of_lt_of_le h2 k.size,h3,fun j x hx=>⟨jab (h4 j x hx).1 k,jab (h4 j x hx).2.1 k,jab (h4 j x hx).2.2 k⟩⟩
theorem RdC.sl{w:World}{v:Value}{xs:List Chg}(h:RdC w v xs):∃ a c,v=.slice a xs.length c:=by
 rcases h with⟨a,c,h1,h2⟩ |⟨b,o,c,h1,_⟩
 ·exact⟨a,c,by rw[h1,h2];rfl⟩
 ·exact⟨_,c,h1⟩
theorem Tryz.makeMapSE(W:World):(Instr.makeMap 171 none).run Tryz.prog W=.ok (.map (some W.heap.size)) (W.alloc (.map #[] 0)):=by kernel_rfl
theorem Tryz.zeroE(w:World):(zeroValue 95).run Tryz.prog w=.ok (.agg #[.string ⟨#[]⟩,.string ⟨#[]⟩]) w:=by kernel_rfl
def jcT(w:World)(l:List Pair)(cs:List Chg)(e:Ending)(w':World):Prop:=
 if jcL l cs=0 then ∃ r,e=.returned (.tuple #[r,.int .i64 0])∧ERow w w' r (jcS (jgt l cs)).length (jcS (jgt l cs))else e=.returned (.tuple #[.slice none 0 0,.int .i64 (jcL l cs)])∧Ext w w'
theorem jcT.bad{w w':World}{l:List Pair}{cs:List Chg}{x:Int}(h:jcL l cs=x)(h0:x≠0)(he:Ext w w'):jcT w l cs (.returned (.tuple #[.slice none 0 0,.int .i64 x])) w':=by
 unfold jcT;rw[h,if_neg h0];exact⟨rfl,he⟩
def jnh(w:World)(cs:List Chg)(i:Value)(wr:World):Prop:=∃ k:Nat,k≤cs.length∧i=.int .i64 k∧Ext w wr∧(cs.take k).any Chg.bad=false
def jni(w:World)(bm:Nat)(l:List Pair)(i:Value)(wr:World):Prop:=∃ k:Nat,k≤l.length∧i=.int .i64 k∧Ext w wr∧∃ es ck,Blk wr bm (.map (Tryz.ES.arr es) ck)∧MapR es ck ((l.take k).foldl putM [])
def jnj(w:World)(bm:Nat)(l:List Pair)(cs:List Chg)(i:Value)(wr:World):Prop:=∃ k:Nat,k≤cs.length∧i=.int .i64 k∧Ext w wr∧∃ es ck,Blk wr bm (.map (Tryz.ES.arr es) ck)∧MapR es ck ((cs.take k).foldl doM (l.foldl putM []))
def jnk(w5:World)(M:List Pair)(v i:Value)(wr:World):Prop:=∃ k:Nat,k≤M.length∧i=.int .i64 k∧ERow w5 wr v k ((jcS M).take k)
theorem jkU{cs:List Chg}{k:Nat}{c:Chg}(h:cs[k]?=some c):(cs.take (k+1)).any Chg.bad=((cs.take k).any Chg.bad || c.bad):=by
 rw[List.take_add_one,h,List.any_append];simp
theorem jnD{cs:List Chg}{k:Nat}{c:Chg}(h:cs[k]?=some c)(hb:c.bad=true):cs.any Chg.bad=true:=List.any_eq_true.2 ⟨c,List.mem_of_getElem? h,hb⟩
theorem jmm(w:World)(v u:Value)(l:List Pair)(cs:List Chg)(hv:RdP w v l)(hu:RdC w u cs)(hn:l.length≤9223372036854775807)(hnc:cs.length≤9223372036854775807)(hs:∀ p∈l,p.1.size≤9223372036854775807∧p.2.size≤9223372036854775807)(hsc:∀ c∈cs,c.key.size≤9223372036854775807∧c.value.size≤9223372036854775807) :
  Calls Tryz.prog 60 #[v,u] w (jcT w l cs):=by
 have HCK:=Hd (jcc w v l hv hn hs);have HV:=Hd hv;have HU:=Hd hu;have HSC:=Hd hsc
 obtain⟨a,c,hsl⟩:=hv.sl
 subst hsl
 obtain⟨a',c',hsl'⟩:=hu.sl
 subst hsl';clear hv hu hs hsc
 by_cases hck:jaD l=0
 case neg =>
  obtain⟨x,hx⟩:∃ x,x=jaD l:=⟨_,rfl⟩
  have HB:=Hd (show jcL l cs=x by unfold jcL;rw[if_pos hck,hx]);rw[←hx]at hck HCK;have hne:(x == 0)=false:=by simpa using hck
  have HX:=Hd hck;clear hck hx HV HU HSC;go_enter Tryz.func60,Tryz.ntmps60;go_wp2_with fail
  refine HCK.o.mono ?_;rintro e w1 ⟨rfl,hE⟩;have HE:=Hd hE;clear hE HCK;go_wp2_with fail
  go_ret2;exact jcT.bad HB.o HX.o HE.o
 rw[hck]at HCK;have HL40:=Hd (ja5 hck).len;have HCK0:=Hd hck;clear hck;go_enter Tryz.func60,Tryz.ntmps60;go_wp2_with fail
 refine HCK.o.mono ?_;rintro e w1 ⟨rfl,hE⟩;have HE1:=Hd hE;clear hE HCK;go_wp2_with fail
 go_loopw [24] (fun i wr=>jnh w cs i wr) (fun i _=>cs.length - (intOf i).toNat)
 case atStart=>exact⟨0,by omega,rfl,HE1.o,rfl⟩
 case round =>
  obtain⟨k,hk,rfl,hE,hall⟩:=hrel
  have HE:=Hd hE;have HALL:=Hd hall;clear hE hall
  by_cases hlt:k < cs.length
  ·rcases HU.o with⟨_,_,_,h0⟩ |⟨b,o,c1,hh,hb,hc,hcell⟩
   ·rw[h0]at hlt;cases hlt
   cases hh
   obtain⟨p,hp⟩:∃ p,cs[k]?=some p:=⟨_,List.getElem?_eq_getElem hlt⟩
   obtain⟨q1,q2,q3⟩:=hcell k p hp
   have q1:=jab q1 HE.o;have q2:=jab q2 HE.o;have q3:=jab q3 HE.o;have hsp:=HSC.o p (List.mem_of_getElem? hp);have b1:(k:Int) < (cs.length:Int):=by omega
   have HP:=Hd hp
   obtain⟨ky,vl,gn⟩:=p
   simp only at q1 q2 q3 hsp;clear hcell hp hb hc;have HBAD:=Hd (fun(h:Chg.bad ⟨ky,vl,gn⟩=true)=>(show jcL l cs=1 by
    unfold jcL;rw[if_neg (by rw[HCK0.o];simp),if_pos (jnD HP.o h)]))
   have HGO:=Hd (fun(h:Chg.bad ⟨ky,vl,gn⟩=false)=>(show (cs.take (k+1)).any Chg.bad=false by rw[jkU HP.o,HALL.o,h];rfl));have HEA:=Hd (HE.o.alloc (.cells #[.string ky,.string vl,.bool gn] 86));clear HP HALL;go_wp2_with fail
   refine (jea _ ky hsp.1).mono ?_;rintro e w3 ⟨rfl,rfl⟩;clear q1 q2 q3;cases hky:jbN ky with
   | false =>
    have HB:=Hd (HBAD.o (by unfold Chg.bad;simp[hky]));clear hky;go_wp2_with fail
    go_ret2;exact jcT.bad HB.o (by decide) HEA.o
   | true =>
    cases gn with
    | true =>
     by_cases hz:vl.size=0
     ·have:=jdE hz
      subst this;have HG:=Hd (HGO.o (by unfold Chg.bad;simp[hky];rfl));clear hky hz;go_wp2_with fail
      go_roundw
      case rel=>exact⟨k+1,by omega,by go_num,HEA.o,HG.o⟩
      case measure=>simp[intOf];omega
     ·have hne:=ja8 (s:=vl) (by omega)
      have HB:=Hd (HBAD.o (by unfold Chg.bad;simp[hky,hz]));clear hky hz;go_wp2_with fail
      go_ret2;exact jcT.bad HB.o (by decide) HEA.o
    | false =>
     go_wp2_with fail
     refine (jdU _ vl hsp.2).mono ?_;rintro e w3 ⟨rfl,rfl⟩;cases hvl:jbs vl with
     | true =>
      have HG:=Hd (HGO.o (by unfold Chg.bad;simp[hky,hvl]));clear hky hvl;go_wp2_with fail
      go_roundw
      case rel=>exact⟨k+1,by omega,by go_num,HEA.o,HG.o⟩
      case measure=>simp[intOf];omega
     | false =>
      have HB:=Hd (HBAD.o (by unfold Chg.bad;simp[hky,hvl]));clear hky hvl;go_wp2_with fail
      go_ret2;exact jcT.bad HB.o (by decide) HEA.o
  ·have hkn:k=cs.length:=by omega
   have HB:=Hd (show cs.any Chg.bad=false by have h:=HALL.o;rwa [hkn,List.take_length]at h);clear hkn HALL;have hmm:=Tryz.makeMapSE wr;go_wp2_with fail
   obtain⟨bm,hbm⟩:∃ bm,bm=wr.heap.size:=⟨_,rfl⟩
   have HBM:=Hd (show Blk (wr.alloc (.map #[] 0)) bm (.map #[] 0) by rw[hbm];exact Blk.new wr _);have hbl:w.heap.size≤bm:=by rw[hbm];exact HE.o.size
   have HE2:=Hd (HE.o.alloc (.map #[] 0));rw[←hbm];clear hmm hbm;go_loopw [56] (fun i w2=>jni w bm l i w2) (fun i _=>l.length - (intOf i).toNat)
   case atStart=>exact⟨0,by omega,rfl,HE2.o,[],0,HBM.o,MapR.nil 0⟩
   case round =>
    clear HE HE2 HBM HE1
    obtain⟨j,hj,rfl,hE,es,ck,hM,hR⟩:=hrel
    have HE:=Hd hE;have HR:=Hd hR
    by_cases hlt2:j < l.length
    ·rcases HV.o with⟨_,_,_,h0⟩ |⟨b,o,c1,hh,hb,hc,hcell⟩
     ·rw[h0]at hlt2;cases hlt2
     cases hh
     obtain⟨p,hp⟩:∃ p,l[j]?=some p:=⟨_,List.getElem?_eq_getElem hlt2⟩
     obtain⟨q1,q2⟩:=hcell j p hp
     have q1:=jab q1 HE.o;have q2:=jab q2 HE.o;have b1:(j:Int) < (l.length:Int):=by omega
     have HP:=Hd hp
     obtain⟨x,y⟩:=p
     simp only at q1 q2;have hM2:=hM.alloc (.cells #[.string x,.string y] 95)
     obtain⟨es2,hes2⟩:∃ es2,es2=jbu es x.data.toList (Pair.V (x,y)) ck:=⟨_,rfl⟩
     obtain⟨ck2,hck2⟩:∃ ck2,ck2=(if (ja3 es x.data.toList).isSome then ck else ck+1):=⟨_,rfl⟩
     have hmu:(Instr.mapUpdate 171 (.map (some bm)) (.string x) (.agg #[.string x,.string y])).run Tryz.prog (wr.alloc (.cells #[.string x,.string y] 95))=.ok () ((wr.alloc (.cells #[.string x,.string y] 95)).putObj bm (.map (Tryz.ES.arr es2) ck2)):=by
      have:=jcJ Tryz.ES Tryz.uMapSE hM2 x.data.toList (Pair.V (x,y))
      rw[←hes2, ←hck2]at this;exact this
     have HR2:=Hd (show MapR es2 ck2 ((l.take (j+1)).foldl putM []) by
      rw[List.take_add_one,HP.o,List.foldl_append,hes2,hck2];exact HR.o.put (x,y))
     have HB2:=Hd (hM2.put_same (.map (Tryz.ES.arr es2) ck2));have HE3:=Hd ((HE.o.alloc (.cells #[.string x,.string y] 95)).putObj (.inr hbl) (.map (Tryz.ES.arr es2) ck2));clear hcell hp hb hc hM hR hM2 hes2 hck2 hE HR HE;go_wp2_with fail
     go_roundw
     case rel=>exact⟨j+1,by omega,by go_num,HE3.o,es2,ck2,HB2.o,HR2.o⟩
     case measure=>simp[intOf];omega
    ·have hjn:j=l.length:=by omega
     have HR2:=Hd (show MapR es ck (l.foldl putM []) by have h:=HR.o;rwa [hjn,List.take_length]at h);have HM2:=Hd hM;have HE0:=Hd hE;clear hjn hM hR hE HR HE;go_wp2_with fail
     go_loopw [67] (fun i w2=>jnj w bm l cs i w2) (fun i _=>cs.length - (intOf i).toNat)
     case atStart=>exact⟨0,by omega,rfl,HE0.o,es,ck,HM2.o,HR2.o⟩
     case round =>
      clear HE0 HM2 HR2
      obtain⟨q,hq,rfl,hE,es,ck,hM,hR⟩:=hrel
      have HE:=Hd hE;have HR:=Hd hR
      by_cases hlt3:q < cs.length
      ·rcases HU.o with⟨_,_,_,h0⟩ |⟨b,o,c1,hh,hb,hc,hcell⟩
       ·rw[h0]at hlt3;cases hlt3
       cases hh
       obtain⟨p,hp⟩:∃ p,cs[q]?=some p:=⟨_,List.getElem?_eq_getElem hlt3⟩
       obtain⟨q1,q2,q3⟩:=hcell q p hp
       have q1:=jab q1 HE.o;have q2:=jab q2 HE.o;have q3:=jab q3 HE.o;have b1:(q:Int) < (cs.length:Int):=by omega
       have HP:=Hd hp
       obtain⟨x,y,gn⟩:=p
       simp only at q1 q2 q3;have hM2:=hM.alloc (.cells #[.string x,.string y,.bool gn] 86);have hst:(cs.take (q+1)).foldl doM (l.foldl putM [])=doM ((cs.take q).foldl doM (l.foldl putM [])) ⟨x,y,gn⟩:=by
        rw[List.take_add_one,HP.o,List.foldl_append];rfl
       have HST:=Hd hst;cases gn with
       | true =>
        obtain⟨es2,hes2⟩:∃ es2,es2=jcn es x.data.toList:=⟨_,rfl⟩
        have hdl:(Builtin.delete_ #[171,9] 0 #[.map (some bm),.string x]).run Tryz.prog (wr.alloc (.cells #[.string x,.string y,.bool true] 86))=.ok (.tuple #[]) ((wr.alloc (.cells #[.string x,.string y,.bool true] 86)).putObj bm (.map (Tryz.ES.arr es2) ck)):=by
         have:=ji1 Tryz.ES Tryz.uMapSE hM2 x.data.toList 9 0
         rw[←hes2]at this;exact this
        have HR2:=Hd (show MapR es2 ck ((cs.take (q+1)).foldl doM (l.foldl putM [])) by
         rw[HST.o,hes2];exact HR.o.del x)
        have HB2:=Hd (hM2.put_same (.map (Tryz.ES.arr es2) ck));have HE3:=Hd ((HE.o.alloc (.cells #[.string x,.string y,.bool true] 86)).putObj (.inr hbl) (.map (Tryz.ES.arr es2) ck));clear hcell hp hb hc hM hR hM2 hes2 hE HR HE hst HST;go_wp2_with fail
        go_roundw
        case rel=>exact⟨q+1,by omega,by go_num,HE3.o,es2,ck,HB2.o,HR2.o⟩
        case measure=>simp[intOf];omega
       | false =>
        obtain⟨es2,hes2⟩:∃ es2,es2=jbu es x.data.toList (Pair.V (x,y)) ck:=⟨_,rfl⟩
        obtain⟨ck2,hck2⟩:∃ ck2,ck2=(if (ja3 es x.data.toList).isSome then ck else ck+1):=⟨_,rfl⟩
        have hmu:(Instr.mapUpdate 171 (.map (some bm)) (.string x) (.agg #[.string x,.string y])).run Tryz.prog (wr.alloc (.cells #[.string x,.string y,.bool false] 86))=.ok () ((wr.alloc (.cells #[.string x,.string y,.bool false] 86)).putObj bm (.map (Tryz.ES.arr es2) ck2)):=by
         have:=jcJ Tryz.ES Tryz.uMapSE hM2 x.data.toList (Pair.V (x,y))
         rw[←hes2, ←hck2]at this;exact this
        have HR2:=Hd (show MapR es2 ck2 ((cs.take (q+1)).foldl doM (l.foldl putM [])) by
         rw[HST.o,hes2,hck2];exact HR.o.put (x,y))
        have HB2:=Hd (hM2.put_same (.map (Tryz.ES.arr es2) ck2));have HE3:=Hd ((HE.o.alloc (.cells #[.string x,.string y,.bool false] 86)).putObj (.inr hbl) (.map (Tryz.ES.arr es2) ck2));clear hcell hp hb hc hM hR hM2 hes2 hck2 hE HR HE hst HST;go_wp2_with fail
        go_roundw
        case rel=>exact⟨q+1,by omega,by go_num,HE3.o,es2,ck2,HB2.o,HR2.o⟩
        case measure=>simp[intOf];omega
      ·have hqn:q=cs.length:=by omega
       obtain⟨M,hMM⟩:∃ M,M=jgt l cs:=⟨_,rfl⟩
       have HRM:=Hd (show MapR es ck M by have h:=HR.o;rw[hqn,List.take_length]at h;rw[hMM];exact h);have HMM:=Hd hMM;have hln:=jhK Tryz.ES Tryz.uMapSE hM;rw[HRM.o.len]at hln;have HMB:=Hd hM;have HEF:=Hd hE;clear hqn hM hR hE HR HE hMM
       by_cases h40:40 < M.length
       ·have b40:(40:Int) < (M.length:Int):=by omega
        have HAP:=Hd (show jcL l cs=12 by unfold jcL;rw[if_neg (by rw[HCK0.o];simp),HB.o, ←HMM.o];simp[h40]);clear h40;go_wp2_with fail
        go_ret2;exact jcT.bad HAP.o (by decide) HEF.o
       ·have b40:¬(40:Int) < (M.length:Int):=by omega
        have HAP:=Hd (show jcL l cs=0 by unfold jcL;rw[if_neg (by rw[HCK0.o];simp),HB.o, ←HMM.o];simp[h40]);have hm40:M.length≤40:=by omega
        clear h40;go_wp2_with fail
        refine (jj1 wr bm).mono ?_;rintro e w4 ⟨rfl,hbx,hE4⟩;have HBX:=Hd hbx;have HMB4:=Hd (HMB.o.keeps hE4 (fun h=>h));have HE4:=Hd (HEF.o.trans hE4);clear hbx hE4 hln;go_wp2_with fail
        refine (jlR w4 wr.heap.size bm ck es ⟨HBX.o,HMB4.o⟩ HRM.o.born HRM.o.keys HRM.o.lt (by have:=HRM.o.len;omega)).mono ?_;rintro e w5 ⟨u,rfl,hS⟩;rw[HRM.o.keysEq,HRM.o.len]at hS
        obtain⟨KS,hKS⟩:∃ KS,KS=jfm (M.map Pair.k):=⟨_,rfl⟩
        rw[←hKS]at hS;have hKl:KS.length=M.length:=by rw[hKS,jfe,List.length_map]
        have HK:=Hd hKS;have HKL:=Hd hKl
        obtain⟨a6,c6,rfl⟩:=hS.sl
        have HRD:=Hd hS.rd;have HE5:=Hd (HE4.o.trans hS.ext);have HMB5:=Hd (HMB4.o.keeps hS.ext (fun h=>h));have HSM:=Hd (show (jcS M).length=M.length by unfold jcS;rw[List.length_map,jfe,List.length_map]);clear hS hKS hKl HMB4 HE4 HBX HEF HMB;go_wp2_with fail
        go_loopw [14,92] (fun v i wr=>jnk w5 M v i wr) (fun _ i _=>M.length - (intOf i).toNat)
        case atStart=>exact⟨0,by omega,rfl,ORow.nil _ _ (ExtR w5)⟩
        case round =>
         obtain⟨t,ht,rfl,hR⟩:=hrel
         obtain⟨a7,c7,rfl⟩:=hR.sl
         have HR:=Hd hR;clear hR
         by_cases hlt4:t < M.length
         ·obtain⟨kk,hkk⟩:∃ kk,KS[t]?=some kk:=⟨_,List.getElem?_eq_getElem (by rw[HKL.o];exact hlt4)⟩
          obtain⟨x,hx⟩:∃ x:ByteArray,x=⟨kk.toArray⟩:=⟨_,rfl⟩
          obtain⟨y,hy⟩:∃ y,y=valM M kk:=⟨_,rfl⟩
          obtain⟨_,_,hh,hcell⟩:=HRD.o.slice
          obtain⟨b,o,hao,hc0⟩:=hcell t x (by unfold baL;rw[List.getElem?_map,hkk,hx];rfl)
          obtain⟨e1,e2,e3⟩:=Value.slice.inj hh
          subst e1;subst e3;subst hao;clear hh e2;have q1:=jab hc0 HR.o.ext;have hmem:kk∈M.map Pair.k:=by
           have h1:=List.mem_of_getElem? hkk;rw[HK.o]at h1;exact (List.mergeSort_perm _ _).mem_iff.1 h1
          have hlk:(Instr.lookup 171 (.map (some bm)) (.string x) false).run Tryz.prog wr=.ok (.agg #[.string x,.string y]) wr:=by
           have:=jeh Tryz.ES Tryz.uMapSE (HMB5.o.keeps HR.o.ext (fun h=>h)) (Tryz.zeroE wr) kk false
           rw[HRM.o.get hmem, ←hx, ←hy]at this;rw[hx];rw[hx]at this;exact this
          have hst:(jcS M).take (t+1)=(jcS M).take t++[(x,y)]:=by
           rw[List.take_add_one]
           have:(jcS M)[t]?=some (x,y):=by
            unfold jcS;rw[←HK.o,List.getElem?_map,hkk,hx,hy];rfl
           rw[this];rfl
          have HST:=Hd hst;have b1:(t:Int) < (M.length:Int):=by omega
          clear hcell hc0 hmem hst hkk hx hy;go_wp2_with (at_builtin;refine jaZ Tryz.sEnts (HR.o.mono ((ExtR wr).alloc _)) (.tmp 96) (.tmp 100) rfl rfl rfl (jaS (Blk.new wr _)) (news:=[.string x,.string y]) (by intro u hu;simp at hu;rcases hu with rfl | rfl <;> rfl) rfl rfl ?c1 ?c2 (fun v' w' r1 r2 r3=>?_))
          case c1=>unfold maxLen;omega
          case c2=>omega
          have r1':ERow w5 w' v' (t+1) ((jcS M).take (t+1)):=by unfold ERow;rw[HST.o,jbx];exact r1
          obtain⟨a8,c8,rfl⟩:=r1'.sl
          have HR5:=Hd r1';clear r1 r2 r3 r1' HR;go_wp2_with fail
          go_roundw
          case rel=>exact⟨t+1,by omega,by go_num,HR5.o⟩
          case measure=>simp[intOf];omega
         ·have htm:t=M.length:=by omega
          have HRF:=Hd (show ERow w wr (.slice a7 t c7) (jcS M).length (jcS M) by
           have h:=HR.o;rw[show (jcS M).take t=jcS M from by rw[htm, ←HSM.o,List.take_length]]at h;have h2:ERow w5 wr (.slice a7 t c7) (jcS M).length (jcS M):=by rw[HSM.o, ←htm];exact h
           exact⟨by rw[HSM.o, ←htm];exact⟨_,_,rfl⟩,h2.own,HE5.o.trans h2.ext,fun b hb=>Nat.le_trans HE5.o.size (h2.new b hb)⟩)
          clear htm HR;go_wp2_with fail
          go_ret2;unfold jcT;rw[if_pos HAP.o, ←HMM.o]
          exact⟨_,rfl,HRF.o⟩
def jdl(xs:List Chg):List Value:=xs.flatMap fun c=>[.string c.key,.string c.value,.bool c.gone]
theorem jbI(xs:List Chg)(c:Chg):jdl (xs++[c])=jdl xs++[.string c.key,.string c.value,.bool c.gone]:=by simp[jdl]
theorem jfv(xs:List Chg):(jdl xs).length=xs.length * 3:=by
 induction xs with
 | nil=>rfl
 | cons x r ih=>unfold jdl at *;rw[List.flatMap_cons,List.length_append,ih];simp;omega
theorem Tryz.infoChg:(Tryz.prog.info? 86).map (fun i=>(i.zero,i.size,i.bytes))=some (some (.agg #[.string ⟨#[]⟩,.string ⟨#[]⟩,.bool false]),3,40):=by kernel_rfl
theorem Tryz.uChgs:Tryz.prog.underlying 41=some (.slice 86):=by kernel_rfl
theorem Tryz.sChgs:jcw Tryz.prog 41 86 3 40:=jcw.mk' Tryz.uChgs Tryz.infoChg rfl (by decide)
abbrev CRow(w0 w:World)(v:Value)(n:Nat)(xs:List Chg):Prop:=ORow 86 3 w0 w v n (jdl xs)
def jbc:List Pair→List Pair→List Chg
 | [],[]=>[]
 | p :: l,[]=>⟨p.1,⟨#[]⟩,true⟩ :: jbc l []
 | [],q :: m=>⟨q.1,q.2,false⟩ :: jbc [] m
 | p :: l,q :: m =>
  if jb4 p.1 q.1=true then ⟨p.1,⟨#[]⟩,true⟩ :: jbc l (q :: m)
  else if jb4 q.1 p.1=true then ⟨q.1,q.2,false⟩ :: jbc (p :: l) m
  else if (p.2.toList == q.2.toList)=true then jbc l m else ⟨q.1,q.2,false⟩ :: jbc l m
termination_by l m=>l.length+m.length
def jfi(l m:List Pair):List Chg:=if jaD l=0∧jaD m=0 then jbc l m else []
theorem jbR{α:Type}{l:List α}{i:Nat}{x:α}(h:l[i]?=some x):l.drop i=x :: l.drop (i+1):=by
 obtain⟨hlt,e⟩:=List.getElem?_eq_some_iff.1 h
 rw[←e];exact List.drop_eq_getElem_cons hlt
structure DfR(w:World)(l m:List Pair)(c:Value)(i j:Nat)(wr:World)(n:Nat)(acc:List Chg):Prop where
 hi:i≤l.length
 hj:j≤m.length
 hn:n≤i+j
 row:CRow w wr c n acc
 eq:acc++jbc (l.drop i) (m.drop j)=jbc l m
def joA(w:World)(l m:List Pair)(c vi vj:Value)(wr:World):Prop:=∃ i j n acc,vi=.int .i64 (i:Nat)∧vj=.int .i64 (j:Nat)∧DfR w l m c i j wr n acc
theorem jnK{l m:List Pair}{i j:Nat}(hi:i=l.length)(hj:j=m.length):jbc (l.drop i) (m.drop j)=[]:=by
 subst hi;subst hj;rw[List.drop_length,List.drop_length];simp[jbc]
theorem jlb{l m:List Pair}{i j:Nat}{p:Pair}(hp:l[i]?=some p)(hj:j=m.length):jbc (l.drop i) (m.drop j)=⟨p.1,⟨#[]⟩,true⟩ :: jbc (l.drop (i+1)) (m.drop j):=by
 subst hj;rw[List.drop_length,jbR hp];simp[jbc]
theorem jms{l m:List Pair}{i j:Nat}{q:Pair}(hq:m[j]?=some q)(hi:i=l.length):jbc (l.drop i) (m.drop j)=⟨q.1,q.2,false⟩ :: jbc (l.drop i) (m.drop (j+1)):=by
 subst hi;rw[List.drop_length,jbR hq];simp[jbc]
theorem jlc{l m:List Pair}{i j:Nat}{p q:Pair}(hp:l[i]?=some p)(hq:m[j]?=some q)(h:jb4 p.1 q.1=true):jbc (l.drop i) (m.drop j)=⟨p.1,⟨#[]⟩,true⟩ :: jbc (l.drop (i+1)) (m.drop j):=by
 rw[jbR hp,jbR hq,jbc,if_pos h]
theorem jmt{l m:List Pair}{i j:Nat}{p q:Pair}(hp:l[i]?=some p)(hq:m[j]?=some q)(h:jb4 p.1 q.1=false)(h2:jb4 q.1 p.1=true):jbc (l.drop i) (m.drop j)=⟨q.1,q.2,false⟩ :: jbc (l.drop i) (m.drop (j+1)):=by
 rw[jbR hp,jbR hq,jbc,if_neg (by rw[h];simp),if_pos h2]
theorem jmu{l m:List Pair}{i j:Nat}{p q:Pair}(hp:l[i]?=some p)(hq:m[j]?=some q)(h:jb4 p.1 q.1=false)(h2:jb4 q.1 p.1=false)(h3:(p.2.toList == q.2.toList)=true):jbc (l.drop i) (m.drop j)=jbc (l.drop (i+1)) (m.drop (j+1)):=by
 rw[jbR hp,jbR hq,jbc,if_neg (by rw[h];simp),if_neg (by rw[h2];simp),if_pos h3]
theorem jld{l m:List Pair}{i j:Nat}{p q:Pair}(hp:l[i]?=some p)(hq:m[j]?=some q)(h:jb4 p.1 q.1=false)(h2:jb4 q.1 p.1=false)(h3:(p.2.toList == q.2.toList)=false):jbc (l.drop i) (m.drop j)=⟨q.1,q.2,false⟩ :: jbc (l.drop (i+1)) (m.drop (j+1)):=by
 rw[jbR hp,jbR hq,jbc,if_neg (by rw[h];simp),if_neg (by rw[h2];simp),if_neg (by rw[h3];simp)]
theorem jnL(w:World)(v u:Value)(l m:List Pair)(hv:RdP w v l)(hu:RdP w u m)(hn1:l.length≤9223372036854775807)(hn2:m.length≤9223372036854775807)(hs1:∀ p∈l,p.1.size≤9223372036854775807∧p.2.size≤9223372036854775807)(hs2:∀ p∈m,p.1.size≤9223372036854775807∧p.2.size≤9223372036854775807) :
  Calls Tryz.prog 89 #[v,u] w fun e w'=>∃ u,e=.returned u∧CRow w w' u (jfi l m).length (jfi l m):=by
 have HC1:=Hd (jcc w v l hv hn1 hs1);have HC2:=Hd (fun w1 (h1:Ext w w1)=>jcc w1 u m (hu.ext h1) hn2 hs2);have HV:=Hd hv;have HU:=Hd hu
 obtain⟨a,c,hsl⟩:=hv.sl
 subst hsl
 obtain⟨a',c',hsl'⟩:=hu.sl
 subst hsl';clear hv hu hs1 hs2
 by_cases hck:jaD l=0
 case neg =>
  have HD:=Hd (show jfi l m=[] by unfold jfi;rw[if_neg (fun h=>hck h.1)]);rw[HD.o]
  obtain⟨x,hx⟩:∃ x,x=jaD l:=⟨_,rfl⟩
  rw[←hx]at hck HC1;have hne:(x == 0)=false:=by simpa using hck
  have hne2:(x != 0)=true:=by simpa using hck
  clear hck hx HV HU HC2 HD;go_enter Tryz.func89,Tryz.ntmps89;go_wp2_with fail
  refine HC1.o.mono ?_;rintro e w1 ⟨rfl,hE⟩;have HE:=Hd hE;clear hE HC1;go_wp2_with fail
  go_ret
  exact⟨_,rfl,ORow.nil _ _ HE.o⟩
 by_cases hck2:jaD m=0
 case neg =>
  have HD:=Hd (show jfi l m=[] by unfold jfi;rw[if_neg (fun h=>hck2 h.2)]);rw[HD.o];rw[hck]at HC1
  obtain⟨x,hx⟩:∃ x,x=jaD m:=⟨_,rfl⟩
  rw[←hx]at hck2 HC2;have hne:(x == 0)=false:=by simpa using hck2
  have hne2:(x != 0)=true:=by simpa using hck2
  clear hck hck2 hx HV HU HD;go_enter Tryz.func89,Tryz.ntmps89;go_wp2_with fail
  refine HC1.o.mono ?_;rintro e w1 ⟨rfl,hE⟩;have HE:=Hd hE;clear hE HC1;go_wp2_with fail
  refine (HC2.o w1 HE.o).mono ?_;rintro e w2 ⟨rfl,hE⟩;have HE2:=Hd (HE.o.trans hE);clear hE HC2 HE;go_wp2_with fail
  go_ret
  exact⟨_,rfl,ORow.nil _ _ HE2.o⟩
 have hl40:=(ja5 hck).len;have hm40:=(ja5 hck2).len;have HD:=Hd (show jfi l m=jbc l m by unfold jfi;rw[if_pos ⟨hck,hck2⟩]);rw[HD.o];rw[hck]at HC1;rw[hck2]at HC2;clear hck hck2 HD hn1 hn2
 obtain⟨R,hR⟩:∃ R,R=jbc l m:=⟨_,rfl⟩
 rw[←hR];have HRR:=Hd hR;clear hR;go_enter Tryz.func89,Tryz.ntmps89;go_wp2_with fail
 refine HC1.o.mono ?_;rintro e w1 ⟨rfl,hE⟩;have HE:=Hd hE;clear hE HC1;go_wp2_with fail
 refine (HC2.o w1 HE.o).mono ?_;rintro e w2 ⟨rfl,hE⟩;have HE2:=Hd (HE.o.trans hE);clear hE HC2 HE;go_wp2_with fail
 go_loopw [5,6,7] (fun v i j wr=>joA w l m v i j wr) (fun _ i j _=>(l.length - (intOf i).toNat)+(m.length - (intOf j).toNat))
 case atStart=>exact⟨0,0,0,[],rfl,rfl,by omega,by omega,by omega,ORow.nil _ _ HE2.o,by simp⟩
 case round =>
  obtain⟨i,j,n,acc,rfl,rfl,hrr⟩:=hrel
  obtain⟨hi,hj,hn,hrow,heq⟩:=hrr
  obtain⟨a2,c2,rfl⟩:=hrow.sl
  have HR:=Hd hrow;have HEQ:=Hd heq;clear hrow heq HE2
  by_cases hjm:j < m.length
  ·by_cases hil:i < l.length
   ·obtain⟨q,hq⟩:∃ q,m[j]?=some q:=⟨_,List.getElem?_eq_getElem hjm⟩
    rcases HU.o with⟨_,_,_,h0⟩ |⟨bm,om,cm,hh,hb,hc,hcell⟩
    ·rw[h0]at hjm;cases hjm
    cases hh
    obtain⟨qb1,qb2⟩:=hcell j q hq
    have QB1:=Hd (jab qb1 HR.o.ext);have QB2:=Hd (jab qb2 HR.o.ext);have NB:=Hd (show ¬(Value.slice a2 n c2).ownBlock=some bm from fun e=>by have:=HR.o.new bm e;omega);have HQ:=Hd hq;have b2:(j:Int) < (m.length:Int):=by omega
    obtain⟨y1,y2⟩:=q
    simp only at QB1 QB2;clear hcell hb hc hq
    obtain⟨p,hp⟩:∃ p,l[i]?=some p:=⟨_,List.getElem?_eq_getElem hil⟩
    rcases HV.o with⟨_,_,_,h0⟩ |⟨bl,ol,cl,hh,hb,hc,hcell⟩
    ·rw[h0]at hil;cases hil
    cases hh
    obtain⟨qa1,qa2⟩:=hcell i p hp
    have QA1:=Hd (jab qa1 HR.o.ext);have QA2:=Hd (jab qa2 HR.o.ext);have HP:=Hd hp;have b1:(i:Int) < (l.length:Int):=by omega
    obtain⟨x1,x2⟩:=p
    simp only at QA1 QA2;clear hcell hb hc hp;have eA:((j:Int) ==(m.length:Int))=false:=by simp;omega
    have eN:((i:Int) ==(l.length:Int))=false:=by simp;omega
    cases hls:jb4 x1 y1 with
    | true =>
     have HN:=Hd (show acc++[_]++jbc _ _=jbc l m from by rw[List.append_assoc,List.singleton_append, ←jlc HP.o HQ.o hls];exact HEQ.o);unfold jb4 at hls;clear HEQ;go_wp2_with fail
     refine jad [0,1,2,3,4,5,6,7,8,9,10,11,12,13,14,15,16,17,18,19,20,21,22,23] Ext ExtR ExtT (by kernel_rfl) (by kernel_rfl) (by kernel_rfl) ?_;iterate 14 (refine jac _ rfl (by kernel_rfl) rfl rfl (fun K hK=>?_);go_big_quiet_op;refine hK _ ?_;clear hK K)
     refine jai ⟨bl,ol+i * 2,none⟩ (.string x1) rfl (by kernel_rfl) rfl rfl (fun w3 h3=>jaa Tryz.uStr rfl (jab (by exact QA1.o) ((jaj _).trans h3))) ?_;simp only[Act.put,sA,sB,sC];iterate 4 (refine jac _ rfl (by kernel_rfl) rfl rfl (fun K hK=>?_);go_big_quiet_op;refine hK _ ?_;clear hK K)
     refine jai ⟨bm,om+j * 2,none⟩ (.string y1) rfl (by kernel_rfl) rfl rfl (fun w3 h3=>jaa Tryz.uStr rfl (jab (by exact QB1.o) ((jaj _).trans h3))) ?_;simp only[Act.put,sA,sB,sC];iterate 4 (refine jac _ rfl (by kernel_rfl) rfl rfl (fun K hK=>?_);go_big_quiet_op;refine hK _ ?_;clear hK K)
     refine jas (by kernel_rfl) (fun w5 he=>?_);have HRX:=Hd (HR.o.mono ((jaj _).trans he));have qx1:=jab QA1.o ((jaj _).trans he);clear he HR QA1 QA2 QB1 QB2;go_wp2_with (at_builtin;refine jaZ Tryz.sChgs (HRX.o.mono ((ExtR _).alloc _)) (.tmp 79) (.tmp 86) rfl rfl rfl (jaS (Blk.new _ _)) (news:=[.string x1,.string ⟨#[]⟩,.bool true]) (by intro u hu;simp at hu;rcases hu with rfl | rfl | rfl <;> rfl) rfl rfl ?c1 ?c2 (fun v' w' r1 r2 r3=>?_))
     case c1=>unfold maxLen;omega
     case c2=>omega
     have r1':CRow w w' v' (n+1) (acc++[⟨x1,⟨#[]⟩,true⟩]):=by unfold CRow;rw[jbI];exact r1
     obtain⟨a8,c8,rfl⟩:=r1'.sl
     have HR5:=Hd r1';clear r1 r2 r3 r1';go_wp2_with fail
     go_roundw
     case rel=>exact⟨i+1,j,n+1,_,by go_num,rfl,by omega,hj,by omega,HR5.o,HN.o⟩
     case measure=>simp[intOf];omega
    | false =>
     have HLS:=Hd hls;unfold jb4 at hls;go_wp2_with fail
     refine jad [0,1,2,3,4,5,6,7,8,9,10,11,12,13,14,15,16,17,18,19,20,21,22,23] Ext ExtR ExtT (by kernel_rfl) (by kernel_rfl) (by kernel_rfl) ?_;iterate 14 (refine jac _ rfl (by kernel_rfl) rfl rfl (fun K hK=>?_);go_big_quiet_op;refine hK _ ?_;clear hK K)
     refine jai ⟨bl,ol+i * 2,none⟩ (.string x1) rfl (by kernel_rfl) rfl rfl (fun w3 h3=>jaa Tryz.uStr rfl (jab (by exact QA1.o) ((jaj _).trans h3))) ?_;simp only[Act.put,sA,sB,sC];iterate 4 (refine jac _ rfl (by kernel_rfl) rfl rfl (fun K hK=>?_);go_big_quiet_op;refine hK _ ?_;clear hK K)
     refine jai ⟨bm,om+j * 2,none⟩ (.string y1) rfl (by kernel_rfl) rfl rfl (fun w3 h3=>jaa Tryz.uStr rfl (jab (by exact QB1.o) ((jaj _).trans h3))) ?_;simp only[Act.put,sA,sB,sC];iterate 4 (refine jac _ rfl (by kernel_rfl) rfl rfl (fun K hK=>?_);go_big_quiet_op;refine hK _ ?_;clear hK K)
     refine jas (by kernel_rfl) (fun w5 he=>?_);have HRY:=Hd (HR.o.mono ((jaj _).trans he));have QA1':=Hd (jab QA1.o ((jaj _).trans he));have QA2':=Hd (jab QA2.o ((jaj _).trans he));have QB1':=Hd (jab QB1.o ((jaj _).trans he));have QB2':=Hd (jab QB2.o ((jaj _).trans he));clear he HR QA1 QA2 QB1 QB2 hls;cases hlt2:jb4 y1 x1 with
     | true =>
      have HN:=Hd (show acc++[_]++jbc _ _=jbc l m from by rw[List.append_assoc,List.singleton_append, ←jmt HP.o HQ.o HLS.o hlt2];exact HEQ.o);unfold jb4 at hlt2;clear HEQ;go_wp2_with fail
      refine jad [0,1,2,3,4,5,6,7,8,9,10,11,12,13,14,15,16,17] Ext ExtR ExtT (by kernel_rfl) (by kernel_rfl) (by kernel_rfl) ?_;iterate 9 (refine jac _ rfl (by kernel_rfl) rfl rfl (fun K hK=>?_);go_big_quiet_op;refine hK _ ?_;clear hK K)
      refine jai ⟨bm,om+j * 2,none⟩ (.string y1) rfl (by kernel_rfl) rfl rfl (fun w3 h3=>jaa Tryz.uStr rfl (jab (by exact QB1'.o) ((jaj _).trans h3))) ?_;simp only[Act.put,sA,sB,sC];iterate 4 (refine jac _ rfl (by kernel_rfl) rfl rfl (fun K hK=>?_);go_big_quiet_op;refine hK _ ?_;clear hK K)
      refine jai ⟨bl,ol+i * 2,none⟩ (.string x1) rfl (by kernel_rfl) rfl rfl (fun w3 h3=>jaa Tryz.uStr rfl (jab (by exact QA1'.o) ((jaj _).trans h3))) ?_;simp only[Act.put,sA,sB,sC];iterate 3 (refine jac _ rfl (by kernel_rfl) rfl rfl (fun K hK=>?_);go_big_quiet_op;refine hK _ ?_;clear hK K)
      refine jas (by kernel_rfl) (fun w5 he=>?_);have HRX:=Hd (HRY.o.mono ((jaj _).trans he));have QD1:=Hd (jab QB1'.o ((jaj _).trans he));have QD2:=Hd (jab QB2'.o ((jaj _).trans he));clear he HRY QA1' QA2' QB1' QB2' hlt2;go_wp2_with fail
      refine jaG [0,1,2,3,4,5,6,7,8,9,10,11,12,13,14] [12,13] Ext (jah (fun b=>(Value.slice a2 n c2).ownBlock=some b)) ExtR ExtT (fun x y z h k=>jah.trans h k) (fun x y h=>h.mono (fun _ _ h=>h.elim)) (by kernel_rfl) (by kernel_rfl) (by kernel_rfl) ?_;iterate 5 (refine jao _ rfl (by kernel_rfl) rfl rfl (fun K hK=>?_);go_big_quiet_op;refine hK _ ?_;clear hK K)
      refine jaP ⟨bm,om+j * 2,none⟩ (.string y1) rfl (by kernel_rfl) rfl rfl (fun w3 h3=>jaa Tryz.uStr rfl (jaw (by exact QD1.o) h3 NB.o)) ?_;simp only[Act.put,sA,sB,sC];iterate 4 (refine jao _ rfl (by kernel_rfl) rfl rfl (fun K hK=>?_);go_big_quiet_op;refine hK _ ?_;clear hK K)
      refine jaP ⟨bm,om+j * 2+1,none⟩ (.string y2) rfl (by kernel_rfl) rfl rfl (fun w3 h3=>jaa Tryz.uStr rfl (jaw (by exact QD2.o) h3 NB.o)) ?_;simp only[Act.put,sA,sB,sC]
      (refine jao _ rfl (by kernel_rfl) rfl rfl (fun K hK=>?_);go_big_quiet_op;refine hK _ ?_;clear hK K)
      refine jaK _ rfl (by kernel_rfl) rfl (fun w6 he K hK=>?_);have HR6:=Hd (HRX.o.mono ((jaj _).trans he));clear he;go_simp;refine hK _ _ ((jah.refl _ w6).alloc _) ?_;clear hK K;refine jaK _ rfl (by kernel_rfl) rfl (fun w7 he K hK=>?_);have HR7:=Hd (HR6.o.mono (((ExtR w6).alloc _).trans he));have hB:∀ k u,([.string y1,.string y2,.bool false]:List Value)[k]?=some u→w7.cell? ((⟨w6.heap.size,0,none⟩:Addr).add k)=some u:=fun k u hk=>jab (jaS (Blk.new w6 (.cells [Value.string y1,.string y2,.bool false].toArray 86)) k u hk) he;refine jep Tryz.sChgs HR7.o (.tmp 108) (.tmp 120) rfl rfl hB (by intro u hu;simp at hu;rcases hu with rfl | rfl | rfl <;> rfl) rfl rfl (by unfold maxLen;omega) (by omega) (fun v' w8 r1 r2 r3=>hK _ _ r2 ?_);have r1':CRow w w8 v' (n+1) (acc++[⟨y1,y2,false⟩]):=by unfold CRow;rw[jbI];exact r1
      have HR8:=Hd r1';clear hK K he r1 r2 r3 r1' hB HR6 HR7
      obtain⟨a4,c4,rfl⟩:=HR8.o.sl
      simp only[Act.put,sA,sB,sC]
      (refine jao _ rfl (by kernel_rfl) rfl rfl (fun K hK=>?_);go_big_quiet_op;refine hK _ ?_;clear hK K)
      refine jbt (by kernel_rfl) (fun w9 he=>?_);have HR9:=Hd (HR8.o.mono he);clear he HR8;go_wp2_with fail
      go_roundw
      case rel=>exact⟨i,j+1,n+1,_,rfl,by go_num,by omega,by omega,by omega,HR9.o,HN.o⟩
      case measure=>simp[intOf];omega
     | false =>
      have HLT:=Hd hlt2;unfold jb4 at hlt2;go_wp2_with fail
      refine jad [0,1,2,3,4,5,6,7,8,9,10,11,12,13,14,15,16,17] Ext ExtR ExtT (by kernel_rfl) (by kernel_rfl) (by kernel_rfl) ?_;iterate 9 (refine jac _ rfl (by kernel_rfl) rfl rfl (fun K hK=>?_);go_big_quiet_op;refine hK _ ?_;clear hK K)
      refine jai ⟨bm,om+j * 2,none⟩ (.string y1) rfl (by kernel_rfl) rfl rfl (fun w3 h3=>jaa Tryz.uStr rfl (jab (by exact QB1'.o) ((jaj _).trans h3))) ?_;simp only[Act.put,sA,sB,sC];iterate 4 (refine jac _ rfl (by kernel_rfl) rfl rfl (fun K hK=>?_);go_big_quiet_op;refine hK _ ?_;clear hK K)
      refine jai ⟨bl,ol+i * 2,none⟩ (.string x1) rfl (by kernel_rfl) rfl rfl (fun w3 h3=>jaa Tryz.uStr rfl (jab (by exact QA1'.o) ((jaj _).trans h3))) ?_;simp only[Act.put,sA,sB,sC];iterate 3 (refine jac _ rfl (by kernel_rfl) rfl rfl (fun K hK=>?_);go_big_quiet_op;refine hK _ ?_;clear hK K)
      refine jas (by kernel_rfl) (fun w5 he=>?_);have HRZ:=Hd (HRY.o.mono ((jaj _).trans he));have QE2:=Hd (jab QA2'.o ((jaj _).trans he));have QF1:=Hd (jab QB1'.o ((jaj _).trans he));have QF2:=Hd (jab QB2'.o ((jaj _).trans he));clear he HRY QA1' QA2' QB1' QB2' hlt2;cases hvv:(x2.toList == y2.toList)with
      | true =>
       have HN:=Hd (show acc++jbc _ _=jbc l m from by rw[←jmu HP.o HQ.o HLS.o HLT.o hvv];exact HEQ.o);clear HEQ;go_wp2_with fail
       refine jad [0,1,2,3,4,5,6,7,8,9,10] Ext ExtR ExtT (by kernel_rfl) (by kernel_rfl) (by kernel_rfl) ?_;iterate 4 (refine jac _ rfl (by kernel_rfl) rfl rfl (fun K hK=>?_);go_big_quiet_op;refine hK _ ?_;clear hK K)
       refine jai ⟨bl,ol+i * 2+1,none⟩ (.string x2) rfl (by kernel_rfl) rfl rfl (fun w3 h3=>jaa Tryz.uStr rfl (jab (by exact QE2.o) ((jaj _).trans h3))) ?_;simp only[Act.put,sA,sB,sC];iterate 4 (refine jac _ rfl (by kernel_rfl) rfl rfl (fun K hK=>?_);go_big_quiet_op;refine hK _ ?_;clear hK K)
       refine jai ⟨bm,om+j * 2+1,none⟩ (.string y2) rfl (by kernel_rfl) rfl rfl (fun w3 h3=>jaa Tryz.uStr rfl (jab (by exact QF2.o) ((jaj _).trans h3))) ?_;simp only[Act.put,sA,sB,sC]
       (refine jac _ rfl (by kernel_rfl) rfl rfl (fun K hK=>?_);go_big_quiet_op;refine hK _ ?_;clear hK K)
       refine jas (by kernel_rfl) (fun w5 he=>?_);have HRX:=Hd (HRZ.o.mono ((jaj _).trans he));clear he HRZ QE2 QF1 QF2;go_wp2_with fail
       go_roundw
       case rel=>exact⟨i+1,j+1,n,acc,by go_num,by go_num,by omega,by omega,by omega,HRX.o,HN.o⟩
       case measure=>simp[intOf];omega
      | false =>
       have HN:=Hd (show acc++[_]++jbc _ _=jbc l m from by rw[List.append_assoc,List.singleton_append, ←jld HP.o HQ.o HLS.o HLT.o hvv];exact HEQ.o);clear HEQ;go_wp2_with fail
       refine jad [0,1,2,3,4,5,6,7,8,9,10] Ext ExtR ExtT (by kernel_rfl) (by kernel_rfl) (by kernel_rfl) ?_;iterate 4 (refine jac _ rfl (by kernel_rfl) rfl rfl (fun K hK=>?_);go_big_quiet_op;refine hK _ ?_;clear hK K)
       refine jai ⟨bl,ol+i * 2+1,none⟩ (.string x2) rfl (by kernel_rfl) rfl rfl (fun w3 h3=>jaa Tryz.uStr rfl (jab (by exact QE2.o) ((jaj _).trans h3))) ?_;simp only[Act.put,sA,sB,sC];iterate 4 (refine jac _ rfl (by kernel_rfl) rfl rfl (fun K hK=>?_);go_big_quiet_op;refine hK _ ?_;clear hK K)
       refine jai ⟨bm,om+j * 2+1,none⟩ (.string y2) rfl (by kernel_rfl) rfl rfl (fun w3 h3=>jaa Tryz.uStr rfl (jab (by exact QF2.o) ((jaj _).trans h3))) ?_;simp only[Act.put,sA,sB,sC]
       (refine jac _ rfl (by kernel_rfl) rfl rfl (fun K hK=>?_);go_big_quiet_op;refine hK _ ?_;clear hK K)
       refine jas (by kernel_rfl) (fun w5 he=>?_);have HRX:=Hd (HRZ.o.mono ((jaj _).trans he));have QD1:=Hd (jab QF1.o ((jaj _).trans he));have QD2:=Hd (jab QF2.o ((jaj _).trans he));clear he HRZ QE2 QF1 QF2;go_wp2_with fail
       refine jaG [0,1,2,3,4,5,6,7,8,9,10,11,12,13,14] [12,13] Ext (jah (fun b=>(Value.slice a2 n c2).ownBlock=some b)) ExtR ExtT (fun x y z h k=>jah.trans h k) (fun x y h=>h.mono (fun _ _ h=>h.elim)) (by kernel_rfl) (by kernel_rfl) (by kernel_rfl) ?_;iterate 5 (refine jao _ rfl (by kernel_rfl) rfl rfl (fun K hK=>?_);go_big_quiet_op;refine hK _ ?_;clear hK K)
       refine jaP ⟨bm,om+j * 2,none⟩ (.string y1) rfl (by kernel_rfl) rfl rfl (fun w3 h3=>jaa Tryz.uStr rfl (jaw (by exact QD1.o) h3 NB.o)) ?_;simp only[Act.put,sA,sB,sC];iterate 4 (refine jao _ rfl (by kernel_rfl) rfl rfl (fun K hK=>?_);go_big_quiet_op;refine hK _ ?_;clear hK K)
       refine jaP ⟨bm,om+j * 2+1,none⟩ (.string y2) rfl (by kernel_rfl) rfl rfl (fun w3 h3=>jaa Tryz.uStr rfl (jaw (by exact QD2.o) h3 NB.o)) ?_;simp only[Act.put,sA,sB,sC]
       (refine jao _ rfl (by kernel_rfl) rfl rfl (fun K hK=>?_);go_big_quiet_op;refine hK _ ?_;clear hK K)
       refine jaK _ rfl (by kernel_rfl) rfl (fun w6 he K hK=>?_);have HR6:=Hd (HRX.o.mono ((jaj _).trans he));clear he;go_simp;refine hK _ _ ((jah.refl _ w6).alloc _) ?_;clear hK K;refine jaK _ rfl (by kernel_rfl) rfl (fun w7 he K hK=>?_);have HR7:=Hd (HR6.o.mono (((ExtR w6).alloc _).trans he));have hB:∀ k u,([.string y1,.string y2,.bool false]:List Value)[k]?=some u→w7.cell? ((⟨w6.heap.size,0,none⟩:Addr).add k)=some u:=fun k u hk=>jab (jaS (Blk.new w6 (.cells [Value.string y1,.string y2,.bool false].toArray 86)) k u hk) he;refine jep Tryz.sChgs HR7.o (.tmp 37) (.tmp 49) rfl rfl hB (by intro u hu;simp at hu;rcases hu with rfl | rfl | rfl <;> rfl) rfl rfl (by unfold maxLen;omega) (by omega) (fun v' w8 r1 r2 r3=>hK _ _ r2 ?_);have r1':CRow w w8 v' (n+1) (acc++[⟨y1,y2,false⟩]):=by unfold CRow;rw[jbI];exact r1
       have HR8:=Hd r1';clear hK K he r1 r2 r3 r1' hB HR6 HR7
       obtain⟨a4,c4,rfl⟩:=HR8.o.sl
       simp only[Act.put,sA,sB,sC]
       (refine jao _ rfl (by kernel_rfl) rfl rfl (fun K hK=>?_);go_big_quiet_op;refine hK _ ?_;clear hK K)
       refine jbt (by kernel_rfl) (fun w9 he=>?_);have HR9:=Hd (HR8.o.mono he);clear he HR8;go_wp2_with fail
       go_roundw
       case rel=>exact⟨i+1,j+1,n+1,_,by go_num,by go_num,by omega,by omega,by omega,HR9.o,HN.o⟩
       case measure=>simp[intOf];omega
   ·obtain⟨q,hq⟩:∃ q,m[j]?=some q:=⟨_,List.getElem?_eq_getElem hjm⟩
    rcases HU.o with⟨_,_,_,h0⟩ |⟨bm,om,cm,hh,hb,hc,hcell⟩
    ·rw[h0]at hjm;cases hjm
    cases hh
    obtain⟨qb1,qb2⟩:=hcell j q hq
    have QB1:=Hd (jab qb1 HR.o.ext);have QB2:=Hd (jab qb2 HR.o.ext);have NB:=Hd (show ¬(Value.slice a2 n c2).ownBlock=some bm from fun e=>by have:=HR.o.new bm e;omega);have HQ:=Hd hq;have b2:(j:Int) < (m.length:Int):=by omega
    obtain⟨y1,y2⟩:=q
    simp only at QB1 QB2;clear hcell hb hc hq;have hie:i=l.length:=by omega
    have b1:¬(i:Int) < (l.length:Int):=by omega
    have eA:((j:Int) ==(m.length:Int))=false:=by simp;omega
    have eN:((i:Int) ==(l.length:Int))=true:=by simp;omega
    have HN:=Hd (show acc++[_]++jbc _ _=jbc l m from by rw[List.append_assoc,List.singleton_append, ←jms HQ.o hie];exact HEQ.o);clear hie HEQ;go_wp2_with fail
    refine jad [0,1,2,3,4,5,6,7,8,9,10,11,12,13,14,15,16,17,18,19,20,21,22,23] Ext ExtR ExtT (by kernel_rfl) (by kernel_rfl) (by kernel_rfl) ?_;iterate 10 (refine jac _ rfl (by kernel_rfl) rfl rfl (fun K hK=>?_);go_big_quiet_op;refine hK _ ?_;clear hK K)
    iterate 11 (refine jaU _ rfl (by kernel_rfl) rfl ?_;simp only[Act.put,sA,sB,sC])
    iterate 3 (refine jac _ rfl (by kernel_rfl) rfl rfl (fun K hK=>?_);go_big_quiet_op;refine hK _ ?_;clear hK K)
    refine jas (by kernel_rfl) (fun w5 he=>?_);have HRY:=Hd (HR.o.mono ((jaj _).trans he));have QC1:=Hd (jab QB1.o ((jaj _).trans he));have QC2:=Hd (jab QB2.o ((jaj _).trans he));clear he HR QB1 QB2;go_wp2_with fail
    refine jad [0,1,2,3,4,5,6,7,8,9,10,11,12,13,14,15,16,17] Ext ExtR ExtT (by kernel_rfl) (by kernel_rfl) (by kernel_rfl) ?_;iterate 5 (refine jac _ rfl (by kernel_rfl) rfl rfl (fun K hK=>?_);go_big_quiet_op;refine hK _ ?_;clear hK K)
    iterate 11 (refine jaU _ rfl (by kernel_rfl) rfl ?_;simp only[Act.put,sA,sB,sC])
    iterate 2 (refine jac _ rfl (by kernel_rfl) rfl rfl (fun K hK=>?_);go_big_quiet_op;refine hK _ ?_;clear hK K)
    refine jas (by kernel_rfl) (fun w5 he=>?_);have HRX:=Hd (HRY.o.mono ((jaj _).trans he));have QD1:=Hd (jab QC1.o ((jaj _).trans he));have QD2:=Hd (jab QC2.o ((jaj _).trans he));clear he HRY QC1 QC2;go_wp2_with fail
    refine jaG [0,1,2,3,4,5,6,7,8,9,10,11,12,13,14] [12,13] Ext (jah (fun b=>(Value.slice a2 n c2).ownBlock=some b)) ExtR ExtT (fun x y z h k=>jah.trans h k) (fun x y h=>h.mono (fun _ _ h=>h.elim)) (by kernel_rfl) (by kernel_rfl) (by kernel_rfl) ?_;iterate 5 (refine jao _ rfl (by kernel_rfl) rfl rfl (fun K hK=>?_);go_big_quiet_op;refine hK _ ?_;clear hK K)
    refine jaP ⟨bm,om+j * 2,none⟩ (.string y1) rfl (by kernel_rfl) rfl rfl (fun w3 h3=>jaa Tryz.uStr rfl (jaw (by exact QD1.o) h3 NB.o)) ?_;simp only[Act.put,sA,sB,sC];iterate 4 (refine jao _ rfl (by kernel_rfl) rfl rfl (fun K hK=>?_);go_big_quiet_op;refine hK _ ?_;clear hK K)
    refine jaP ⟨bm,om+j * 2+1,none⟩ (.string y2) rfl (by kernel_rfl) rfl rfl (fun w3 h3=>jaa Tryz.uStr rfl (jaw (by exact QD2.o) h3 NB.o)) ?_;simp only[Act.put,sA,sB,sC]
    (refine jao _ rfl (by kernel_rfl) rfl rfl (fun K hK=>?_);go_big_quiet_op;refine hK _ ?_;clear hK K)
    refine jaK _ rfl (by kernel_rfl) rfl (fun w6 he K hK=>?_);have HR6:=Hd (HRX.o.mono ((jaj _).trans he));clear he;go_simp;refine hK _ _ ((jah.refl _ w6).alloc _) ?_;clear hK K;refine jaK _ rfl (by kernel_rfl) rfl (fun w7 he K hK=>?_);have HR7:=Hd (HR6.o.mono (((ExtR w6).alloc _).trans he));have hB:∀ k u,([.string y1,.string y2,.bool false]:List Value)[k]?=some u→w7.cell? ((⟨w6.heap.size,0,none⟩:Addr).add k)=some u:=fun k u hk=>jab (jaS (Blk.new w6 (.cells [Value.string y1,.string y2,.bool false].toArray 86)) k u hk) he;refine jep Tryz.sChgs HR7.o (.tmp 108) (.tmp 120) rfl rfl hB (by intro u hu;simp at hu;rcases hu with rfl | rfl | rfl <;> rfl) rfl rfl (by unfold maxLen;omega) (by omega) (fun v' w8 r1 r2 r3=>hK _ _ r2 ?_);have r1':CRow w w8 v' (n+1) (acc++[⟨y1,y2,false⟩]):=by unfold CRow;rw[jbI];exact r1
    have HR8:=Hd r1';clear hK K he r1 r2 r3 r1' hB HR6 HR7
    obtain⟨a4,c4,rfl⟩:=HR8.o.sl
    simp only[Act.put,sA,sB,sC]
    (refine jao _ rfl (by kernel_rfl) rfl rfl (fun K hK=>?_);go_big_quiet_op;refine hK _ ?_;clear hK K)
    refine jbt (by kernel_rfl) (fun w9 he=>?_);have HR9:=Hd (HR8.o.mono he);clear he HR8;go_wp2_with fail
    go_roundw
    case rel=>exact⟨i,j+1,n+1,_,rfl,by go_num,by omega,by omega,by omega,HR9.o,HN.o⟩
    case measure=>simp[intOf];omega
  ·have hje:j=m.length:=by omega
   by_cases hil:i < l.length
   ·obtain⟨p,hp⟩:∃ p,l[i]?=some p:=⟨_,List.getElem?_eq_getElem hil⟩
    rcases HV.o with⟨_,_,_,h0⟩ |⟨bl,ol,cl,hh,hb,hc,hcell⟩
    ·rw[h0]at hil;cases hil
    cases hh
    obtain⟨qa1,qa2⟩:=hcell i p hp
    have QA1:=Hd (jab qa1 HR.o.ext);have QA2:=Hd (jab qa2 HR.o.ext);have HP:=Hd hp;have b1:(i:Int) < (l.length:Int):=by omega
    obtain⟨x1,x2⟩:=p
    simp only at QA1 QA2;clear hcell hb hc hp;have b2:¬(j:Int) < (m.length:Int):=by omega
    have eA:((j:Int) ==(m.length:Int))=true:=by simp;omega
    have HN:=Hd (show acc++[_]++jbc _ _=jbc l m from by rw[List.append_assoc,List.singleton_append, ←jlb HP.o hje];exact HEQ.o);clear hje HEQ;go_wp2_with fail
    refine jad [0,1,2,3,4,5,6,7,8,9,10,11,12,13,14,15,16,17,18,19,20,21,22,23] Ext ExtR ExtT (by kernel_rfl) (by kernel_rfl) (by kernel_rfl) ?_;iterate 5 (refine jac _ rfl (by kernel_rfl) rfl rfl (fun K hK=>?_);go_big_quiet_op;refine hK _ ?_;clear hK K)
    iterate 17 (refine jaU _ rfl (by kernel_rfl) rfl ?_;simp only[Act.put,sA,sB,sC])
    iterate 2 (refine jac _ rfl (by kernel_rfl) rfl rfl (fun K hK=>?_);go_big_quiet_op;refine hK _ ?_;clear hK K)
    refine jas (by kernel_rfl) (fun w5 he=>?_);have HRX:=Hd (HR.o.mono ((jaj _).trans he));have qx1:=jab QA1.o ((jaj _).trans he);clear he HR QA1 QA2;go_wp2_with (at_builtin;refine jaZ Tryz.sChgs (HRX.o.mono ((ExtR _).alloc _)) (.tmp 79) (.tmp 86) rfl rfl rfl (jaS (Blk.new _ _)) (news:=[.string x1,.string ⟨#[]⟩,.bool true]) (by intro u hu;simp at hu;rcases hu with rfl | rfl | rfl <;> rfl) rfl rfl ?c1 ?c2 (fun v' w' r1 r2 r3=>?_))
    case c1=>unfold maxLen;omega
    case c2=>omega
    have r1':CRow w w' v' (n+1) (acc++[⟨x1,⟨#[]⟩,true⟩]):=by unfold CRow;rw[jbI];exact r1
    obtain⟨a8,c8,rfl⟩:=r1'.sl
    have HR5:=Hd r1';clear r1 r2 r3 r1';go_wp2_with fail
    go_roundw
    case rel=>exact⟨i+1,j,n+1,_,by go_num,rfl,by omega,hj,by omega,HR5.o,HN.o⟩
    case measure=>simp[intOf];omega
   ·have hie:i=l.length:=by omega
    have HF:=Hd (show acc=R by have h:=HEQ.o;rw[jnK hie hje,List.append_nil, ←HRR.o]at h;exact h);have b1:¬(i:Int) < (l.length:Int):=by omega
    have b2:¬(j:Int) < (m.length:Int):=by omega
    have hnl:n=R.length:=by
     have:=HR.o.len
     rw[HF.o]at this;rw[jfv]at this;omega
    have HNL:=Hd hnl;clear hie hje hnl HEQ HRR;go_wp2_with fail
    go_ret
    exact⟨_,rfl,by rw[←HNL.o, ←HF.o];exact HR.o⟩
theorem Tryz.enterAhead:∀ args w,(callFunc 102 args).run Tryz.prog w=.ok (.enter 102 args) w:=fun _ _=>by kernel_rfl
theorem jeU:∀ (i:Nat) (a b:List UInt8),a.take i=b.take i→i≤a.length→i≤b.length→Op.bytesLess a b=Op.bytesLess (a.drop i) (b.drop i)
 | 0,_,_,_,_,_=>rfl
 | i+1,[],_,_,h,_=>by simp at h
 | i+1,_ :: _,[],_,_,h=>by simp at h
 | i+1,x :: a,y :: b,h,h1,h2=>by
  simp only[List.take_succ_cons,List.cons.injEq]at h
  obtain⟨rfl,h⟩:=h
  rw[Op.bytesLess,List.drop_succ_cons,List.drop_succ_cons, ←jeU i a b h (by simpa using h1) (by simpa using h2)]
  simp
theorem jmO{i:Nat}{a b:List UInt8}{x y:UInt8}(h:a.take i=b.take i)(hx:a[i]?=some x)(hy:b[i]?=some y)(hne:x≠y):Op.bytesLess a b=decide (x < y):=by
 obtain⟨h1,e1⟩:=List.getElem?_eq_some_iff.1 hx
 obtain⟨h2,e2⟩:=List.getElem?_eq_some_iff.1 hy
 rw[jeU i a b h (by omega) (by omega),List.drop_eq_getElem_cons h1,List.drop_eq_getElem_cons h2,e1,e2,Op.bytesLess]
 by_cases hl:x < y
 ·simp[hl]
 ·simp[hl,hne]
theorem jie{i:Nat}{a b:List UInt8}(h:a.take i=b.take i)(h1:i≤a.length)(h2:i≤b.length)(he:i=a.length∨i=b.length):Op.bytesLess a b=decide (a.length < b.length):=by
 rw[jeU i a b h h1 h2];rcases he with he | he
 ·rw[he,List.drop_length]
  cases hb:b.drop a.length with
  | nil =>
   have:=congrArg List.length hb
   rw[List.length_drop,List.length_nil]at this;simp[Op.bytesLess];omega
  | cons y r =>
   have:=congrArg List.length hb
   rw[List.length_drop,List.length_cons]at this;simp[Op.bytesLess];omega
 ·rw[he,List.drop_length]
  cases ha:a.drop b.length with
  | nil =>
   have:=congrArg List.length ha
   rw[List.length_drop,List.length_nil]at this;simp[Op.bytesLess];omega
  | cons y r =>
   have:=congrArg List.length ha
   rw[List.length_drop,List.length_cons]at this;simp[Op.bytesLess];omega
def jox(w:World)(a b:ByteArray)(iv:Value)(wr:World):Prop:=∃ i:Nat,i≤a.size∧i≤b.size∧iv=.int .i64 i∧Ext w wr∧a.data.toList.take i=b.data.toList.take i
theorem jml(w:World)(a b:ByteArray)(ha:a.size≤9223372036854775807)(hb:b.size≤9223372036854775807):Calls Tryz.prog 102 #[.string a,.string b] w fun e w'=>e=.returned (.bool (jb4 a b))∧Ext w w':=by
 obtain⟨R,hR⟩:∃ R,R=jb4 a b:=⟨_,rfl⟩
 have HR:=Hd (show R=Op.bytesLess a.data.toList b.data.toList by rw[hR];unfold jb4;rw[ByteArray.toList_eq,ByteArray.toList_eq]);rw[←hR];clear hR;go_enter Tryz.func102,Tryz.ntmps102;go_wp2_with fail
 go_loopw [5] (fun iv wr=>jox w a b iv wr) (fun iv _=>a.size - (intOf iv).toNat)
 case atStart=>exact⟨0,by omega,by omega,rfl,ExtR w,rfl⟩
 case round =>
  obtain⟨i,hi1,hi2,rfl,hE,htk⟩:=hrel
  have HE:=Hd hE;have HTK:=Hd htk;clear hE htk;have hla:a.data.toList.length=a.size:=rfl;have hlb:b.data.toList.length=b.size:=rfl
  by_cases h1:i < a.size
  ·have b1:(i:Int) < (a.size:Int):=by omega
   by_cases h2:i < b.size
   ·have b2:(i:Int) < (b.size:Int):=by omega
    obtain⟨x,hx⟩:∃ x,x=a[i]:=⟨_,rfl⟩
    obtain⟨y,hy⟩:∃ y,y=b[i]:=⟨_,rfl⟩
    have HX:=Hd (show a.data.toList[i]?=some x by rw[hx,List.getElem?_eq_getElem (by omega)];rfl);have HY:=Hd (show b.data.toList[i]?=some y by rw[hy,List.getElem?_eq_getElem (by omega)];rfl);have hgx:a[i].toNat=x.toNat:=by rw[hx]
    have hgy:b[i].toNat=y.toNat:=by rw[hy]
    clear hla hlb
    by_cases hxy:x=y
    ·have hn:((x.toNat:Int) !=(y.toNat:Int))=false:=by rw[hxy];simp
     have HT2:=Hd (show a.data.toList.take (i+1)=b.data.toList.take (i+1) by rw[List.take_add_one,List.take_add_one,HX.o,HY.o,HTK.o,hxy]);clear hxy;go_wp2_with fail
     refine jad [0,1,2,3,4,5,6] Ext ExtR ExtT (by kernel_rfl) (by kernel_rfl) (by kernel_rfl) ?_;iterate 7 (refine jac _ rfl (by kernel_rfl) rfl rfl (fun K hK=>?_);go_big_quiet_op;refine hK _ ?_;clear hK K)
     refine jas (by kernel_rfl) (fun w3 he=>?_);have HE3:=Hd (HE.o.trans ((jaj _).trans he));clear he;go_wp2_with fail
     go_roundw
     case rel=>exact⟨i+1,by omega,by omega,by go_num,HE3.o,HT2.o⟩
     case measure=>simp[intOf];omega
    ·have hn:((x.toNat:Int) !=(y.toNat:Int))=true:=by
      simp only[bne_iff_ne,ne_eq];intro e;exact hxy (UInt8.toNat_inj.1 (by omega))
     have HL:=Hd (show R=decide (x < y) by rw[HR.o];exact jmO HTK.o HX.o HY.o hxy)
     by_cases hl:x < y
     ·have hl2:(x.toNat:Int) < (y.toNat:Int):=by have:=UInt8.lt_iff_toNat_lt.1 hl;omega
      have HF:=Hd (show R=true by rw[HL.o];exact decide_eq_true hl);clear hl hxy;go_wp2_with fail
      refine jad [0,1,2,3,4,5,6] Ext ExtR ExtT (by kernel_rfl) (by kernel_rfl) (by kernel_rfl) ?_;iterate 7 (refine jac _ rfl (by kernel_rfl) rfl rfl (fun K hK=>?_);go_big_quiet_op;refine hK _ ?_;clear hK K)
      refine jas (by kernel_rfl) (fun w3 he=>?_);go_wp2_with fail
      refine jad [0,1,2,3,4,5,6,7] Ext ExtR ExtT (by kernel_rfl) (by kernel_rfl) (by kernel_rfl) ?_;iterate 8 (refine jac _ rfl (by kernel_rfl) rfl rfl (fun K hK=>?_);go_big_quiet_op;refine hK _ ?_;clear hK K)
      refine jas (by kernel_rfl) (fun w4 he2=>?_);have HE3:=Hd ((HE.o.trans ((jaj _).trans he)).trans ((jaj _).trans he2));clear he he2;go_wp2_with fail
      go_ret
      exact⟨by rw[HF.o];rfl,HE3.o⟩
     ·have hl2:¬(x.toNat:Int) < (y.toNat:Int):=by
       intro e;exact hl (UInt8.lt_iff_toNat_lt.2 (by omega))
      have HF:=Hd (show R=decide (x.toNat < y.toNat) by rw[HL.o,decide_eq_false hl,decide_eq_false (fun e=>hl (UInt8.lt_iff_toNat_lt.2 e))]);clear hl hxy;go_wp2_with fail
      refine jad [0,1,2,3,4,5,6] Ext ExtR ExtT (by kernel_rfl) (by kernel_rfl) (by kernel_rfl) ?_;iterate 7 (refine jac _ rfl (by kernel_rfl) rfl rfl (fun K hK=>?_);go_big_quiet_op;refine hK _ ?_;clear hK K)
      refine jas (by kernel_rfl) (fun w3 he=>?_);go_wp2_with fail
      refine jad [0,1,2,3,4,5,6,7] Ext ExtR ExtT (by kernel_rfl) (by kernel_rfl) (by kernel_rfl) ?_;iterate 8 (refine jac _ rfl (by kernel_rfl) rfl rfl (fun K hK=>?_);go_big_quiet_op;refine hK _ ?_;clear hK K)
      refine jas (by kernel_rfl) (fun w4 he2=>?_);have HE3:=Hd ((HE.o.trans ((jaj _).trans he)).trans ((jaj _).trans he2));clear he he2;go_wp2_with fail
      go_ret
      exact⟨by rw[HF.o];rfl,HE3.o⟩
   ·have b2:¬(i:Int) < (b.size:Int):=by omega
    have HL:=Hd (show R=decide (a.size < b.size) by rw[HR.o];exact jie HTK.o (by omega) (by omega) (.inr (by omega)));have b3:¬(a.size:Int) < (b.size:Int):=by omega
    have HF:=Hd (show R=false by rw[HL.o];exact decide_eq_false (by omega));go_wp2_with fail
    go_ret
    exact⟨by rw[HF.o];rfl,HE.o⟩
  ·have b1:¬(i:Int) < (a.size:Int):=by omega
   have HL:=Hd (show R=decide (a.size < b.size) by rw[HR.o];exact jie HTK.o (by omega) (by omega) (.inl (by omega)))
   by_cases hl:a.size < b.size
   ·have b3:(a.size:Int) < (b.size:Int):=by omega
    have HF:=Hd (show R=true by rw[HL.o];exact decide_eq_true hl);clear hl;go_wp2_with fail
    go_ret
    exact⟨by rw[HF.o];rfl,HE.o⟩
   ·have b3:¬(a.size:Int) < (b.size:Int):=by omega
    have HF:=Hd (show R=false by rw[HL.o];exact decide_eq_false hl);clear hl;go_wp2_with fail
    go_ret
    exact⟨by rw[HF.o];rfl,HE.o⟩
theorem joo(w:World)(k:ByteArray)(hs:k.size≤9223372036854775807):Calls Tryz.prog 100 #[.string k] w fun e w'=>e=.returned (.bool (jbN k))∧Ext w w':=by
 by_cases h0:1≤k.size
 ·have c0:(1:Int)≤(k.size:Int):=by omega
  by_cases h6:k.size≤6
  ·have c:(k.size:Int)≤6:=by omega
   have E:=Hd (show jbN k=true by unfold jbN;simp;omega);go_enter Tryz.func100,Tryz.ntmps100;go_wp2_with fail
   go_ret
   exact⟨by rw[E.o];rfl,ExtR w⟩
  ·have c:¬(k.size:Int)≤6:=by omega
   have E:=Hd (show jbN k=false by unfold jbN;simp;omega);go_enter Tryz.func100,Tryz.ntmps100;go_wp2_with fail
   go_ret
   exact⟨by rw[E.o];rfl,ExtR w⟩
 ·have c0:¬(1:Int)≤(k.size:Int):=by omega
  have E:=Hd (show jbN k=false by unfold jbN;simp;omega);go_enter Tryz.func100,Tryz.ntmps100;go_wp2_with fail
  go_ret
  exact⟨by rw[E.o];rfl,ExtR w⟩
theorem jlN(w:World)(k:ByteArray)(hs:k.size≤9223372036854775807):Calls Tryz.prog 101 #[.string k] w fun e w'=>e=.returned (.bool (jbs k))∧Ext w w':=by
 by_cases h0:1≤k.size
 ·have c0:(1:Int)≤(k.size:Int):=by omega
  by_cases h6:k.size≤80
  ·have c:(k.size:Int)≤80:=by omega
   have E:=Hd (show jbs k=true by unfold jbs;simp;omega);go_enter Tryz.func101,Tryz.ntmps101;go_wp2_with fail
   go_ret
   exact⟨by rw[E.o];rfl,ExtR w⟩
  ·have c:¬(k.size:Int)≤80:=by omega
   have E:=Hd (show jbs k=false by unfold jbs;simp;omega);go_enter Tryz.func101,Tryz.ntmps101;go_wp2_with fail
   go_ret
   exact⟨by rw[E.o];rfl,ExtR w⟩
 ·have c0:¬(1:Int)≤(k.size:Int):=by omega
  have E:=Hd (show jbs k=false by unfold jbs;simp;omega);go_enter Tryz.func101,Tryz.ntmps101;go_wp2_with fail
  go_ret
  exact⟨by rw[E.o];rfl,ExtR w⟩
theorem Tryz.enterRkey:∀ args w,(callFunc 100 args).run Tryz.prog w=.ok (.enter 100 args) w:=fun _ _=>by kernel_rfl
theorem Tryz.enterRvalue:∀ args w,(callFunc 101 args).run Tryz.prog w=.ok (.enter 101 args) w:=fun _ _=>by kernel_rfl
def joL(w:World)(l:List Pair)(i:Value)(wr:World):Prop:=∃ k:Nat,k≤l.length∧i=.int .i64 k∧Ext w wr∧(List.range k).any (badN l)=false
theorem jlF(w:World)(v:Value)(l:List Pair)(hv:RdP w v l)(hn:l.length≤9223372036854775807)(hs:jlX l):Calls Tryz.prog 44 #[v] w fun e w'=>e=.returned (.int .i64 (jaD l))∧Ext w w':=by
 have HV:=Hd hv;have HS:=Hd hs
 obtain⟨a,c,hsl⟩:=hv.sl
 subst hsl;clear hv hs
 obtain⟨R,hR⟩:∃ R,R=jaD l:=⟨_,rfl⟩
 rw[←hR];have HR:=Hd hR;clear hR;go_enter Tryz.func44,Tryz.ntmps44;go_wp2_with fail
 go_loopw [3] (fun i wr=>joL w l i wr) (fun i _=>l.length - (intOf i).toNat)
 case atStart=>exact⟨0,by omega,rfl,ExtR w,rfl⟩
 case round =>
  obtain⟨k,hk,rfl,hE,hall⟩:=hrel
  have HE:=Hd hE;have HALL:=Hd hall;clear hE hall
  by_cases hlt:k < l.length
  ·have b1:(k:Int) < (l.length:Int):=by omega
   rcases HV.o with⟨_,_,_,h0⟩ |⟨b,o,c1,hh,hb,hc,hcell⟩
   ·rw[h0]at hlt;cases hlt
   cases hh
   obtain⟨p,hp⟩:∃ p,l[k]?=some p:=⟨_,List.getElem?_eq_getElem hlt⟩
   obtain⟨q1,q2⟩:=hcell k p hp
   have q1:=jab q1 HE.o;have q2:=jab q2 HE.o;have hsp:=HS.o p (List.mem_of_getElem? hp);have hgd:l.getD k (⟨#[]⟩,⟨#[]⟩)=p:=by rw[List.getD_eq_getElem?_getD,hp];rfl
   obtain⟨x,y⟩:=p
   simp only at q1 q2 hsp;have HRK:=Hd (fun w1=>joo w1 x hsp.1);have HRV:=Hd (fun w1=>jlN w1 y hsp.2);have HBAD:=Hd (fun(h:badN l k=true)=>(show R=1 by
    rw[HR.o];unfold jaD;rw[if_pos (List.any_eq_true.2 ⟨k,List.mem_range.2 hlt,h⟩)]))
   have HNX:=Hd (fun(h:badN l k=false)=>(show (List.range (k+1)).any (badN l)=false by rw[List.range_succ,List.any_append,HALL.o];simp[h]));cases hk1:jbN x with
   | false =>
    rw[hk1]at HRK;have HB:=Hd (HBAD.o (by unfold badN;rw[hgd,hk1];rfl));clear hcell hp hb hc hk1 hgd hsp;go_wp2_with fail
    refine jad [0,1,2,3,4,5,6,7,8,9,10,11,12,13,14,15,16,17,18,19,20,21,22,23,24,25,26,27,28,29,30,31,32,33,34] Ext ExtR ExtT (by kernel_rfl) (by kernel_rfl) (by kernel_rfl) ?_;iterate 4 (refine jac _ rfl (by kernel_rfl) rfl rfl (fun K hK=>?_);go_big_quiet_op;refine hK _ ?_;clear hK K)
    refine jai ⟨b,o+k * 2,none⟩ _ rfl (by kernel_rfl) rfl rfl (fun w1 h1=>jaa Tryz.uStr rfl (jab q1 ((jaj _).trans h1))) ?_;simp only[Act.put,sA,sB,sC];refine jav _ 100 #[.string x] (.bool false) rfl (by kernel_rfl) rfl (fun w1=>jan Tryz.enterRkey (by kernel_rfl)) (fun w1 h1=>HRK.o w1) ?_;simp only[Act.put,sA,sB,sC];iterate 2 (refine jac _ rfl (by kernel_rfl) rfl rfl (fun K hK=>?_);go_big_quiet_op;refine hK _ ?_;clear hK K)
    iterate 7 (refine jaU _ rfl (by kernel_rfl) rfl ?_;simp only[Act.put,sA,sB,sC])
    iterate 2 (refine jac _ rfl (by kernel_rfl) rfl rfl (fun K hK=>?_);go_big_quiet_op;refine hK _ ?_;clear hK K)
    iterate 17 (refine jaU _ rfl (by kernel_rfl) rfl ?_;simp only[Act.put,sA,sB,sC])
    (refine jac _ rfl (by kernel_rfl) rfl rfl (fun K hK=>?_);go_big_quiet_op;refine hK _ ?_;clear hK K)
    refine jas (by kernel_rfl) (fun w3 he=>?_);have HE3:=Hd (HE.o.trans ((jaj _).trans he));clear he q1 q2;go_wp2_with fail
    go_ret
    exact⟨by rw[HB.o];rfl,HE3.o⟩
   | true =>
    rw[hk1]at HRK;cases hv1:jbs y with
    | false =>
     rw[hv1]at HRV;have HB:=Hd (HBAD.o (by unfold badN;rw[hgd,hk1,hv1];rfl));clear hcell hp hb hc hk1 hv1 hgd hsp;go_wp2_with fail
     refine jad [0,1,2,3,4,5,6,7,8,9,10,11,12,13,14,15,16,17,18,19,20,21,22,23,24,25,26,27,28,29,30,31,32,33,34] Ext ExtR ExtT (by kernel_rfl) (by kernel_rfl) (by kernel_rfl) ?_;iterate 4 (refine jac _ rfl (by kernel_rfl) rfl rfl (fun K hK=>?_);go_big_quiet_op;refine hK _ ?_;clear hK K)
     refine jai ⟨b,o+k * 2,none⟩ _ rfl (by kernel_rfl) rfl rfl (fun w1 h1=>jaa Tryz.uStr rfl (jab q1 ((jaj _).trans h1))) ?_;simp only[Act.put,sA,sB,sC];refine jav _ 100 #[.string x] (.bool true) rfl (by kernel_rfl) rfl (fun w1=>jan Tryz.enterRkey (by kernel_rfl)) (fun w1 h1=>HRK.o w1) ?_;simp only[Act.put,sA,sB,sC];iterate 6 (refine jac _ rfl (by kernel_rfl) rfl rfl (fun K hK=>?_);go_big_quiet_op;refine hK _ ?_;clear hK K)
     refine jai ⟨b,o+k * 2+1,none⟩ _ rfl (by kernel_rfl) rfl rfl (fun w1 h1=>jaa Tryz.uStr rfl (jab q2 ((jaj _).trans h1))) ?_;simp only[Act.put,sA,sB,sC];refine jav _ 101 #[.string y] (.bool false) rfl (by kernel_rfl) rfl (fun w1=>jan Tryz.enterRvalue (by kernel_rfl)) (fun w1 h1=>HRV.o w1) ?_;simp only[Act.put,sA,sB,sC];iterate 3 (refine jac _ rfl (by kernel_rfl) rfl rfl (fun K hK=>?_);go_big_quiet_op;refine hK _ ?_;clear hK K)
     iterate 17 (refine jaU _ rfl (by kernel_rfl) rfl ?_;simp only[Act.put,sA,sB,sC])
     (refine jac _ rfl (by kernel_rfl) rfl rfl (fun K hK=>?_);go_big_quiet_op;refine hK _ ?_;clear hK K)
     refine jas (by kernel_rfl) (fun w3 he=>?_);have HE3:=Hd (HE.o.trans ((jaj _).trans he));clear he q1 q2;go_wp2_with fail
     go_ret
     exact⟨by rw[HB.o];rfl,HE3.o⟩
    | true =>
     rw[hv1]at HRV
     by_cases hk0:k=0
     ·have d0:¬(0:Int) < (k:Int):=by omega
      have d1:decide ((0:Int) < (k:Int))=false:=decide_eq_false d0;have d2:¬ 0 < k:=by omega
      have d3:decide (0 < k)=false:=decide_eq_false d2;have HN2:=Hd (HNX.o (by unfold badN;rw[hgd,hk1,hv1,hk0];rfl));clear hcell hp hb hc hk1 hv1 hgd hsp hk0;go_wp2_with fail
      refine jad [0,1,2,3,4,5,6,7,8,9,10,11,12,13,14,15,16,17,18,19,20,21,22,23,24,25,26,27,28,29,30,31,32,33,34] Ext ExtR ExtT (by kernel_rfl) (by kernel_rfl) (by kernel_rfl) ?_;iterate 4 (refine jac _ rfl (by kernel_rfl) rfl rfl (fun K hK=>?_);go_big_quiet_op;refine hK _ ?_;clear hK K)
      refine jai ⟨b,o+k * 2,none⟩ _ rfl (by kernel_rfl) rfl rfl (fun w1 h1=>jaa Tryz.uStr rfl (jab q1 ((jaj _).trans h1))) ?_;simp only[Act.put,sA,sB,sC];refine jav _ 100 #[.string x] (.bool true) rfl (by kernel_rfl) rfl (fun w1=>jan Tryz.enterRkey (by kernel_rfl)) (fun w1 h1=>HRK.o w1) ?_;simp only[Act.put,sA,sB,sC];iterate 6 (refine jac _ rfl (by kernel_rfl) rfl rfl (fun K hK=>?_);go_big_quiet_op;refine hK _ ?_;clear hK K)
      refine jai ⟨b,o+k * 2+1,none⟩ _ rfl (by kernel_rfl) rfl rfl (fun w1 h1=>jaa Tryz.uStr rfl (jab q2 ((jaj _).trans h1))) ?_;simp only[Act.put,sA,sB,sC];refine jav _ 101 #[.string y] (.bool true) rfl (by kernel_rfl) rfl (fun w1=>jan Tryz.enterRvalue (by kernel_rfl)) (fun w1 h1=>HRV.o w1) ?_;simp only[Act.put,sA,sB,sC];iterate 6 (refine jac _ rfl (by kernel_rfl) rfl rfl (fun K hK=>?_);go_big_quiet_op;refine hK _ ?_;clear hK K)
      iterate 13 (refine jaU _ rfl (by kernel_rfl) rfl ?_;simp only[Act.put,sA,sB,sC])
      iterate 2 (refine jac _ rfl (by kernel_rfl) rfl rfl (fun K hK=>?_);go_big_quiet_op;refine hK _ ?_;clear hK K)
      refine jas (by kernel_rfl) (fun w3 he=>?_);have HE3:=Hd (HE.o.trans ((jaj _).trans he));clear he q1 q2;go_wp2_with fail
      go_roundw
      case rel=>exact⟨k+1,by omega,by go_num,HE3.o,HN2.o⟩
      case measure=>simp[intOf];omega
     ·obtain⟨pp,hpp⟩:∃ p,l[k - 1]?=some p:=⟨_,List.getElem?_eq_getElem (by omega)⟩
      have hsz:=(HS.o pp (List.mem_of_getElem? hpp)).1
      obtain⟨z,zy⟩:=pp
      have qp:=jab (hcell (k - 1) (z,zy) hpp).1 HE.o;have hgp:l.getD (k - 1) (⟨#[]⟩,⟨#[]⟩)=(z,zy):=by rw[List.getD_eq_getElem?_getD,hpp];rfl
      simp only at hsz qp;have c0:(0:Int) < (k:Int):=by omega
      have d0:0 < k:=by omega
      have c1:(0:Int)≤(k:Int) - 1:=by omega
      have c2:(k:Int) - 1 < (l.length:Int):=by omega
      have c3:((k:Int) - 1).toNat=k - 1:=by omega
      have HAH:=Hd (fun w1=>jml w1 z x hsz hsp.1);cases hls:jb4 z x with
      | false =>
       rw[hls]at HAH;have HB:=Hd (HBAD.o (by unfold badN;rw[hgd,hk1,hv1,hgp];simp only;rw[hls];simp;omega));clear hcell hp hb hc hk1 hv1 hgd hsp hpp hgp hls hk0 hsz;go_wp2_with fail
       refine jad [0,1,2,3,4,5,6,7,8,9,10,11,12,13,14,15,16,17,18,19,20,21,22,23,24,25,26,27,28,29,30,31,32,33,34] Ext ExtR ExtT (by kernel_rfl) (by kernel_rfl) (by kernel_rfl) ?_;iterate 4 (refine jac _ rfl (by kernel_rfl) rfl rfl (fun K hK=>?_);go_big_quiet_op;refine hK _ ?_;clear hK K)
       refine jai ⟨b,o+k * 2,none⟩ _ rfl (by kernel_rfl) rfl rfl (fun w1 h1=>jaa Tryz.uStr rfl (jab q1 ((jaj _).trans h1))) ?_;simp only[Act.put,sA,sB,sC];refine jav _ 100 #[.string x] (.bool true) rfl (by kernel_rfl) rfl (fun w1=>jan Tryz.enterRkey (by kernel_rfl)) (fun w1 h1=>HRK.o w1) ?_;simp only[Act.put,sA,sB,sC];iterate 6 (refine jac _ rfl (by kernel_rfl) rfl rfl (fun K hK=>?_);go_big_quiet_op;refine hK _ ?_;clear hK K)
       refine jai ⟨b,o+k * 2+1,none⟩ _ rfl (by kernel_rfl) rfl rfl (fun w1 h1=>jaa Tryz.uStr rfl (jab q2 ((jaj _).trans h1))) ?_;simp only[Act.put,sA,sB,sC];refine jav _ 101 #[.string y] (.bool true) rfl (by kernel_rfl) rfl (fun w1=>jan Tryz.enterRvalue (by kernel_rfl)) (fun w1 h1=>HRV.o w1) ?_;simp only[Act.put,sA,sB,sC];iterate 11 (refine jac _ rfl (by kernel_rfl) rfl rfl (fun K hK=>?_);go_big_quiet_op;refine hK _ ?_;clear hK K)
       refine jai ⟨b,o+(k - 1) * 2,none⟩ _ rfl (by kernel_rfl) rfl rfl (fun w1 h1=>jaa Tryz.uStr rfl (jab qp ((jaj _).trans h1))) ?_;simp only[Act.put,sA,sB,sC];iterate 4 (refine jac _ rfl (by kernel_rfl) rfl rfl (fun K hK=>?_);go_big_quiet_op;refine hK _ ?_;clear hK K)
       refine jai ⟨b,o+k * 2,none⟩ _ rfl (by kernel_rfl) rfl rfl (fun w1 h1=>jaa Tryz.uStr rfl (jab q1 ((jaj _).trans h1))) ?_;simp only[Act.put,sA,sB,sC];refine jav _ 102 #[.string z,.string x] (.bool false) rfl (by kernel_rfl) rfl (fun w1=>jan Tryz.enterAhead (by kernel_rfl)) (fun w1 h1=>HAH.o w1) ?_;simp only[Act.put,sA,sB,sC];iterate 3 (refine jac _ rfl (by kernel_rfl) rfl rfl (fun K hK=>?_);go_big_quiet_op;refine hK _ ?_;clear hK K)
       refine jas (by kernel_rfl) (fun w3 he=>?_);have HE3:=Hd (HE.o.trans ((jaj _).trans he));clear he q1 q2 qp;go_wp2_with fail
       go_ret
       exact⟨by rw[HB.o];rfl,HE3.o⟩
      | true =>
       rw[hls]at HAH;have HN2:=Hd (HNX.o (by unfold badN;rw[hgd,hk1,hv1,hgp];simp only;rw[hls];simp));clear hcell hp hb hc hk1 hv1 hgd hsp hpp hgp hls hk0 hsz;go_wp2_with fail
       refine jad [0,1,2,3,4,5,6,7,8,9,10,11,12,13,14,15,16,17,18,19,20,21,22,23,24,25,26,27,28,29,30,31,32,33,34] Ext ExtR ExtT (by kernel_rfl) (by kernel_rfl) (by kernel_rfl) ?_;iterate 4 (refine jac _ rfl (by kernel_rfl) rfl rfl (fun K hK=>?_);go_big_quiet_op;refine hK _ ?_;clear hK K)
       refine jai ⟨b,o+k * 2,none⟩ _ rfl (by kernel_rfl) rfl rfl (fun w1 h1=>jaa Tryz.uStr rfl (jab q1 ((jaj _).trans h1))) ?_;simp only[Act.put,sA,sB,sC];refine jav _ 100 #[.string x] (.bool true) rfl (by kernel_rfl) rfl (fun w1=>jan Tryz.enterRkey (by kernel_rfl)) (fun w1 h1=>HRK.o w1) ?_;simp only[Act.put,sA,sB,sC];iterate 6 (refine jac _ rfl (by kernel_rfl) rfl rfl (fun K hK=>?_);go_big_quiet_op;refine hK _ ?_;clear hK K)
       refine jai ⟨b,o+k * 2+1,none⟩ _ rfl (by kernel_rfl) rfl rfl (fun w1 h1=>jaa Tryz.uStr rfl (jab q2 ((jaj _).trans h1))) ?_;simp only[Act.put,sA,sB,sC];refine jav _ 101 #[.string y] (.bool true) rfl (by kernel_rfl) rfl (fun w1=>jan Tryz.enterRvalue (by kernel_rfl)) (fun w1 h1=>HRV.o w1) ?_;simp only[Act.put,sA,sB,sC];iterate 11 (refine jac _ rfl (by kernel_rfl) rfl rfl (fun K hK=>?_);go_big_quiet_op;refine hK _ ?_;clear hK K)
       refine jai ⟨b,o+(k - 1) * 2,none⟩ _ rfl (by kernel_rfl) rfl rfl (fun w1 h1=>jaa Tryz.uStr rfl (jab qp ((jaj _).trans h1))) ?_;simp only[Act.put,sA,sB,sC];iterate 4 (refine jac _ rfl (by kernel_rfl) rfl rfl (fun K hK=>?_);go_big_quiet_op;refine hK _ ?_;clear hK K)
       refine jai ⟨b,o+k * 2,none⟩ _ rfl (by kernel_rfl) rfl rfl (fun w1 h1=>jaa Tryz.uStr rfl (jab q1 ((jaj _).trans h1))) ?_;simp only[Act.put,sA,sB,sC];refine jav _ 102 #[.string z,.string x] (.bool true) rfl (by kernel_rfl) rfl (fun w1=>jan Tryz.enterAhead (by kernel_rfl)) (fun w1 h1=>HAH.o w1) ?_;simp only[Act.put,sA,sB,sC];iterate 3 (refine jac _ rfl (by kernel_rfl) rfl rfl (fun K hK=>?_);go_big_quiet_op;refine hK _ ?_;clear hK K)
       refine jas (by kernel_rfl) (fun w3 he=>?_);have HE3:=Hd (HE.o.trans ((jaj _).trans he));clear he q1 q2 qp;go_wp2_with fail
       go_roundw
       case rel=>exact⟨k+1,by omega,by go_num,HE3.o,HN2.o⟩
       case measure=>simp[intOf];omega
  ·have hkl:k=l.length:=by omega
   have HALL2:=Hd (show (List.range l.length).any (badN l)=false by have:=HALL.o;rwa [hkl]at this);have b1:¬(k:Int) < (l.length:Int):=by omega
   by_cases h40:40 < l.length
   ·have c4:(40:Int) < (l.length:Int):=by omega
    have HB:=Hd (show R=12 by rw[HR.o];unfold jaD;rw[if_neg (by rw[HALL2.o];simp),if_pos h40]);clear hkl h40;go_wp2_with fail
    go_ret
    exact⟨by rw[HB.o];rfl,HE.o⟩
   ·have c4:¬(40:Int) < (l.length:Int):=by omega
    have HB:=Hd (show R=0 by rw[HR.o];unfold jaD;rw[if_neg (by rw[HALL2.o];simp),if_neg h40]);clear hkl h40;go_wp2_with fail
    go_ret
    exact⟨by rw[HB.o];rfl,HE.o⟩
end
section
open Go Go.RowKit
attribute [local go_sem] Oper.semAt_some
def joM(w:World)(n:Nat)(iv:Value)(W:World)(l m:List ByteArray):Prop:=∃ i:Nat,i≤n∧iv=.int .i64 i∧l.take i=m.take i∧Ext w W
theorem jna(w:World)(v u:Value)(l m:List ByteArray)(hv:RdS w v l)(hu:RdS w u m)(hn:l.length≤1000000)(hn2:m.length≤1000000):Calls Tryz.prog 22 #[v,u] w fun e w'=>e=.returned (.bool (decide (l=m)))∧Ext w w':=by
 obtain⟨a,c,rfl,_⟩:=hv.slice
 obtain⟨a2,c2,rfl,_⟩:=hu.slice
 have HV:=Hd hv;have HU:=Hd hu;clear hv hu
 by_cases hl:l.length=m.length
 ·have hli:(l.length:Int)=(m.length:Int):=by omega
  obtain⟨n,hn0⟩:∃ n,n=l.length:=⟨_,rfl⟩
  have hml:m.length=n:=by omega
  have HML:=Hd hml;have HNL:=Hd hn0;rw[hml, ←hn0];rw[←hn0]at hn;clear hli hl hml hn0 hn2;go_enter Tryz.func22,Tryz.ntmps22;go_wp2_with fail
  go_loopw [5] (fun iv wr=>joM w n iv wr l m) (fun iv _=>n - (intOf iv).toNat)
  case atStart=>exact⟨0,Nat.zero_le _,rfl,rfl,ExtR w⟩
  case round =>
   obtain⟨i,hi,rfl,htk,hE⟩:=hrel
   have HE:=Hd hE;have HTK:=Hd htk;clear hE htk
   by_cases hlt:i < n
   ·have b1:(i:Int) < (n:Int):=by omega
    have hl1:i < l.length:=by have:=HNL.o;omega
    have hl2:i < m.length:=by have:=HML.o;omega
    obtain⟨x,hx⟩:∃ x,l[i]?=some x:=⟨_,List.getElem?_eq_getElem hl1⟩
    obtain⟨y,hy⟩:∃ y,m[i]?=some y:=⟨_,List.getElem?_eq_getElem hl2⟩
    have hVn:RdS w (.slice a n c) l:=by have:=HV.o;rwa [←HNL.o]at this
    have hUn:RdS w (.slice a2 n c2) m:=by have:=HU.o;rwa [HML.o]at this
    have hq1:∃ ba oa,a=some ⟨ba,oa,none⟩∧wr.cell? ⟨ba,oa+i,none⟩=some (.string x):=by
     rcases HV.o with⟨_,_,_,h0⟩ |⟨bq,oq,cq,hh,_,_,hcell⟩
     ·rw[h0]at hl1;cases hl1
     ·exact⟨bq,oq,(Value.slice.inj hh).1,jab (hcell i x hx) HE.o⟩
    have hq2:∃ ba oa,a2=some ⟨ba,oa,none⟩∧wr.cell? ⟨ba,oa+i,none⟩=some (.string y):=by
     rcases HU.o with⟨_,_,_,h0⟩ |⟨bq,oq,cq,hh,_,_,hcell⟩
     ·rw[h0]at hl2;cases hl2
     ·exact⟨bq,oq,(Value.slice.inj hh).1,jab (hcell i y hy) HE.o⟩
    obtain⟨ba,oa,rfl,hq1⟩:=hq1
    obtain⟨ba',oa',rfl,hq2⟩:=hq2
    have HX:=Hd hx;have HY:=Hd hy;have Q1:=Hd hq1;have Q2:=Hd hq2;clear hVn hUn hl1 hl2 hx hy hq1 hq2;go_wp2_with fail
    refine jad [0,1,2,3,4,5,6,7,8] Ext ExtR ExtT (by kernel_rfl) (by kernel_rfl) (by kernel_rfl) ?_;iterate 3 (refine jac _ rfl (by kernel_rfl) rfl rfl (fun K hK=>?_);go_big_quiet_op;refine hK _ ?_;clear hK K)
    refine jai ⟨ba,oa+i,none⟩ _ rfl (by kernel_rfl) rfl rfl (fun w1 h1=>jaa Tryz.underlying9 rfl (jab Q1.o ((jaj wr).trans h1))) ?_;simp only[Act.put,sA,sB,sC];iterate 3 (refine jac _ rfl (by kernel_rfl) rfl rfl (fun K hK=>?_);go_big_quiet_op;refine hK _ ?_;clear hK K)
    refine jai ⟨ba',oa'+i,none⟩ _ rfl (by kernel_rfl) rfl rfl (fun w1 h1=>jaa Tryz.underlying9 rfl (jab Q2.o ((jaj wr).trans h1))) ?_;simp only[Act.put,sA,sB,sC]
    (refine jac _ rfl (by kernel_rfl) rfl rfl (fun K hK=>?_);go_big_quiet_op;refine hK _ ?_;clear hK K)
    refine jas (by kernel_rfl) (fun w3 he=>?_);have HE3:=Hd (HE.o.trans ((jaj wr).trans he));clear he HE Q1 Q2
    by_cases hxy:x=y
    ·subst hxy
     have hne:(!x.toList == x.toList)=false:=by simp
     rw[hne];clear hne;have HT:=Hd (show l.take (i+1)=m.take (i+1) by rw[List.take_add_one,List.take_add_one,HX.o,HY.o,HTK.o]);go_wp2_with fail
     go_roundw
     case rel=>exact⟨i+1,by omega,by go_num,HT.o,HE3.o⟩
     case measure=>simp[intOf];omega
    ·have hne:(!x.toList == y.toList)=true:=by
      have:¬ x.toList=y.toList:=fun e=>hxy (jb7 e)
      simpa using this
     rw[hne];clear hne;have HN:=Hd (show decide (l=m)=false from decide_eq_false (fun e=>by
      have h1:=HX.o;rw[e,HY.o]at h1;exact hxy (Option.some.inj h1).symm))
     go_wp2_with fail
     go_ret
     exact⟨by rw[HN.o];rfl,HE3.o⟩
   ·have hie:i=n:=by omega
    have HD:=Hd (show decide (l=m)=true from decide_eq_true (by
     have h1:=HTK.o;rw[hie,List.take_of_length_le (by rw[←HNL.o];exact Nat.le_refl _),List.take_of_length_le (by rw[HML.o];exact Nat.le_refl _)]at h1;exact h1))
    go_wp2_with fail
    go_ret
    exact⟨by rw[HD.o];rfl,HE.o⟩
 ·have HL:=Hd (show decide (l=m)=false from decide_eq_false (fun e=>hl (by rw[e])))
  have hb:((l.length:Int) ==(m.length:Int))=false:=by simp;omega
  have hb2:¬(l.length:Int)=(m.length:Int):=by omega
  rw[HL.o];go_enter Tryz.func22,Tryz.ntmps22;go_wp2_with fail
  go_ret
  exact⟨rfl,ExtR w⟩
end
section
open Go Go.RowKit
def exL:List Pair:=[(⟨#[97]⟩,⟨#[120]⟩),(⟨#[98]⟩,⟨#[121]⟩)]
def exM:List Pair:=[(⟨#[98]⟩,⟨#[121]⟩)]
def exC:List Chg:=[⟨⟨#[97]⟩,⟨#[]⟩,true⟩]
theorem ex_l:jaD exL=0:=by decide +kernel
theorem ex_m:jaD exM=0:=by decide +kernel
theorem jnR:jaD []=0:=by decide +kernel
theorem jnP:jaD [(⟨#[]⟩,⟨#[]⟩)]=1:=by decide +kernel
theorem jmB:(jbr []).text=⟨#[128]⟩:=by decide +kernel
theorem jlh:ja7 (jba (jbr exL))=[(jbr exL).text]:=by decide +kernel
theorem jnQ:jcL exL exC=0:=by decide +kernel
theorem jnO:jgt exL exC=exM:=by decide +kernel
theorem jnT:shaB (jbr exL).text≠shaB (jbr exM).text:=by decide +kernel
theorem jmy:jjR exL ⟨#[98]⟩=some ⟨#[121]⟩:=by decide +kernel
theorem jmC:jcS exM=exM:=by
 unfold jcS exM;simp[jfm,valM,Pair.k]
theorem joS:jb4 ⟨#[97]⟩ ⟨#[98]⟩=true:=by decide +kernel
theorem jnS:jb4 ⟨#[98]⟩ ⟨#[98]⟩=false:=by decide +kernel
theorem joR:((⟨#[121]⟩:ByteArray).toList ==(⟨#[121]⟩:ByteArray).toList)=true:=by decide +kernel
theorem jmx:jfi exL exM=[⟨⟨#[97]⟩,⟨#[]⟩,true⟩]:=by
 unfold jfi;rw[if_pos ⟨ex_l,ex_m⟩];unfold exL exM;rw[jbc,if_pos joS,jbc,if_neg (by rw[jnS];simp),if_neg (by rw[jnS];simp),if_pos joR];simp[jbc]
theorem jlg:jcM exL exM=none:=by
 unfold jcM;rw[if_pos (.inr (.inr (.inr jnT)))]
def exN:jae:=ja1 (jaf 12) (jbb exL)
theorem jmA:exN.kind=2:=by decide +kernel
theorem jjN:(jbr exL).text=jaV exN:=(good 12 (jbb exL) (jdx (ja5 ex_l))).2.1 (by decide) |>.text
theorem jmz:jbM (InlD 12) exN:=(good 12 (jbb exL) (jdx (ja5 ex_l))).1
theorem jkl(w:World)(xs:List Pair)(T:TypeId):RdP (w.alloc (.cells (jcX xs).toArray T)) (.slice (some ⟨w.heap.size,0,none⟩) xs.length xs.length) xs:=
 .inr ⟨w.heap.size,0,xs.length,rfl,by simp,Nat.le_refl _,fun j x hx=>by
  obtain⟨e1,e2⟩:=jda xs j x hx
  exact⟨by rw[Nat.zero_add];exact (Blk.new w _).cellL e1,by rw[Nat.zero_add];exact (Blk.new w _).cellL e2⟩⟩
theorem jd3:∀ (xs:List Chg) (j:Nat) (p:Chg),xs[j]?=some p→(jdl xs)[j * 3]?=some (.string p.key)∧(jdl xs)[j * 3+1]?=some (.string p.value)∧(jdl xs)[j * 3+2]?=some (.bool p.gone)
 | [],j,p,h=>by simp at h
 | x :: r,0,p,h=>by simp at h;subst h;exact⟨rfl,rfl,rfl⟩
 | x :: r,j+1,p,h=>by
  obtain⟨h1,h2,h3⟩:=jd3 r j p (by simpa using h)
  rw[show (j+1) * 3=j * 3+3 by omega]
  exact⟨h1,h2,h3⟩
theorem jmV(w:World)(xs:List Chg)(T:TypeId):RdC (w.alloc (.cells (jdl xs).toArray T)) (.slice (some ⟨w.heap.size,0,none⟩) xs.length xs.length) xs:=
 .inr ⟨w.heap.size,0,xs.length,rfl,by simp,Nat.le_refl _,fun j x hx=>by
  obtain⟨e1,e2,e3⟩:=jd3 xs j x hx
  exact⟨by rw[Nat.zero_add];exact (Blk.new w _).cellL e1,by rw[Nat.zero_add];exact (Blk.new w _).cellL e2,by rw[Nat.zero_add];exact (Blk.new w _).cellL e3⟩⟩
theorem CRow.rd{w0 w:World}{v:Value}{n:Nat}{xs:List Chg}(h:CRow w0 w v n xs):RdC w v xs:=by
 have hl:xs.length=n:=by have:=h.len;rw[jfv]at this;omega
 obtain⟨_,⟨rfl,h2⟩ |⟨g,cap,cur,rfl,h3,h4,h5,h6,h7⟩⟩:=h.own
 ·exact .inl ⟨none,0,rfl,List.eq_nil_of_length_eq_zero (by omega)⟩
 ·subst hl
  refine .inr ⟨g,0,cap,rfl,(Array.getElem?_eq_some_iff.1 h4).1,h5,fun j x hx=>?_⟩;have hj:=(List.getElem?_eq_some_iff.1 hx).1
  obtain⟨e1,e2,e3⟩:=jd3 xs j x hx
  exact⟨by rw[Nat.zero_add,h.own.cellAt (j * 3) (by omega),e1],by rw[Nat.zero_add,h.own.cellAt (j * 3+1) (by omega),e2],by rw[Nat.zero_add,h.own.cellAt (j * 3+2) (by omega),e3]⟩
theorem jdN:∀ p∈exL,p.1.size≤9223372036854775807∧p.2.size≤9223372036854775807:=by unfold exL;simp;decide
theorem jgF:∀ p∈exM,p.1.size≤9223372036854775807∧p.2.size≤9223372036854775807:=by unfold exM;simp;decide
theorem jjM:∀ c∈exC,c.key.size≤9223372036854775807∧c.value.size≤9223372036854775807:=by unfold exC;simp;decide
theorem jlV(w:World)(hc:jbU w):Calls Tryz.prog 43 #[] w fun e w'=>e=.returned (.bool true)∧Ext w w':=by
 have HC:=Hd hc;clear hc
 obtain⟨tp,htp⟩:∃ tp,tp=(jbr exL).text:=⟨_,rfl⟩
 have HTP:=Hd htp;clear htp;go_enter Tryz.func43,Tryz.ntmps43;go_wp2_with fail
 obtain⟨w1,hw1⟩:∃ w1,w1=w.alloc (.cells #[.string ⟨#[97]⟩,.string ⟨#[120]⟩,.string ⟨#[98]⟩,.string ⟨#[121]⟩] 95):=⟨_,rfl⟩
 rw[←hw1]
 obtain⟨g,hg⟩:∃ g,g=w.heap.size:=⟨_,rfl⟩
 have HL:=Hd (show RdP w1 (.slice (some ⟨g,0,none⟩) 2 2) exL by rw[hw1,hg];exact jkl w exL _);have HE1:=Hd (show Ext w w1 by rw[hw1];exact (ExtR w).alloc _);rw[←hg];clear hg hw1;refine (jhG w1 (.slice none 0 0) [] (HC.o.ext HE1.o) (.inl ⟨none,0,rfl,rfl⟩) jnR).mono ?_;rintro e w2 ⟨rfl,hE⟩;rw[jmB];have HE2:=Hd (HE1.o.trans hE);have HL2:=Hd (HL.o.ext hE);clear hE HL HE1;go_wp2_with fail
 refine (jkJ w2 _ exL (HC.o.ext HE2.o) HL2.o ex_l).mono ?_;rintro e w3 ⟨rfl,hE⟩;rw[←HTP.o];have HE3:=Hd (HE2.o.trans hE);have HL3:=Hd (HL2.o.ext hE);clear hE HL2 HE2;go_wp2_with fail
 refine (jhG w3 _ exL (HC.o.ext HE3.o) HL3.o ex_l).mono ?_;rintro e w4 ⟨rfl,hE⟩;rw[←HTP.o];have HE4:=Hd (HE3.o.trans hE);have HL4:=Hd (HL3.o.ext hE);clear hE HL3 HE3;go_wp2_with fail
 refine (jcG w4 _ exL (HC.o.ext HE4.o) HL4.o ex_l).mono ?_;rintro e w5 ⟨u5,n5,rfl,hR⟩;rw[jlh, ←HTP.o]at hR;have hl5:n5=1:=by have:=hR.len;simp at this;omega
 subst hl5
 obtain⟨a5,c5,rfl⟩:=hR.sl
 have HN5:=Hd hR.rd;have HE5:=Hd (HE4.o.trans hR.ext);have HL5:=Hd (HL4.o.ext hR.ext);clear hR HL4 HE4;go_wp2_with fail
 refine (jmm _ _ _ exL exC (HL5.o.ext ((ExtR w5).alloc _)) (jmV w5 exC 86) (by decide) (by decide) jdN jjM).mono ?_;rintro e w6 h6;unfold jcT at h6;rw[if_pos jnQ,jnO,jmC]at h6
 obtain⟨r6,rfl,hR⟩:=h6
 obtain⟨a6,c6,rfl⟩:=hR.sl
 have HM6:=Hd (ERow.rd hR);have hx6:=((ExtR w5).alloc (.cells #[.string ⟨#[97]⟩,.string ⟨#[]⟩,.bool true] 86)).trans hR.ext;have HE6:=Hd (HE5.o.trans hx6);have HL6:=Hd (HL5.o.ext hx6);have HN6:=Hd (HN5.o.ext hx6);rw[show exM.length=1 from rfl]at HM6 ⊢;clear hR hx6 HL5 HE5 HN5;go_wp2_with fail
 refine (jnV w6 _ exL ⟨#[98]⟩ HL6.o (by decide)).mono ?_;rintro e w7 ⟨rfl,hE⟩;rw[jmy];have HE7:=Hd (HE6.o.trans hE);have HL7:=Hd (HL6.o.ext hE);have HN7:=Hd (HN6.o.ext hE);have HM7:=Hd (HM6.o.ext hE);clear hE HL6 HE6 HN6 HM6;unfold optV;go_wp2_with fail
 refine (jnL w7 _ _ exL exM HL7.o HM7.o (by decide) (by decide) jdN jgF).mono ?_;rintro e w8 ⟨r8,rfl,hR⟩;rw[jmx]at hR
 obtain⟨a8,c8,rfl⟩:=hR.sl
 have HD8:=Hd (CRow.rd hR);have HE8:=Hd (HE7.o.trans hR.ext);have HL8:=Hd (HL7.o.ext hR.ext);have HN8:=Hd (HN7.o.ext hR.ext);have HM8:=Hd (HM7.o.ext hR.ext);clear hR HL7 HE7 HN7 HM7;rw[show ([⟨⟨#[97]⟩,⟨#[]⟩,true⟩]:List Chg).length=1 from rfl]at HD8 ⊢;go_wp2_with fail
 refine (jmp w8 _ _ exL exM (HC.o.ext HE8.o) HL8.o HM8.o (by decide) (by decide) jdN jgF).mono ?_;rintro e w9 ⟨rfl,hE⟩;rw[jlg];have HE9:=Hd (HE8.o.trans hE);have HL9:=Hd (HL8.o.ext hE);have HN9:=Hd (HN8.o.ext hE);have HD9:=Hd (HD8.o.ext hE);clear hE HL8 HE8 HN8 HD8 HM8;unfold jdK;go_wp2_with fail
 rw[HTP.o,jjN];refine (jl1 (inlP 12) w9 exN jmz).mono ?_;rintro e w10 ⟨rfl,hE⟩;rw[←jjN, ←HTP.o];have HE10:=Hd (HE9.o.trans hE);have HL10:=Hd (HL9.o.ext hE);have HN10:=Hd (HN9.o.ext hE);have HD10:=Hd (HD9.o.ext hE);clear hE HL9 HE9 HN9 HD9;have hcv:∀ W:World,(convert 92 9 (.slice (some ⟨W.heap.size,0,none⟩) 1 1)).run Tryz.prog (W.alloc (.cells #[.int .u8 128] 5))=.ok (.string ⟨#[128]⟩) (W.alloc (.cells #[.int .u8 128] 5)):=fun W =>
  ja9 (l:=[128]) _ Tryz.uBytes Tryz.uU8 Tryz.uStr (World.ownsRow_lit W #[.int .u8 128] 1 (Nat.zero_le _) (by unfold maxLen;omega) rfl)
 go_wp2_with (refine jap Tryz.allocNode rfl rfl ?_;intro W3 hB3 hE3;refine jal (vs:=exN.cells) rfl rfl rfl rfl hB3 (by rw[exN.cells_len (by decide +kernel)];rfl) (by rw[exN.cells_len (by decide +kernel)];rfl) (jae.one _) ?_;intro W4 hB4 hE4)
 have hE34:Ext w10 W4:=hE3.trans' hE4 (fun x hx e=>by have e:x=w10.heap.size:=e;omega);have HB4:=Hd hB4;have hx4:=(hE34.alloc (.cells #[.int .u8 128] 5)).alloc (.cells #[.string ⟨#[128]⟩] 9);have HRS:=Hd (show RdS ((W4.alloc (.cells #[.int .u8 128] 5)).alloc (.cells #[.string ⟨#[128]⟩] 9)) (.slice (some ⟨W4.heap.size+1,0,none⟩) 1 1) [⟨#[128]⟩] by
  have:=jbZ (W4.alloc (.cells #[.int .u8 128] 5)) [⟨#[128]⟩] 9
  rwa [World.size_alloc]at this)
 have HX4:=Hd hx4;clear hB3 hE3 hB4 hE4 hE34 hcv hx4;refine (of_t _ _ [⟨#[128]⟩] (by simp) HRS.o (HC.o.ext (HE10.o.trans HX4.o))).mono ?_;rintro e w11 ⟨rfl,hE⟩;rw[jb1];have HE11:=Hd (HE10.o.trans (HX4.o.trans hE));have HL11:=Hd (HL10.o.ext (HX4.o.trans hE));have HN11:=Hd (HN10.o.ext (HX4.o.trans hE));have HD11:=Hd (HD10.o.ext (HX4.o.trans hE));have HB11:=Hd ((((HB4.o.alloc (.cells #[.int .u8 128] 5)).alloc (.cells #[.string ⟨#[128]⟩] 9))).keeps hE (fun h=>h));clear hE HE10 HL10 HN10 HD10 HX4 HRS HB4;go_wp2_with fail
 refine (of_t _ _ [tp] (by simp) (jbZ w11 [tp] 9) (HC.o.ext (HE11.o.alloc _))).mono ?_;rintro e w12 ⟨rfl,hE⟩;rw[jb1];have hx12:=((ExtR w11).alloc (.cells #[.string tp] 9)).trans hE;have HE12:=Hd (HE11.o.trans hx12);have HL12:=Hd (HL11.o.ext hx12);have hN:=HN11.o.ext hx12;have hD:=HD11.o.ext hx12;have hB:=HB11.o.keeps hx12 (fun h=>h);have qk:w12.cell? ⟨w10.heap.size,0,none⟩=some (.int .i64 2):=by
  have:=hB.cell (i:=0) (v:=.int .i64 (exN.kind:Int)) (by rfl)
  rw[jmA]at this;exact this
 obtain⟨_,_,hh,hcell⟩:=hN.slice
 obtain⟨b5,o5,hao,qn⟩:=hcell 0 tp rfl
 obtain⟨e1,e2,e3⟩:=Value.slice.inj hh
 rw[hao]at e1;subst e1;clear e2 e3;rcases hD with⟨_,_,_,h0⟩ |⟨b8,o8,c9,hh8,hb8,hc8,hcell8⟩
 ·cases h0
 obtain⟨_,_,qd⟩:=hcell8 0 _ rfl
 obtain⟨e8,e9,e10⟩:=Value.slice.inj hh8
 subst e8;clear e9 e10;simp only at qd;rw[Nat.add_zero]at qn;rw[Nat.zero_mul,Nat.add_zero]at qd;clear hh hcell hao hh8 hb8 hc8 hcell8 hN hB hE hx12 HE11 HL11 HN11 HD11 HB11;go_wp2_with fail
 refine (jcc w12 _ exL HL12.o (by decide) jdN).mono ?_;rintro e w13 ⟨rfl,hE⟩;rw[ex_l];have HE13:=Hd (HE12.o.trans hE);clear hE HE12 HL12 qn qd qk;go_wp2_with fail
 refine (jcc _ _ [(⟨#[]⟩,⟨#[]⟩)] (jkl w13 [(⟨#[]⟩,⟨#[]⟩)] 95) (by decide) (by simp;decide)).mono ?_;rintro e w14 ⟨rfl,hE⟩;rw[jnP];have HE14:=Hd ((HE13.o.alloc _).trans hE);clear hE HE13;go_wp2_with fail
 go_ret
 exact⟨rfl,HE14.o⟩
end
section
open Go Go.RowKit
attribute [local go_sem] Oper.semAt_some
theorem jk3(w:World)(hc:jbU w)(v:Value)(l:List Pair)(hv:RdP w v l)(hn:l.length≤9223372036854775807)(hs:jlX l) :
  Calls Tryz.prog 7 #[v] w fun e w'=>e=.returned (.bool true)∧Ext w w':=by
 have HC:=Hd hc;have HV:=Hd hv;have HS:=Hd hs;have HN:=Hd hn
 obtain⟨a,c,hsl⟩:=hv.sl
 subst hsl;clear hc hv hs hn;go_enter Tryz.func7,Tryz.ntmps7;go_wp2_with fail
 refine (jlV w HC.o).mono ?_;rintro e w1 ⟨rfl,hE⟩;have HE1:=Hd hE;clear hE;go_wp2_with fail
 refine (jnU w1 _ l (HV.o.ext HE1.o) HN.o HS.o).mono ?_;rintro e w2 ⟨rfl,hE⟩;have HE2:=Hd (HE1.o.trans hE);clear hE HE1;cases fewB l with
 | false =>
  go_wp2_with fail
  go_ret
  exact⟨rfl,HE2.o⟩
 | true =>
 go_wp2_with fail
 refine (jlF w2 _ l (HV.o.ext HE2.o) HN.o HS.o).mono ?_;rintro e w3 ⟨rfl,hE⟩;have HE3:=Hd (HE2.o.trans hE);clear hE HE2
 by_cases hcl:jaD l=0
 case neg =>
  have HCL:=Hd hcl
  obtain⟨x,hx⟩:∃ x,x=jaD l:=⟨_,rfl⟩
  have HX:=Hd hx;rw[←hx]at hcl ⊢;have hne:(x == 0)=false:=by simpa using hcl
  have hne2:(x != 0)=true:=by simpa using hcl
  clear hcl hx;go_wp2_with fail
  refine (jkI w3 _ l (HV.o.ext HE3.o) HN.o HS.o HCL.o).mono ?_;rintro e w4 ⟨rfl,hE⟩;rw[←HX.o];have HE4:=Hd (HE3.o.trans hE);clear hE HE3;go_wp2_with fail
  refine (jlJ w4 _ l (HV.o.ext HE4.o) HN.o HS.o HCL.o).mono ?_;rintro e w5 ⟨rfl,hE⟩;rw[←HX.o];have HE5:=Hd (HE4.o.trans hE);clear hE HE4;go_wp2_with fail
  refine (jeY w5 _ l (HV.o.ext HE5.o) HN.o HS.o HCL.o).mono ?_;rintro e w6 ⟨rfl,hE⟩;rw[←HX.o];have HE6:=Hd (HE5.o.trans hE);clear hE HE5;go_wp2_with fail
  refine (jcc w6 _ l (HV.o.ext HE6.o) HN.o HS.o).mono ?_;rintro e w7 ⟨rfl,hE⟩;rw[←HX.o];have HE7:=Hd (HE6.o.trans hE);clear hE HE6;go_wp2_with fail
  go_ret
  exact⟨rfl,HE7.o⟩
 have HCL:=Hd hcl;have HC3:=Hd (HC.o.ext HE3.o);rw[hcl];clear hcl;go_wp2_with fail
 refine (jkJ w3 _ l HC3.o (HV.o.ext HE3.o) HCL.o).mono ?_;rintro e w4 ⟨rfl,hE⟩;have HE4:=Hd (HE3.o.trans hE);have HC4:=Hd (HC3.o.ext hE)
 obtain⟨t,ht⟩:∃ t,t=(jbr l).text:=⟨_,rfl⟩
 have HT:=Hd ht;rw[←ht];clear hE HE3 ht;go_wp2_with fail
 refine (jhG w4 _ l HC4.o (HV.o.ext HE4.o) HCL.o).mono ?_;rintro e w5 ⟨rfl,hE⟩;have HE5:=Hd (HE4.o.trans hE);have HC5:=Hd (HC4.o.ext hE);rw[←HT.o]
 obtain⟨r,hr⟩:∃ r,r=shaB t:=⟨_,rfl⟩
 have HR:=Hd hr;rw[←hr];clear hE HE4 hr;go_wp2_with fail
 refine (jcG w5 _ l HC5.o (HV.o.ext HE5.o) HCL.o).mono ?_;rintro e w6 ⟨u6,n6,rfl,hU⟩;have HE6:=Hd (HE5.o.trans hU.ext);have hll:(ja7 (jba (jbr l))).length≤1000000:=by
  have h1:=jdT (ja5 HCL.o);have h2:=(ja5 HCL.o).len;have h3:=jfT (jba (jbr l)) [];rw[List.length_nil]at h3;unfold ja7;omega
 obtain⟨L,hL⟩:∃ L,L=ja7 (jba (jbr l)):=⟨_,rfl⟩
 have HL:=Hd hL;have HLL:=Hd hll;rw[←hL]at hU HLL
 obtain⟨a6,c6,hsl⟩:=hU.sl
 subst hsl;have HU:=Hd hU;clear HE5 hU hL hll;go_wp2_with fail
 refine (jcc w6 _ l (HV.o.ext HE6.o) HN.o HS.o).mono ?_;rintro e w7 ⟨rfl,hE⟩;rw[HCL.o];have HE7:=Hd (HE6.o.trans hE);have HU7:=Hd (HU.o.mono hE);clear hE HE6 HU;go_wp2_with fail
 refine (jkw w7 _ l (HV.o.ext HE7.o) HCL.o).mono ?_;rintro e w8 ⟨rfl,hE⟩;rw[←HT.o];have HE8:=Hd (HE7.o.trans hE);have HU8:=Hd (HU7.o.mono hE);have hts:(t.toList == t.toList)=true:=by simp
 have hrs:(r.toList == r.toList)=true:=by simp
 clear hE HE7 HU7;go_wp2_with fail
 refine (jlL w8 _ l (HV.o.ext HE8.o) HCL.o).mono ?_;rintro e w9 ⟨rfl,hE⟩;rw[←HT.o, ←HR.o];have HE9:=Hd (HE8.o.trans hE);have HU9:=Hd (HU8.o.mono hE);clear hE HE8 HU8;go_wp2_with fail
 refine (jku w9 _ l (HV.o.ext HE9.o) HCL.o).mono ?_;rintro e w10 ⟨u10,n10,rfl,hU⟩;rw[←HL.o]at hU
 obtain⟨a10,c10,hsl⟩:=hU.sl
 subst hsl;have HU10:=Hd hU;have HE10:=Hd (HE9.o.trans hU.ext);clear hU;go_wp2_with fail
 refine (jna w10 _ _ L L (SRow.rd (HU9.o.mono HU10.o.ext)) (SRow.rd HU10.o) HLL.o HLL.o).mono ?_;rintro e w11 ⟨rfl,hE⟩;rw[show decide (L=L)=true from decide_eq_true rfl];have HE11:=Hd (HE10.o.trans hE);clear hE;go_wp2_with fail
 go_ret
 exact⟨rfl,HE11.o⟩
end
end Go.Proofs.YtcpnjmcipainpaaGreatDoor
