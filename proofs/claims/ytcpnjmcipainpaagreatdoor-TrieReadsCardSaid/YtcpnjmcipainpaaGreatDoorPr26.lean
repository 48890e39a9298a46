/- Lemmas; each is under no condition but those that it states. -/
import Derived.Test.YtcpnjmcipainpaaGreatDoorPr25
namespace Go.Proofs.YtcpnjmcipainpaaGreatDoor
set_option linter.unusedSimpArgs false
set_option linter.unusedVariables false
set_option maxRecDepth 100000
set_option maxHeartbeats 16000000
open Go Go.RowKit
def RdC(w:World)(v:Value)(xs:List Chg):Prop:=
 (∃ a c,v=.slice a 0 c/\xs=[])\/∃ b o c,v=.slice (some ⟨b,o,none⟩) xs.length c/\b < w.heap.size/\xs.length<=c/\∀ (j:Nat) x,xs[j]?=some x->w.cell? ⟨b,o+j * 3,none⟩=some (.string x.key)/\w.cell? ⟨b,o+j * 3+1,none⟩=some (.string x.value)/\w.cell? ⟨b,o+j * 3+2,none⟩=some (.bool x.gone)
theorem RdC.ext{w w':World}{v:Value}{xs:List Chg}(h:RdC w v xs)(k:Ext w w'):RdC w' v xs:=by
 rcases h with h |⟨b,o,c,h1,h2,h3,h4⟩
 ·exact .inl h
 ·exact .inr ⟨b,o,c,h1,Nat.lt_of_lt_of_le h2 k.size,h3,fun j x hx=>⟨jaa (h4 j x hx).1 k,jaa (h4 j x hx).2.1 k,jaa (h4 j x hx).2.2 k⟩⟩
theorem RdC.sl{w:World}{v:Value}{xs:List Chg}(h:RdC w v xs):∃ a c,v=.slice a xs.length c:=by
 rcases h with⟨a,c,h1,h2⟩ |⟨b,o,c,h1,_⟩
 ·exact⟨a,c,by rw[h1,h2];rfl⟩
 ·exact⟨_,c,h1⟩
theorem Tryz.makeMapSE(W:World):(Instr.makeMap 171 none).run Tryz.prog W=.ok (.map (some W.heap.size)) (W.alloc (.map #[] 0)):=by kernel_rfl
theorem Tryz.zeroE(w:World):(zeroValue 95).run Tryz.prog w=.ok (.agg #[.string ⟨#[]⟩,.string ⟨#[]⟩]) w:=by kernel_rfl
def jeI(w:World)(l:List Pair)(cs:List Chg)(e:Ending)(w':World):Prop:=
 if jbs l cs=0 then ∃ r,e=.returned (.tuple #[r,.int .i64 0])/\ERow w w' r (jcO (jdW l cs)).length (jcO (jdW l cs))else e=.returned (.tuple #[.slice none 0 0,.int .i64 (jbs l cs)])/\Ext w w'
theorem jeI.bad{w w':World}{l:List Pair}{cs:List Chg}{x:Int}(h:jbs l cs=x)(h0:x≠0)(he:Ext w w'):jeI w l cs (.returned (.tuple #[.slice none 0 0,.int .i64 x])) w':=by
 unfold jeI;rw[h,if_neg h0];exact⟨rfl,he⟩
def jwj(w:World)(cs:List Chg)(i:Value)(wr:World):Prop:=∃ k:Nat,k<=cs.length/\i=.int .i64 k/\Ext w wr/\(cs.take k).any Chg.bad=false
def jwk(w:World)(bm:Nat)(l:List Pair)(i:Value)(wr:World):Prop:=∃ k:Nat,k<=l.length/\i=.int .i64 k/\Ext w wr/\∃ es ck,Blk wr bm (.map (Tryz.ES.arr es) ck)/\MapR es ck ((l.take k).foldl putM [])
def jwl(w:World)(bm:Nat)(l:List Pair)(cs:List Chg)(i:Value)(wr:World):Prop:=∃ k:Nat,k<=cs.length/\i=.int .i64 k/\Ext w wr/\∃ es ck,Blk wr bm (.map (Tryz.ES.arr es) ck)/\MapR es ck ((cs.take k).foldl doM (l.foldl putM []))
def jwm(w5:World)(M:List Pair)(v i:Value)(wr:World):Prop:=∃ k:Nat,k<=M.length/\i=.int .i64 k/\ERow w5 wr v k ((jcO M).take k)
theorem jsi{cs:List Chg}{k:Nat}{c:Chg}(h:cs[k]?=some c):(cs.take (k+1)).any Chg.bad=((cs.take k).any Chg.bad || c.bad):=by
 rw[List.take_add_one,h,List.any_append];simp
theorem jug{cs:List Chg}{k:Nat}{c:Chg}(h:cs[k]?=some c)(hb:c.bad=true):cs.any Chg.bad=true:=List.any_eq_true.2 ⟨c,List.mem_of_getElem? h,hb⟩
theorem juU(w:World)(v u:Value)(l:List Pair)(cs:List Chg)(hv:RdP w v l)(hu:RdC w u cs)(hn:l.length<=9223372036854775807)(hnc:cs.length<=9223372036854775807)(hs:∀ p∈l,p.1.size<=9223372036854775807/\p.2.size<=9223372036854775807)(hsc:∀ c∈cs,c.key.size<=9223372036854775807/\c.value.size<=9223372036854775807) :
  vQ 60 #[v,u] w (jeI w l cs):=by
 have HCK:=Hd (jgs w v l hv hn hs);have HV:=Hd hv;have HU:=Hd hu;have HSC:=Hd hsc
 obtain⟨a,c,rfl⟩:=hv.sl
 obtain⟨a',c',hsl'⟩:=hu.sl
 subst hsl';clear hv hu hs hsc
 by_cases hck:jaG l=0
 case neg =>
  obtain⟨x,hx⟩:=vE (jaG l)
  have HB:=Hd (show jbs l cs=x by unfold jbs;rw[if_pos hck,hx]);rw[<-hx]at hck HCK;have hne:(x == 0)=false:=by simpa using hck
  have HX:=Hd hck;clear hck hx HV HU HSC;go_enter Tryz.func60,Tryz.ntmps60;go_wp2_with fail
  refine HCK.o.mono ?_;rintro e w1 ⟨rfl,hE⟩;have HE:=Hd hE;clear hE HCK;go_wp2_with fail
  go_ret2;exact jeI.bad HB.o HX.o HE.o
 rw[hck]at HCK;have HL40:=Hd (jaP hck).len;have HCK0:=Hd hck;clear hck;go_enter Tryz.func60,Tryz.ntmps60;go_wp2_with fail
 refine HCK.o.mono ?_;rintro e w1 ⟨rfl,hE⟩;have HE1:=Hd hE;clear hE HCK;go_wp2_with fail
 go_loopw [24] (fun i wr=>jwj w cs i wr) (fun i _=>cs.length - (intOf i).toNat)
 case atStart=>exact⟨0,by omega,rfl,HE1.o,rfl⟩
 case round =>
  obtain⟨k,hk,rfl,hE,hall⟩:=hrel
  have HE:=Hd hE;have HALL:=Hd hall;clear hE hall
  by_cases hlt:k < cs.length
  ·rcases HU.o with⟨_,_,_,h0⟩ |⟨b,o,c1,hh,hb,hc,hcell⟩
   ·rw[h0]at hlt;cases hlt
   cases hh
   obtain⟨p,hp⟩:∃ p,cs[k]?=some p:=⟨_,List.getElem?_eq_getElem hlt⟩
   obtain⟨q1,q2,q3⟩:=hcell k p hp
   have q1:=jaa q1 HE.o;have q2:=jaa q2 HE.o;have q3:=jaa q3 HE.o;have hsp:=HSC.o p (List.mem_of_getElem? hp);have b1:(k:Int) < (cs.length:Int):=by omega
   have HP:=Hd hp
   obtain⟨ky,vl,gn⟩:=p
   simp only at q1 q2 q3 hsp;clear hcell hp hb hc;have HBAD:=Hd (fun(h:Chg.bad ⟨ky,vl,gn⟩=true)=>(show jbs l cs=1 by
    unfold jbs;rw[if_neg (by rw[HCK0.o];simp),if_pos (jug HP.o h)]))
   have HGO:=Hd (fun(h:Chg.bad ⟨ky,vl,gn⟩=false)=>(show (cs.take (k+1)).any Chg.bad=false by rw[jsi HP.o,HALL.o,h];rfl));have HEA:=Hd (HE.o.alloc (.cells #[.string ky,.string vl,.bool gn] 86));clear HP HALL;go_wp2_with fail
   refine (jgF _ ky hsp.1).mono ?_;rintro e w3 ⟨rfl,rfl⟩;clear q1 q2 q3;cases hky:jdI ky with
   | false =>
    have HB:=Hd (HBAD.o (by unfold Chg.bad;simp[hky]));clear hky;go_wp2_with fail
    go_ret2;exact jeI.bad HB.o vI HEA.o
   | true =>
    cases gn with
    | true =>
     by_cases hz:vl.size=0
     ·have:=jbh hz
      subst this;have HG:=Hd (HGO.o (by unfold Chg.bad;simp[hky];rfl));clear hky hz;go_wp2_with fail
      go_roundw
      case rel=>exact⟨k+1,by omega,by go_num,HEA.o,HG.o⟩
      case measure=>simp[intOf];omega
     ·have hne:=ja8 (s:=vl) vO
      have HB:=Hd (HBAD.o (by unfold Chg.bad;simp[hky,hz]));clear hky hz;go_wp2_with fail
      go_ret2;exact jeI.bad HB.o vI HEA.o
    | false =>
     go_wp2_with fail
     refine (jgg _ vl hsp.2).mono ?_;rintro e w3 ⟨rfl,rfl⟩;cases hvl:jdc vl with
     | true =>
      have HG:=Hd (HGO.o (by unfold Chg.bad;simp[hky,hvl]));clear hky hvl;go_wp2_with fail
      go_roundw
      case rel=>exact⟨k+1,by omega,by go_num,HEA.o,HG.o⟩
      case measure=>simp[intOf];omega
     | false =>
      have HB:=Hd (HBAD.o (by unfold Chg.bad;simp[hky,hvl]));clear hky hvl;go_wp2_with fail
      go_ret2;exact jeI.bad HB.o vI HEA.o
  ·have hkn:k=cs.length:=by omega
   have HB:=Hd (show cs.any Chg.bad=false by have h:=HALL.o;rwa [hkn,List.take_length]at h);clear hkn HALL;have hmm:=Tryz.makeMapSE wr;go_wp2_with fail
   obtain⟨bm,hbm⟩:=vE wr.heap.size
   have HBM:=Hd (show Blk (wr.alloc (.map #[] 0)) bm (.map #[] 0) by rw[hbm];exact Blk.new wr _);have hbl:w.heap.size<=bm:=by rw[hbm];exact HE.o.size
   have HE2:=Hd (HE.o.alloc (.map #[] 0));rw[<-hbm];clear hmm hbm;go_loopw [56] (fun i w2=>jwk w bm l i w2) (fun i _=>l.length - (intOf i).toNat)
   case atStart=>exact⟨0,by omega,rfl,HE2.o,[],0,HBM.o,MapR.nil 0⟩
   case round =>
    clear HE HE2 HBM HE1
    obtain⟨j,hj,rfl,hE,es,ck,hM,hR⟩:=hrel
    have HE:=Hd hE;have HR:=Hd hR
    by_cases hlt2:j < l.length
    ·rcases HV.o with⟨_,_,_,h0⟩ |⟨b,o,c1,hh,hb,hc,hcell⟩
     ·rw[h0]at hlt2;cases hlt2
     cases hh
     obtain⟨p,hp⟩:∃ p,l[j]?=some p:=⟨_,List.getElem?_eq_getElem hlt2⟩
     obtain⟨q1,q2⟩:=hcell j p hp
     have q1:=jaa q1 HE.o;have q2:=jaa q2 HE.o;have b1:(j:Int) < (l.length:Int):=by omega
     have HP:=Hd hp
     obtain⟨x,y⟩:=p
     simp only at q1 q2;have hM2:=hM.alloc (.cells #[.string x,.string y] 95)
     obtain⟨es2,hes2⟩:=vE (jbn es x.data.toList (Pair.V (x,y)) ck)
     obtain⟨ck2,hck2⟩:=vE (if (jaX es x.data.toList).isSome then ck else ck+1)
     have hmu:(Instr.mapUpdate 171 (.map (some bm)) (.string x) (.agg #[.string x,.string y])).run Tryz.prog (wr.alloc (.cells #[.string x,.string y] 95))=.ok () ((wr.alloc (.cells #[.string x,.string y] 95)).putObj bm (.map (Tryz.ES.arr es2) ck2)):=by
      have:=jci Tryz.ES Tryz.uMapSE hM2 x.data.toList (Pair.V (x,y))
      rw[<-hes2, <-hck2]at this;exact this
     have HR2:=Hd (show MapR es2 ck2 ((l.take (j+1)).foldl putM []) by
      rw[List.take_add_one,HP.o,List.foldl_append,hes2,hck2];exact HR.o.put (x,y))
     have HB2:=Hd (hM2.put_same (.map (Tryz.ES.arr es2) ck2));have HE3:=Hd ((HE.o.alloc (.cells #[.string x,.string y] 95)).putObj (.inr hbl) (.map (Tryz.ES.arr es2) ck2));clear hcell hp hb hc hM hR hM2 hes2 hck2 hE HR HE;go_wp2_with fail
     go_roundw
     case rel=>exact⟨j+1,by omega,by go_num,HE3.o,es2,ck2,HB2.o,HR2.o⟩
     case measure=>simp[intOf];omega
    ·have hjn:j=l.length:=by omega
     have HR2:=Hd (show MapR es ck (l.foldl putM []) by have h:=HR.o;rwa [hjn,List.take_length]at h);have HM2:=Hd hM;have HE0:=Hd hE;clear hjn hM hR hE HR HE;go_wp2_with fail
     go_loopw [67] (fun i w2=>jwl w bm l cs i w2) (fun i _=>cs.length - (intOf i).toNat)
     case atStart=>exact⟨0,by omega,rfl,HE0.o,es,ck,HM2.o,HR2.o⟩
     case round =>
      clear HE0 HM2 HR2
      obtain⟨q,hq,rfl,hE,es,ck,hM,hR⟩:=hrel
      have HE:=Hd hE;have HR:=Hd hR
      by_cases hlt3:q < cs.length
      ·rcases HU.o with⟨_,_,_,h0⟩ |⟨b,o,c1,hh,hb,hc,hcell⟩
       ·rw[h0]at hlt3;cases hlt3
       cases hh
       obtain⟨p,hp⟩:∃ p,cs[q]?=some p:=⟨_,List.getElem?_eq_getElem hlt3⟩
       obtain⟨q1,q2,q3⟩:=hcell q p hp
       have q1:=jaa q1 HE.o;have q2:=jaa q2 HE.o;have q3:=jaa q3 HE.o;have b1:(q:Int) < (cs.length:Int):=by omega
       have HP:=Hd hp
       obtain⟨x,y,gn⟩:=p
       simp only at q1 q2 q3;have hM2:=hM.alloc (.cells #[.string x,.string y,.bool gn] 86);have hst:(cs.take (q+1)).foldl doM (l.foldl putM [])=doM ((cs.take q).foldl doM (l.foldl putM [])) ⟨x,y,gn⟩:=by
        rw[List.take_add_one,HP.o,List.foldl_append];rfl
       have HST:=Hd hst;cases gn with
       | true =>
        obtain⟨es2,hes2⟩:=vE (jdF es x.data.toList)
        have hdl:(Builtin.delete_ #[171,9] 0 #[.map (some bm),.string x]).run Tryz.prog (wr.alloc (.cells #[.string x,.string y,.bool true] 86))=.ok (.tuple #[]) ((wr.alloc (.cells #[.string x,.string y,.bool true] 86)).putObj bm (.map (Tryz.ES.arr es2) ck)):=by
         have:=jo0 Tryz.ES Tryz.uMapSE hM2 x.data.toList 9 0
         rw[<-hes2]at this;exact this
        have HR2:=Hd (show MapR es2 ck ((cs.take (q+1)).foldl doM (l.foldl putM [])) by
         rw[HST.o,hes2];exact HR.o.del x)
        have HB2:=Hd (hM2.put_same (.map (Tryz.ES.arr es2) ck));have HE3:=Hd ((HE.o.alloc (.cells #[.string x,.string y,.bool true] 86)).putObj (.inr hbl) (.map (Tryz.ES.arr es2) ck));clear hcell hp hb hc hM hR hM2 hes2 hE HR HE hst HST;go_wp2_with fail
        go_roundw
        case rel=>exact⟨q+1,by omega,by go_num,HE3.o,es2,ck,HB2.o,HR2.o⟩
        case measure=>simp[intOf];omega
       | false =>
        obtain⟨es2,hes2⟩:=vE (jbn es x.data.toList (Pair.V (x,y)) ck)
        obtain⟨ck2,hck2⟩:=vE (if (jaX es x.data.toList).isSome then ck else ck+1)
        have hmu:(Instr.mapUpdate 171 (.map (some bm)) (.string x) (.agg #[.string x,.string y])).run Tryz.prog (wr.alloc (.cells #[.string x,.string y,.bool false] 86))=.ok () ((wr.alloc (.cells #[.string x,.string y,.bool false] 86)).putObj bm (.map (Tryz.ES.arr es2) ck2)):=by
         have:=jci Tryz.ES Tryz.uMapSE hM2 x.data.toList (Pair.V (x,y))
         rw[<-hes2, <-hck2]at this;exact this
        have HR2:=Hd (show MapR es2 ck2 ((cs.take (q+1)).foldl doM (l.foldl putM [])) by
         rw[HST.o,hes2,hck2];exact HR.o.put (x,y))
        have HB2:=Hd (hM2.put_same (.map (Tryz.ES.arr es2) ck2));have HE3:=Hd ((HE.o.alloc (.cells #[.string x,.string y,.bool false] 86)).putObj (.inr hbl) (.map (Tryz.ES.arr es2) ck2));clear hcell hp hb hc hM hR hM2 hes2 hck2 hE HR HE hst HST;go_wp2_with fail
        go_roundw
        case rel=>exact⟨q+1,by omega,by go_num,HE3.o,es2,ck2,HB2.o,HR2.o⟩
        case measure=>simp[intOf];omega
      ·have hqn:q=cs.length:=by omega
       obtain⟨M,hMM⟩:=vE (jdW l cs)
       have HRM:=Hd (show MapR es ck M by have h:=HR.o;rw[hqn,List.take_length]at h;rw[hMM];exact h);have HMM:=Hd hMM;have hln:=jig Tryz.ES Tryz.uMapSE hM;rw[HRM.o.len]at hln;have HMB:=Hd hM;have HEF:=Hd hE;clear hqn hM hR hE HR HE hMM
       by_cases h40:40 < M.length
       ·have b40:(40:Int) < (M.length:Int):=by omega
        have HAP:=Hd (show jbs l cs=12 by unfold jbs;rw[if_neg (by rw[HCK0.o];simp),HB.o, <-HMM.o];simp[h40]);clear h40;go_wp2_with fail
        go_ret2;exact jeI.bad HAP.o vI HEF.o
       ·have b40:¬(40:Int) < (M.length:Int):=by omega
        have HAP:=Hd (show jbs l cs=0 by unfold jbs;rw[if_neg (by rw[HCK0.o];simp),HB.o, <-HMM.o];simp[h40]);have hm40:M.length<=40:=by omega
        clear h40;go_wp2_with fail
        refine (jqH wr bm).mono ?_;rintro e w4 ⟨rfl,hbx,hE4⟩;have HBX:=Hd hbx;have HMB4:=Hd (HMB.o.keeps hE4 (fun h=>h));have HE4:=Hd (HEF.o.trans hE4);clear hbx hE4 hln;go_wp2_with fail
        refine (jtW w4 wr.heap.size bm ck es ⟨HBX.o,HMB4.o⟩ HRM.o.born HRM.o.keys HRM.o.lt (by have:=HRM.o.len;omega)).mono ?_;rintro e w5 ⟨u,rfl,hS⟩;rw[HRM.o.keysEq,HRM.o.len]at hS
        obtain⟨KS,hKS⟩:=vE (jfL (M.map Pair.k))
        rw[<-hKS]at hS;have hKl:KS.length=M.length:=by rw[hKS,jgd,List.length_map]
        have HK:=Hd hKS;have HKL:=Hd hKl
        obtain⟨a6,c6,rfl⟩:=hS.sl
        have HRD:=Hd hS.rd;have HE5:=Hd (HE4.o.trans hS.ext);have HMB5:=Hd (HMB4.o.keeps hS.ext (fun h=>h));have HSM:=Hd (show (jcO M).length=M.length by unfold jcO;rw[List.length_map,jgd,List.length_map]);clear hS hKS hKl HMB4 HE4 HBX HEF HMB;go_wp2_with fail
        go_loopw [14,92] (fun v i wr=>jwm w5 M v i wr) (fun _ i _=>M.length - (intOf i).toNat)
        case atStart=>exact⟨0,by omega,rfl,ORow.nil _ _ (ExtR w5)⟩
        case round =>
         obtain⟨t,ht,rfl,hR⟩:=hrel
         obtain⟨a7,c7,rfl⟩:=hR.sl
         have HR:=Hd hR;clear hR
         by_cases hlt4:t < M.length
         ·obtain⟨kk,hkk⟩:∃ kk,KS[t]?=some kk:=⟨_,List.getElem?_eq_getElem (by rw[HKL.o];exact hlt4)⟩
          obtain⟨x,hx⟩:∃ x:vB,x=⟨kk.toArray⟩:=⟨_,rfl⟩
          obtain⟨y,hy⟩:=vE (valM M kk)
          obtain⟨_,_,hh,hcell⟩:=HRD.o.slice
          obtain⟨b,o,hao,hc0⟩:=hcell t x (by unfold baL;rw[List.getElem?_map,hkk,hx];rfl)
          obtain⟨e1,e2,e3⟩:=Value.slice.inj hh
          subst e1;subst e3;subst hao;clear hh e2;have q1:=jaa hc0 HR.o.ext;have hmem:kk∈M.map Pair.k:=by
           have h1:=List.mem_of_getElem? hkk;rw[HK.o]at h1;exact (List.mergeSort_perm _ _).mem_iff.1 h1
          have hlk:(Instr.lookup 171 (.map (some bm)) (.string x) false).run Tryz.prog wr=.ok (.agg #[.string x,.string y]) wr:=by
           have:=jcF Tryz.ES Tryz.uMapSE (HMB5.o.keeps HR.o.ext (fun h=>h)) (Tryz.zeroE wr) kk false
           rw[HRM.o.get hmem, <-hx, <-hy]at this;rw[hx];rw[hx]at this;exact this
          have hst:(jcO M).take (t+1)=(jcO M).take t++[(x,y)]:=by
           rw[List.take_add_one]
           have:(jcO M)[t]?=some (x,y):=by
            unfold jcO;rw[<-HK.o,List.getElem?_map,hkk,hx,hy];rfl
           rw[this];rfl
          have HST:=Hd hst;have b1:(t:Int) < (M.length:Int):=by omega
          clear hcell hc0 hmem hst hkk hx hy;go_wp2_with (at_builtin;refine jba Tryz.sEnts (HR.o.mono ((ExtR wr).alloc _)) (.tmp 96) (.tmp 100) rfl rfl rfl (jaS (Blk.new wr _)) (news:=[.string x,.string y]) (by intro u hu;simp at hu;rcases hu with rfl | rfl <;> rfl) rfl rfl ?c1 ?c2 (fun v' w' r1 r2 r3=>?_))
          case c1=>unfold maxLen;omega
          case c2=>omega
          have r1':ERow w5 w' v' (t+1) ((jcO M).take (t+1)):=by unfold ERow;rw[HST.o,jbC];exact r1
          obtain⟨a8,c8,rfl⟩:=r1'.sl
          have HR5:=Hd r1';clear r1 r2 r3 r1' HR;go_wp2_with fail
          go_roundw
          case rel=>exact⟨t+1,by omega,by go_num,HR5.o⟩
          case measure=>simp[intOf];omega
         ·have htm:t=M.length:=by omega
          have HRF:=Hd (show ERow w wr (.slice a7 t c7) (jcO M).length (jcO M) by
           have h:=HR.o;rw[show (jcO M).take t=jcO M from by rw[htm, <-HSM.o,List.take_length]]at h;have h2:ERow w5 wr (.slice a7 t c7) (jcO M).length (jcO M):=by rw[HSM.o, <-htm];exact h
           exact⟨by rw[HSM.o, <-htm];exact⟨_,_,rfl⟩,h2.own,HE5.o.trans h2.ext,fun b hb=>Nat.le_trans HE5.o.size (h2.new b hb)⟩)
          clear htm HR;go_wp2_with fail
          go_ret2;unfold jeI;rw[if_pos HAP.o, <-HMM.o]
          exact⟨_,rfl,HRF.o⟩
end Go.Proofs.YtcpnjmcipainpaaGreatDoor
