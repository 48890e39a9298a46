/- Lemmas. -/
import Derived.Test.YtgmmpefjadjajaaGreatDoorPa0
import Derived.Test.YtgmmpefjadjajaaGreatDoorPa1
import Derived.Test.YtgmmpefjadjajaaGreatDoorPa2
import Derived.Lib.QuietBelow
namespace Go.Proofs.YtgmmpefjadjajaaGreatDoor
set_option linter.unusedSimpArgs false
set_option linter.unusedVariables false
set_option maxRecDepth 100000
set_option maxHeartbeats 16000000
section
open Go Go.RowKit
theorem Aa(w:vW):Af w w:=Ad.refl _ w
theorem Ap(x y z:vW)(h:Af x y)(k:Af y z):Af x z:=h.trans k
theorem Ad.drewN{F:Bd}{a b:vW}(h:Ad F a b)(n:Nat):Ad F a (b.drewN n):=⟨h.os,h.tape,h.output,h.size,h.block⟩
theorem Lb{F:Bd}{w w':vW}{B:Nat}{T:TypeId}{sz:Nat}{v:vV}{n:Nat}{xs:List vV}(h:w.ownsRow B T sz v n xs)(k:Ad F w w')(hF:∀ b,v.ownBlock=some b->¬ F b):w'.ownsRow B T sz v n xs:=by
 obtain⟨K,e|⟨g,q,A,e,X,O,Z⟩⟩:=h
 ·exact⟨K,.inl e⟩
 ·have H:g<(w:Nat):=(dD.1 O).1;exact⟨K,.inr ⟨g,q,A,e,X,(k.block g H (hF g (by rw[e];rfl))).trans O,Z⟩⟩
theorem Kh{w w':vW}{B:Nat}{T:TypeId}{sz:Nat}{v:vV}{n:Nat}{xs:List vV}(h:w.ownsRow B T sz v n xs)(k:Af w w'):w'.ownsRow B T sz v n xs:=Lb h k (λ_ _ h=>h)
theorem eD{w0 w w':vW}{v:vV}(h:Af w0 w)(hb:∀ b,v.ownBlock=some b->(w0:Nat)<=b)(k:Ad (λb=>v.ownBlock=some b) w w'):Af w0 w':=
 h.O k (λx q e=>kL (hb x e))
theorem Am{w w':vW}{p:Addr}{v:vV}(h:w.cell? p=some v)(k:Af w w'):w'.cell? p=some v:=by
 have e:=dX w p h
 have:=k.block p.block e kI
 unfold World.cell? at *;rw[this];exact h
theorem Ed{F:Bd}{w w':vW}{p:Addr}{v:vV}(h:w.cell? p=some v)(k:Ad F w w')(hF:¬ F p.block):w'.cell? p=some v:=by
 have hb:w'.heap[p.block]?=w.heap[p.block]?:=k.block _ (dX w _ h) hF;unfold World.cell? at *;rw[hb];exact h
theorem Ao(w:vW):Af w w.drew:=(Aa w).drew
section
variable {P:Program} (w:vW)
theorem MQ{o:Oper}{a:Act}{K:Act->vW->Prop}{Q:Exit->Act->vW->Prop}
  (s x:Operand) (t:TypeId) (ho:o.op=Op.call { callee:=Callee.builtin Builtin.append,args:=#[s,x],argTypes:=#[t,t] })
  (e:TypeId) (i:TypeInfo) (z:vV) (size bytes:Nat) (ht:P.underlying t=some (.slice e)) (hi:P.info? e=some i) (hz:i.zero=some z)
  (hsize:i.size=size) (hby:i.bytes=bytes) (hzs:z.cells.size=size) (hsz:0<size)
  (v:vV) (n:Nat) (xs:List vV) (hs:a.eval s=v) (hown:w.ownsRow 0 e size v n xs)
  (ad:Addr) (m c:Nat) (news:List vV) (hx:a.eval x=.slice (some ad) m c) (hl:news.length=m*size) (hnews:∀ j u,news[j]?=some u->w.cell? (ad.add j)=some u) (h1:∀ u∈news,u.oneCell'=true)
  (h63:n+m<=maxLen) (hbytes:(n+m)*bytes<=140737488355328)
  (h:∀ q w',w'.ownsRow 0 e size q (n+m) (xs++news)->Ad (λb=>v.ownBlock=some b) w w'->(q.ownBlock=v.ownBlock\/∀ b,q.ownBlock=some b->(w:Nat)<=b)->K (a.put o.dst q) w') :
  Oper.wp P o a w K Q:=by
 obtain⟨q,w',A,H,O,X⟩:=SG (P:=P) w (t:=t) (ty:=o.type) ht hi hz hsize hby hzs hsz hown (c:=c) hl hnews h1 h63 hbytes
 unfold Oper.wp;simp[execOp,ho,resolve,invoke,builtin,hs,hx,A,Result.andThen];exact h q w' H O X
def El(l:vN):List vV:=l.map λb=>.int .u8 (b.toNat:Int)
@[simp] theorem bytesV_len (l:vN):(El l).length=l.length:=by simp[El]
theorem MM(l m:vN):El (l++m)=El l++El m:=by simp[El]
theorem aL(l:vN):∀ u∈El l,u.oneCell'=true:=by
 intro u e;simp only[El,bC]at e;obtain⟨b,_,rfl⟩:=e;rfl
theorem CO{src dst e:TypeId}(hs:P.underlying src=some (.slice e))(he:P.underlying e=some (.int .u8))(hd:P.underlying dst=some .string)
  {B:Nat} {v:vV} {n:Nat} {l:vN} (h:w.ownsRow B e 1 v n (El l)):(convert src dst v).run P w=.ok (.string ⟨l.toArray⟩) w:=by
 have A:l.length=n:=by have:=h.1;simp at this;exact this
 have H:=h
 obtain⟨_,⟨rfl,X⟩|⟨g,q,K,rfl,_⟩⟩:=h
 ·have:l=[]:=bF vO;subst this;rw[run_convert_bytes_string w src dst e _ _ _ hs he hd];simp[Conv.bytesToString];rfl
 ·subst A;refine run_convert_bytes_back w src dst e _ q l hs he hd (λj O=>?_);refine World.ownsRow.cells H rfl j _ ?_;simp[El,O]
end
theorem N9{w:vW}{base:Nat}{e:TypeId}{size:Nat}{g n cap:Nat}{xs:List vV}(h:w.ownsRow base e size (.slice (some g) n cap) n xs)(j:Nat)(hj:j<n*size):∃ v,w.cell? ⟨g,j,none⟩=some v:=
 ⟨_,(h.cellAt j hj).trans (bB (by rw[h.1];exact hj))⟩
theorem Zq{P:Program}{fn:Func}{t:Tmp}{ty:TypeId}(h:fn.results=#[.cell t ty]){tmps:Array vV}{a:Addr}(ha:tmps.getD t undef=.pointer (some a)){w:vW}{v:vV}(hl:(loadVar ty a).run P w=.ok v w):(results fn tmps).run P w=.ok v w:=by
 have e:tmps[t]?.getD undef=.pointer (some a):=by simpa using ha
 simp[results,h,e,asAddr,bS,Result.andThen,hl]
theorem mM(a:vU):BitVec.ofInt (IntKind.bits .u8) (a.toNat:Int)=a.toBitVec:=by
 show BitVec.ofInt 8 ((a.toNat:Nat):Int)=_;rw[BitVec.ofInt_natCast];simp
theorem wrap_u8(a:vU):IntKind.u8.wrap (a.toNat:Int)=a.toNat:=wraps_u8 _ vO (kL a.toNat_lt)
theorem d8(a b:vU):bits .or .u8 a.toNat b.toNat=((a ||| b).toNat:Int):=by
 unfold bits;rw[mM,mM];exact wrap_u8 (a ||| b)
theorem jzk(a:vU):(a.toNat:Int)*(16:Int) % (256:Int)=((a <<< 4).toNat:Int):=by
 have h:∀ b:Fin 256,(b.1:Int)*(16:Int) % (256:Int)=((UInt8.ofNat b.1 <<< 4).toNat:Int):=by decide +kernel
 have:=h ⟨a.toNat,a.toNat_lt⟩
 simpa only[iV]using this
theorem i0(n:Int):IntKind.u8.wrap n=n % 256:=IntKind.wrap_u8 n
theorem OP(n:Nat):(n:Int) % (256:Int)=((UInt8.ofNat n).toNat:Int):=by
 rw[show (UInt8.ofNat n).toNat=n % 256 from iT];omega
theorem V3(x y:vU):bits .or .u8 ((x.toNat:Int)*(16:Int) % (256:Int)) (y.toNat:Int)=((x <<< 4 ||| y).toNat:Int):=by
 rw[jzk,d8]
structure Ar(T:TypeId)(sz:Nat)(w0 w:World)(v:Value)(n:Nat)(xs:List Value):Prop where
 sl:∃ a c,v=.slice a n c
 own:w.ownsRow 0 T sz v n xs
 ext:Af w0 w
 new:∀ b,v.ownBlock=some b->(w0:Nat)<=b
theorem Ar.mono{T:TypeId}{sz:Nat}{w0 w w':vW}{v:vV}{n:Nat}{xs:List vV}(h:Ar T sz w0 w v n xs)(k:Af w w'):Ar T sz w0 w' v n xs:=⟨h.sl,Kh h.own k,h.ext.trans k,h.new⟩
theorem Ar.Z{T:TypeId}{sz:Nat}{F:Bd}{w0 w w':vW}{v:vV}{n:Nat}{xs:List vV}(h:Ar T sz w0 w v n xs)(k:Ad F w w')(hF:∀ b,v.ownBlock=some b->¬ F b)(hF':∀ b,b<(w0:Nat)->¬ F b):Ar T sz w0 w' v n xs:=
 ⟨h.sl,Lb h.own k hF,h.ext.O k λx e g=>hF' x e g,h.new⟩
theorem Ar.step{T:TypeId}{sz:Nat}{w0 w w':vW}{v v':vV}{n m:Nat}{xs ys:List vV}(h:Ar T sz w0 w v n xs)(r1:w'.ownsRow 0 T sz v' (n+m) (xs++ys))(r2:Ad (λb=>v.ownBlock=some b) w w')(r3:v'.ownBlock=v.ownBlock\/∀ b,v'.ownBlock=some b->(w:Nat)<=b):Ar T sz w0 w' v' (n+m) (xs++ys):=
 ⟨Ir r1,r1,eD h.ext h.new r2,λb hb=>by
  rcases r3 with r3|r3
  ·exact h.new b (r3 ▸ hb)
  ·exact bH h.ext.size (r3 b hb)⟩
theorem Ar.nil(T:TypeId)(sz:Nat){w0 w:vW}(h:Af w0 w):Ar T sz w0 w qe 0 []:=⟨⟨_,_,rfl⟩,fK _ _ _ _,h,λb hb=>by cases hb⟩
theorem Ar.made{T:TypeId}{sz:Nat}(w:vW){w1:vW}{c:Nat}{B:Nat}(h:w1.ownsRow B T sz (.slice (some w) 0 c) 0 [])(g:w.grownBy w1 none):Ar T sz w w1 (.slice (some w) 0 c) 0 []:=
 ⟨⟨_,_,rfl⟩,⟨h.1,h.2.imp id λ⟨g,e,q,A,K,H⟩=>⟨g,e,q,A,cD _,H⟩⟩,Ad.y3 g (λ_ h=>by cases h),λb hb=>by
  have:some (w:Nat)=some b:=hb
  have:=bV this;omega⟩
theorem Ar.lit{T:TypeId}{sz:Nat}{w0 w:vW}(cs:Array vV){n:Nat}(h:Af w0 w)(hm:n<=maxLen)(hs:cs.size=n*sz):Ar T sz w0 (w.alloc (.cells cs T)) (.slice (some w) n n) n cs.toList:=
 ⟨⟨_,_,rfl⟩,World.ownsRow_lit w cs n (cD _) hm hs,h.alloc _,λb hb=>by
  have e:some (w:Nat)=some b:=hb
  have:=bV e;have:=h.size;omega⟩
theorem Ar.lt{T:TypeId}{sz:Nat}{w0 w:vW}{v:vV}{n:Nat}{xs:List vV}(h:Ar T sz w0 w v n xs):∀ b,v.ownBlock=some b->b<(w:Nat):=λb hb=>(World.ownsRow.lt h.own b hb).2
theorem Ar.len{T:TypeId}{sz:Nat}{w0 w:vW}{v:vV}{n:Nat}{xs:List vV}(h:Ar T sz w0 w v n xs):xs.length=n*sz:=h.own.1
theorem Ar.set{T:TypeId}{sz:Nat}{w0 w:vW}{g n c:Nat}{xs:List vV}(h:Ar T sz w0 w (.slice (some g) n c) n xs)(j:Nat)(u:vV):Ar T sz w0 (w.setCell ⟨g,j,none⟩ u) (.slice (some g) n c) n (xs.set j u):=
 ⟨⟨_,_,rfl⟩,(h.own.stored j u).1,h.ext.setCell (p:=⟨g,j,none⟩) (.inr (h.new g rfl)) u,h.new⟩
theorem Bv{P:Program}{t:TypeId}{d:TypeDesc}(h:P.underlying t=some d)(hd:(match d with | .struct _ | .array _ _=>true|_=>false)=false){w:vW}{a:Addr}{v:vV}(hc:w.cell? a=some v):(Instr.loadAt t a).run P w=.ok v w:=by
 have:(isAgg t).run P w=.ok false w:=by cases d<;>simp_all [isAgg,run_underlying h]
 simp[Instr.loadAt,Instr.sureAddr,loadVar,bS,this,Result.andThen,hc]
theorem Yr{P:Program}{t:TypeId}{fs:Array Field}(h:P.underlying t=some (.struct fs)){w:vW}{a:Addr}{xs:List vV}(hi:(P.info? t).map (·.size)=some xs.length)(hc:∀ j v,xs[j]?=some v->w.cell? (a.add j)=some v):(Instr.loadAt t a).run P w=.ok (.agg xs.toArray) w:=by
 have A:(isAgg t).run P w=.ok true w:=by simp[isAgg,run_underlying h]
 obtain⟨i,e,q⟩:=dH.1 hi
 have H:(sizeOf t).run P w=.ok xs.length w:=by simp[sizeOf,typeInfo,e,q]
 have K:=run_loadCells_list (P:=P) w a xs hc;simp[Instr.loadAt,Instr.sureAddr,loadVar,bS,A,H,K,Result.andThen]
structure Mn(P:Program)(t T:TypeId)(sz by':Nat):Prop where
 ht:P.underlying t=some (.slice T)
 hi:∃ i z,P.info? T=some i/\i.zero=some z/\i.size=sz/\i.bytes=by'/\z.cells.size=sz
 hsz:0<sz
theorem Mn.mk'{P:Program}{t T:TypeId}{sz by':Nat}{z:vV}(ht:P.underlying t=some (.slice T))(h:(P.info? T).map (λi=>(i.zero,i.size,i.bytes))=some (some z,sz,by'))(hz:z.cells.size=sz)(hs:0<sz):Mn P t T sz by':=by
 obtain⟨i,e,q,A,H⟩:=info_parts h
 exact⟨ht,⟨i,z,e,q,A,H,hz⟩,hs⟩
theorem Jx{T':TypeId}{fz:Nat × Nat}{w:vW}{g:Nat}{news:List vV}(h:Ae w g (.cells news.toArray T' fz)):∀ j u,news[j]?=some u->w.cell? ((g:Addr).add j)=some u:=by
 intro j u e;rw[Addr.add_lit,bX];exact h.z1 e
section
variable {P:Program} {t T:TypeId} {sz by':Nat} (I:Mn P t T sz by') {w0 w:vW} {v:vV} {n:Nat} {xs:List vV} {o:Oper} {a:Act} {g m c:Nat} {news:List vV} {ops:Array Oper} {rest:List Oper}
include I in
theorem DE{K:Act->vW->Prop}{Q:Exit->Act->vW->Prop}(hR:Ar T sz w0 w v n xs)(s x:Operand)(hs:a.eval s=v)(hx:a.eval x=.slice (some g) m c)(hB:∀ j u,news[j]?=some u->w.cell? ((g:Addr).add j)=some u)(h1:∀ u∈news,u.oneCell'=true)(hl:news.length=m*sz)
  (ho:o.op=Op.call { callee:=Callee.builtin Builtin.append,args:=#[s,x],argTypes:=#[t,t] }) (h63:n+m<=maxLen) (hby:(n+m)*by'<=140737488355328)
  (h:∀ e w',Ar T sz w0 w' e (n+m) (xs++news)->Ad (λb=>v.ownBlock=some b) w w'->(e.ownBlock=v.ownBlock\/∀ b,e.ownBlock=some b->(w:Nat)<=b)->K (a.put o.dst e) w'):o.wp P a w K Q:=by
 obtain⟨i,z,H,O,X,Z,e5⟩:=I.hi
 exact MQ w s x t ho T i z sz by' I.ht H O X Z e5 I.hsz v n xs hs hR.own g m c news hx hl hB h1 h63 hby (λe w' r1 q A=>h e w' (hR.step r1 q A) q A)
include I in
theorem Qm{Q:Exit->Act->vW->Prop}(hR:Ar T sz w0 w v n xs)(s x:Operand)(hgd:o.guard=none)(hs:a.eval s=v)(hx:a.eval x=.slice (some g) m c)(hB:∀ j u,news[j]?=some u->w.cell? ((g:Addr).add j)=some u)(h1:∀ u∈news,u.oneCell'=true)(hl:news.length=m*sz)
  (ho:o.op=Op.call { callee:=Callee.builtin Builtin.append,args:=#[s,x],argTypes:=#[t,t] }) (h63:n+m<=maxLen) (hby:(n+m)*by'<=140737488355328)
  (h:∀ e w',Ar T sz w0 w' e (n+m) (xs++news)->Ad (λb=>v.ownBlock=some b) w w'->(e.ownBlock=v.ownBlock\/∀ b,e.ownBlock=some b->(w:Nat)<=b)->wpList P ops Q rest (a.put o.dst e) w'):wpList P ops Q (o::rest) a w:=by
 refine wpList_plain hgd λK q=>?_;exact DE I hR s x hs hx hB h1 hl ho h63 hby (λe w' A H O=>q _ _ (h e w' A H O))
end
theorem SJ{P:Program}(w:vW){t e:TypeId}{i:TypeInfo}{z:vV}(ht:P.underlying t=some (.slice e))(hi:P.info? e=some i)(hz:i.zero=some z)(h1:i.size=1)(hz1:z.cells=#[z])
  (kl kc:IntKind) (n:Nat) (hbytes:i.bytes*n<=281474976710656) (h63:n<=maxLen) :
  (Instr.makeSlice t (.int kl (n:Int)) (.int kc (n:Int))).run P w=.ok (.slice (some w) n n) (w.alloc (.cells (List.replicate n z).toArray e)):=by
 have q:(i.bytes:Int)*(n:Int)<=281474976710656:=by have h:((i.bytes*n:Nat):Int)<=281474976710656:=vO;rwa [Int.natCast_mul]at h
 have A:=run_make (P:=P) w t e i z ht hi hz kl kc n n vO (jA _) q (by unfold maxLen at h63;omega);rw[A,h1,hz1];simp only[Int.toNat_natCast,Nat.mul_one]
 congr 3
 exact Array.ext' (by rw[toList_madeCells_one])
theorem sA{α:Type _}(l:List α)(i:Nat)(a:α):l.toArray.setIfInBounds i a=(l.set i a).toArray:=gA l i a
theorem sB{α:Type _}{x:α}{xs:List α}{a:α}:(x::xs).set 0 a=a::xs:=dM
theorem sC{α:Type _}{x:α}{xs:List α}{i:Nat}{a:α}:(x::xs).set (i+1) a=x::xs.set i a:=dG
theorem J{p:Prop}(h:p):RowKit.Hid p:=h
theorem _root_.Go.RowKit.Hid.o{p:Prop}(h:RowKit.Hid p):p:=h
end
