/- Lemmas; each is under no condition but those that it states. -/
import Derived.Test.YtcpnjmcipainpaaGreatDoorPr1
import Derived.Test.YtcpnjmcipainpaaGreatDoorPr2
import Derived.Lib.QuietBelow
namespace Go.Proofs.YtcpnjmcipainpaaGreatDoor
set_option linter.unusedSimpArgs false
set_option linter.unusedVariables false
set_option maxRecDepth 100000
set_option maxHeartbeats 16000000
section
open Go Go.RowKit
theorem ExtR(w:World):Ext w w:=jae.refl _ w
theorem ExtT(x y z:World)(h:Ext x y)(k:Ext y z):Ext x z:=h.trans k
theorem jae.drewN{F:BSet}{a b:World}(h:jae F a b)(n:Nat):jae F a (b.drewN n):=⟨h.os,h.tape,h.output,h.size,h.block⟩
theorem jaW{F:BSet}{w w':World}{B:Nat}{T:TypeId}{sz:Nat}{v:Value}{n:Nat}{xs:List Value}(h:w.ownsRow B T sz v n xs)(k:jae F w w')(hF:∀ b,v.ownBlock=some b->¬ F b):w'.ownsRow B T sz v n xs:=by
 obtain⟨h1,h2 |⟨g,cap,cur,h2,h3,h4,h5⟩⟩:=h
 ·exact⟨h1,.inl h2⟩
 ·have hlt:g < w.heap.size:=(Array.getElem?_eq_some_iff.1 h4).1
  exact⟨h1,.inr ⟨g,cap,cur,h2,h3,(k.block g hlt (hF g (by rw[h2];rfl))).trans h4,h5⟩⟩
theorem jbe{w w':World}{B:Nat}{T:TypeId}{sz:Nat}{v:Value}{n:Nat}{xs:List Value}(h:w.ownsRow B T sz v n xs)(k:Ext w w'):w'.ownsRow B T sz v n xs:=jaW h k (fun _ _ h=>h)
theorem jgw{w0 w w':World}{v:Value}(h:Ext w0 w)(hb:∀ b,v.ownBlock=some b->w0.heap.size<=b)(k:jae (fun b=>v.ownBlock=some b) w w'):Ext w0 w':=
 h.trans' k (fun x hx e=>by have:=hb x e;omega)
theorem jaa{w w':World}{p:Addr}{v:Value}(h:w.cell? p=some v)(k:Ext w w'):w'.cell? p=some v:=by
 have hlt:=World.block_lt_of_cell? w p h
 have:=k.block p.block hlt (fun h=>h)
 unfold World.cell? at *;rw[this];exact h
theorem jaw{F:BSet}{w w':World}{p:Addr}{v:Value}(h:w.cell? p=some v)(k:jae F w w')(hF:¬ F p.block):w'.cell? p=some v:=by
 have hb:w'.heap[p.block]?=w.heap[p.block]?:=k.block _ (World.block_lt_of_cell? w _ h) hF;unfold World.cell? at *;rw[hb];exact h
theorem jaj(w:World):Ext w w.drew:=(ExtR w).drew
section
variable {P:Program} (w:World)
theorem jdj{o:Oper}{a:Act}{K:Act->World->Prop}{Q:Exit->Act->World->Prop}
  (s x:Operand) (t:TypeId) (ho:o.op=Op.call { callee:=Callee.builtin Builtin.append,args:=#[s,x],argTypes:=#[t,t] })
  (e:TypeId) (i:TypeInfo) (z:Value) (size bytes:Nat) (ht:P.underlying t=some (.slice e)) (hi:P.info? e=some i) (hz:i.zero=some z)
  (hsize:i.size=size) (hby:i.bytes=bytes) (hzs:z.cells.size=size) (hsz:0 < size)
  (v:Value) (n:Nat) (xs:List Value) (hs:a.eval s=v) (hown:w.ownsRow 0 e size v n xs)
  (ad:Addr) (m c:Nat) (news:List Value) (hx:a.eval x=.slice (some ad) m c) (hl:news.length=m * size) (hnews:∀ j u,news[j]?=some u->w.cell? (ad.add j)=some u) (h1:∀ u∈news,u.oneCell'=true)
  (h63:n+m<=maxLen) (hbytes:(n+m) * bytes<=140737488355328)
  (h:∀ v' w',w'.ownsRow 0 e size v' (n+m) (xs++news)->jae (fun b=>v.ownBlock=some b) w w'->(v'.ownBlock=v.ownBlock\/∀ b,v'.ownBlock=some b->w.heap.size<=b)->K (a.put o.dst v') w') :
  Oper.wp P o a w K Q:=by
 obtain⟨v',w',hrun,r1,r2,r3⟩:=jdS (P:=P) w (t:=t) (ty:=o.type) ht hi hz hsize hby hzs hsz hown (c:=c) hl hnews h1 h63 hbytes
 unfold Oper.wp;simp[execOp,ho,resolve,invoke,builtin,hs,hx,hrun,Result.andThen];exact h v' w' r1 r2 r3
def jaE(l:List UInt8):List Value:=l.map fun b=>.int .u8 (b.toNat:Int)
@[simp] theorem bytesV_len (l:List UInt8):(jaE l).length=l.length:=by simp[jaE]
theorem jdf(l m:List UInt8):jaE (l++m)=jaE l++jaE m:=by simp[jaE]
theorem jiG(l:List UInt8):∀ u∈jaE l,u.oneCell'=true:=by
 intro u hu;simp only[jaE,List.mem_map]at hu;obtain⟨b,_,rfl⟩:=hu;rfl
theorem jbl{src dst e:TypeId}(hs:P.underlying src=some (.slice e))(he:P.underlying e=some (.int .u8))(hd:P.underlying dst=some .string)
  {B:Nat} {v:Value} {n:Nat} {l:List UInt8} (h:w.ownsRow B e 1 v n (jaE l)):(convert src dst v).run P w=.ok (.string ⟨l.toArray⟩) w:=by
 have hl:l.length=n:=by have:=h.1;simp at this;exact this
 have hh:=h
 obtain⟨_,⟨rfl,h2⟩ |⟨g,cap,cur,rfl,_⟩⟩:=h
 ·have:l=[]:=List.eq_nil_of_length_eq_zero vO
  subst this;rw[run_convert_bytes_string w src dst e _ _ _ hs he hd];simp[Conv.bytesToString];rfl
 ·subst hl
  refine run_convert_bytes_back w src dst e _ cap l hs he hd (fun j hj=>?_);refine World.ownsRow.cells hh rfl j _ ?_;simp[jaE,hj]
end
theorem jtw{w:World}{base:Nat}{e:TypeId}{size:Nat}{g n cap:Nat}{xs:List Value}(h:w.ownsRow base e size (.slice (some ⟨g,0,none⟩) n cap) n xs)(j:Nat)(hj:j < n * size):∃ v,w.cell? ⟨g,j,none⟩=some v:=
 ⟨_,(h.cellAt j hj).trans (List.getElem?_eq_getElem (by rw[h.1];exact hj))⟩
theorem jbE{P:Program}{fn:Func}{t:Tmp}{ty:TypeId}(h:fn.results=#[.cell t ty]){tmps:Array Value}{a:Addr}(ha:tmps.getD t undef=.pointer (some a)){w:World}{v:Value}(hl:(loadVar ty a).run P w=.ok v w) :
  (results fn tmps).run P w=.ok v w:=by
 have ha':tmps[t]?.getD undef=.pointer (some a):=by simpa using ha
 simp[results,h,ha',asAddr,Sem.run_bind,Result.andThen,hl]
theorem jnz(a:UInt8):BitVec.ofInt (IntKind.bits .u8) (a.toNat:Int)=a.toBitVec:=by
 show BitVec.ofInt 8 ((a.toNat:Nat):Int)=_;rw[BitVec.ofInt_natCast];simp
theorem wrap_u8(a:UInt8):IntKind.u8.wrap (a.toNat:Int)=a.toNat:=wraps_u8 _ vO (by have:=a.toNat_lt;omega)
theorem joe(a b:UInt8):bits .or .u8 a.toNat b.toNat=((a ||| b).toNat:Int):=by
 unfold bits;rw[jnz,jnz];exact wrap_u8 (a ||| b)
theorem jv6(a:UInt8):(a.toNat:Int) * (16:Int) % (256:Int)=((a <<< 4).toNat:Int):=by
 have h:∀ b:Fin 256,(b.1:Int) * (16:Int) % (256:Int)=((UInt8.ofNat b.1 <<< 4).toNat:Int):=by decide +kernel
 have:=h ⟨a.toNat,a.toNat_lt⟩
 simpa only[UInt8.ofNat_toNat]using this
theorem jpb(n:Int):IntKind.u8.wrap n=n % 256:=IntKind.wrap_u8 n
theorem jhi(n:Nat):(n:Int) % (256:Int)=((UInt8.ofNat n).toNat:Int):=by
 rw[show (UInt8.ofNat n).toNat=n % 256 from UInt8.toNat_ofNat'];omega
theorem jvI(x y:UInt8):bits .or .u8 ((x.toNat:Int) * (16:Int) % (256:Int)) (y.toNat:Int)=((x <<< 4 ||| y).toNat:Int):=by
 rw[jv6,joe]
structure ORow(T:TypeId)(sz:Nat)(w0 w:World)(v:Value)(n:Nat)(xs:List Value):Prop where
 sl:∃ a c,v=.slice a n c
 own:w.ownsRow 0 T sz v n xs
 ext:Ext w0 w
 new:∀ b,v.ownBlock=some b->w0.heap.size<=b
theorem ORow.mono{T:TypeId}{sz:Nat}{w0 w w':World}{v:Value}{n:Nat}{xs:List Value}(h:ORow T sz w0 w v n xs)(k:Ext w w'):ORow T sz w0 w' v n xs:=⟨h.sl,jbe h.own k,h.ext.trans k,h.new⟩
theorem ORow.keeps{T:TypeId}{sz:Nat}{F:BSet}{w0 w w':World}{v:Value}{n:Nat}{xs:List Value}(h:ORow T sz w0 w v n xs)(k:jae F w w')(hF:∀ b,v.ownBlock=some b->¬ F b)(hF':∀ b,b < w0.heap.size->¬ F b):ORow T sz w0 w' v n xs:=
 ⟨h.sl,jaW h.own k hF,h.ext.trans' k (fun x hx g=>hF' x hx g),h.new⟩
theorem ORow.step{T:TypeId}{sz:Nat}{w0 w w':World}{v v':Value}{n m:Nat}{xs ys:List Value}(h:ORow T sz w0 w v n xs)(r1:w'.ownsRow 0 T sz v' (n+m) (xs++ys))(r2:jae (fun b=>v.ownBlock=some b) w w')(r3:v'.ownBlock=v.ownBlock\/∀ b,v'.ownBlock=some b->w.heap.size<=b):ORow T sz w0 w' v' (n+m) (xs++ys):=
 ⟨jaJ r1,r1,jgw h.ext h.new r2,fun b hb=>by
  rcases r3 with r3 | r3
  ·exact h.new b (r3 ▸ hb)
  ·exact Nat.le_trans h.ext.size (r3 b hb)⟩
theorem ORow.nil(T:TypeId)(sz:Nat){w0 w:World}(h:Ext w0 w):ORow T sz w0 w (.slice none 0 0) 0 []:=⟨⟨_,_,rfl⟩,World.ownsRow_nil _ _ _ _,h,fun b hb=>by cases hb⟩
theorem ORow.made{T:TypeId}{sz:Nat}(w:World){w1:World}{c:Nat}{B:Nat}(h:w1.ownsRow B T sz (.slice (some ⟨w.heap.size,0,none⟩) 0 c) 0 [])(g:w.grownBy w1 none):ORow T sz w w1 (.slice (some ⟨w.heap.size,0,none⟩) 0 c) 0 []:=
 ⟨⟨_,_,rfl⟩,⟨h.1,h.2.imp id (fun ⟨g,cap,cur,e1,e2,e3⟩=>⟨g,cap,cur,e1,Nat.zero_le _,e3⟩)⟩,jae.of_grown g (fun _ h=>by cases h),fun b hb=>by
  have:some w.heap.size=some b:=hb
  have:=Option.some.inj this;omega⟩
theorem ORow.lit{T:TypeId}{sz:Nat}{w0 w:World}(cs:Array Value){n:Nat}(h:Ext w0 w)(hm:n<=maxLen)(hs:cs.size=n * sz):ORow T sz w0 (w.alloc (.cells cs T)) (.slice (some ⟨w.heap.size,0,none⟩) n n) n cs.toList:=
 ⟨⟨_,_,rfl⟩,World.ownsRow_lit w cs n (Nat.zero_le _) hm hs,h.alloc _,fun b hb=>by
  have e:some w.heap.size=some b:=hb
  have:=Option.some.inj e;have:=h.size;omega⟩
theorem ORow.lt{T:TypeId}{sz:Nat}{w0 w:World}{v:Value}{n:Nat}{xs:List Value}(h:ORow T sz w0 w v n xs):∀ b,v.ownBlock=some b->b < w.heap.size:=fun b hb=>(World.ownsRow.lt h.own b hb).2
theorem ORow.len{T:TypeId}{sz:Nat}{w0 w:World}{v:Value}{n:Nat}{xs:List Value}(h:ORow T sz w0 w v n xs):xs.length=n * sz:=h.own.1
theorem ORow.set{T:TypeId}{sz:Nat}{w0 w:World}{g n c:Nat}{xs:List Value}(h:ORow T sz w0 w (.slice (some ⟨g,0,none⟩) n c) n xs)(j:Nat)(u:Value):ORow T sz w0 (w.setCell ⟨g,j,none⟩ u) (.slice (some ⟨g,0,none⟩) n c) n (xs.set j u):=
 ⟨⟨_,_,rfl⟩,(h.own.stored j u).1,h.ext.setCell (p:=⟨g,j,none⟩) (.inr (h.new g rfl)) u,h.new⟩
theorem jab{P:Program}{t:TypeId}{d:TypeDesc}(h:P.underlying t=some d)(hd:(match d with | .struct _ | .array _ _=>true | _=>false)=false){w:World}{a:Addr}{v:Value}(hc:w.cell? a=some v):(Instr.loadAt t (.pointer (some a))).run P w=.ok v w:=by
 have:(isAgg t).run P w=.ok false w:=by cases d <;> simp_all [isAgg,run_underlying h]
 simp[Instr.loadAt,Instr.sureAddr,loadVar,Sem.run_bind,this,Result.andThen,hc]
theorem je1{P:Program}{t:TypeId}{fs:Array Field}(h:P.underlying t=some (.struct fs)){w:World}{a:Addr}{xs:List Value}(hi:(P.info? t).map (·.size)=some xs.length)(hc:∀ j v,xs[j]?=some v->w.cell? (a.add j)=some v):(Instr.loadAt t (.pointer (some a))).run P w=.ok (.agg xs.toArray) w:=by
 have e1:(isAgg t).run P w=.ok true w:=by simp[isAgg,run_underlying h]
 obtain⟨i,hi1,hi2⟩:=Option.map_eq_some_iff.1 hi
 have e2:(sizeOf t).run P w=.ok xs.length w:=by simp[sizeOf,typeInfo,hi1,hi2]
 have e3:=run_loadCells_list (P:=P) w a xs hc;simp[Instr.loadAt,Instr.sureAddr,loadVar,Sem.run_bind,e1,e2,e3,Result.andThen]
structure jeF(P:Program)(t T:TypeId)(sz by':Nat):Prop where
 ht:P.underlying t=some (.slice T)
 hi:∃ i z,P.info? T=some i/\i.zero=some z/\i.size=sz/\i.bytes=by'/\z.cells.size=sz
 hsz:0 < sz
theorem jeF.mk'{P:Program}{t T:TypeId}{sz by':Nat}{z:Value}(ht:P.underlying t=some (.slice T))(h:(P.info? T).map (fun i=>(i.zero,i.size,i.bytes))=some (some z,sz,by'))(hz:z.cells.size=sz)(hs:0 < sz):jeF P t T sz by':=by
 obtain⟨i,h1,h2,h3,h4⟩:=info_parts h
 exact⟨ht,⟨i,z,h1,h2,h3,h4,hz⟩,hs⟩
theorem jaS{T':TypeId}{fz:Nat × Nat}{w:World}{g:Nat}{news:List Value}(h:Blk w g (.cells news.toArray T' fz)):∀ j u,news[j]?=some u->w.cell? ((⟨g,0,none⟩:Addr).add j)=some u:=by
 intro j u hj;rw[Addr.add_lit,Nat.zero_add];exact h.cellL hj
section
variable {P:Program} {t T:TypeId} {sz by':Nat} (I:jeF P t T sz by') {w0 w:World} {v:Value} {n:Nat} {xs:List Value} {o:Oper} {a:Act} {g m c:Nat} {news:List Value} {ops:Array Oper} {rest:List Oper}
include I in
theorem jgY{K:Act->World->Prop}{Q:Exit->Act->World->Prop}(hR:ORow T sz w0 w v n xs)(s x:Operand)(hs:a.eval s=v)(hx:a.eval x=.slice (some ⟨g,0,none⟩) m c)(hB:∀ j u,news[j]?=some u->w.cell? ((⟨g,0,none⟩:Addr).add j)=some u)(h1:∀ u∈news,u.oneCell'=true)(hl:news.length=m * sz)
  (ho:o.op=Op.call { callee:=Callee.builtin Builtin.append,args:=#[s,x],argTypes:=#[t,t] }) (h63:n+m<=maxLen) (hby:(n+m) * by'<=140737488355328)
  (h:∀ v' w',ORow T sz w0 w' v' (n+m) (xs++news)->jae (fun b=>v.ownBlock=some b) w w'->(v'.ownBlock=v.ownBlock\/∀ b,v'.ownBlock=some b->w.heap.size<=b)->K (a.put o.dst v') w'):o.wp P a w K Q:=by
 obtain⟨i,z,e1,e2,e3,e4,e5⟩:=I.hi
 exact jdj w s x t ho T i z sz by' I.ht e1 e2 e3 e4 e5 I.hsz v n xs hs hR.own ⟨g,0,none⟩ m c news hx hl hB h1 h63 hby (fun v' w' r1 r2 r3=>h v' w' (hR.step r1 r2 r3) r2 r3)
include I in
theorem jba{Q:Exit->Act->World->Prop}(hR:ORow T sz w0 w v n xs)(s x:Operand)(hgd:o.guard=none)(hs:a.eval s=v)(hx:a.eval x=.slice (some ⟨g,0,none⟩) m c)(hB:∀ j u,news[j]?=some u->w.cell? ((⟨g,0,none⟩:Addr).add j)=some u)(h1:∀ u∈news,u.oneCell'=true)(hl:news.length=m * sz)
  (ho:o.op=Op.call { callee:=Callee.builtin Builtin.append,args:=#[s,x],argTypes:=#[t,t] }) (h63:n+m<=maxLen) (hby:(n+m) * by'<=140737488355328)
  (h:∀ v' w',ORow T sz w0 w' v' (n+m) (xs++news)->jae (fun b=>v.ownBlock=some b) w w'->(v'.ownBlock=v.ownBlock\/∀ b,v'.ownBlock=some b->w.heap.size<=b)->wpList P ops Q rest (a.put o.dst v') w'):wpList P ops Q (o :: rest) a w:=by
 refine wpList_plain hgd fun K hK=>?_;exact jgY I hR s x hs hx hB h1 hl ho h63 hby (fun v' w' r1 r2 r3=>hK _ _ (h v' w' r1 r2 r3))
end
theorem je3{P:Program}(w:World){t e:TypeId}{i:TypeInfo}{z:Value}(ht:P.underlying t=some (.slice e))(hi:P.info? e=some i)(hz:i.zero=some z)(h1:i.size=1)(hz1:z.cells=#[z])
  (kl kc:IntKind) (n:Nat) (hbytes:i.bytes * n<=281474976710656) (h63:n<=maxLen) :
  (Instr.makeSlice t (.int kl (n:Int)) (.int kc (n:Int))).run P w=.ok (.slice (some ⟨w.heap.size,0,none⟩) n n) (w.alloc (.cells (List.replicate n z).toArray e)):=by
 have hb':(i.bytes:Int) * (n:Int)<=281474976710656:=by
  have h:((i.bytes * n:Nat):Int)<=281474976710656:=by omega
  rwa [Int.natCast_mul]at h
 have hr:=run_make (P:=P) w t e i z ht hi hz kl kc n n vO (Int.le_refl _) hb' (by unfold maxLen at h63;omega);rw[hr,h1,hz1];simp only[Int.toNat_natCast,Nat.mul_one]
 congr 3
 exact Array.ext' (by rw[toList_madeCells_one])
theorem sA{α:Type _}(l:List α)(i:Nat)(a:α):l.toArray.setIfInBounds i a=(l.set i a).toArray:=List.setIfInBounds_toArray l i a
theorem sB{α:Type _}{x:α}{xs:List α}{a:α}:(x :: xs).set 0 a=a :: xs:=List.set_cons_zero
theorem sC{α:Type _}{x:α}{xs:List α}{i:Nat}{a:α}:(x :: xs).set (i+1) a=x :: xs.set i a:=List.set_cons_succ
theorem Hd{p:Prop}(h:p):RowKit.Hid p:=h
theorem _root_.Go.RowKit.Hid.o{p:Prop}(h:RowKit.Hid p):p:=h
end
end Go.Proofs.YtcpnjmcipainpaaGreatDoor
