/- Short names for what comes again and again. -/
import Derived.Test.YtgmmpefjadjajaaGreatDoorProg
import Derived.WalkKit
namespace Go.Proofs.YtgmmpefjadjajaaGreatDoor
open Go.Proofs.Tryz
open Go
variable {a:Array Value}{f:FuncId}{m n:Nat}{F:Nat->Prop}{P:Program}{p q:Prop}{v:Value}{w:World}
abbrev vB:=ByteArray
theorem vE{α:Sort _}(a:α):∃ x,x=a:=⟨a,rfl⟩
theorem vC{R:World→Prop}{Q:Ending→World→Prop}(h:Calls P f a w λe w'=>e=.returned v∧R w')(k:∀ w',R w'→Q (.returned v) w'):Calls P f a w Q:=h.mono λe w' h=>by obtain⟨rfl,h⟩:=h;exact k w' h
theorem vX (f:FuncId)(h:∀ args w,(callFunc f args).run prog w=.ok (.enter f args) w:=by exact λ_ _=>by kernel_rfl):∀ args w,(callFunc f args).run prog w=.ok (.enter f args) w:=h
def vQ:=@Calls prog
theorem vO(h:p:=by omega):p:=h
theorem vY(h:p:=by kernel_rfl):p:=h
theorem vF(h:p:=by rfl):p:=h
theorem vI(h:p:=by decide):p:=h
theorem vH{R:World->Prop}{Q:Ending->World->Prop}(h:Calls P f a w λe w'=>e=.returned v/\R w')(k:∀ w',RowKit.Hid (R w')->Q (.returned v) w'):Calls P f a w Q:=vC h k
theorem vJ(h:p:=by simp[intOf];omega):p:=h
abbrev vW:=World
abbrev vV:=Value
abbrev vU:=UInt8
abbrev vM:=List vB
abbrev vN:=List UInt8
theorem bA:type_of% @And.intro:=@And.intro
theorem bB:type_of% @List.getElem?_eq_getElem:=@List.getElem?_eq_getElem
theorem bC:type_of% @List.mem_map:=@List.mem_map
theorem bD:type_of% @List.mem_of_getElem?:=@List.mem_of_getElem?
theorem bE:type_of% @Nat.lt_of_lt_of_le:=@Nat.lt_of_lt_of_le
theorem bF:type_of% @List.eq_nil_of_length_eq_zero:=@List.eq_nil_of_length_eq_zero
theorem bG:type_of% @List.mem_singleton:=@List.mem_singleton
theorem bH:type_of% @Nat.le_trans:=@Nat.le_trans
theorem bI:type_of% @List.getElem?_eq_some_iff:=@List.getElem?_eq_some_iff
theorem bJ:type_of% @World.size_alloc:=@World.size_alloc
theorem bK:type_of% @List.length_append:=@List.length_append
theorem bL:type_of% @List.getD_eq_getElem?_getD:=@List.getD_eq_getElem?_getD
theorem bM:type_of% @List.mem_cons_of_mem:=@List.mem_cons_of_mem
theorem bN:type_of% @List.mem_cons_self:=@List.mem_cons_self
theorem bO:type_of% @Nat.le_refl:=@Nat.le_refl
theorem bP:type_of% @List.map_cons:=@List.map_cons
theorem bQ:type_of% @List.length_cons:=@List.length_cons
theorem bR:type_of% @List.mem_append:=@List.mem_append
theorem bS:type_of% @Sem.run_bind:=@Sem.run_bind
theorem bT:type_of% @List.length_map:=@List.length_map
theorem bU:type_of% @List.mem_cons:=@List.mem_cons
theorem bV:type_of% @Option.some.inj:=@Option.some.inj
theorem bW:type_of% @List.map_append:=@List.map_append
theorem bX:type_of% @Nat.zero_add:=@Nat.zero_add
theorem bY:type_of% @List.getElem?_map:=@List.getElem?_map
theorem bZ:type_of% @List.append_assoc:=@List.append_assoc
theorem cA:type_of% @ByteArray.toList_eq:=@ByteArray.toList_eq
theorem cB:type_of% @List.take_add_one:=@List.take_add_one
theorem cC:type_of% @List.append_nil:=@List.append_nil
theorem cD:type_of% @Nat.zero_le:=@Nat.zero_le
theorem cE:type_of% @List.mem_filter:=@List.mem_filter
theorem cF:type_of% @List.take_length:=@List.take_length
theorem cG:type_of% @List.take_of_length_le:=@List.take_of_length_le
theorem cH:type_of% @Bool.false_eq_true:=@Bool.false_eq_true
theorem cI:type_of% @Bool.and_eq_true:=@Bool.and_eq_true
theorem cJ:type_of% @List.getElem?_append_left:=@List.getElem?_append_left
theorem cL:type_of% @List.nil_append:=@List.nil_append
theorem cM:type_of% @List.contains_iff_mem:=@List.contains_iff_mem
theorem cN:type_of% @List.getElem?_append_right:=@List.getElem?_append_right
theorem cO:type_of% @ByteArray.size_append:=@ByteArray.size_append
theorem cP:type_of% @List.take_succ_eq_append_getElem:=@List.take_succ_eq_append_getElem
theorem cQ:type_of% @List.size_toArray:=@List.size_toArray
theorem cR:type_of% @List.length_take:=@List.length_take
theorem cS:type_of% @List.cons_append:=@List.cons_append
theorem cT:type_of% @Sem.run_pure:=@Sem.run_pure
theorem cU:type_of% @Array.replicate_zero:=@Array.replicate_zero
theorem cV:type_of% @Array.replicate_succ:=@Array.replicate_succ
theorem cW:type_of% @Option.isSome_iff_exists:=@Option.isSome_iff_exists
theorem cX:type_of% @List.take_append_drop:=@List.take_append_drop
theorem cY:type_of% @List.append_toArray:=@List.append_toArray
theorem cZ:type_of% @List.length_nil:=@List.length_nil
theorem dA:type_of% @List.map_congr_left:=@List.map_congr_left
theorem dB:type_of% @List.map_map:=@List.map_map
theorem dC:type_of% @List.push_toArray:=@List.push_toArray
theorem dD:type_of% @Array.getElem?_eq_some_iff:=@Array.getElem?_eq_some_iff
theorem dE:type_of% @List.mem_flatMap:=@List.mem_flatMap
theorem dF:type_of% @Value.slice.inj:=@Value.slice.inj
theorem dG:type_of% @List.set_cons_succ:=@List.set_cons_succ
theorem dH:type_of% @Option.map_eq_some_iff:=@Option.map_eq_some_iff
theorem dI:type_of% @ByteArray.size_extract:=@ByteArray.size_extract
theorem dJ:type_of% @List.flatMap_cons:=@List.flatMap_cons
theorem dK:type_of% @Bool.eq_false_iff:=@Bool.eq_false_iff
theorem dL:type_of% @List.nodup_cons:=@List.nodup_cons
theorem dM:type_of% @List.set_cons_zero:=@List.set_cons_zero
theorem dN:type_of% @ByteArray.data_append:=@ByteArray.data_append
theorem dO:type_of% @UInt8.toNat_inj:=@UInt8.toNat_inj
theorem dP:type_of% @List.getElem?_of_mem:=@List.getElem?_of_mem
theorem dQ:type_of% @List.foldl_cons:=@List.foldl_cons
theorem dR:type_of% @List.getElem_mem:=@List.getElem_mem
theorem dS:type_of% @List.flatMap_append:=@List.flatMap_append
theorem dU:type_of% @UInt8.lt_iff_toNat_lt:=@UInt8.lt_iff_toNat_lt
theorem dV:type_of% @List.set_append_right:=@List.set_append_right
theorem dW:type_of% @List.nodup_append:=@List.nodup_append
theorem dX:type_of% @World.block_lt_of_cell?:=@World.block_lt_of_cell?
theorem dY:type_of% @List.mem_range:=@List.mem_range
theorem dZ:type_of% @List.length_eq_one_iff:=@List.length_eq_one_iff
theorem fA:type_of% @ByteArray.data_extract:=@ByteArray.data_extract
theorem fB:type_of% @List.extract_eq_take_drop:=@List.extract_eq_take_drop
theorem fC:type_of% @List.replicate_succ:=@List.replicate_succ
theorem fD:type_of% @List.getElem?_range:=@List.getElem?_range
theorem fE:type_of% @List.foldl_append:=@List.foldl_append
theorem fF:type_of% @List.length_filter_le:=@List.length_filter_le
theorem fG:type_of% @List.eq_of_mem_replicate:=@List.eq_of_mem_replicate
theorem fH:type_of% @Nat.lt_or_ge:=@Nat.lt_or_ge
theorem fI:type_of% @List.isEmpty_iff:=@List.isEmpty_iff
theorem fJ:type_of% @List.all_eq_true:=@List.all_eq_true
theorem fK:type_of% @World.ownsRow_nil:=@World.ownsRow_nil
theorem fL:type_of% @List.drop_left:=@List.drop_left
theorem fM:type_of% @List.take_succ_cons:=@List.take_succ_cons
theorem fN:type_of% @List.filter_eq_self:=@List.filter_eq_self
theorem fO:type_of% @Array.toList_append:=@Array.toList_append
theorem fP:type_of% @Option.map_some:=@Option.map_some
theorem fQ:type_of% @List.find?_cons:=@List.find?_cons
theorem fR:type_of% @List.mem_or_eq_of_mem_set:=@List.mem_or_eq_of_mem_set
theorem fS:type_of% @UInt8.le_iff_toNat_le:=@UInt8.le_iff_toNat_le
theorem fT:type_of% @World.size_setCell:=@World.size_setCell
theorem fU:type_of% @List.pairwise_cons:=@List.pairwise_cons
theorem fV:type_of% @Array.toList_extract:=@Array.toList_extract
theorem fW:type_of% @Nat.le_succ_of_le:=@Nat.le_succ_of_le
theorem fX:type_of% @List.filterMap_cons:=@List.filterMap_cons
theorem fY:type_of% @List.map_nil:=@List.map_nil
theorem fZ:type_of% @List.drop_of_length_le:=@List.drop_of_length_le
theorem gA:type_of% @List.setIfInBounds_toArray:=@List.setIfInBounds_toArray
theorem gB:type_of% @List.count_pos_iff:=@List.count_pos_iff
theorem gC:type_of% @List.findIdx?_eq_some_iff_getElem:=@List.findIdx?_eq_some_iff_getElem
theorem gD:type_of% @List.pairwise_iff_getElem:=@List.pairwise_iff_getElem
theorem gE:type_of% @List.mem_of_mem_take:=@List.mem_of_mem_take
theorem gF:type_of% @List.mem_map_of_mem:=@List.mem_map_of_mem
theorem gG:type_of% @List.length_pos_iff:=@List.length_pos_iff
theorem gH:type_of% @Nat.mod_eq_of_lt:=@Nat.mod_eq_of_lt
theorem gI:type_of% @List.drop_length:=@List.drop_length
theorem gJ:type_of% @Nat.add_zero:=@Nat.add_zero
theorem gK:type_of% @List.getElem?_set_self:=@List.getElem?_set_self
theorem gL:type_of% @Array.getElem?_eq_none:=@Array.getElem?_eq_none
theorem gM:type_of% @List.range_succ:=@List.range_succ
theorem gN:type_of% @Array.size_push:=@Array.size_push
theorem gO:type_of% @List.pairwise_map:=@List.pairwise_map
theorem gP:type_of% @Bool.not_eq_true':=@Bool.not_eq_true'
theorem gQ:type_of% @Region.noSelect_spec:=@Region.noSelect_spec
theorem gR:type_of% @List.mem_append_left:=@List.mem_append_left
theorem gS:type_of% @List.append_cancel_left_eq:=@List.append_cancel_left_eq
theorem gT:type_of% @Bool.or_eq_false_iff:=@Bool.or_eq_false_iff
theorem gU:type_of% @List.not_mem_nil:=@List.not_mem_nil
theorem gV:type_of% @List.map_set:=@List.map_set
theorem gW:type_of% @List.length_drop:=@List.length_drop
theorem gX:type_of% @List.getLast?_eq_getElem?:=@List.getLast?_eq_getElem?
theorem gY:type_of% @List.drop_eq_getElem_cons:=@List.drop_eq_getElem_cons
theorem gZ:type_of% @List.sum_cons:=@List.sum_cons
theorem iA:type_of% @Array.setIfInBounds_comm:=@Array.setIfInBounds_comm
theorem iB:type_of% @List.length_set:=@List.length_set
theorem iC:type_of% @List.findIdx?_cons:=@List.findIdx?_cons
theorem iD:type_of% @Nat.le_succ:=@Nat.le_succ
theorem iE:type_of% @List.filter_cons_of_pos:=@List.filter_cons_of_pos
theorem iF:type_of% @List.filter_cons_of_neg:=@List.filter_cons_of_neg
theorem iG:type_of% @List.take_zero:=@List.take_zero
theorem iH:type_of% @List.sublist_cons_self:=@List.sublist_cons_self
theorem iI:type_of% @List.length_range:=@List.length_range
theorem iJ:type_of% @List.singleton_append:=@List.singleton_append
theorem iK:type_of% @List.length_replicate:=@List.length_replicate
theorem iL:type_of% @Region.free_spec:=@Region.free_spec
theorem iM:type_of% @Nat.succ_ne_zero:=@Nat.succ_ne_zero
theorem iN:type_of% @List.any_eq_true:=@List.any_eq_true
theorem iO:type_of% @List.Nodup.length_le_of_subset:=@List.Nodup.length_le_of_subset
theorem iP:type_of% @UInt8.lt_irrefl:=@UInt8.lt_irrefl
theorem iQ:type_of% @List.toList_toArray:=@List.toList_toArray
theorem iR:type_of% @List.mergeSort_perm:=@List.mergeSort_perm
theorem iS:type_of% @Nat.zero_mul:=@Nat.zero_mul
theorem iT:type_of% @UInt8.toNat_ofNat':=@UInt8.toNat_ofNat'
theorem iU:type_of% @List.filterMap_eq_nil_iff:=@List.filterMap_eq_nil_iff
theorem iV:type_of% @UInt8.ofNat_toNat:=@UInt8.ofNat_toNat
theorem iW:type_of% @List.getElem?_set:=@List.getElem?_set
theorem iX:type_of% @List.find?_append:=@List.find?_append
theorem iY:type_of% @List.filter_congr:=@List.filter_congr
theorem iZ:type_of% @List.ext_getElem?:=@List.ext_getElem?
theorem jA:type_of% @Int.le_refl:=@Int.le_refl
theorem jB:type_of% @List.filter_cons:=@List.filter_cons
theorem jC:type_of% @List.append_cancel_left:=@List.append_cancel_left
theorem jD:type_of% @Nat.sub_self:=@Nat.sub_self
theorem jE:type_of% @Nat.add_comm:=@Nat.add_comm
theorem jF:type_of% @Act.put_comm:=@Act.put_comm
theorem jG:type_of% @List.getElem?_eq_none:=@List.getElem?_eq_none
theorem jH:type_of% @List.countP_singleton:=@List.countP_singleton
theorem jI:type_of% @List.length_filter_lt_length_iff_exists:=@List.length_filter_lt_length_iff_exists
theorem jJ:type_of% @List.pairwise_append:=@List.pairwise_append
theorem jK:type_of% @List.map_id:=@List.map_id
theorem jL:type_of% @List.count_le_length:=@List.count_le_length
theorem jM:type_of% @UInt32.toNat_ofNat':=@UInt32.toNat_ofNat'
theorem jN:type_of% @List.filter_sublist:=@List.filter_sublist
theorem jO:type_of% @List.map_take:=@List.map_take
theorem kI(h:p):p:=h
theorem kL(h:p)(k:p->q:=by(intro h;omega)):q:=k h
theorem kJ(h:m<=n:=by omega):∀ x,x<m->x=n->F x:=λx a b=>absurd a (by omega)
theorem kZ:∀ x,x<m->False->F x:=λ_ _ h=>h.elim
instance:Coe World Nat:=⟨λw=>w.heap.size⟩
instance:Coe Int Value:=⟨λx=>.int .i64 x⟩
instance:Coe Bool Value:=⟨λx=>.bool x⟩
instance:Coe ByteArray Value:=⟨λx=>.string x⟩
instance:Coe Addr Value:=⟨λx=>.pointer (some x)⟩
instance:Coe Nat Addr:=⟨λb=>⟨b,0,none⟩⟩
instance:Coe World Addr:=⟨λw=>⟨w.heap.size,0,none⟩⟩
instance:Coe Nat Value:=⟨λb=>.pointer (some ⟨b,0,none⟩)⟩
instance:Coe World Value:=⟨λw=>.pointer (some ⟨w.heap.size,0,none⟩)⟩
structure kA where
structure kB where
structure kC where
def qa:kA:=⟨⟩
def qe:kB:=⟨⟩
def qg:kC:=⟨⟩
instance:Coe Unit ByteArray:=⟨λ_=>⟨#[]⟩⟩
instance:Coe Unit Value:=⟨λ_=>.string ⟨#[]⟩⟩
instance:Coe kA Value:=⟨λ_=>.int .i64 0⟩
instance:Coe kB Value:=⟨λ_=>.slice none 0 0⟩
instance:Coe kC Value:=⟨λ_=>.nilIface⟩
theorem zf{α:Sort _}{P:α->Prop}(h:∀ x,P x:=by intro x;kernel_rfl):∀ x,P x:=h
theorem zh{α:Sort _}{Q P:α->Prop}(h:∀ x,Q x->P x:=by intro x _;kernel_rfl):∀ x,Q x->P x:=h
theorem zc{p:Prop}(h:p:=by simp[Value.oneCell']):p:=h
theorem zd{p:Prop}(h:p:=by simp;omega):p:=h
theorem zi{p:Prop}(h:p:=by unfold maxLen;omega):p:=h
theorem ze{p:Prop}(h:p:=by decide +kernel):p:=h
theorem _root_.And.b{a b c:Prop}(h:a/\b/\c):b:=h.2.1
theorem _root_.And.c{a b c d:Prop}(h:a/\b/\c/\d):c:=h.2.2.1
theorem _root_.And.d{a b c d e:Prop}(h:a/\b/\c/\d/\e):d:=h.2.2.2.1
theorem _root_.And.e{a b c d e f:Prop}(h:a/\b/\c/\d/\e/\f):e:=h.2.2.2.2.1
theorem _root_.And.i{a b c d e f g:Prop}(h:a/\b/\c/\d/\e/\f/\g):f:=h.2.2.2.2.2.1
theorem _root_.And.C{a b c:Prop}(h:a/\b/\c):c:=h.2.2
theorem _root_.And.D{a b c d:Prop}(h:a/\b/\c/\d):d:=h.2.2.2
theorem _root_.And.E{a b c d e:Prop}(h:a/\b/\c/\d/\e):e:=h.2.2.2.2
theorem _root_.And.I{a b c d e f:Prop}(h:a/\b/\c/\d/\e/\f):f:=h.2.2.2.2.2
theorem kT{a b c:Prop}(ha:a)(hb:b)(hc:c):a/\b/\c:=⟨ha,hb,hc⟩
theorem kU{a b c d:Prop}(ha:a)(hb:b)(hc:c)(hd:d):a/\b/\c/\d:=⟨ha,hb,hc,hd⟩
theorem kX{a b c d e:Prop}(ha:a)(hb:b)(hc:c)(hd:d)(he:e):a/\b/\c/\d/\e:=⟨ha,hb,hc,hd,he⟩
theorem kY{a b c d e f:Prop}(ha:a)(hb:b)(hc:c)(hd:d)(he:e)(hf:f):a/\b/\c/\d/\e/\f:=⟨ha,hb,hc,hd,he,hf⟩
theorem kQ{a b c d e f g:Prop}(ha:a)(hb:b)(hc:c)(hd:d)(he:e)(hf:f)(hg:g):a/\b/\c/\d/\e/\f/\g:=⟨ha,hb,hc,hd,he,hf,hg⟩
theorem kR{a b c d e f g h:Prop}(ha:a)(hb:b)(hc:c)(hd:d)(he:e)(hf:f)(hg:g)(hh:h):a/\b/\c/\d/\e/\f/\g/\h:=⟨ha,hb,hc,hd,he,hf,hg,hh⟩
theorem kP{a b c d e f g h i j:Prop}(ha:a)(hb:b)(hc:c)(hd:d)(he:e)(hf:f)(hg:g)(hh:h)(hi:i)(hj:j):a/\b/\c/\d/\e/\f/\g/\h/\i/\j:=⟨ha,hb,hc,hd,he,hf,hg,hh,hi,hj⟩
theorem kM{a b c d e f g h i j k:Prop}(ha:a)(hb:b)(hc:c)(hd:d)(he:e)(hf:f)(hg:g)(hh:h)(hi:i)(hj:j)(hk:k):a/\b/\c/\d/\e/\f/\g/\h/\i/\j/\k:=⟨ha,hb,hc,hd,he,hf,hg,hh,hi,hj,hk⟩
theorem kN{a b c d e f g h i j k l:Prop}(ha:a)(hb:b)(hc:c)(hd:d)(he:e)(hf:f)(hg:g)(hh:h)(hi:i)(hj:j)(hk:k)(hl:l):a/\b/\c/\d/\e/\f/\g/\h/\i/\j/\k/\l:=⟨ha,hb,hc,hd,he,hf,hg,hh,hi,hj,hk,hl⟩
