/- Short names for what comes again and again. -/
import Derived.Test.YtebhlcllhigkcaaGreatDoorProg
import Derived.WalkKit
namespace Go.Proofs.YtebhlcllhigkcaaGreatDoor
open Go.Proofs.Tryz
open Go
variable {a:Array Value}{f:FuncId}{m n:Nat}{F:Nat->Prop}{P:Program}{p q:Prop}{v:Value}{w:World}
abbrev vB:=ByteArray
theorem vE{α:Sort _}(a:α):∃ x,x=a:=⟨a,rfl⟩
theorem vC{R:World→Prop}{Q:Ending→World→Prop}(h:Calls P f a w fun e w'=>e=.returned v∧R w')(k:∀ w',R w'→Q (.returned v) w'):Calls P f a w Q:=h.mono fun e w' h=>by obtain⟨rfl,h⟩:=h;exact k w' h
theorem vX (f:FuncId)(h:∀ args w,(callFunc f args).run prog w=.ok (.enter f args) w:=by exact fun _ _=>by kernel_rfl):∀ args w,(callFunc f args).run prog w=.ok (.enter f args) w:=h
def vQ:=@Calls prog
theorem vO(h:p:=by omega):p:=h
theorem vY(h:p:=by kernel_rfl):p:=h
theorem vF(h:p:=by rfl):p:=h
theorem vI(h:p:=by decide):p:=h
theorem vH{R:World->Prop}{Q:Ending->World->Prop}(h:Calls P f a w fun e w'=>e=.returned v/\R w')(k:∀ w',RowKit.Hid (R w')->Q (.returned v) w'):Calls P f a w Q:=vC h k
theorem vJ(h:p:=by simp[intOf];omega):p:=h
abbrev vW:=World
abbrev vV:=Value
abbrev vU:=UInt8
abbrev vM:=List vB
abbrev vN:=List UInt8
theorem bA:type_of% @And.intro:=@And.intro
theorem bB:type_of% @List.getElem?_eq_getElem:=@List.getElem?_eq_getElem
theorem bC:type_of% @List.mem_map:=@List.mem_map
theorem bD:type_of% @Nat.lt_of_lt_of_le:=@Nat.lt_of_lt_of_le
theorem bE:type_of% @List.mem_of_getElem?:=@List.mem_of_getElem?
theorem bF:type_of% @Nat.le_trans:=@Nat.le_trans
theorem bG:type_of% @World.size_alloc:=@World.size_alloc
theorem bH:type_of% @List.eq_nil_of_length_eq_zero:=@List.eq_nil_of_length_eq_zero
theorem bI:type_of% @List.getElem?_eq_some_iff:=@List.getElem?_eq_some_iff
theorem bJ:type_of% @List.length_append:=@List.length_append
theorem bK:type_of% @List.getD_eq_getElem?_getD:=@List.getD_eq_getElem?_getD
theorem bL:type_of% @List.mem_singleton:=@List.mem_singleton
theorem bM:type_of% @Nat.le_refl:=@Nat.le_refl
theorem bN:type_of% @List.mem_cons_of_mem:=@List.mem_cons_of_mem
theorem bO:type_of% @List.map_cons:=@List.map_cons
theorem bP:type_of% @List.mem_cons_self:=@List.mem_cons_self
theorem bQ:type_of% @Sem.run_bind:=@Sem.run_bind
theorem bR:type_of% @List.length_cons:=@List.length_cons
theorem bS:type_of% @List.mem_append:=@List.mem_append
theorem bT:type_of% @List.length_map:=@List.length_map
theorem bU:type_of% @List.mem_cons:=@List.mem_cons
theorem bV:type_of% @Option.some.inj:=@Option.some.inj
theorem bW:type_of% @List.map_append:=@List.map_append
theorem bX:type_of% @Nat.zero_add:=@Nat.zero_add
theorem bY:type_of% @List.append_assoc:=@List.append_assoc
theorem bZ:type_of% @List.getElem?_map:=@List.getElem?_map
theorem cA:type_of% @ByteArray.toList_eq:=@ByteArray.toList_eq
theorem cB:type_of% @List.take_add_one:=@List.take_add_one
theorem cC:type_of% @List.append_nil:=@List.append_nil
theorem cD:type_of% @List.take_length:=@List.take_length
theorem cE:type_of% @Nat.zero_le:=@Nat.zero_le
theorem cF:type_of% @List.take_of_length_le:=@List.take_of_length_le
theorem cG:type_of% @List.mem_filter:=@List.mem_filter
theorem cH:type_of% @Bool.false_eq_true:=@Bool.false_eq_true
theorem cI:type_of% @Bool.and_eq_true:=@Bool.and_eq_true
theorem cJ:type_of% @List.contains_iff_mem:=@List.contains_iff_mem
theorem cL:type_of% @List.nil_append:=@List.nil_append
theorem cM:type_of% @ByteArray.size_append:=@ByteArray.size_append
theorem cN:type_of% @List.getElem?_append_left:=@List.getElem?_append_left
theorem cO:type_of% @List.getElem?_append_right:=@List.getElem?_append_right
theorem cP:type_of% @List.take_succ_eq_append_getElem:=@List.take_succ_eq_append_getElem
theorem cQ:type_of% @List.size_toArray:=@List.size_toArray
theorem cR:type_of% @List.length_take:=@List.length_take
theorem cS:type_of% @List.cons_append:=@List.cons_append
theorem cT:type_of% @Array.replicate_zero:=@Array.replicate_zero
theorem cU:type_of% @Array.replicate_succ:=@Array.replicate_succ
theorem cV:type_of% @Sem.run_pure:=@Sem.run_pure
theorem cW:type_of% @List.append_toArray:=@List.append_toArray
theorem cX:type_of% @List.take_append_drop:=@List.take_append_drop
theorem cY:type_of% @Option.isSome_iff_exists:=@Option.isSome_iff_exists
theorem cZ:type_of% @List.length_nil:=@List.length_nil
theorem dA:type_of% @List.map_congr_left:=@List.map_congr_left
theorem dB:type_of% @Option.map_eq_some_iff:=@Option.map_eq_some_iff
theorem dC:type_of% @List.push_toArray:=@List.push_toArray
theorem dD:type_of% @List.map_map:=@List.map_map
theorem dE:type_of% @Array.getElem?_eq_some_iff:=@Array.getElem?_eq_some_iff
theorem dF:type_of% @List.set_cons_succ:=@List.set_cons_succ
theorem dG:type_of% @Bool.eq_false_iff:=@Bool.eq_false_iff
theorem dH:type_of% @Value.slice.inj:=@Value.slice.inj
theorem dI:type_of% @ByteArray.size_extract:=@ByteArray.size_extract
theorem dJ:type_of% @List.nodup_cons:=@List.nodup_cons
theorem dK:type_of% @List.set_cons_zero:=@List.set_cons_zero
theorem dL:type_of% @ByteArray.data_append:=@ByteArray.data_append
theorem dM:type_of% @List.mem_flatMap:=@List.mem_flatMap
theorem dN:type_of% @List.flatMap_cons:=@List.flatMap_cons
theorem dO:type_of% @UInt8.toNat_inj:=@UInt8.toNat_inj
theorem dP:type_of% @List.foldl_cons:=@List.foldl_cons
theorem dQ:type_of% @UInt8.lt_iff_toNat_lt:=@UInt8.lt_iff_toNat_lt
theorem dR:type_of% @List.set_append_right:=@List.set_append_right
theorem dS:type_of% @List.nodup_append:=@List.nodup_append
theorem dU:type_of% @World.block_lt_of_cell?:=@World.block_lt_of_cell?
theorem dV:type_of% @List.getElem_mem:=@List.getElem_mem
theorem dW:type_of% @List.replicate_succ:=@List.replicate_succ
theorem dX:type_of% @List.flatMap_append:=@List.flatMap_append
theorem dY:type_of% @List.foldl_append:=@List.foldl_append
theorem dZ:type_of% @List.length_filter_le:=@List.length_filter_le
theorem fA:type_of% @List.mem_range:=@List.mem_range
theorem fB:type_of% @List.eq_of_mem_replicate:=@List.eq_of_mem_replicate
theorem fC:type_of% @Nat.lt_or_ge:=@Nat.lt_or_ge
theorem fD:type_of% @List.isEmpty_iff:=@List.isEmpty_iff
theorem fE:type_of% @List.getElem?_of_mem:=@List.getElem?_of_mem
theorem fF:type_of% @List.all_eq_true:=@List.all_eq_true
theorem fG:type_of% @World.ownsRow_nil:=@World.ownsRow_nil
theorem fH:type_of% @List.drop_left:=@List.drop_left
theorem fI:type_of% @ByteArray.data_extract:=@ByteArray.data_extract
theorem fJ:type_of% @List.take_succ_cons:=@List.take_succ_cons
theorem fK:type_of% @List.getElem?_range:=@List.getElem?_range
theorem fL:type_of% @List.filter_eq_self:=@List.filter_eq_self
theorem fM:type_of% @Array.toList_append:=@Array.toList_append
theorem fN:type_of% @List.find?_cons:=@List.find?_cons
theorem fO:type_of% @List.extract_eq_take_drop:=@List.extract_eq_take_drop
theorem fP:type_of% @UInt8.le_iff_toNat_le:=@UInt8.le_iff_toNat_le
theorem fQ:type_of% @World.size_setCell:=@World.size_setCell
theorem fR:type_of% @Option.map_some:=@Option.map_some
theorem fS:type_of% @List.filterMap_cons:=@List.filterMap_cons
theorem fT:type_of% @List.map_nil:=@List.map_nil
theorem fU:type_of% @List.length_eq_one_iff:=@List.length_eq_one_iff
theorem fV:type_of% @List.drop_of_length_le:=@List.drop_of_length_le
theorem fW:type_of% @List.setIfInBounds_toArray:=@List.setIfInBounds_toArray
theorem fX:type_of% @List.findIdx?_eq_some_iff_getElem:=@List.findIdx?_eq_some_iff_getElem
theorem fY:type_of% @List.pairwise_iff_getElem:=@List.pairwise_iff_getElem
theorem fZ:type_of% @List.mem_or_eq_of_mem_set:=@List.mem_or_eq_of_mem_set
theorem gA:type_of% @List.mem_of_mem_take:=@List.mem_of_mem_take
theorem gB:type_of% @Array.toList_extract:=@Array.toList_extract
theorem gC:type_of% @List.length_pos_iff:=@List.length_pos_iff
theorem gD:type_of% @Nat.mod_eq_of_lt:=@Nat.mod_eq_of_lt
theorem gE:type_of% @List.drop_length:=@List.drop_length
theorem gF:type_of% @Nat.add_zero:=@Nat.add_zero
theorem gG:type_of% @List.count_pos_iff:=@List.count_pos_iff
theorem gH:type_of% @Array.getElem?_eq_none:=@Array.getElem?_eq_none
theorem gI:type_of% @List.range_succ:=@List.range_succ
theorem gJ:type_of% @Array.size_push:=@Array.size_push
theorem gK:type_of% @Bool.not_eq_true':=@Bool.not_eq_true'
theorem gL:type_of% @Region.noSelect_spec:=@Region.noSelect_spec
theorem gM:type_of% @List.append_cancel_left_eq:=@List.append_cancel_left_eq
theorem gN:type_of% @Bool.or_eq_false_iff:=@Bool.or_eq_false_iff
theorem gO:type_of% @List.map_set:=@List.map_set
theorem gP:type_of% @List.length_drop:=@List.length_drop
theorem gQ:type_of% @List.drop_eq_getElem_cons:=@List.drop_eq_getElem_cons
theorem gR:type_of% @List.sum_cons:=@List.sum_cons
theorem gS:type_of% @Array.setIfInBounds_comm:=@Array.setIfInBounds_comm
theorem gT:type_of% @List.findIdx?_cons:=@List.findIdx?_cons
theorem gU:type_of% @List.filter_cons_of_pos:=@List.filter_cons_of_pos
theorem gV:type_of% @List.filter_cons_of_neg:=@List.filter_cons_of_neg
theorem gW:type_of% @List.take_zero:=@List.take_zero
theorem gX:type_of% @List.sublist_cons_self:=@List.sublist_cons_self
theorem gY:type_of% @List.length_range:=@List.length_range
theorem gZ:type_of% @List.getElem?_set_self:=@List.getElem?_set_self
theorem iA:type_of% @List.singleton_append:=@List.singleton_append
theorem iB:type_of% @List.length_replicate:=@List.length_replicate
theorem iC:type_of% @Region.free_spec:=@Region.free_spec
theorem iD:type_of% @Nat.succ_ne_zero:=@Nat.succ_ne_zero
theorem iE:type_of% @List.not_mem_nil:=@List.not_mem_nil
theorem iF:type_of% @List.any_eq_true:=@List.any_eq_true
theorem iG:type_of% @List.Nodup.length_le_of_subset:=@List.Nodup.length_le_of_subset
theorem iH:type_of% @List.mem_append_left:=@List.mem_append_left
theorem iI:type_of% @UInt8.lt_irrefl:=@UInt8.lt_irrefl
theorem iJ:type_of% @List.length_set:=@List.length_set
theorem iK:type_of% @List.mergeSort_perm:=@List.mergeSort_perm
theorem iL:type_of% @List.mem_map_of_mem:=@List.mem_map_of_mem
theorem iM:type_of% @UInt8.toNat_ofNat':=@UInt8.toNat_ofNat'
theorem iN:type_of% @List.pairwise_cons:=@List.pairwise_cons
theorem iO:type_of% @List.filterMap_eq_nil_iff:=@List.filterMap_eq_nil_iff
theorem iP:type_of% @UInt8.ofNat_toNat:=@UInt8.ofNat_toNat
theorem iQ:type_of% @List.pairwise_map:=@List.pairwise_map
theorem iR:type_of% @List.find?_append:=@List.find?_append
theorem iS:type_of% @List.filter_congr:=@List.filter_congr
theorem iT:type_of% @List.ext_getElem?:=@List.ext_getElem?
theorem iU:type_of% @List.append_cancel_left:=@List.append_cancel_left
theorem iV:type_of% @Nat.zero_mul:=@Nat.zero_mul
theorem iW:type_of% @Nat.sub_self:=@Nat.sub_self
theorem iX:type_of% @Nat.add_comm:=@Nat.add_comm
theorem iY:type_of% @Act.put_comm:=@Act.put_comm
theorem iZ:type_of% @List.getElem?_eq_none:=@List.getElem?_eq_none
theorem jA:type_of% @List.length_filter_lt_length_iff_exists:=@List.length_filter_lt_length_iff_exists
theorem jB:type_of% @List.pairwise_append:=@List.pairwise_append
theorem jC:type_of% @List.map_id:=@List.map_id
theorem jD:type_of% @List.count_le_length:=@List.count_le_length
theorem jE:type_of% @Int.le_refl:=@Int.le_refl
theorem jF:type_of% @UInt32.toNat_ofNat':=@UInt32.toNat_ofNat'
theorem jG:type_of% @List.filter_sublist:=@List.filter_sublist
theorem jH:type_of% @List.map_take:=@List.map_take
theorem kI(h:p):p:=h
theorem kL(h:p)(k:p->q:=by(intro h;omega)):q:=k h
theorem kJ(h:m<=n:=by omega):∀ x,x<m->x=n->F x:=fun x a b=>absurd a (by omega)
theorem kZ:∀ x,x<m->False->F x:=fun _ _ h=>h.elim
instance:Coe World Nat:=⟨fun w=>w.heap.size⟩
instance:Coe Int Value:=⟨fun x=>.int .i64 x⟩
instance:Coe Bool Value:=⟨fun x=>.bool x⟩
instance:Coe ByteArray Value:=⟨fun x=>.string x⟩
instance:Coe Addr Value:=⟨fun x=>.pointer (some x)⟩
instance:Coe Nat Addr:=⟨fun b=>⟨b,0,none⟩⟩
instance:Coe World Addr:=⟨fun w=>⟨w.heap.size,0,none⟩⟩
instance:Coe Nat Value:=⟨fun b=>.pointer (some ⟨b,0,none⟩)⟩
instance:Coe World Value:=⟨fun w=>.pointer (some ⟨w.heap.size,0,none⟩)⟩
structure kA where
structure kB where
structure kC where
def qa:kA:=⟨⟩
def qe:kB:=⟨⟩
def qg:kC:=⟨⟩
instance:Coe Unit ByteArray:=⟨fun _=>⟨#[]⟩⟩
instance:Coe Unit Value:=⟨fun _=>.string ⟨#[]⟩⟩
instance:Coe kA Value:=⟨fun _=>.int .i64 0⟩
instance:Coe kB Value:=⟨fun _=>.slice none 0 0⟩
instance:Coe kC Value:=⟨fun _=>.nilIface⟩
theorem zf{α:Sort _}{P:α->Prop}(h:∀ x,P x:=by intro x;kernel_rfl):∀ x,P x:=h
theorem zh{α:Sort _}{Q P:α->Prop}(h:∀ x,Q x->P x:=by intro x _;kernel_rfl):∀ x,Q x->P x:=h
theorem zc{p:Prop}(h:p:=by simp[Value.oneCell']):p:=h
theorem zd{p:Prop}(h:p:=by simp;omega):p:=h
theorem zi{p:Prop}(h:p:=by unfold maxLen;omega):p:=h
theorem ze{p:Prop}(h:p:=by decide +kernel):p:=h
