/- A part of the proof that the last file tells. -/
import Derived.WalkKit
import Derived.Lib.Strings
import Derived.ProofKit
import Derived.IntWalk
namespace Go
open Go.RowKit
theorem _root_.Go.RowKit.Hid.o {p:Prop} (h:Hid p):p:=h
theorem ae (p:Prop) (h:p):Hid p:=h
theorem aa:type_of% @Nat.le_refl:=@Nat.le_refl
theorem GF:type_of% @List.setIfInBounds_toArray:=@List.setIfInBounds_toArray
theorem GG:type_of% @List.set_cons_zero:=@List.set_cons_zero
theorem aj:type_of% @List.length_cons:=@List.length_cons
theorem af:type_of% @Below.refl:=@Below.refl
theorem aw:type_of% @List.length_append:=@List.length_append
theorem au:type_of% @Option.some.inj:=@Option.some.inj
theorem bI:type_of% @IntWalk.i64_in:=@IntWalk.i64_in
theorem aA:type_of% @List.length_drop:=@List.length_drop
theorem GH:type_of% @AllReady.cons:=@AllReady.cons
theorem aF:type_of% @World.size_alloc:=@World.size_alloc
theorem cn:type_of% @List.drop_eq_getElem_cons:=@List.drop_eq_getElem_cons
theorem bj:type_of% @Nat.zero_le:=@Nat.zero_le
theorem aK:type_of% @List.length_nil:=@List.length_nil
theorem dc:type_of% @List.drop_eq_nil_of_le:=@List.drop_eq_nil_of_le
theorem qY:type_of% @List.all_eq_true:=@List.all_eq_true
theorem cS:type_of% @Bool.and_eq_true:=@Bool.and_eq_true
theorem br:type_of% @Nat.le_trans:=@Nat.le_trans
theorem cL:type_of% @List.mem_cons_of_mem:=@List.mem_cons_of_mem
theorem bX:type_of% @List.mem_cons_self:=@List.mem_cons_self
theorem cr:type_of% @List.length_take:=@List.length_take
theorem fI:type_of% @List.length_map:=@List.length_map
theorem gH:type_of% @List.eq_nil_of_length_eq_zero:=@List.eq_nil_of_length_eq_zero
theorem cT:type_of% @List.append_assoc:=@List.append_assoc
theorem dH:type_of% @List.append_nil:=@List.append_nil
theorem cI:type_of% @List.getElem_mem:=@List.getElem_mem
theorem aP:type_of% @beq_eq_false_iff_ne:=@beq_eq_false_iff_ne
theorem GI:type_of% @Nat.not_lt_zero:=@Nat.not_lt_zero
theorem cJ:type_of% @Nat.lt_of_lt_of_le:=@Nat.lt_of_lt_of_le
theorem xy:type_of% @beq_self_eq_true:=@beq_self_eq_true
theorem uw:type_of% @List.getElem_append_left:=@List.getElem_append_left
theorem dB:type_of% @List.drop_drop:=@List.drop_drop
end Go
