/- HierarchyMixed: for every input the call returns true and its arguments read as before. The walk is HlMiW's; here: from the walk to the given statement. -/
import Derived.Test.YtpfiofgchkfkhaaRows
import Derived.Test.YtpfiofgchkfkhaaCHlMiW
import Derived.WalkKit
import Derived.ProofKit
import Derived.OpenShut
import Derived.ShutString
import Derived.ChangeOld
import Derived.Below
import Derived.HandedShaped
import Derived.SizedLaws
import Derived.ChangeArms
namespace Go.Proofs.Ytpfiofgchkfkhaa.hierarchyMixed
open Go.ChangeShapes Go.WideShapes Go.ChangeAt Go.RowKit
open Go.ChangeMaps (open_string shut_string)
set_option linter.unusedVariables false
theorem own : ownKnob Try.prog.godebug = none := by kernel_rfl
theorem laidOut : laidOutB Try.prog = true := by kernel_rfl
set_option maxRecDepth 100000 in
theorem contract (H : Type) (enc : TypeId × Value → H) (W : World) (base : Nat) (args : Array Value) (ds gs : List (DataW H)) (before : List MemPlace)
    (hval0 : ∀ (j : Nat) t v, Try.f3.params[j]? = some t → args[j]? = some v → Value.okWide Try.prog W .any base t v)
    (hW : DataW.Whole enc Try.prog Try.f3.params.toList Rows.hierarchyMixedSpec.vars false W args.toList ds gs before)
    (hsz : (DataW.weightsEach Try.prog (Try.f3.params.toList ++ Rows.hierarchyMixedSpec.plain.varTypes Try.prog) (ds ++ gs)).all (· ≤ reachBytes) = true) (hsh : W.ShapedOpen Try.prog) :
    Calls Try.prog 3 args W fun e W' => ∃ v, e = .returned v ∧ Rows.hierarchyMixedSpec.post enc Try.prog Try.f3 false true false false W args v W' := by
  have hval : ∀ (j : Nat) t v, Try.f3.params[j]? = some t → args[j]? = some v → Value.okWide Try.prog W .any base t v := hval0
  have hW' := hW
  obtain ⟨p, q, hA0, hV, rfl, hfz, hnd⟩ := hW
  have hA : DataW.TrodAll enc Try.prog W 0 (fun _ => true) true Try.f3.params.toList args.toList ds p := hA0
  rw [Try.params3] at hA hval hsz
  obtain ⟨v0, vs0, d0, ds0, p0, q0, hargs, rfl, rfl, h0, r0⟩ := trodAll_cons hA
  obtain ⟨v1, vs1, d1, ds1, p1, q1, rfl, rfl, rfl, h1, r1⟩ := trodAll_cons r0
  obtain ⟨v2, vs2, d2, ds2, p2, q2, rfl, rfl, rfl, h2, r2⟩ := trodAll_cons r1
  obtain ⟨rfl, rfl, rfl⟩ := trodAll_nil r2
  obtain rfl : args = #[v0, v1, v2] := by cases args; simp_all
  obtain ⟨rfl, rfl⟩ := trodVars_none hV
  obtain ⟨a0, len0, cap0, rfl⟩ := okWide_slice Try.underlying22 (hval 0 22 v0 rfl rfl)
  have k0 := h0
  have lt0 : ∀ x ∈ p0, x.block < W.heap.size := by obtain ⟨m, hm⟩ := k0; exact DataW.trod_lt m _ _ _ hm
  obtain ⟨z0, hz0, hm0, w0⟩ := h0.elim fun _ hf => open_scs hf (hval 0 22 _ rfl rfl)
  obtain ⟨a1, len1, cap1, rfl⟩ := okWide_slice Try.underlying23 (hval 1 23 v1 rfl rfl)
  have k1 := h1
  have lt1 : ∀ x ∈ p1, x.block < W.heap.size := by obtain ⟨m, hm⟩ := k1; exact DataW.trod_lt m _ _ _ hm
  obtain ⟨z1, hz1, hm1, w1⟩ := h1.elim fun _ hf => open_vas hf (hval 1 23 _ rfl rfl)
  obtain ⟨a2, len2, cap2, rfl⟩ := okWide_slice Try.underlying24 (hval 2 24 v2 rfl rfl)
  have k2 := h2
  have lt2 : ∀ x ∈ p2, x.block < W.heap.size := by obtain ⟨m, hm⟩ := k2; exact DataW.trod_lt m _ _ _ hm
  obtain ⟨z2, hz2, hm2, w2⟩ := h2.elim fun _ hf => open_u8sl Try.underlying24 Try.underlying5 (by kernel_rfl) hf
  have hlen2 : len2 ≤ 140737488351232 := by
    obtain ⟨m, hm⟩ := k2
    rcases DataW.trod_slice Try.underlying24 hm with ⟨hcs, _⟩ | ⟨a, l, c, elems, rest, nn, _, hcs, hx, _, _, _, hl, _⟩
    · have h := (Value.slice.inj (List.cons.inj hcs).1).2.1
      rw [h]; exact Nat.zero_le _
    · have h := (Value.slice.inj (List.cons.inj hcs).1).2.1
      have hd := (Prod.mk.inj hx).1
      subst hd
      have hs := sized_slice hsz (j := 2) (t := 24) (e := 5) rfl rfl Try.underlying24
      have hb : Try.prog.bytesOf 5 = 1 := by kernel_rfl
      have hr : reachBytes = 140737488351232 := rfl
      rw [hb, hr, List.length_map, hl, Nat.mul_one] at hs
      rw [h]
      exact Nat.le_trans (Nat.le_add_right _ _) hs
  clear hA0 hval0
  refine (mixed_walk a0 len0 cap0 z0 a1 len1 cap1 z1 a2 len2 cap2 z2 W hz0 hm0 w0 hz1 hm1 w1 hz2 hlen2 w2.1 w2.2 (gm_of hsh)).mono fun e W' ⟨he, bel⟩ => ?_
  subst he
  exact ⟨_, rfl, _, _, _, [], _, [], hW', trodAll_mk1 (shut_bool Try.underlying4 _), (trodAll_cons_mk (Below.trod laidOut (by kernel_rfl) (of_decide_eq_true (by kernel_rfl)) k0 bel lt0) (trodAll_cons_mk (Below.trod laidOut (by kernel_rfl) (of_decide_eq_true (by kernel_rfl)) k1 bel lt1) (trodAll_cons_mk (Below.trod laidOut (by kernel_rfl) (of_decide_eq_true (by kernel_rfl)) k2 bel lt2) trodAll_mk0))), rfl, bel.frame _, fun h => by cases h⟩
set_option maxRecDepth 100000 in
theorem lifted (os : Os) (started : os.Started) (H : Type) (enc : TypeId × Value → H) :
    ReturnsInHanded {} Try.checked os 3 .any (Rows.hierarchyMixedSpec.pre6 enc Try.prog Try.f3 Rows.hierarchyMixedRow.domain false) (Rows.hierarchyMixedSpec.post enc Try.prog Try.f3 false true false false) := by
  refine returnsInHanded_of_change_shaped (C := Try.checked) own started (by kernel_rfl) Try.func3
    (ChangeSpec.witness6 (enc := enc) (C := Try.checked) false ⟨#[], #[.slice none 0 0, .slice none 0 0, .slice none 0 0], []⟩ 8 (by kernel_rfl) (by kernel_rfl) (by kernel_rfl) (by kernel_rfl)) ?_
  intro W base args ds gs before hval hW _ hsz hsh _
  exact contract H enc W base args ds gs before hval hW hsz hsh
theorem over : Rows.hierarchyMixedRow.holds Try.pinned (OpenSpec.ofChange Rows.hierarchyMixedSpec) :=
  OpenClaim.holds_of_wide 3 Try.f3 rfl rfl rfl rfl rfl rfl rfl ⟨rfl, rfl, rfl, rfl, rfl⟩ rfl rfl rfl rfl rfl (by kernel_rfl) Try.func3 (by kernel_rfl)
    (of_decide_eq_true (by kernel_rfl)) (by unfold Func.isWrapper; first | (rw [if_pos (by decide +kernel)]; kernel_rfl) | (rw [if_neg (by decide +kernel)]; exact ⟨rfl, rfl⟩))
    (fun os started H enc _ => lifted os started H enc)
theorem proved : Rows.HierarchyMixedSaid := over
end Go.Proofs.Ytpfiofgchkfkhaa.hierarchyMixed
namespace Go.Proofs.Ytpfiofgchkfkhaa
theorem hierarchyMixed_holds : Rows.HierarchyMixedSaid := hierarchyMixed.proved
#print axioms hierarchyMixed_holds
end Go.Proofs.Ytpfiofgchkfkhaa
