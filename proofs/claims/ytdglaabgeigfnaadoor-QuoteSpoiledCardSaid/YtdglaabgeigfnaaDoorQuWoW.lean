/- The walk of the law QuoteWords. -/
import Derived.Test.YtdglaabgeigfnaaDoorQuK
set_option linter.unusedVariables false
namespace Go.Proofs.YtdglaabgeigfnaaDoor.quoteWords
open Go.RowKit Go.Shelf

theorem joinTail_len (r : List (List UInt8)) (h : ∀ x ∈ r, x.length ≤ 300) : (Lib.joinTail [32] r).length ≤ 301 * r.length := by
  induction r with
  | nil => simp [Lib.joinTail]
  | cons x r ih =>
    have h1 := h x (by simp)
    have h2 := ih (fun y hy => h y (by simp [hy]))
    have e : Lib.joinTail [32] (x :: r) = [32] ++ x ++ Lib.joinTail [32] r := by simp [Lib.joinTail]
    rw [e, List.length_append, List.length_append, List.length_cons]
    simp only [List.length_cons, List.length_nil]
    omega
theorem join_few (L : List ByteArray) (h : fewB L = true) : (Lib.join (lists L) [32]).length ≤ 30000 := by
  obtain ⟨h1, h2⟩ := fewB_spec h
  have h3 : ∀ x ∈ lists L, x.length ≤ 300 := by
    intro x hx
    unfold lists at hx
    obtain ⟨s, hs, rfl⟩ := List.mem_map.1 hx
    have := h2 s hs
    rw [← Lib.size_eq]; exact this
  have h4 : (lists L).length = L.length := by unfold lists; simp
  cases hl : lists L with
  | nil => rw [Lib.join_nil]; simp
  | cons x r =>
    rw [hl] at h3 h4
    rw [Lib.join_cons, List.length_append]
    have := joinTail_len r (fun y hy => h3 y (by simp [hy]))
    have := h3 x (by simp)
    simp only [List.length_cons] at h4
    omega

set_option maxHeartbeats 4000000 in
theorem walk (a0 : ByteArray) (A : Option Addr) (len cap : Nat) (L : List ByteArray) (w : World) (w0 : a0.size ≤ maxLen) (hl : L.length = len) (hm : len ≤ maxLen) (hw : Sl Value.string w A L ∧ (∀ s ∈ L, s.size ≤ maxLen) ∧ len ≤ cap) :
    Calls Tryd.prog 4 #[.string a0, .slice A len cap] w fun e w' => e = .returned (.bool true) ∧ Below w.heap.size w w' := by
  subst hl
  obtain ⟨hsl, _, hcap⟩ := hw
  have HM := hide hm
  unfold maxLen at w0
  by_cases h0 : (300 : Int) < (a0.size : Int)
  · clear hsl hm
    go_enter Tryd.func4, Tryd.ntmps4
    go_wp2_with fail
    refine (awake_any _).mono ?_
    rintro e w1 ⟨rfl, hB1⟩
    have B1 := hide hB1
    clear hB1
    go_wp2
    go_ret
    exact ⟨rfl, B1.out⟩
  have FW := hide (fun (W : World) (hb : Below w.heap.size w W) => Few_any A L.length cap L W rfl HM.out (hsl.below hb))
  by_cases hf : fewB L = true
  · rw [hf] at FW
    obtain ⟨f1, f2⟩ := fewB_spec hf
    have hj := join_few L hf
    have J1 := hide (fun (W : World) (hb : Below w.heap.size w W) => Join_any A L.length cap L W rfl (hsl.below hb) hcap (by omega) (by omega))
    have J2 := hide (fun (W : World) (hb : Below w.heap.size w W) => refJoin_any A L.length cap L W rfl (hsl.below hb) (by omega) (by omega) (fun s hs => by have := f2 s hs; omega))
    have V1 := hide (fun W : World => ValidWords_any a0 W (by omega))
    have V2 := hide (fun W : World => refValidWords_any a0 W (by omega))
    have X1 := hide (fun W : World => Words_any a0 W (by omega))
    have X2 := hide (fun W : World => refWords_any a0 W (by omega))
    have hwl : (wordsRes a0).length ≤ 301 := by
      unfold wordsRes
      split
      · simp
      · split
        · have := splitL_bd 32 a0.data.toList; rw [← Lib.size_eq] at this
          unfold splitB; rw [List.length_map]; omega
        · simp
    generalize wordsRes a0 = R at X1 X2 hwl
    generalize joinRes L = jr at J1 J2
    generalize vwB a0 = vb at V1 V2
    have HWL := hide hwl
    clear hsl hcap hf f1 f2 hj hwl hm
    go_enter Tryd.func4, Tryd.ntmps4
    go_wp2_with fail
    refine (awake_any _).mono ?_
    rintro e w1 ⟨rfl, hB1⟩
    have B1 := hide hB1
    clear hB1
    go_wp2_with fail
    refine (FW.out _ B1.out).mono ?_
    rintro e wf ⟨rfl, rfl⟩
    go_wp2_with fail
    refine (J1.out _ B1.out).mono ?_
    rintro e w2 ⟨rfl, hB2⟩
    have B2 := hide hB2
    clear hB2
    have B12 := hide (B1.out.trans (B2.out.mono B1.out.size))
    go_wp2_with fail
    refine (J2.out _ B12.out).mono ?_
    rintro e w3 ⟨rfl, rfl⟩
    go_wp2_with fail
    refine (V1.out _).mono ?_
    rintro e w4 ⟨rfl, hB4⟩
    have B4 := hide hB4
    clear hB4
    go_wp2_with fail
    refine (V2.out _).mono ?_
    rintro e w5 ⟨rfl, hB5⟩
    have B5 := hide hB5
    clear hB5
    go_wp2_with fail
    refine (X1.out _).mono ?_
    rintro e w6 ⟨A6, c6, rfl, s6, _, _, hB6⟩
    have S6 := hide s6
    have B6 := hide hB6
    clear s6 hB6
    go_wp2_with fail
    refine (X2.out _).mono ?_
    rintro e w7 ⟨A7, c7, rfl, s7, _, _, hB7⟩
    have S7 := hide s7
    have B7 := hide hB7
    clear s7 hB7
    go_wp2_with fail
    refine (Texts_eq A6 A7 _ _ c6 c7 R w7 rfl rfl (by have := HWL.out; omega) (S6.out.below B7.out) S7.out).mono ?_
    rintro e w8 ⟨rfl, hB8⟩
    have B8 := hide hB8
    clear hB8
    go_wp2
    go_ret
    exact ⟨rfl, ((((B12.out.trans (B4.out.mono B12.out.size)).trans (B5.out.mono (by have := B12.out.size; have := B4.out.size; omega))).trans (B6.out.mono (by have := B12.out.size; have := B4.out.size; have := B5.out.size; omega))).trans (B7.out.mono (by have := B12.out.size; have := B4.out.size; have := B5.out.size; have := B6.out.size; omega))).trans (B8.out.mono (by have := B12.out.size; have := B4.out.size; have := B5.out.size; have := B6.out.size; have := B7.out.size; omega))⟩
  · rw [show fewB L = false by simpa using hf] at FW
    clear hsl hcap hf hm
    go_enter Tryd.func4, Tryd.ntmps4
    go_wp2_with fail
    refine (awake_any _).mono ?_
    rintro e w1 ⟨rfl, hB1⟩
    have B1 := hide hB1
    clear hB1
    go_wp2_with fail
    refine (FW.out _ B1.out).mono ?_
    rintro e wf ⟨rfl, rfl⟩
    go_wp2
    go_ret
    exact ⟨rfl, B1.out⟩
end Go.Proofs.YtdglaabgeigfnaaDoor.quoteWords
