/- Numbers in decimal: the plain laws, strconv.Itoa, the reference's Decimal. -/
import Derived.Test.YtcjehiecgdmidaaProg
import Derived.Test.YtcjehiecgdmidaaSl
import Derived.Test.YtcjehiecgdmidaaTsJ
import Derived.Test.YtcjehiecgdmidaaShelfD
import Derived.Test.YtcjehiecgdmidaaGl
import Derived.Lib.QuietBelow
import Derived.Lib.ItoaLen
import Derived.Lib.LaidTab
import Derived.IntWalk
set_option linter.unusedVariables false
namespace Go.Proofs.Ytcjehiecgdmidaa
open Go.RowKit Go.Shelf Go.Sort

theorem ret_b {a b : Bool} (h : a = b) : Ending.returned (.bool b) = .returned (.bool a) := by rw [h]
theorem ret_s {a b : ByteArray} (h : a = b) : Ending.returned (.string b) = .returned (.string a) := by rw [h]

theorem Below_grown {w : World} (k : Nat) (os : Array Obj) : Below w.heap.size w (grow (w.drewN k) os) :=
  ⟨rfl, rfl, rfl, by simp [grow, World.drewN], fun j hj => by simp [grow, World.drewN, Array.getElem?_append, hj]⟩

theorem dec_all (n : Nat) : (∀ c ∈ Lib.decDigits n, isD c = true) ∧ dv (Lib.decDigits n) = n ∧ 1 ≤ (Lib.decDigits n).length ∧ ∀ k, 1 ≤ k → n < 10 ^ k → (Lib.decDigits n).length ≤ k := by
  induction n using Nat.strongRecOn with
  | _ n ih =>
  by_cases hs : n < 10
  · have e : Lib.decDigits n = [UInt8.ofNat (48 + n)] := by rw [Lib.decDigits, dif_pos hs]
    have hc : (UInt8.ofNat (48 + n)).toNat = 48 + n := by rw [UInt8.toNat_ofNat', Nat.mod_eq_of_lt (by omega)]
    rw [e]
    refine ⟨fun c h => ?_, ?_, by simp, fun k h1 h2 => by simpa using h1⟩
    · obtain rfl : c = UInt8.ofNat (48 + n) := by simpa using h
      unfold isD; rw [decide_eq_true_eq, hc]; omega
    · show 10 * 0 + ((UInt8.ofNat (48 + n)).toNat - 48) = n
      rw [hc]; omega
  · have e : Lib.decDigits n = Lib.decDigits (n / 10) ++ [UInt8.ofNat (48 + n % 10)] := by rw [Lib.decDigits, dif_neg hs]
    have hc : (UInt8.ofNat (48 + n % 10)).toNat = 48 + n % 10 := by rw [UInt8.toNat_ofNat', Nat.mod_eq_of_lt (by omega)]
    obtain ⟨i1, i2, i3, i4⟩ := ih (n / 10) (by omega)
    rw [e]
    refine ⟨fun c h => ?_, ?_, by simp, fun k h1 h2 => ?_⟩
    · rcases List.mem_append.1 h with h | h
      · exact i1 c h
      · obtain rfl : c = UInt8.ofNat (48 + n % 10) := by simpa using h
        unfold isD; rw [decide_eq_true_eq, hc]; omega
    · rw [dv_snoc, i2, hc]; omega
    · obtain ⟨k', rfl⟩ : ∃ k', k = k' + 1 := ⟨k - 1, by omega⟩
      rw [List.length_append]
      show _ + 1 ≤ _
      have h3 : n / 10 < 10 ^ k' := by rw [Nat.pow_succ] at h2; omega
      have hk' : 1 ≤ k' := by
        rcases Nat.eq_zero_or_pos k' with h | h
        · subst h; simp at h2; omega
        · exact h
      have := i4 k' hk' h3
      omega
theorem nd_app (l r : List UInt8) (h : ∀ c ∈ l, isD c = true) (hr : ∀ c, r.head? = some c → isD c = false) : nd (l ++ r) = l.length := by
  unfold nd
  induction l with
  | nil =>
    rcases r with _ | ⟨c, r⟩
    · rfl
    · have := hr c rfl
      simp [this]
  | cons a l ih =>
    have h1 := h a (by simp)
    have h2 := ih (fun c hc => h c (by simp [hc]))
    rw [List.cons_append, List.takeWhile_cons, h1]
    simpa using h2
theorem _root_.Go.Below_of_drew {B : Nat} {w w' : World} (h : Below B w.drew w') : Below B w w' := ⟨h.os, h.tape, h.output, h.size, h.block⟩
/-- a number in decimal -/
def decB (n : Int) : ByteArray := ⟨(Lib.itoa n).toArray⟩
theorem decB_size (n : Int) (h0 : 0 ≤ n) (h1 : n ≤ 999999999999999) : (decB n).size ≤ 21 := by
  have := Lib.itoa_length_le n (by omega) (by omega)
  show (Lib.itoa n).toArray.size ≤ 21
  simpa using this
theorem cat_run {P : Program} (a b : ByteArray) (h : a.size + b.size ≤ 1000) (w : World) : (Op.stringOp .add a b).run P w = .ok (.string (a ++ b)) w := run_string_add_sum w _ _ (by omega)
theorem dec_small (n : Nat) (h : n < 10) : decB n = ⟨#[UInt8.ofNat (48 + n % 10)]⟩ := by
  unfold decB
  rw [Lib.itoa_nonneg, Lib.decDigits, dif_pos h, Nat.mod_eq_of_lt h]
theorem dec_big (n : Nat) (h : ¬ n < 10) : decB n = decB ((n / 10 : Nat) : Int) ++ ⟨#[UInt8.ofNat (48 + n % 10)]⟩ := by
  unfold decB
  rw [Lib.itoa_nonneg, Lib.itoa_nonneg, Lib.decDigits, dif_neg h]
  apply ByteArray.ext
  simp
theorem conv1 (w : World) (c : UInt8) : (convert 33 9 (.slice (some ⟨w.heap.size, 0, none⟩) 1 1)).run Try.prog (w.alloc (.cells #[.int .u8 (c.toNat : Int)] 5)) = .ok (.string ⟨#[c]⟩) (w.alloc (.cells #[.int .u8 (c.toNat : Int)] 5)) := by
  refine run_convert_bytes_back _ _ _ 5 ⟨w.heap.size, 0, none⟩ 1 [c] (by kernel_rfl) (by kernel_rfl) (by kernel_rfl) ?_
  intro j hj
  obtain rfl : j = 0 := by simpa using hj
  exact (Row.new w 5 #[.int .u8 (c.toNat : Int)]).cell 0
end Go.Proofs.Ytcjehiecgdmidaa
