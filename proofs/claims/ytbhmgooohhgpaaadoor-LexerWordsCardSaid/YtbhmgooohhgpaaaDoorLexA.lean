/- The leaf functions of package lexer and of the reference: white space, printable, the place behind a byte. -/
import Derived.Test.YtbhmgooohhgpaaaDoorChecked
import Derived.Test.YtbhmgooohhgpaaaDoorCore
namespace Go.Proofs.YtbhmgooohhgpaaaDoor
open Go.RowKit

theorem ret_int {k : IntKind} {a b : Int} (h : a = b) : Ending.returned (.int k a) = .returned (.int k b) := by rw [h]
theorem ret_bool {a b : Bool} (h : a = b) : Ending.returned (.bool a) = .returned (.bool b) := by rw [h]

/-- white space -/
def whiteB (c : Int) : Bool := decide (c = 32 ∨ (9 ≤ c ∧ c ≤ 13))
def printB (c : Int) : Bool := decide (33 ≤ c ∧ c ≤ 126)

theorem white_any (c : Int) (w : World) :
    Calls Tryd.prog 12 #[.int .u8 c] w fun e w' => e = .returned (.bool (whiteB c)) ∧ w = w' := by
  go_enter Tryd.func12, Tryd.ntmps12
  go_wp2
  all_goals go_ret
  all_goals refine ⟨ret_bool ?_, rfl⟩
  all_goals (rw [Bool.eq_iff_iff]; simp [whiteB]; omega)

/-- the place behind a byte -/
def nextLine (l c : Int) : Int := if c = 10 then l + 1 else l
def nextCol (k c : Int) : Int := if c = 10 then 1 else k + 1

set_option maxHeartbeats 400000 in
theorem behind_any (o l k c : Int) (w : World) (h0 : 0 ≤ o) (h1 : o ≤ 4611686018427387904) (h2 : 0 ≤ l) (h3 : l ≤ 4611686018427387904) (h4 : 0 ≤ k) (h5 : k ≤ 4611686018427387904) :
    Calls Tryd.prog 21 #[.agg #[.int .i64 o, .int .i64 l, .int .i64 k], .int .u8 c] w fun e w' =>
      e = .returned (.agg #[.int .i64 (o + 1), .int .i64 (nextLine l c), .int .i64 (nextCol k c)]) ∧ Below w.heap.size w w' := by
  by_cases hc : c = 10
  · have e1 : nextLine l c = l + 1 := if_pos hc
    have e2 : nextCol k c = 1 := if_pos hc
    rw [e1, e2]
    subst hc
    clear e1 e2
    go_enter Tryd.func21, Tryd.ntmps21
    go_wp2
    exact bodyPost_ret (v := .agg #[.int .i64 (o + 1), .int .i64 (l + 1), .int .i64 1]) (by simp [results, Tryd.results21, go_sem]) rfl ⟨rfl, ((Below.refl _ _).alloc (Nat.le_refl _) _).alloc (by simp) _⟩
  · have e1 : nextLine l c = l := if_neg hc
    have e2 : nextCol k c = k + 1 := if_neg hc
    rw [e1, e2]
    have hc' : (c == 10) = false := by simpa using hc
    clear e1 e2 hc
    go_enter Tryd.func21, Tryd.ntmps21
    go_wp2
    exact bodyPost_ret (v := .agg #[.int .i64 (o + 1), .int .i64 l, .int .i64 (k + 1)]) (by simp [results, Tryd.results21, go_sem]) rfl ⟨rfl, ((Below.refl _ _).alloc (Nat.le_refl _) _).alloc (by simp) _⟩
end Go.Proofs.YtbhmgooohhgpaaaDoor
