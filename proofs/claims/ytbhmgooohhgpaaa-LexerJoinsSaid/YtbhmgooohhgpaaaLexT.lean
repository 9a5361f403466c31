/- The law's own texts: the texts of words. -/
import Derived.Test.YtbhmgooohhgpaaaLexO
set_option linter.unusedVariables false
namespace Go.Proofs.Ytbhmgooohhgpaaa
open Go.RowKit Go.Shelf

theorem infoStr : (Try.prog.info? 9).map (fun i => (i.zero, i.size, i.bytes)) = some (some (.string ⟨#[]⟩), 1, 16) := by kernel_rfl

def textsOf (ws : List Wd) : List Value := ws.map fun x => .string x.1

set_option maxHeartbeats 4000000 in
theorem texts_any (A : Option Addr) (cap n : Nat) (ws : List Wd) (w : World) (hn : n = ws.length) (hb : ws.length ≤ 16384) (hw : WSl w A ws) (hA : ∀ x, A = some x → x.block < w.heap.size) :
    Calls Try.prog 23 #[.slice A n cap] w fun e w' => ∃ v, e = .returned v ∧ w'.ownsRow w.heap.size 9 1 v ws.length (textsOf ws) ∧ Below w.heap.size w w' := by
  subst hn
  have Hw := hide hw
  have HA := hide hA
  clear hw hA
  go_enter Try.func23, Try.ntmps23
  go_wp2
  go_loopw [3, 8] (fun o i wr => ∃ k : Nat, i = .int .i64 k ∧ k ≤ ws.length ∧ wr.ownsRow w.heap.size 9 1 o k (textsOf (ws.take k)) ∧ Below w.heap.size w wr) (fun _ i _ => ws.length - (intOf i).toNat)
  case atStart => exact ⟨0, rfl, Nat.zero_le _, World.ownsRow_nil _ _ _ _, Below.refl _ _⟩
  case round =>
    obtain ⟨k, rfl, hk, hown, hbr⟩ := hrel
    by_cases hlt : k < ws.length
    · obtain ⟨b, off, rfl, hat⟩ := (Hw.out.keep HA.out hbr) (by omega)
      obtain ⟨x0, x1, x2, x3⟩ := hat k hlt
      have hbz : b < w.heap.size := HA.out _ rfl
      clear hat
      have hbz2 : b < wr.heap.size := Nat.lt_of_lt_of_le hbz hbr.size
      have hzr := hbr.size
      go_wp2_with (at_builtin; have hown9 := (hown.alloc (.cells #[.string (ws[k]'hlt).1, .int .i64 (ws[k]'hlt).2.1, .int .i64 (ws[k]'hlt).2.2.1, .int .i64 (ws[k]'hlt).2.2.2] 35)).alloc (.cells #[.string (ws[k]'hlt).1] 9); refine wpList_append_at _ rfl _ _ 40 rfl w.heap.size 9 infoStr Try.underlying40 rfl (by decide) u3 k (textsOf (ws.take k)) rfl hown9 ⟨wr.heap.size + 1, 0, none⟩ 1 1 [.string (ws[k]'hlt).1] rfl rfl (cells_new _ _ (by rw [World.size_alloc])) (by intro u hu; simp only [List.mem_cons, List.not_mem_nil, or_false] at hu; rcases hu with rfl; rfl) (by unfold maxLen; omega) (by omega) (by simp only [World.size_alloc]; omega) ?_; intro v' w1 hown1 hgrow1 _ _)
      go_roundw
      case rel => exact ⟨k + 1, by go_num, by omega, by rw [show textsOf (ws.take (k + 1)) = textsOf (ws.take k) ++ [.string (ws[k]'hlt).1] by unfold textsOf; rw [List.take_succ_eq_append_getElem hlt, List.map_append]; rfl]; exact hown1, ((hbr.alloc hzr _).alloc (by rw [World.size_alloc]; omega) _).grown hgrow1 (by simp only [World.size_alloc]; omega) (fun j hj => (hown9.lt j hj).1)⟩
      case measure => simp [intOf]; omega
    · obtain rfl : k = ws.length := Nat.le_antisymm hk (Nat.le_of_not_lt hlt)
      go_wp2
      go_ret
      rw [List.take_length] at hown
      exact ⟨_, rfl, hown, hbr⟩
end Go.Proofs.Ytbhmgooohhgpaaa
