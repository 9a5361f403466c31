/- Contracts of timescale.units, unitOf, Show, Format. -/
import Derived.Test.YtglfnbhcdblpiaaDoorTsC
import Derived.Test.YtglfnbhcdblpiaaDoorShelfT
import Derived.Lib.QuietBelow
set_option linter.unusedVariables false
namespace Go.Proofs.YtglfnbhcdblpiaaDoor
open Go.RowKit Go.Shelf Go.Sort

/-- what the texts of numbers lean on: Go's table of powers, and that the cell of MaxLen holds a number -/
structure Gl (w : World) : Prop where
  tab : Lib.TabIs Tryd.prog w "internal/strconv.uint64pow10" .u64 Lib.pow10Tab
  maxLen : ∃ m, w.cell? ⟨0, 0, none⟩ = some (.int .i64 m)
theorem gl_low : Tryd.prog.globals.size = Tryd.prog.globals.size := rfl
theorem gTab5 : Tryd.prog.globalNamed "internal/strconv.uint64pow10" = some 5 := by kernel_rfl
theorem Gl.below {w w' : World} (h : Gl w) (hb : Below w.heap.size w w') : Gl w' := by
  obtain ⟨m, hm⟩ := h.maxLen
  have hz := World.block_lt_of_cell? w _ hm
  refine ⟨?_, m, (hb.cell (p := ⟨_, 0, none⟩) hz).trans hm⟩
  have ht := h.tab
  unfold Lib.TabIs World.var? at ht ⊢
  rw [gTab5] at ht ⊢
  simp only [Option.bind_some] at ht ⊢
  have hlt : 5 < w.heap.size := by
    rcases Nat.lt_or_ge 5 w.heap.size with h' | h'
    · exact h'
    · simp [Array.getElem?_eq_none h'] at ht
  rw [hb.block _ hlt]
  exact ht

def uname (i : Nat) : ByteArray := ([⟨#[115]⟩, ⟨#[109, 115]⟩, ⟨#[117, 115]⟩, ⟨#[110, 115]⟩, ⟨#[112, 115]⟩, ⟨#[102, 115]⟩] : List ByteArray).getD i ⟨#[]⟩
def unitCells : List Value := [.string ⟨#[115]⟩, .int .i64 0, .string ⟨#[109, 115]⟩, .int .i64 (-3), .string ⟨#[117, 115]⟩, .int .i64 (-6), .string ⟨#[110, 115]⟩, .int .i64 (-9), .string ⟨#[112, 115]⟩, .int .i64 (-12), .string ⟨#[102, 115]⟩, .int .i64 (-15)]
theorem unitCells_at (i : Nat) (h : i < 6) : unitCells[2 * i]? = some (.string (uname i)) ∧ unitCells[2 * i + 1]? = some (.int .i64 (-(3 * (i : Int)))) := by
  have : i = 0 ∨ i = 1 ∨ i = 2 ∨ i = 3 ∨ i = 4 ∨ i = 5 := by omega
  rcases this with rfl | rfl | rfl | rfl | rfl | rfl <;> exact ⟨rfl, rfl⟩

theorem units_any (w : World) :
    Calls Tryd.prog 32 #[] w fun e w' => e = .returned (.slice (some ⟨w.heap.size, 0, none⟩) 6 6) ∧ Row w' w.heap.size 51 unitCells.toArray ∧ Below w.heap.size w w' := by
  go_enter Tryd.func32, Tryd.ntmps32
  go_wp2
  go_ret
  exact ⟨rfl, Row.new _ _ _, (Below.refl _ _).alloc (Nat.le_refl _) _⟩

/-- the unit of a scale, by its number -/
def unitIx (s : Int) : Nat := if 0 ≤ s then 0 else ((-s + 2) / 3).toNat
theorem unitIx_spec (s : Int) (h1 : -15 ≤ s) (h2 : s ≤ 2) : unitIx s < 6 ∧ -(3 * (unitIx s : Int)) ≤ s ∧ s ≤ -(3 * (unitIx s : Int)) + 2 ∧ ∀ k, k < unitIx s → ¬ (-(3 * (k : Int)) ≤ s) := by
  unfold unitIx
  split
  · refine ⟨by omega, by omega, by omega, fun k hk => by omega⟩
  · refine ⟨by omega, by omega, by omega, fun k hk => by omega⟩

set_option maxHeartbeats 2000000 in
theorem unitOf_any (s : Int) (w : World) (h1 : -15 ≤ s) (h2 : s ≤ 2) :
    Calls Tryd.prog 35 #[.int .i64 s] w fun e w' => e = .returned (.agg #[.string (uname (unitIx s)), .int .i64 (-(3 * (unitIx s : Int)))]) ∧ Below w.heap.size w w' := by
  obtain ⟨u1, u2, u3, u4⟩ := unitIx_spec s h1 h2
  generalize unitIx s = x at u1 u2 u3 u4 ⊢
  have U4 := hide u4
  clear u4
  go_enter Tryd.func35, Tryd.ntmps35
  go_wp2_with fail
  refine (units_any _).mono ?_
  rintro e w1 ⟨rfl, hrow, hb⟩
  have hz : Row w1 w.heap.size 51 #[.string ⟨#[]⟩, .int .i64 0] := (Row.new w 51 #[.string ⟨#[]⟩, .int .i64 0]).below hb (by rw [World.size_alloc]; exact Nat.lt_succ_self _)
  have HZ := hide hz
  have HR := hide (show Row w1 (w.heap.size + 1) 51 unitCells.toArray by rw [World.size_alloc] at hrow; exact hrow)
  have HB := hide (((Below.refl w.heap.size w).alloc (Nat.le_refl _) (.cells #[.string ⟨#[]⟩, .int .i64 0] 51)).trans (hb.mono (by rw [World.size_alloc]; exact Nat.le_succ _)))
  clear hrow hb hz
  go_wp2
  go_loopw [7] (fun v wr => ∃ k : Nat, v = .int .i64 k ∧ k ≤ x ∧ Row wr w.heap.size 51 #[.string ⟨#[]⟩, .int .i64 0] ∧ Row wr (w.heap.size + 1) 51 unitCells.toArray ∧ Below w.heap.size w wr) (fun v _ => x - (intOf v).toNat)
  case atStart => exact ⟨0, rfl, Nat.zero_le _, HZ.out, HR.out, HB.out⟩
  case round =>
    obtain ⟨k, rfl, hk, hz, hr, hbr⟩ := hrel
    have hk6 : k < 6 := by omega
    obtain ⟨e1, e2⟩ := unitCells_at k hk6
    have c1 : wr.cell? ⟨w.heap.size + 1, 2 * k, none⟩ = some (.string (uname k)) := by rw [hr.cell]; simpa using e1
    have c2 : wr.cell? ⟨w.heap.size + 1, 2 * k + 1, none⟩ = some (.int .i64 (-(3 * (k : Int)))) := by rw [hr.cell]; simpa using e2
    rw [show 2 * k = k * 2 by omega] at c1 c2
    have d1 : wr.cell? ⟨w.heap.size, 0, none⟩ = some (.string ⟨#[]⟩) := hz.cell 0
    have d2 : wr.cell? ⟨w.heap.size, 1, none⟩ = some (.int .i64 0) := hz.cell 1
    have f1 : ∀ i, wr.frozen? ⟨w.heap.size, i, none⟩ = false := fun i => hz.frozen i
    have hz1 := hz.lt
    have hz2 := hr.lt
    have Hz := hide hz
    have Hr := hide hr
    have Hbr := hide hbr
    have hlt6 : (k : Int) < 6 := by omega
    clear hz hr hbr e1 e2
    by_cases hlt : k < x
    · have hno2 : s < -(3 * (k : Int)) := by have := U4.out k hlt; omega
      go_wp2
      go_roundw
      case rel => exact ⟨k + 1, by go_num, by omega, Hz.out.alloc _, Hr.out.alloc _, Hbr.out.alloc Hbr.out.size _⟩
      case measure => simp [intOf]; omega
    · obtain rfl : k = x := Nat.le_antisymm hk (Nat.le_of_not_lt hlt)
      go_wp2
      have g1 : ∀ o, (((wr.setCell ⟨w.heap.size, 0, none⟩ (.string (uname k))).setCell ⟨w.heap.size, 1, none⟩ (.int .i64 (-(3 * (k : Int))))).alloc o).cell? ⟨w.heap.size, 0, none⟩ = some (.string (uname k)) := fun o => by
        rw [(((Hz.out.set_ 0 _).set_ 1 _).alloc o).cell 0]; rfl
      have g2 : ∀ o, (((wr.setCell ⟨w.heap.size, 0, none⟩ (.string (uname k))).setCell ⟨w.heap.size, 1, none⟩ (.int .i64 (-(3 * (k : Int))))).alloc o).cell? ⟨w.heap.size, 1, none⟩ = some (.int .i64 (-(3 * (k : Int)))) := fun o => by
        rw [(((Hz.out.set_ 0 _).set_ 1 _).alloc o).cell 1]; rfl
      have HL := hide (fun o => ((Hbr.out.setCell (p := ⟨w.heap.size, 0, none⟩) (Nat.le_refl _) (.string (uname k))).setCell (p := ⟨w.heap.size, 1, none⟩) (Nat.le_refl _) (.int .i64 (-(3 * (k : Int))))).alloc (by simp [World.setCell]; exact Hbr.out.size) o)
      exact bodyPost_ret (v := .agg #[.string (uname k), .int .i64 (-(3 * (k : Int)))]) (by simp [results, Tryd.results35, go_sem, g1, g2]) rfl ⟨rfl, HL.out _⟩
end Go.Proofs.YtglfnbhcdblpiaaDoor
