/- A slice of one long struct built; plain laws of wild parts. -/
import Derived.Test.YtcjehiecgdmidaaPtK
import Derived.Laws.OwnMore
import Derived.Deep.AppendLies
set_option linter.unusedVariables false
set_option linter.unusedSimpArgs false
namespace Go.Proofs.Ytcjehiecgdmidaa
open Go.RowKit Go.Shelf

theorem foldl_cells : ∀ (l : List Value) (k : Nat) (arr : Array Value), k + l.length ≤ arr.size → ∀ j : Nat, ((l.zipIdx k).foldl (fun (cs : Array Value) (p : Value × Nat) => cs.setIfInBounds (0 + p.2) p.1) arr)[j]? = if k ≤ j ∧ j < k + l.length then l[j - k]? else arr[j]?
  | [], k, arr, _, j => by
    rw [if_neg (by simp only [List.length_nil]; omega)]; rfl
  | v :: r, k, arr, h, j => by
    rw [List.zipIdx_cons, List.foldl_cons]
    rw [foldl_cells r (k + 1) _ (by simp only [Array.size_setIfInBounds]; simp only [List.length_cons] at h; omega) j]
    simp only [List.length_cons]
    by_cases h1 : j = k
    · subst h1
      rw [if_neg (by omega), if_pos (by omega), Nat.sub_self]
      simp only [Nat.zero_add, List.getElem?_cons_zero]
      rw [Array.getElem?_setIfInBounds_self_of_lt (by simp only [List.length_cons] at h; omega)]
    · by_cases h2 : k ≤ j ∧ j < k + (r.length + 1)
      · rw [if_pos (by omega), if_pos h2]
        obtain ⟨i, hi⟩ : ∃ i, j - k = i + 1 := ⟨j - k - 1, by omega⟩
        rw [hi, List.getElem?_cons_succ]
        congr 1; omega
      · rw [if_neg (by omega), if_neg h2]
        simp only [Nat.zero_add]
        rw [Array.getElem?_setIfInBounds_ne (by omega)]
theorem fill_one (cs : List Value) (arr : Array Value) (h : arr.size = cs.length) : Instr.fill (fun i => some (i * cs.length, cs.length)) arr [(0, .agg cs.toArray)] = some cs.toArray := by
  unfold Instr.fill
  simp only [Value.cells, Nat.zero_mul]
  rw [if_neg (by simp; omega)]
  unfold Instr.fill
  congr 1
  rw [← Array.foldl_toList, Array.toList_zipIdx]
  apply Array.ext_getElem?
  intro j
  rw [foldl_cells cs 0 arr (by omega) j]
  by_cases hj : j < cs.length
  · rw [if_pos ⟨Nat.zero_le _, by omega⟩]; simp
  · rw [if_neg (by omega), Array.getElem?_eq_none (by omega), Array.getElem?_eq_none (by simpa using Nat.le_of_not_lt hj)]
theorem run_build1 {P : Program} (t e : TypeId) (cs Z : List Value) (w : World) (ht : P.underlying t = some (.slice e)) (hz : (zeroValue e).run P w = .ok (.agg Z.toArray) w) (hi : (P.info? e).map (·.size) = some cs.length) (hp : 0 < cs.length) (hl : cs.length ≤ 1000) :
    (Instr.buildSlice t 1 #[(0, .agg cs.toArray)]).run P w = .ok (.slice (some ⟨w.heap.size, 0, none⟩) 1 1) (w.alloc (.cells cs.toArray e)) := by
  cases hq : P.info? e with
  | none => rw [hq] at hi; cases hi
  | some i =>
    have hs : i.size = cs.length := by simpa [hq] using hi
    have h1 : ¬ (1 * cs.length > 2 ^ 24) := by omega
    have h2 : ¬ (1 * cs.length = 0) := by omega
    unfold Instr.buildSlice
    simp only [Sem.run_bind, run_underlying ht, Result.andThen_ok]
    simp only [sizeOf, typeInfo, Sem.run_bind, Sem.run_pure, hq, hs, Result.andThen_ok]
    simp [h1, h2, hz, Sem.run_bind, Result.andThen, hq, hs]
    rw [if_neg (by omega), if_neg (by intro e; rw [e] at hp; exact absurd hp (by decide))]
    rw [fill_one cs _ (by simp)]
    rfl
/-- the operation at the list of a plain region -/
theorem wpList_build1 {P : Program} {ops : Array Oper} {rest : List Oper} {op : Oper} {a : Act} {w : World} {Q : Exit → Act → World → Prop} (hgd : op.guard = none) (t e : TypeId) (x : Operand) (ho : op.op = .buildSlice t 1 #[(0, x)])
    (cs Z : List Value) (hx : a.eval x = .agg cs.toArray) (ht : P.underlying t = some (.slice e)) (hz : ∀ w, (zeroValue e).run P w = .ok (.agg Z.toArray) w) (hi : (P.info? e).map (·.size) = some cs.length) (hp : 0 < cs.length) (hl : cs.length ≤ 1000)
    (h : wpList P ops Q rest (a.put op.dst (.slice (some ⟨w.heap.size, 0, none⟩) 1 1)) (w.alloc (.cells cs.toArray e))) : wpList P ops Q (op :: rest) a w :=
  wpList_plain hgd fun _ hK => by
    unfold Oper.wp execOp
    simp only [ho, List.map_toArray, List.map_cons, List.map_nil, hx, Sem.run_bind, run_build1 t e cs Z w ht (hz w) hi hp hl, Result.andThen_ok, Sem.run_pure]
    exact hK _ _ h
end Go.Proofs.Ytcjehiecgdmidaa
