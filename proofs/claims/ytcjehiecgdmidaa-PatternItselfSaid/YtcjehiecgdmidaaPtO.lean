/- Plain laws of matching paths step by step; rows of bools. -/
import Derived.Test.YtcjehiecgdmidaaPtN
set_option linter.unusedVariables false
set_option linter.unusedSimpArgs false
namespace Go.Proofs.Ytcjehiecgdmidaa
open Go.RowKit Go.Shelf

theorem dp_any (ps : List Pt) (x : Pt) (hx : x.isAny = true) (P : List (List UInt8)) (k : Nat) (hk : k ≤ P.length) :
    mP (ps ++ [x]) (P.take k) = (mP ps (P.take k) || (decide (0 < k) && mP (ps ++ [x]) (P.take (k - 1)))) := by
  have one : ∀ q, mP [x] q = true := fun q => by rw [mP_one, if_pos hx]
  have iff : ∀ m, m ≤ P.length → (mP (ps ++ [x]) (P.take m) = true ↔ ∃ i, i ≤ m ∧ mP ps (P.take i) = true) := fun m hm => by
    rw [mP_append]
    constructor
    · rintro ⟨i, hi, h1, _⟩
      rw [List.length_take] at hi
      rw [List.take_take, show min i m = i by omega] at h1
      exact ⟨i, by omega, h1⟩
    · rintro ⟨i, hi, h1⟩
      exact ⟨i, by rw [List.length_take]; omega, by rw [List.take_take, show min i m = i by omega]; exact h1, one _⟩
  rw [Bool.eq_iff_iff, iff k hk, Bool.or_eq_true, Bool.and_eq_true, decide_eq_true_eq]
  constructor
  · rintro ⟨i, hi, h1⟩
    by_cases he : i = k
    · subst he; exact .inl h1
    · exact .inr ⟨by omega, (iff (k - 1) (by omega)).2 ⟨i, by omega, h1⟩⟩
  · rintro (h | ⟨h0, h⟩)
    · exact ⟨k, Nat.le_refl _, h⟩
    · obtain ⟨i, hi, h1⟩ := (iff (k - 1) (by omega)).1 h
      exact ⟨i, by omega, h1⟩
theorem dp_zero (ps : List Pt) (x : Pt) (hx : x.isAny = false) (P : List (List UInt8)) : mP (ps ++ [x]) (P.take 0) = false := by
  rw [← Bool.not_eq_true, mP_append]
  rintro ⟨i, hi, _, h2⟩
  rw [List.take_zero, List.drop_nil, mP_none _ hx] at h2; cases h2
theorem dp_one (ps : List Pt) (x : Pt) (hx : x.isAny = false) (P : List (List UInt8)) (k : Nat) (hk : k < P.length) :
    mP (ps ++ [x]) (P.take (k + 1)) = (mP ps (P.take k) && x.ok P[k]) := by
  rw [Bool.eq_iff_iff, mP_append, Bool.and_eq_true]
  constructor
  · rintro ⟨i, hi, h1, h2⟩
    rw [List.length_take] at hi
    have hl : ((P.take (k + 1)).drop i).length = k + 1 - i := by rw [List.length_drop, List.length_take]; omega
    rw [mP_one, if_neg (by rw [hx]; decide)] at h2
    have h3 : k + 1 - i = 1 := by
      rw [← hl]
      split at h2
      · rename_i n hn; rw [hn]; rfl
      · cases h2
    have hi' : i = k := by omega
    subst hi'
    rw [List.take_take, show min i (i + 1) = i by omega] at h1
    have e : (P.take (i + 1)).drop i = [P[i]] := by
      rw [List.drop_take, show i + 1 - i = 1 by omega, List.drop_eq_getElem_cons hk]; rfl
    rw [e] at h2
    exact ⟨h1, h2⟩
  · rintro ⟨h1, h2⟩
    refine ⟨k, by rw [List.length_take]; omega, by rw [List.take_take, show min k (k + 1) = k by omega]; exact h1, ?_⟩
    have e : (P.take (k + 1)).drop k = [P[k]] := by
      rw [List.drop_take, show k + 1 - k = 1 by omega, List.drop_eq_getElem_cons hk]; rfl
    rw [e, mP_one, if_neg (by rw [hx]; decide)]
    exact h2
/-- the answers for the first k names, all of them -/
def boolsL (P : List (List UInt8)) (q : List Pt) : List Value := (List.range (P.length + 1)).map fun k => .bool (mP q (P.take k))
/-- those below k laid -/
def partL (P : List (List UInt8)) (q : List Pt) (k : Nat) : List Value := (List.range (P.length + 1)).map fun j => .bool (decide (j < k) && mP q (P.take j))
theorem boolsL_get (P : List (List UInt8)) (q : List Pt) (k : Nat) (hk : k ≤ P.length) : (boolsL P q)[k]? = some (.bool (mP q (P.take k))) := by
  unfold boolsL
  rw [List.getElem?_map, List.getElem?_range (by omega)]; rfl
theorem partL_get (P : List (List UInt8)) (q : List Pt) (k j : Nat) (hj : j ≤ P.length) : (partL P q k)[j]? = some (.bool (decide (j < k) && mP q (P.take j))) := by
  unfold partL
  rw [List.getElem?_map, List.getElem?_range (by omega)]; rfl
theorem partL_none (P : List (List UInt8)) (q : List Pt) (k j : Nat) (hj : P.length < j) : (partL P q k)[j]? = none := by
  unfold partL
  rw [List.getElem?_eq_none (by simp; omega)]
theorem partL_0 (P : List (List UInt8)) (q : List Pt) : partL P q 0 = List.replicate (P.length + 1) (.bool false) := by
  unfold partL
  apply List.ext_getElem?
  intro j
  by_cases hj : j < P.length + 1
  · rw [List.getElem?_map, List.getElem?_range hj, List.getElem?_replicate, if_pos hj]; rfl
  · rw [List.getElem?_eq_none (by simp; omega), List.getElem?_eq_none (by simp; omega)]
theorem partL_all (P : List (List UInt8)) (q : List Pt) : partL P q (P.length + 1) = boolsL P q := by
  unfold partL boolsL
  apply List.map_congr_left
  intro j hj
  rw [List.mem_range] at hj
  rw [decide_eq_true hj, Bool.true_and]
theorem partL_set (P : List (List UInt8)) (q : List Pt) (k : Nat) (hk : k ≤ P.length) : (partL P q k).set k (.bool (mP q (P.take k))) = partL P q (k + 1) := by
  apply List.ext_getElem?
  intro j
  rw [List.getElem?_set]
  by_cases h : k = j
  · subst h
    rw [if_pos rfl, if_pos (by unfold partL; simp; omega), partL_get P q (k + 1) k hk, decide_eq_true (Nat.lt_succ_self k), Bool.true_and]
  · rw [if_neg h]
    rcases Nat.lt_or_ge P.length j with hj | hj
    · rw [partL_none _ _ _ _ hj, partL_none _ _ _ _ hj]
    · rw [partL_get _ _ _ _ hj, partL_get _ _ _ _ hj]
      congr 3
      rw [decide_eq_decide]; omega
theorem partL_keep (P : List (List UInt8)) (q : List Pt) (k : Nat) (hf : mP q (P.take k) = false) : partL P q k = partL P q (k + 1) := by
  unfold partL
  apply List.map_congr_left
  intro j hj
  by_cases h : k = j
  · subst h; rw [hf, Bool.and_false, Bool.and_false]
  · congr 2
    rw [decide_eq_decide]; omega
theorem bools_start (P : List (List UInt8)) : (List.replicate (P.length + 1) (Value.bool false)).set 0 (.bool true) = boolsL P [] := by
  rw [← partL_0 P [], ← partL_all]
  apply List.ext_getElem?
  intro j
  rw [List.getElem?_set]
  by_cases h : 0 = j
  · subst h
    rw [if_pos rfl, if_pos (by unfold partL; simp), partL_get _ _ _ _ (Nat.zero_le _), decide_eq_true (Nat.succ_pos _)]
    rfl
  · rw [if_neg h]
    rcases Nat.lt_or_ge P.length j with hj | hj
    · rw [partL_none _ _ _ _ hj, partL_none _ _ _ _ hj]
    · rw [partL_get _ _ _ _ hj, partL_get _ _ _ _ hj]
      have e : mP [] (P.take j) = false := by
        show (P.take j).isEmpty = false
        rw [Bool.eq_false_iff]
        intro he
        have := congrArg List.length (List.isEmpty_iff.1 he)
        rw [List.length_take, List.length_nil] at this
        omega
      rw [e, Bool.and_false, Bool.and_false]
theorem madeP (z : Value) (hz : z.cells = #[z]) (n : Nat) : madeCells z.cells n = (List.replicate n z).toArray := by
  rw [hz]
  apply Array.ext
  · simp [madeCells]
  · intro i h1 h2
    simp [madeCells, Nat.mod_one]
theorem infoBool : (Try.prog.info? 4).map (fun i => (i.zero, i.size, i.bytes)) = some (some (.bool false), 1, 1) := by kernel_rfl
theorem run_make_bools (n : Nat) (hn : n ≤ 1099511627776) (w : World) : (Instr.makeSlice 55 (.int .i64 ((n : Int) + 1)) (.int .i64 ((n : Int) + 1))).run Try.prog w =
    .ok (.slice (some ⟨w.heap.size, 0, none⟩) (n + 1) (n + 1)) (w.alloc (.cells (List.replicate (n + 1) (Value.bool false)).toArray 4)) := by
  obtain ⟨i, hi, hz, h1, h2⟩ := info_parts infoBool
  have h := run_make (P := Try.prog) w 55 4 i _ Try.underlying55 hi hz .i64 .i64 ((n : Int) + 1) ((n : Int) + 1) (by omega) (Int.le_refl _) (by rw [h2]; omega) (by omega)
  rw [h1, madeP _ rfl, show ((n : Int) + 1).toNat = n + 1 by omega, Nat.mul_one] at h
  exact h
theorem assert_any (w : World) : (Instr.typeAssert (.iface 51 (.agg #[])) 43 51 true).run Try.prog w = .ok (.tuple #[.agg #[], .bool true]) w := by
  unfold Instr.typeAssert
  simp [Sem.run_bind, run_underlying Try.underlying51, Result.andThen]
theorem zero_anyP (w : World) : (zeroValue 51).run Try.prog w = .ok (.agg #[]) w := zero_of (by kernel_rfl) w
theorem assert_lit (v : Value) (w : World) : (Instr.typeAssert (.iface 52 v) 43 51 true).run Try.prog w = .ok (.tuple #[.agg #[], .bool false]) w := by
  unfold Instr.typeAssert
  simp [Sem.run_bind, run_underlying Try.underlying51, Result.andThen, zero_anyP]
theorem assert_wild (v : Value) (w : World) : (Instr.typeAssert (.iface 65 v) 43 51 true).run Try.prog w = .ok (.tuple #[.agg #[], .bool false]) w := by
  unfold Instr.typeAssert
  simp [Sem.run_bind, run_underlying Try.underlying51, Result.andThen, zero_anyP]
theorem ahead_of {P : Program} {t : TypeId} {f : FuncId} {d : TypeDesc} {name : String} (h : (P.info? t).map (fun i => (i.methods.find? (·.name == name)).map fun m => (m.path.toList, m.func)) = some (some ([], some (f, false)))) (hu : P.underlying t = some d) (hd : ∀ x, d ≠ .pointer x) (n : Nat) (v : Value) (w : World) : (nilAhead (n + 1) t v name).run P w = .ok (some false) w := by
  cases hq : P.info? t with
  | none => rw [hq] at h; cases h
  | some i =>
    rw [hq] at h
    simp only [Option.map_some, Option.some.injEq] at h
    cases hm : i.methods.find? (·.name == name) with
    | none => rw [hm] at h; cases h
    | some m =>
      rw [hm] at h
      simp only [Option.map_some, Option.some.injEq, Prod.mk.injEq] at h
      have ht : ∀ w, (typeInfo t).run P w = .ok i w := by intro w; simp [typeInfo, Sem.run_bind, Result.andThen, hq]
      unfold nilAhead
      rw [Sem.run_bind, ht, Result.andThen_ok]
      simp only [hm]
      rw [Sem.run_bind, h.1]
      simp only [followBlind, Sem.run_pure, Result.andThen_ok, h.2]
      rw [Sem.run_bind, run_underlying hu, Result.andThen_ok]
      cases d with
      | pointer x => exact absurd rfl (hd x)
      | _ => rfl
theorem method_of {P : Program} {t : TypeId} {f : FuncId} {d : TypeDesc} {name : String} (h : (P.info? t).map (fun i => (i.methods.find? (·.name == name)).map fun m => (m.path.toList, m.func)) = some (some ([], some (f, false)))) (hu : P.underlying t = some d) (hd : ∀ x, d ≠ .pointer x) (n : Nat) (v : Value) (w : World) : (method (n + 1) t v name).run P w = .ok (f, v) w := by
  cases hq : P.info? t with
  | none => rw [hq] at h; cases h
  | some i =>
    rw [hq] at h
    simp only [Option.map_some, Option.some.injEq] at h
    cases hm : i.methods.find? (·.name == name) with
    | none => rw [hm] at h; cases h
    | some m =>
      rw [hm] at h
      simp only [Option.map_some, Option.some.injEq, Prod.mk.injEq] at h
      have ht : ∀ w, (typeInfo t).run P w = .ok i w := by intro w; simp [typeInfo, Sem.run_bind, Result.andThen, hq]
      unfold method
      rw [Sem.run_bind, ht, Result.andThen_ok]
      simp only [hm]
      rw [Sem.run_bind, h.1]
      simp only [follow, Sem.run_pure, Result.andThen_ok, h.2]
      rw [Sem.run_bind]
      unfold receiverAt
      rw [Sem.run_bind, run_underlying hu, Result.andThen_ok]
      cases d with
      | pointer x => exact absurd rfl (hd x)
      | _ => rfl
theorem row_part {W : World} {g : Nat} {t : TypeId} {P : List (List UInt8)} {q : List Pt} {k : Nat} (h : Row W g t (partL P q k).toArray) (hk : k ≤ P.length) (u : Bool) (hu : mP q (P.take k) = u) : Row (W.setCell ⟨g, k, none⟩ (.bool u)) g t (partL P q (k + 1)).toArray := by
  have := h.set_ k (.bool u)
  rwa [show (partL P q k).toArray.setIfInBounds k (.bool u) = (partL P q (k + 1)).toArray by rw [← partL_set P q k hk, hu, List.setIfInBounds_toArray]] at this
end Go.Proofs.Ytcjehiecgdmidaa
