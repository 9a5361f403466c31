/- MgG: the texts HiK HiL HiM HiN HiO HiP in one. -/
import Derived.Test.YtpfiofgchkfkhaaMgF
import Derived.Shelf.SlSortCmp.KitK
import Derived.Sort.LotA
import Derived.Test.YtpfiofgchkfkhaaShelfS
/- Plain: stable sorting by the scope. -/
set_option linter.unusedVariables false
set_option linter.unusedSimpArgs false
namespace Go.Proofs.Ytpfiofgchkfkhaa
open Go.RowKit Go.Shelf Go.Sort
def cmpV (x y : Va) : Int := if x.scope < y.scope then -1 else if y.scope < x.scope then 1 else 0
theorem cmpV_lt {x y : Va} : cmpV x y < 0 ↔ x.scope < y.scope := by
  unfold cmpV
  by_cases h : x.scope < y.scope
  · simp [h]
  · rw [if_neg h]
    by_cases h2 : y.scope < x.scope
    · simp [h, h2]
    · simp [h, h2]
def fil (c : Int) (l : List Va) : List Va := l.filter fun v => decide (v.scope = c)
theorem fil_app (c : Int) (a b : List Va) : fil c (a ++ b) = fil c a ++ fil c b := by unfold fil; rw [List.filter_append]
theorem fil_none {c : Int} {l : List Va} (h : ∀ v ∈ l, v.scope ≠ c) : fil c l = [] := by
  unfold fil; rw [List.filter_eq_nil_iff]; intro v hv; simpa using h v hv
def Asc (l : List Va) : Prop := l.Pairwise fun x y => x.scope ≤ y.scope
structure Srt (X X' : List Va) : Prop where
  len : X'.length = X.length
  asc : Asc X'
  fil : ∀ c, fil c X' = fil c X
theorem Srt.mem {X X' : List Va} (h : Srt X X') {v : Va} (hv : v ∈ X') : v ∈ X := by
  have : v ∈ Go.Proofs.Ytpfiofgchkfkhaa.fil v.scope X' := by unfold Go.Proofs.Ytpfiofgchkfkhaa.fil; exact List.mem_filter.2 ⟨hv, by simp⟩
  rw [h.fil] at this
  unfold Go.Proofs.Ytpfiofgchkfkhaa.fil at this
  exact (List.mem_filter.1 this).1
theorem Srt.refl {X : List Va} (h : Asc X) : Srt X X := ⟨rfl, h, fun _ => rfl⟩
theorem Srt.trans {X Y Z : List Va} (h : Srt X Y) (k : Srt Y Z) : Srt X Z := ⟨k.len.trans h.len, k.asc, fun c => (k.fil c).trans (h.fil c)⟩
theorem asc_app {a b : List Va} : Asc (a ++ b) ↔ Asc a ∧ Asc b ∧ ∀ x ∈ a, ∀ y ∈ b, x.scope ≤ y.scope := by unfold Asc; exact List.pairwise_append
/-- two halves, each merged, laid one behind the other -/
theorem mergeG {L1 L2 R1 R2 X1 X2 : List Va} (hL : Asc (L1 ++ L2)) (hR : Asc (R1 ++ R2)) (hA : ∀ x ∈ L1, ∀ y ∈ R2, x.scope ≤ y.scope) (hB : ∀ y ∈ R1, ∀ x ∈ L2, y.scope < x.scope)
    (h1 : Srt (L1 ++ R1) X1) (h2 : Srt (L2 ++ R2) X2) : Srt ((L1 ++ L2) ++ (R1 ++ R2)) (X1 ++ X2) := by
  refine ⟨by simp [h1.len, h2.len]; omega, asc_app.2 ⟨h1.asc, h2.asc, fun x hx y hy => ?_⟩, fun c => ?_⟩
  · rcases List.mem_append.1 (h1.mem hx) with hx | hx <;> rcases List.mem_append.1 (h2.mem hy) with hy | hy
    · exact (asc_app.1 hL).2.2 x hx y hy
    · exact hA x hx y hy
    · exact Int.le_of_lt (hB x hx y hy)
    · exact (asc_app.1 hR).2.2 x hx y hy
  · rw [fil_app, h1.fil, h2.fil]
    simp only [fil_app, List.append_assoc]
    congr 1
    rw [← List.append_assoc, ← List.append_assoc]
    congr 1
    by_cases hc : ∃ v ∈ L2, v.scope = c
    · obtain ⟨v, hv, rfl⟩ := hc
      rw [fil_none (l := R1) (fun y hy e => by have := hB y hy v hv; omega)]
      simp
    · rw [fil_none (l := L2) (fun v hv e => hc ⟨v, hv, e⟩)]
      simp
theorem asc_last {l : List Va} (h : Asc l) {z : Va} (hz : l.getLast? = some z) : ∀ x ∈ l, x.scope ≤ z.scope := by
  obtain ⟨r, rfl⟩ : ∃ r, l = r ++ [z] := by
    rcases List.eq_nil_or_concat l with rfl | ⟨r, a, rfl⟩
    · cases hz
    · simp at hz; exact ⟨r, by simp [hz]⟩
  intro x hx
  rcases List.mem_append.1 hx with hx | hx
  · exact (asc_app.1 h).2.2 x hx z (by simp)
  · rw [List.mem_singleton.1 hx]; exact Int.le_refl _
theorem asc_head {l : List Va} (h : Asc l) {z : Va} (hz : l.head? = some z) : ∀ x ∈ l, z.scope ≤ x.scope := by
  cases l with
  | nil => cases hz
  | cons a r =>
    cases hz
    intro x hx
    rcases List.mem_cons.1 hx with rfl | hx
    · exact Int.le_refl _
    · exact (List.pairwise_cons.1 h).1 x hx
theorem flatMap_congrH {α β : Type} {f g : α → List β} : ∀ {l : List α}, (∀ x ∈ l, f x = g x) → l.flatMap f = l.flatMap g
  | [], _ => rfl
  | x :: r, h => by rw [List.flatMap_cons, List.flatMap_cons, h x (by simp), flatMap_congrH (l := r) (fun y hy => h y (List.mem_cons_of_mem _ hy))]
/-- an ascending list is its parts by scope -/
theorem asc_flat : ∀ (n : Nat) (lo : Int) (l : List Va), Asc l → (∀ v ∈ l, lo ≤ v.scope ∧ v.scope < lo + n) → l = (List.range n).flatMap fun (j : Nat) => fil (lo + (j : Int)) l
  | 0, lo, l, _, h => by
    cases l with
    | nil => rfl
    | cons v r => have := h v (by simp); omega
  | n + 1, lo, l, ha, h => by
    obtain ⟨a, b, rfl, h1, h2⟩ : ∃ a b, l = a ++ b ∧ (∀ v ∈ a, v.scope = lo) ∧ ∀ v ∈ b, lo < v.scope := by
      have h' : ∀ v ∈ l, lo ≤ v.scope := fun v hv => (h v hv).1
      clear h
      induction l with
      | nil => exact ⟨[], [], rfl, by simp, by simp⟩
      | cons x r ih =>
        have hc := List.pairwise_cons.1 ha
        by_cases hx : x.scope = lo
        · obtain ⟨a, b, e, h1, h2⟩ := ih hc.2 (fun v hv => h' v (List.mem_cons_of_mem _ hv))
          refine ⟨x :: a, b, by rw [e]; rfl, fun v hv => ?_, h2⟩
          rcases List.mem_cons.1 hv with rfl | hv
          · exact hx
          · exact h1 v hv
        · refine ⟨[], x :: r, rfl, by simp, fun v hv => ?_⟩
          have h3 := h' x (by simp)
          rcases List.mem_cons.1 hv with rfl | hv
          · omega
          · have := hc.1 v hv; omega
    have hb := asc_flat n (lo + 1) b (asc_app.1 ha).2.1 (fun v hv => by
      have e1 := h v (List.mem_append.2 (.inr hv))
      have e2 := h2 v hv
      omega)
    rw [List.range_succ_eq_map, List.flatMap_cons, List.flatMap_map]
    have e1 : fil (lo + ((0 : Nat) : Int)) (a ++ b) = a := by
      rw [fil_app, fil_none (l := b) (fun v hv e => by have := h2 v hv; omega), List.append_nil]
      unfold fil
      rw [List.filter_eq_self]
      intro v hv
      have := h1 v hv
      simp only [decide_eq_true_eq]; omega
    rw [e1]
    congr 1
    conv => lhs; rw [hb]
    refine flatMap_congrH fun j _ => ?_
    show fil (lo + 1 + (j : Int)) b = fil (lo + ((j + 1 : Nat) : Int)) (a ++ b)
    rw [fil_app, fil_none (l := a) (fun v hv e => by have := h1 v hv; omega), List.nil_append]
    congr 1; omega
/-- the sort's result is sortV -/
theorem sort_eq {n : Nat} {l l' : List Va} (h : Srt l l') (hb : ∀ v ∈ l, -1 ≤ v.scope ∧ v.scope < n) : l' = sortV n l := by
  have := asc_flat (n + 1) (-1) l' h.asc (fun v hv => by have := hb v (h.mem hv); omega)
  rw [this]
  unfold sortV
  refine flatMap_congrH fun j _ => ?_
  rw [h.fil]
  unfold fil
  refine List.filter_congr fun v _ => ?_
  have : (v.scope = -1 + (j : Int)) ↔ (v.scope = (j : Int) - 1) := by omega
  simp [this]
/-! ### exchanges as lists -/
theorem swp_list (l : List Va) (i j : Nat) : swp l.toArray i j = ((l.set i l.toArray[j]!).set j l.toArray[i]!).toArray := by
  unfold swp; simp
theorem get_mid {A B : List Va} {x : Va} {i : Nat} (h : i = A.length) : (A ++ x :: B).toArray[i]! = x := by
  subst h; simp
theorem swp_mid {A M B : List Va} {x y : Va} {i j : Nat} (hi : i = A.length) (hj : j = A.length + 1 + M.length) : swp (A ++ x :: (M ++ y :: B)).toArray i j = (A ++ y :: (M ++ x :: B)).toArray := by
  rw [swp_list]
  have e1 : (A ++ x :: (M ++ y :: B)).toArray[i]! = x := get_mid hi
  have e2 : (A ++ x :: (M ++ y :: B)).toArray[j]! = y := by
    have : A ++ x :: (M ++ y :: B) = (A ++ x :: M) ++ y :: B := by simp
    rw [this]; exact get_mid (by rw [hj]; simp; omega)
  rw [e1, e2]
  congr 1
  have e3 : (A ++ x :: (M ++ y :: B)).set i y = A ++ y :: (M ++ y :: B) := by
    rw [hi, List.set_append_right _ _ (Nat.le_refl _), Nat.sub_self]; rfl
  rw [e3]
  have e4 : A ++ y :: (M ++ y :: B) = (A ++ y :: M) ++ y :: B := by simp
  rw [e4, List.set_append_right _ _ (by rw [hj]; simp; omega), show j - (A ++ y :: M).length = 0 by rw [hj]; simp; omega]
  simp
/-- n exchanges, of places a + k and b + k -/
def swR (d : Array Va) (a b : Nat) : Nat → Array Va
  | 0 => d
  | n + 1 => swp (swR d a b n) (a + n) (b + n)
theorem swR_list : ∀ (n : Nat) (A U M V B : List Va) (a b : Nat), U.length = n → V.length = n → a = A.length → b = A.length + n + M.length → swR (A ++ (U ++ (M ++ (V ++ B)))).toArray a b n = (A ++ (V ++ (M ++ (U ++ B)))).toArray
  | 0, A, U, M, V, B, a, b, hU, hV, _, _ => by
    have e1 := List.length_eq_zero_iff.1 hU
    have e2 := List.length_eq_zero_iff.1 hV
    subst e1; subst e2; rfl
  | n + 1, A, U, M, V, B, a, b, hU, hV, ha, hb => by
    obtain ⟨U', x, rfl⟩ : ∃ U' x, U = U' ++ [x] := by
      rcases List.eq_nil_or_concat U with rfl | ⟨r, z, rfl⟩
      · cases hU
      · exact ⟨r, z, by simp⟩
    obtain ⟨V', y, rfl⟩ : ∃ V' y, V = V' ++ [y] := by
      rcases List.eq_nil_or_concat V with rfl | ⟨r, z, rfl⟩
      · cases hV
      · exact ⟨r, z, by simp⟩
    have hU' : U'.length = n := by simpa using hU
    have hV' : V'.length = n := by simpa using hV
    unfold swR
    have h := swR_list n A U' ([x] ++ M) V' ([y] ++ B) a b hU' hV' ha (by rw [hb]; simp; omega)
    have e1 : A ++ ((U' ++ [x]) ++ (M ++ ((V' ++ [y]) ++ B))) = A ++ (U' ++ (([x] ++ M) ++ (V' ++ ([y] ++ B)))) := by simp
    rw [e1, h]
    have e2 : A ++ (V' ++ (([x] ++ M) ++ (U' ++ ([y] ++ B)))) = (A ++ V') ++ x :: ((M ++ U') ++ y :: B) := by simp
    rw [e2, swp_mid (by rw [ha]; simp; omega) (by rw [hb]; simp; omega)]
    simp
theorem swR_size (d : Array Va) (a b : Nat) : ∀ n, (swR d a b n).size = d.size
  | 0 => rfl
  | n + 1 => by unfold swR; rw [size_swp, swR_size d a b n]
/-- the element at a, moved up by t places -/
def shU (d : Array Va) (a : Nat) : Nat → Array Va
  | 0 => d
  | n + 1 => swp (shU d a n) (a + n) (a + n + 1)
theorem shU_size (d : Array Va) (a : Nat) : ∀ n, (shU d a n).size = d.size
  | 0 => rfl
  | n + 1 => by unfold shU; rw [size_swp, shU_size d a n]
theorem shU_list : ∀ (n : Nat) (A M B : List Va) (x : Va) (a : Nat), M.length = n → a = A.length → shU (A ++ x :: (M ++ B)).toArray a n = (A ++ (M ++ x :: B)).toArray
  | 0, A, M, B, x, a, hM, _ => by have e := List.length_eq_zero_iff.1 hM; subst e; rfl
  | n + 1, A, M, B, x, a, hM, ha => by
    obtain ⟨M', y, rfl⟩ : ∃ U' x, M = U' ++ [x] := by
      rcases List.eq_nil_or_concat M with rfl | ⟨r, z, rfl⟩
      · cases hM
      · exact ⟨r, z, by simp⟩
    have hM' : M'.length = n := by simpa using hM
    unfold shU
    have e1 : A ++ x :: ((M' ++ [y]) ++ B) = A ++ x :: (M' ++ (y :: B)) := by simp
    rw [e1, shU_list n A M' (y :: B) x a hM' ha]
    have e2 : A ++ (M' ++ x :: (y :: B)) = (A ++ M') ++ x :: ([] ++ y :: B) := by simp
    rw [e2, swp_mid (by rw [ha]; simp; omega) (by rw [ha]; simp; omega)]
    simp
/-- the element at m, moved down by t places -/
def shD (d : Array Va) (m : Nat) : Nat → Array Va
  | 0 => d
  | n + 1 => swp (shD d m n) (m - n) (m - n - 1)
theorem shD_size (d : Array Va) (a : Nat) : ∀ n, (shD d a n).size = d.size
  | 0 => rfl
  | n + 1 => by unfold shD; rw [size_swp, shD_size d a n]
theorem swp_comm {A B : List Va} {x y : Va} {i : Nat} (h : i = A.length) : swp (A ++ x :: y :: B).toArray (i + 1) i = (A ++ y :: x :: B).toArray := by
  rw [swp_list]
  have e1 : (A ++ x :: y :: B).toArray[i]! = x := get_mid h
  have e2 : (A ++ x :: y :: B).toArray[i + 1]! = y := by
    have : A ++ x :: y :: B = (A ++ [x]) ++ y :: B := by simp
    rw [this]; exact get_mid (by rw [h]; simp)
  rw [e1, e2]
  congr 1
  subst h
  rw [List.set_append_right _ _ (by omega), List.set_append_right _ _ (by omega)]
  simp
theorem shD_list : ∀ (n : Nat) (A M B : List Va) (x : Va) (m : Nat), M.length = n → m = A.length + n → shD (A ++ (M ++ x :: B)).toArray m n = (A ++ x :: (M ++ B)).toArray
  | 0, A, M, B, x, a, hM, _ => by have e := List.length_eq_zero_iff.1 hM; subst e; rfl
  | n + 1, A, M, B, x, m, hM, hm => by
    cases M with
    | nil => cases hM
    | cons y M' =>
      have hM' : M'.length = n := by simpa using hM
      unfold shD
      have e1 : A ++ ((y :: M') ++ x :: B) = (A ++ [y]) ++ (M' ++ x :: B) := by simp
      rw [e1, shD_list n (A ++ [y]) M' B x m hM' (by rw [hm]; simp; omega)]
      have e2 : (A ++ [y]) ++ x :: (M' ++ B) = A ++ y :: x :: (M' ++ B) := by simp
      rw [e2, show m - n = A.length + 1 by omega, show A.length + 1 - 1 = A.length by omega, swp_comm rfl]
      simp
end Go.Proofs.Ytpfiofgchkfkhaa

/- Plain: the insertion sort keeps the order of equals. -/
set_option linter.unusedVariables false
set_option linter.unusedSimpArgs false
namespace Go.Proofs.Ytpfiofgchkfkhaa
open Go.RowKit Go.Shelf Go.Sort
theorem split_two {l : List Va} {j : Nat} (h : j + 1 < l.length) : ∃ A x y B, l = A ++ x :: y :: B ∧ A.length = j :=
  ⟨l.take j, l[j], l[j + 1], l.drop (j + 2), by
    rw [show l.drop (j + 2) = l.drop (j + 1 + 1) from rfl, List.getElem_cons_drop, List.getElem_cons_drop, List.take_append_drop], by rw [List.length_take]; omega⟩
theorem fil_swp (c : Int) (d : Array Va) (j : Nat) (h : j + 1 < d.size) (hl : ltOf cmpV d[j + 1]! d[j]! = true) : fil c (swp d (j + 1) j).toList = fil c d.toList := by
  obtain ⟨l, rfl⟩ : ∃ l : List Va, d = l.toArray := ⟨d.toList, by simp⟩
  obtain ⟨A, x, y, B, rfl, hA⟩ := split_two (l := l) (j := j) (by simpa using h)
  rw [swp_comm hA.symm]
  have e1 : (A ++ x :: y :: B).toArray[j]! = x := get_mid hA.symm
  have e2 : (A ++ x :: y :: B).toArray[j + 1]! = y := by
    have : A ++ x :: y :: B = (A ++ [x]) ++ y :: B := by simp
    rw [this]; exact get_mid (by simp [hA])
  rw [e1, e2] at hl
  have hlt : y.scope < x.scope := cmpV_lt.1 (by unfold ltOf at hl; exact of_decide_eq_true hl)
  show fil c (A ++ y :: x :: B) = fil c (A ++ x :: y :: B)
  rw [fil_app, fil_app]
  congr 1
  unfold fil
  by_cases h1 : x.scope = c
  · have h2 : ¬ y.scope = c := by omega
    simp [h1, h2]
  · by_cases h2 : y.scope = c
    · simp [List.filter_cons, h1, h2]
    · simp [List.filter_cons, h1, h2]
theorem fil_inner (c : Int) (a : Nat) : ∀ (j : Nat) (d : Array Va), j < d.size → fil c (insInner (ltOf cmpV) a j d).toList = fil c d.toList
  | 0, d, _ => by unfold insInner; rfl
  | j + 1, d, h => by
    unfold insInner
    by_cases hc : (decide (j + 1 > a) && ltOf cmpV d[j + 1]! d[j]!) = true
    · rw [if_pos hc]
      rw [Bool.and_eq_true] at hc
      rw [fil_inner c a j _ (by rw [size_swp]; omega), fil_swp c d j h hc.2]
    · rw [if_neg hc]
theorem size_inner (a : Nat) : ∀ (j : Nat) (d : Array Va), (insInner (ltOf cmpV) a j d).size = d.size
  | 0, d => by unfold insInner; rfl
  | j + 1, d => by
    unfold insInner
    split
    · rw [size_inner a j, size_swp]
    · rfl
theorem fil_outer (c : Int) (a b : Nat) : ∀ (n i : Nat) (d : Array Va), b - i = n → b ≤ d.size → fil c (insOuter (ltOf cmpV) a b i d).toList = fil c d.toList
  | 0, i, d, h, _ => by rw [insOuter, if_neg (by omega)]
  | n + 1, i, d, h, hb => by
    rw [insOuter, if_pos (by omega), fil_outer c a b n (i + 1) _ (by omega) (by rw [size_inner]; exact hb), fil_inner c a i d (by omega)]
theorem swoV : SWO (ltOf cmpV) where
  irrefl x := by unfold ltOf; exact decide_eq_false (fun h => by have := cmpV_lt.1 h; omega)
  trans x y z h1 h2 := by
    unfold ltOf at *
    have a1 := cmpV_lt.1 (of_decide_eq_true h1)
    have a2 := cmpV_lt.1 (of_decide_eq_true h2)
    exact decide_eq_true (cmpV_lt.2 (by omega))
  ntrans x y z h1 h2 := by
    unfold ltOf at *
    have a1 : ¬ x.scope < y.scope := fun h => of_decide_eq_false h1 (cmpV_lt.2 h)
    have a2 : ¬ y.scope < z.scope := fun h => of_decide_eq_false h2 (cmpV_lt.2 h)
    exact decide_eq_false (fun h => by have := cmpV_lt.1 h; omega)
theorem ins_list (A X B : List Va) (a b : Nat) (ha : a = A.length) (hb : b = A.length + X.length) : ∃ X', insertionSort (ltOf cmpV) (A ++ (X ++ B)).toArray a b = (A ++ (X' ++ B)).toArray ∧ Srt X X' := by
  have hfil := fun c => fil_outer c a b (b - (a + 1)) (a + 1) (A ++ (X ++ B)).toArray rfl (by simp; omega)
  have hs := insertionSort_holds (lt := ltOf cmpV) swoV (A ++ (X ++ B)).toArray a b (by omega) (by simp; omega)
  obtain ⟨⟨hz, hout, _⟩, hsort⟩ := hs
  have e : insOuter (ltOf cmpV) a b (a + 1) (A ++ (X ++ B)).toArray = insertionSort (ltOf cmpV) (A ++ (X ++ B)).toArray a b := rfl
  simp only [e] at hfil
  generalize insertionSort (ltOf cmpV) (A ++ (X ++ B)).toArray a b = d' at *
  obtain ⟨l', rfl⟩ : ∃ l : List Va, d' = l.toArray := ⟨d'.toList, by simp⟩
  have hz' : l'.length = A.length + (X.length + B.length) := by simpa using hz
  have hg : ∀ (l : List Va) (i : Nat) (h : i < l.length), l.toArray[i]! = l[i] := fun l i h => by simp [h]
  have e1 : l'.take a = A := by
    apply List.ext_getElem
    · rw [List.length_take]; omega
    · intro i h1 h2
      have := hout i (.inl (by omega))
      rw [hg _ _ (by omega), hg _ _ (by simp; omega)] at this
      rw [List.getElem_take, this, List.getElem_append_left h2]
  have e2 : l'.drop b = B := by
    apply List.ext_getElem
    · rw [List.length_drop]; omega
    · intro i h1 h2
      have := hout (b + i) (.inr (by omega))
      rw [hg _ _ (by rw [List.length_drop] at h1; omega), hg _ _ (by simp; omega)] at this
      rw [List.getElem_drop, this, List.getElem_append_right (by omega), List.getElem_append_right (by omega)]
      congr 1; omega
  have e3 : l' = A ++ ((l'.drop a).take X.length ++ B) := by
    have h1 : l' = l'.take a ++ l'.drop a := (List.take_append_drop a l').symm
    have h2 : l'.drop a = (l'.drop a).take X.length ++ (l'.drop a).drop X.length := (List.take_append_drop _ _).symm
    rw [List.drop_drop, show a + X.length = b by omega, e2] at h2
    rw [e1, h2] at h1
    exact h1
  have hX' : ((l'.drop a).take X.length).length = X.length := by rw [List.length_take, List.length_drop]; omega
  generalize (l'.drop a).take X.length = X' at e3 hX'
  subst e3
  refine ⟨X', rfl, hX', ?_, fun c => ?_⟩
  · unfold Asc
    rw [List.pairwise_iff_getElem]
    intro i j hi hj hij
    have := hsort (a + i) (a + j) (by omega) (by omega) (by omega)
    rw [hg _ _ (by simp; omega), hg _ _ (by simp; omega)] at this
    have e4 : ∀ (k : Nat) (h : k < X'.length) (h' : a + k < (A ++ (X' ++ B)).length), (A ++ (X' ++ B))[a + k] = X'[k] := fun k h h' => by
      rw [List.getElem_append_right (by omega), List.getElem_append_left (by omega)]
      congr 1; omega
    rw [e4 j hj, e4 i hi] at this
    unfold ltOf at this
    have h5 : ¬ X'[j].scope < X'[i].scope := fun h => of_decide_eq_false this (cmpV_lt.2 h)
    omega
  · have := hfil c
    simp only [fil_app] at this
    exact List.append_cancel_right (List.append_cancel_left this)
end Go.Proofs.Ytpfiofgchkfkhaa

/- Contracts of the comparison, and of the sort's parts: insertionSort, swapRange, rotate. -/
set_option linter.unusedVariables false
set_option linter.unusedSimpArgs false
namespace Go.Proofs.Ytpfiofgchkfkhaa
open Go.RowKit Go.Shelf Go.Sort Go.Lib
theorem isNaN_any (a : Int) (w : World) : Calls Try.prog 66 #[.int .i64 a] w fun e w' => e = .returned (.bool false) ∧ w = w' := by
  go_enter Try.func66, Try.ntmps66
  go_wp2
  go_ret
  exact ⟨rfl, rfl⟩
theorem compare_any (a b r : Int) (w : World) (hr : (if a < b then -1 else if b < a then 1 else 0) = r) : Calls Try.prog 31 #[.int .i64 a, .int .i64 b] w fun e w' => e = .returned (.int .i64 r) ∧ w = w' := by
  have N := hide isNaN_any
  by_cases h1 : a < b
  · rw [if_pos h1] at hr
    subst hr
    go_enter Try.func31, Try.ntmps31
    go_wp2_with (go_at_call 66; refine (N.out _ _).mono ?_; rintro e w' ⟨rfl, rfl⟩)
    go_ret
    exact ⟨rfl, rfl⟩
  · rw [if_neg h1] at hr
    by_cases h2 : b < a
    · rw [if_pos h2] at hr
      subst hr
      go_enter Try.func31, Try.ntmps31
      go_wp2_with (go_at_call 66; refine (N.out _ _).mono ?_; rintro e w' ⟨rfl, rfl⟩)
      go_ret
      exact ⟨rfl, rfl⟩
    · rw [if_neg h2] at hr
      subst hr
      go_enter Try.func31, Try.ntmps31
      go_wp2_with (go_at_call 66; refine (N.out _ _).mono ?_; rintro e w' ⟨rfl, rfl⟩)
      go_ret
      exact ⟨rfl, rfl⟩
theorem order1_any (x y : Va) (W : World) : Calls Try.prog 30 #[.agg (vaE x).toArray, .agg (vaE y).toArray] W fun e w' => e = .returned (.int .i64 (cmpV x y)) ∧ ∃ q os', w' = grow (W.drewN q) os' := by
  have C := hide (fun W' => compare_any x.scope y.scope (cmpV x y) W' rfl)
  generalize cmpV x y = r at *
  obtain ⟨nm, ty, sc, sg, rg, msb, lsb⟩ := x
  obtain ⟨nm', ty', sc', sg', rg', msb', lsb'⟩ := y
  simp only [vaE] at C ⊢
  go_enter Try.func30, Try.ntmps30
  go_wp2_with (go_at_call 31; refine (C.out _).mono ?_; rintro e w' ⟨rfl, rfl⟩)
  go_ret
  exact ⟨rfl, 0, _, by rw [alloc_eq_grow, alloc_eq_grow, grow_grow]; rfl⟩
theorem cmpLays (blk off size : Nat) (w : World) : CmpLays Try.prog 30 #[] vaE 7 cmpV blk off size w := fun _ _ _ _ x y => order1_any x y _
theorem mixedH : Try.prog.follows .mixedOrders = true := by kernel_rfl
theorem vaE_one : ∀ x : Va, ∀ v ∈ vaE x, v.oneCell' = true := by
  intro x v hv
  simp [vaE] at hv
  rcases hv with rfl | rfl | rfl | rfl | rfl | rfl | rfl <;> rfl
/-- the world holds the variables l in the row of the slice that is sorted -/
abbrev SV (w0 : World) (blk off : Nat) (l : List Va) (W : World) : Prop := SWK vaE 7 w0 blk off l.toArray W
abbrev RV (w0 : World) (blk off : Nat) (l : List Va) : Prop := RowK vaE 7 w0 blk off l.toArray
theorem entersO : ∀ args w, (callFunc 30 args).run Try.prog w = .ok (.enter 30 args) w := enters_of Try.func30 (by kernel_rfl) rfl
theorem ins_any {w0 W : World} {blk off : Nat} {l0 A X B : List Va} (R : RV w0 blk off l0) (cap n a b : Nat) (h : SV w0 blk off (A ++ (X ++ B)) W) (hn : n = A.length + (X.length + B.length)) (hn0 : n = l0.length) (hb : n ≤ 1000000) (ha : a = A.length) (hb2 : b = A.length + X.length) :
    Calls Try.prog 76 #[.slice (some ⟨blk, off, none⟩) n cap, .int .i64 a, .int .i64 b, .func (.func 30) #[] #[]] W fun e w' => e = .returned (.tuple #[]) ∧ ∃ X', Srt X X' ∧ SV w0 blk off (A ++ (X' ++ B)) w' := by
  have hsz : (A ++ (X ++ B)).toArray.size = n := by simp [hn]
  have hH := h.holds R.hblk R.hH (by rw [hsz, hn0]; simp)
  have hc := AnyQ.insertionSortCmpFunc Try.sortIns 7 Try.isAgg29 Try.sizeOf29 vaE (fun _ => rfl) vaE_one cmpV 30 #[] blk off cap a b (A ++ (X ++ B)).toArray W entersO (cmpLays _ _ _ _) hH (h.lt R.hblk) (by omega) (by rw [hsz]; omega) (by rw [hsz]; omega)
  rw [hsz] at hc
  change Calls Try.prog 76 _ _ _ at hc
  refine hc.mono ?_
  rintro e w' ⟨rfl, m, os, rfl⟩
  obtain ⟨X', e1, hs⟩ := ins_list A X B a b ha hb2
  refine ⟨rfl, X', hs, ?_⟩
  rw [e1]
  exact h.on R.hblk m _ os (by simp [hs.len])
section
variable {P : Program} {kk : Nat} {enc : Va → List Value}
/-- what the sort's walks ask of the program: the size of an element a variable (a numeral would be unfolded by the walk's simp) -/
structure SLay (P : Program) (kk : Nat) : Prop where
  L : SlLaysF0.n20 P Try.sortIns_ren
  aE : ∀ w, (isAgg 29).run P w = .ok true w
  zE : ∀ w, (Go.sizeOf 29).run P w = .ok kk w
  tu : P.underlying 114 = some (TypeDesc.int IntKind.u64)
  swap : P.funcs[92]? = some Try.f92
  rot : P.funcs[84]? = some Try.f84
  sym : P.funcs[77]? = some Try.f77
theorem slay : SLay Try.prog 7 := ⟨Try.sortIns, Try.isAgg29, Try.sizeOf29, Try.underlying114, Try.func92, Try.func84, Try.func77⟩
set_option maxHeartbeats 4000000 in
set_option maxRecDepth 20000 in
theorem swapR_any {w0 W : World} {blk off : Nat} {l0 : List Va} {d : Array Va} (S : SLay P kk) (R : RowK enc kk w0 blk off l0.toArray) (cap n a b k : Nat) (cmpF : Value) (h : SWK enc kk w0 blk off d W) (hn : d.size = n) (hn0 : n = l0.length) (hb : n ≤ 1000000) (ha : a + k ≤ n) (hb2 : b + k ≤ n) :
    Calls P 92 #[.slice (some ⟨blk, off, none⟩) n cap, .int .i64 a, .int .i64 b, .int .i64 k, cmpF] W fun e w' => e = .returned (.tuple #[]) ∧ SWK enc kk w0 blk off (swR d a b k) w' := by
  have hz0 : l0.toArray.size = n := by simp [hn0]
  have Hz0 := hide hz0
  have Hn := hide hn
  have H := hide h
  have HR := hide R
  clear h R hn hn0 hz0
  have mixed := S.L.mixed
  have t0 : P.underlying 0 = some (TypeDesc.tuple #[]) := S.L.t0
  have a0 : ∀ w, (isAgg 0).run P w = .ok false w := S.L.a0
  have z0 : ∀ w, (Go.sizeOf 0).run P w = .ok 1 w := S.L.z0
  have t3 : P.underlying 3 = some (TypeDesc.int IntKind.i64) := S.L.t3
  have a3 : ∀ w, (isAgg 3).run P w = .ok false w := S.L.a3
  have z3 : ∀ w, (Go.sizeOf 3).run P w = .ok 1 w := S.L.z3
  have t4 : P.underlying 4 = some (TypeDesc.bool) := S.L.t4
  have a4 : ∀ w, (isAgg 4).run P w = .ok false w := S.L.a4
  have z4 : ∀ w, (Go.sizeOf 4).run P w = .ok 1 w := S.L.z4
  have t22 : P.underlying 23 = some (TypeDesc.slice 29) := S.L.t22
  have u22 := run_underlying t22
  have a22 : ∀ w, (isAgg 23).run P w = .ok false w := S.L.a22
  have z22 : ∀ w, (Go.sizeOf 23).run P w = .ok 1 w := S.L.z22
  have aE := S.aE
  have zE := S.zE
  go_enter S.swap, Try.ntmps92
  go_wp2_with fail
  go_loopw [10] (fun v wr => ∃ i : Nat, v = .int .i64 (i : Int) ∧ i ≤ k ∧ SWK enc kk w0 blk off (swR d a b i) wr) (fun v _ => k - (intOf v).toNat)
  case atStart => exact ⟨0, rfl, Nat.zero_le _, H.out⟩
  case round =>
    obtain ⟨i, rfl, hi, hs⟩ := hrel
    have hsz : (swR d a b i).size = n := by rw [swR_size]; exact Hn.out
    by_cases hlt : i < k
    · have hi' : (i : Int) < (k : Int) := by omega
      have hi0 : (0 : Int) ≤ (i : Int) := by omega
      have hw1 : IntKind.i64.wrap ((i : Int) + 1) = (i : Int) + 1 := IntWalk.i64_in _ (by omega)
      have hwa : IntKind.i64.wrap ((a : Int) + (i : Int)) = (a : Int) + (i : Int) := IntWalk.i64_in _ (by omega)
      have hwb : IntKind.i64.wrap ((b : Int) + (i : Int)) = (b : Int) + (i : Int) := IntWalk.i64_in _ (by omega)
      have ha0 : (0 : Int) ≤ (a : Int) + (i : Int) := by omega
      have hb0 : (0 : Int) ≤ (b : Int) + (i : Int) := by omega
      have ha1 : (a : Int) + (i : Int) < (n : Int) := by omega
      have hb1 : (b : Int) + (i : Int) < (n : Int) := by omega
      have ea : ((a : Int) + (i : Int)).toNat = a + i := by omega
      have eb : ((b : Int) + (i : Int)).toNat = b + i := by omega
      have hai : a + i < (swR d a b i).size := by rw [hsz]; omega
      have hbi : b + i < (swR d a b i).size := by rw [hsz]; omega
      have l1 := hs.ld1 HR.out (by rw [hsz, Hz0.out]) P (a + i) hai
      have l2 := hs.ld1 HR.out (by rw [hsz, Hz0.out]) P (b + i) hbi
      have s1 := hs.st1 HR.out (by rw [hsz, Hz0.out]) P (a + i) hai (swR d a b i)[b + i]!
      have s2 := hs.st2 HR.out (by rw [hsz, Hz0.out]) P (a + i) (b + i) hai hbi (swR d a b i)[b + i]! (swR d a b i)[a + i]!
      have HSW := hide (show SWK enc kk w0 blk off (swR d a b (i + 1)) _ from hs.swapped HR.out (a + i) (b + i) hai hbi)
      have eA : (enc (swR d a b i)[a + i]!).length = kk := HR.out.hk _
      have eB : (enc (swR d a b i)[b + i]!).length = kk := HR.out.hk _
      clear hs
      generalize enc (swR d a b i)[a + i]! = cA at *
      generalize enc (swR d a b i)[b + i]! = cB at *
      clear hai hbi hsz
      go_wp2_with fail
      go_big_region_o
      all_goals go_wp2
      go_roundw
      case rel => exact ⟨i + 1, by go_num, by omega, HSW.out⟩
      case measure => simp [intOf]; omega
    · obtain rfl : i = k := by omega
      have hi' : ¬ (i : Int) < (i : Int) := by omega
      have HS := hide hs
      clear hs hsz
      go_wp2
      go_end0
      exact ⟨rfl, HS.out⟩
end
end Go.Proofs.Ytpfiofgchkfkhaa

/- Contract of the sort's rotate. -/
set_option linter.unusedVariables false
set_option linter.unusedSimpArgs false
namespace Go.Proofs.Ytpfiofgchkfkhaa
open Go.RowKit Go.Shelf Go.Sort Go.Lib
section
variable {P : Program} {kk : Nat} {enc : Va → List Value}
set_option maxHeartbeats 4000000 in
set_option maxRecDepth 20000 in
theorem rot_any {w0 W : World} {blk off : Nat} {l0 A U V B : List Va} (S : SLay P kk) (R : RowK enc kk w0 blk off l0.toArray) (cap n a m b : Nat) (cmpF : Value) (h : SWK enc kk w0 blk off (A ++ (U ++ (V ++ B))).toArray W)
    (hn : A.length + U.length + V.length + B.length = n) (hn0 : n = l0.length) (hb : n ≤ 1000000) (ha : a = A.length) (hm : m = A.length + U.length) (hb2 : b = A.length + U.length + V.length) (hU : 0 < U.length) (hV : 0 < V.length) :
    Calls P 84 #[.slice (some ⟨blk, off, none⟩) n cap, .int .i64 a, .int .i64 m, .int .i64 b, cmpF] W fun e w' => e = .returned (.tuple #[]) ∧ SWK enc kk w0 blk off (A ++ (V ++ (U ++ B))).toArray w' := by
  have mixed := S.L.mixed
  have t0 : P.underlying 0 = some (TypeDesc.tuple #[]) := S.L.t0
  have a0 : ∀ w, (isAgg 0).run P w = .ok false w := S.L.a0
  have z0 : ∀ w, (Go.sizeOf 0).run P w = .ok 1 w := S.L.z0
  have t3 : P.underlying 3 = some (TypeDesc.int IntKind.i64) := S.L.t3
  have a3 : ∀ w, (isAgg 3).run P w = .ok false w := S.L.a3
  have z3 : ∀ w, (Go.sizeOf 3).run P w = .ok 1 w := S.L.z3
  have t4 : P.underlying 4 = some (TypeDesc.bool) := S.L.t4
  have a4 : ∀ w, (isAgg 4).run P w = .ok false w := S.L.a4
  have z4 : ∀ w, (Go.sizeOf 4).run P w = .ok 1 w := S.L.z4
  have t22 : P.underlying 23 = some (TypeDesc.slice 29) := S.L.t22
  have u22 := run_underlying t22
  have a22 : ∀ w, (isAgg 23).run P w = .ok false w := S.L.a22
  have z22 : ∀ w, (Go.sizeOf 23).run P w = .ok 1 w := S.L.z22
  have aE := S.aE
  have zE := S.zE
  have e92 : ∀ args w, (callFunc 92 args).run P w = .ok (.enter 92 args) w := enters_of S.swap (by kernel_rfl) rfl
  have SR := hide (fun (d : Array Va) (W : World) (p q k : Nat) (h : SWK enc kk w0 blk off d W) (hz : d.size = n) (h1 : p + k ≤ n) (h2 : q + k ≤ n) => swapR_any S R cap n p q k cmpF h hz hn0 hb h1 h2)
  obtain ⟨u, hu⟩ : ∃ u, U.length = u := ⟨_, rfl⟩
  obtain ⟨v, hv⟩ : ∃ v, V.length = v := ⟨_, rfl⟩
  obtain ⟨T, hT⟩ : ∃ T, A ++ (V ++ (U ++ B)) = T := ⟨_, rfl⟩
  have START := hide (show ∃ A' U' V' B', U'.length = u ∧ V'.length = v ∧ A'.length + u = m ∧ A'.length + u + v + B'.length = n ∧ A' ++ (V' ++ (U' ++ B')) = T ∧ SWK enc kk w0 blk off (A' ++ (U' ++ (V' ++ B'))).toArray W from ⟨A, U, V, B, hu, hv, by omega, by omega, hT, h⟩)
  have hma : a + u = m := by omega
  have hmb : m + v = b := by omega
  have hbn : b ≤ n := by omega
  have hu0 : 0 < u := by omega
  have hv0 : 0 < v := by omega
  have hw1 : IntKind.i64.wrap ((m : Int) - (a : Int)) = (u : Int) := (IntWalk.i64_in _ (by omega)).trans (by omega)
  have hw2 : IntKind.i64.wrap ((b : Int) - (m : Int)) = (v : Int) := (IntWalk.i64_in _ (by omega)).trans (by omega)
  rw [hT]
  clear h hn hn0 ha hm hb2 hU hV hu hv hT R
  go_enter S.rot, Try.ntmps84
  go_wp2_with fail
  go_loopw [10, 11] (fun x y wr => ∃ i j : Nat, x = .int .i64 (i : Int) ∧ y = .int .i64 (j : Int) ∧ 0 < i ∧ 0 < j ∧ ∃ A' U' V' B', U'.length = i ∧ V'.length = j ∧ A'.length + i = m ∧ A'.length + i + j + B'.length = n ∧ A' ++ (V' ++ (U' ++ B')) = T ∧ SWK enc kk w0 blk off (A' ++ (U' ++ (V' ++ B'))).toArray wr) (fun x y _ => (intOf x).toNat + (intOf y).toNat)
  case atStart => exact ⟨u, v, rfl, rfl, hu0, hv0, START.out⟩
  case round =>
    obtain ⟨i, j, rfl, rfl, hi0, hj0, A', U', V', B', hU, hV, hA, hz, hT, hs⟩ := hrel
    have hsz : (A' ++ (U' ++ (V' ++ B'))).toArray.size = n := by simp; omega
    obtain ⟨p, hp⟩ : ∃ p : Nat, p + i = m := ⟨A'.length, hA⟩
    have hwp : IntKind.i64.wrap ((m : Int) - (i : Int)) = (p : Int) := (IntWalk.i64_in _ (by omega)).trans (by omega)
    rcases Nat.lt_trichotomy i j with hij | hij | hij
    · -- i < j
      have hij1 : ¬ i = j := by omega
      have hij2 : (i : Int) < (j : Int) := by omega
      have hij3 : ¬ (i : Int) = (j : Int) := by omega
      have hij4 : ¬ (j : Int) < (i : Int) := by omega
      obtain ⟨r, hr⟩ : ∃ r : Nat, r + i = j := ⟨j - i, by omega⟩
      have hwr : IntKind.i64.wrap ((j : Int) - (i : Int)) = (r : Int) := (IntWalk.i64_in _ (by omega)).trans (by omega)
      obtain ⟨q, hq⟩ : ∃ q : Nat, m + r = q := ⟨_, rfl⟩
      have hwj : IntKind.i64.wrap ((m : Int) + (j : Int)) = (m : Int) + (j : Int) := IntWalk.i64_in _ (by omega)
      have hwq : IntKind.i64.wrap ((m : Int) + (j : Int) - (i : Int)) = (q : Int) := (IntWalk.i64_in _ (by omega)).trans (by omega)
      obtain ⟨V1, V2, rfl, hV1, hV2⟩ : ∃ V1 V2, V' = V1 ++ V2 ∧ V1.length = r ∧ V2.length = i := ⟨V'.take r, V'.drop r, (List.take_append_drop r V').symm, by rw [List.length_take]; omega, by rw [List.length_drop]; omega⟩
      have C := hide (SR.out _ wr p q i hs hsz (by omega) (by omega))
      have e1 : (A' ++ (U' ++ ((V1 ++ V2) ++ B'))).toArray = (A' ++ (U' ++ (V1 ++ (V2 ++ B')))).toArray := by simp
      have e2 := swR_list i A' U' V1 V2 B' p q hU hV2 (by omega) (by omega)
      have C2 := C.out
      rw [e1, e2] at C2
      have HC := hide C2
      have HT := hide hT
      have HL := hide (And.intro hU (And.intro hA hz))
      clear C C2 e1 e2 hs hsz hU hA hz hT hV
      go_wp2_with fail
      refine HC.out.mono ?_
      rintro e w1 ⟨rfl, hs1⟩
      have HS1 := hide hs1
      clear hs1
      go_wp2
      go_roundw
      case rel =>
        refine ⟨i, r, by first | rfl | go_num, by first | rfl | go_num, hi0, by omega, A', V2, V1, U' ++ B', hV2, hV1, HL.out.2.1, by have := HL.out.2.2; have := HL.out.1; simp; omega, ?_, HS1.out⟩
        rw [← HT.out]; simp
      case measure => simp [intOf]; omega
    · -- i = j
      subst hij
      have C := hide (SR.out _ wr p m i hs hsz (by omega) (by omega))
      have e1 : (A' ++ (U' ++ (V' ++ B'))).toArray = (A' ++ (U' ++ ([] ++ (V' ++ B')))).toArray := by simp
      have e2 := swR_list i A' U' [] V' B' p m hU hV (by omega) (by simp; omega)
      have C2 := C.out
      rw [e1, e2, List.nil_append, hT] at C2
      have HC := hide C2
      clear C C2 e1 e2 hs hsz hU hA hz hT hV
      go_wp2_with fail
      refine HC.out.mono ?_
      rintro e w1 ⟨rfl, hs1⟩
      have HS1 := hide hs1
      clear hs1
      go_wp2
      go_end0
      exact ⟨rfl, HS1.out⟩
    · have hij1 : ¬ i = j := by omega
      have hij2 : (j : Int) < (i : Int) := by omega
      have hij3 : ¬ (i : Int) = (j : Int) := by omega
      obtain ⟨r, hr⟩ : ∃ r : Nat, r + j = i := ⟨i - j, by omega⟩
      have hwr : IntKind.i64.wrap ((i : Int) - (j : Int)) = (r : Int) := (IntWalk.i64_in _ (by omega)).trans (by omega)
      obtain ⟨U1, U2, rfl, hU1, hU2⟩ : ∃ V1 V2, U' = V1 ++ V2 ∧ V1.length = j ∧ V2.length = r := ⟨U'.take j, U'.drop j, (List.take_append_drop j U').symm, by rw [List.length_take]; omega, by rw [List.length_drop]; omega⟩
      have C := hide (SR.out _ wr p m j hs hsz (by omega) (by omega))
      have e1 : (A' ++ ((U1 ++ U2) ++ (V' ++ B'))).toArray = (A' ++ (U1 ++ (U2 ++ (V' ++ B')))).toArray := by simp
      have e2 := swR_list j A' U1 U2 V' B' p m hU1 hV (by omega) (by omega)
      have C2 := C.out
      rw [e1, e2] at C2
      have HC := hide C2
      have HT := hide hT
      have HL := hide (And.intro hV (And.intro hA hz))
      clear C C2 e1 e2 hs hsz hU hA hz hT hV
      go_wp2_with fail
      refine HC.out.mono ?_
      rintro e w1 ⟨rfl, hs1⟩
      have HS1 := hide hs1
      clear hs1
      go_wp2
      go_roundw
      case rel =>
        refine ⟨r, j, by first | rfl | go_num, by first | rfl | go_num, by omega, hj0, A' ++ V', U2, U1, B', hU2, hU1, by have := HL.out.1; have := HL.out.2.1; simp; omega, by have := HL.out.2.2; have := HL.out.1; simp; omega, ?_, by have := HS1.out; simpa using this⟩
        rw [← HT.out]; simp
      case measure => simp [intOf]; omega
end
end Go.Proofs.Ytpfiofgchkfkhaa

/- Contract of the sort's symMerge. -/
set_option linter.unusedVariables false
set_option linter.unusedSimpArgs false
namespace Go.Proofs.Ytpfiofgchkfkhaa
open Go.RowKit Go.Shelf Go.Sort Go.Lib
theorem get_seg {A R B : List Va} {k i : Nat} (hk : k = A.length + i) (hi : i < R.length) : (A ++ (R ++ B)).toArray[k]! = R[i] := by
  subst hk
  have h : A.length + i < (A ++ (R ++ B)).length := by simp; omega
  simp only [List.getElem!_toArray]
  rw [getElem!_pos (A ++ (R ++ B)) (A.length + i) h, List.getElem_append_right (by omega), List.getElem_append_left (by omega)]
  congr 1; omega
theorem last_take {R : List Va} {i : Nat} (h0 : 0 < i) (h : i ≤ R.length) : (R.take i).getLast? = some (R[i - 1]'(by omega)) := by
  rw [List.getLast?_eq_getElem?, List.length_take, Nat.min_eq_left h, List.getElem?_take, if_pos (by omega), List.getElem?_eq_getElem (by omega)]
theorem head_drop {R : List Va} {i : Nat} (h : i < R.length) : (R.drop i).head? = some R[i] := by
  rw [List.head?_drop, List.getElem?_eq_getElem h]
/-- what the search for one element's place has found -/
theorem one_left {R : List Va} {x : Va} {i : Nat} (hR : Asc R) (hi : i ≤ R.length) (h1 : ∀ (h : 0 < i), (R[i - 1]'(by omega)).scope < x.scope) (h2 : ∀ (h : i < R.length), ¬ R[i].scope < x.scope) :
    Srt (x :: R) (R.take i ++ x :: R.drop i) := by
  have hR' : Asc (R.take i ++ R.drop i) := by rw [List.take_append_drop]; exact hR
  have hlow : ∀ y ∈ R.take i, y.scope < x.scope := by
    intro y hy
    have hi0 : 0 < i := by
      rcases Nat.eq_zero_or_pos i with h | h
      · rw [h] at hy; cases hy
      · exact h
    have := asc_last (asc_app.1 hR').1 (last_take hi0 hi) y hy
    have := h1 hi0
    omega
  have hhigh : ∀ y ∈ R.drop i, x.scope ≤ y.scope := by
    intro y hy
    have hi0 : i < R.length := by
      rcases Nat.lt_or_ge i R.length with h | h
      · exact h
      · rw [List.drop_eq_nil_of_le h] at hy; cases hy
    have := asc_head (asc_app.1 hR').2.1 (head_drop hi0) y hy
    have := h2 hi0
    omega
  have h := mergeG (L1 := []) (L2 := [x]) (R1 := R.take i) (R2 := R.drop i) (X1 := R.take i) (X2 := x :: R.drop i) (by unfold Asc; simp) hR' (by simp) (fun y hy z hz => by rw [List.mem_singleton.1 hz]; exact hlow y hy)
    (Srt.refl (asc_app.1 hR').1) (Srt.refl (List.pairwise_cons.2 ⟨hhigh, (asc_app.1 hR').2.1⟩))
  rw [List.take_append_drop] at h
  exact h
theorem one_right {L : List Va} {x : Va} {i : Nat} (hL : Asc L) (hi : i ≤ L.length) (h1 : ∀ (h : 0 < i), ¬ x.scope < (L[i - 1]'(by omega)).scope) (h2 : ∀ (h : i < L.length), x.scope < L[i].scope) :
    Srt (L ++ [x]) (L.take i ++ x :: L.drop i) := by
  have hL' : Asc (L.take i ++ L.drop i) := by rw [List.take_append_drop]; exact hL
  have hlow : ∀ y ∈ L.take i, y.scope ≤ x.scope := by
    intro y hy
    have hi0 : 0 < i := by
      rcases Nat.eq_zero_or_pos i with h | h
      · rw [h] at hy; cases hy
      · exact h
    have := asc_last (asc_app.1 hL').1 (last_take hi0 hi) y hy
    have := h1 hi0
    omega
  have hhigh : ∀ y ∈ L.drop i, x.scope < y.scope := by
    intro y hy
    have hi0 : i < L.length := by
      rcases Nat.lt_or_ge i L.length with h | h
      · exact h
      · rw [List.drop_eq_nil_of_le h] at hy; cases hy
    have := asc_head (asc_app.1 hL').2.1 (head_drop hi0) y hy
    have := h2 hi0
    omega
  have h := mergeG (L1 := L.take i) (L2 := L.drop i) (R1 := [x]) (R2 := []) (X1 := L.take i ++ [x]) (X2 := L.drop i) hL' (by unfold Asc; simp) (by simp) (fun y hy z hz => by rw [List.mem_singleton.1 hy]; exact hhigh z hz)
    (Srt.refl (asc_app.2 ⟨(asc_app.1 hL').1, by unfold Asc; simp, fun y hy z hz => by rw [List.mem_singleton.1 hz]; exact hlow y hy⟩)) (by rw [List.append_nil]; exact Srt.refl (asc_app.1 hL').2.1)
  rw [List.take_append_drop, List.append_nil, List.append_assoc] at h
  exact h
section
variable {P : Program} {kk : Nat} {enc : Va → List Value}
set_option maxHeartbeats 4000000 in
set_option maxRecDepth 20000 in
theorem sym_one {w0 W : World} {blk off : Nat} {l0 A R B : List Va} {x : Va} (S : SLay P kk) (K : RowK enc kk w0 blk off l0.toArray) (eg : ∀ args w, (callFunc 30 args).run P w = .ok (.enter 30 args) w) (cap n a m b : Nat) (hC : CmpLays P 30 #[] enc kk cmpV blk off n w0) (h : SWK enc kk w0 blk off (A ++ (x :: (R ++ B))).toArray W)
    (hn : A.length + 1 + R.length + B.length = n) (hn0 : n = l0.length) (hb : n ≤ 1000000) (ha : a = A.length) (hm : m = A.length + 1) (hb2 : b = A.length + 1 + R.length) (hR : Asc R) :
    Calls P 77 #[.slice (some ⟨blk, off, none⟩) n cap, .int .i64 a, .int .i64 m, .int .i64 b, .func (.func 30) #[] #[]] W fun e w' => e = .returned (.tuple #[]) ∧ ∃ X, Srt (x :: R) X ∧ SWK enc kk w0 blk off (A ++ (X ++ B)).toArray w' := by
  have mixed := S.L.mixed
  have t0 : P.underlying 0 = some (TypeDesc.tuple #[]) := S.L.t0
  have a0 : ∀ w, (isAgg 0).run P w = .ok false w := S.L.a0
  have z0 : ∀ w, (Go.sizeOf 0).run P w = .ok 1 w := S.L.z0
  have t3 : P.underlying 3 = some (TypeDesc.int IntKind.i64) := S.L.t3
  have a3 : ∀ w, (isAgg 3).run P w = .ok false w := S.L.a3
  have z3 : ∀ w, (Go.sizeOf 3).run P w = .ok 1 w := S.L.z3
  have t4 : P.underlying 4 = some (TypeDesc.bool) := S.L.t4
  have a4 : ∀ w, (isAgg 4).run P w = .ok false w := S.L.a4
  have z4 : ∀ w, (Go.sizeOf 4).run P w = .ok 1 w := S.L.z4
  have t22 : P.underlying 23 = some (TypeDesc.slice 29) := S.L.t22
  have u22 := run_underlying t22
  have a22 : ∀ w, (isAgg 23).run P w = .ok false w := S.L.a22
  have z22 : ∀ w, (Go.sizeOf 23).run P w = .ok 1 w := S.L.z22
  have aE := S.aE
  have zE := S.zE
  have tu := S.tu
  have utu := run_underlying tu
  obtain ⟨d, hd⟩ : ∃ d, (A ++ (x :: (R ++ B))).toArray = d := ⟨_, rfl⟩
  have hdz : d.size = n := by rw [← hd]; simp; omega
  have hdz0 : d.size = l0.toArray.size := by rw [hdz, hn0]; simp
  have hda : d[a]! = x := by rw [← hd]; exact get_mid ha
  rw [hd] at h
  have Hd := hide hd
  have HC := hide hC
  have HK := hide K
  have H := hide h
  have HR := hide hR
  have HL := hide (And.intro hn hn0)
  have HA := hide ha
  have HB := hide hb2
  have HMA := hide (show m = a + 1 by omega)
  have hmn : m ≤ n := by omega
  have hmb : m ≤ b := by omega
  have hbn : b ≤ n := by omega
  have hw1 : IntKind.i64.wrap ((m : Int) - (a : Int)) = 1 := (IntWalk.i64_in _ (by omega)).trans (by omega)
  have h0m : 0 < m := by omega
  clear hd hC K h hR hn hn0 ha hm hb2
  go_enter S.sym, Try.ntmps77
  go_wp2_with fail
  go_loopw [10, 11] (fun p q wr => ∃ i j : Nat, p = .int .i64 (i : Int) ∧ q = .int .i64 (j : Int) ∧ m ≤ i ∧ i ≤ j ∧ j ≤ b ∧ (i = m ∨ cmpV d[i - 1]! x < 0) ∧ (j = b ∨ 0 ≤ cmpV d[j]! x) ∧ SWK enc kk w0 blk off d wr) (fun p q _ => (intOf q).toNat - (intOf p).toNat)
  case atStart => exact ⟨m, b, rfl, rfl, Nat.le_refl _, hmb, Nat.le_refl _, .inl rfl, .inl rfl, H.out⟩
  case round =>
    obtain ⟨i, j, rfl, rfl, hi0, hij, hjb, hci, hcj, hs⟩ := hrel
    by_cases hlt : i < j
    · have hlt' : (i : Int) < (j : Int) := by omega
      obtain ⟨q, hq⟩ : ∃ q, (i + j) / 2 = q := ⟨_, rfl⟩
      have hq1 : i ≤ q := by omega
      have hq2 : q < j := by omega
      have hqz : ((i : Int) + (j : Int)) / 2 = (q : Int) := by omega
      have hqn : (q : Int) < (n : Int) := by omega
      have han : (a : Int) < (n : Int) := by have := HMA.out; omega
      have hwq : IntKind.i64.wrap ((q : Int) + 1) = (q : Int) + 1 := IntWalk.i64_in _ (by omega)
      have l1 := fun n' os' => hs.ld HK.out hdz0 P q (by omega) n' os'
      have l2 := fun n' os' => hs.ld HK.out hdz0 P a (by have := HMA.out; omega) n' os'
      have hcg := fun n' os' => hs.cmp HC.out hdz d[q]! x n' os'
      rw [hda] at l2
      have CLS := hide (fun n' os' => hs.grown n' os')
      obtain ⟨y, hy⟩ : ∃ y, d[q]! = y := ⟨_, rfl⟩
      rw [hy] at l1 hcg
      have HY := hide hy
      have HQ := hide hq
      have Hci := hide hci
      have Hcj := hide hcj
      clear hs hci hcj hy hq
      by_cases hlv : cmpV y x < 0
      · go_wp2_with fail
        go_quiet_grown (first | (go_at_fn 30; refine Calls.grown_of (hcg _ _)))
        go_wp2
        go_roundw
        case rel => exact ⟨q + 1, j, by go_num, rfl, by omega, by omega, hjb, .inr (by rw [Nat.add_sub_cancel, HY.out]; exact hlv), Hcj.out, CLS.out _ _⟩
        case measure => simp [intOf]; omega
      · go_wp2_with fail
        go_quiet_grown (first | (go_at_fn 30; refine Calls.grown_of (hcg _ _)))
        go_wp2
        go_roundw
        case rel => exact ⟨i, q, rfl, rfl, hi0, hq1, by omega, Hci.out, .inr (by rw [HY.out]; omega), CLS.out _ _⟩
        case measure => simp [intOf]; omega
    · obtain rfl : i = j := by omega
      have hlt' : ¬ (i : Int) < (i : Int) := by omega
      have hwi : IntKind.i64.wrap ((i : Int) - 1) = (i : Int) - 1 := IntWalk.i64_in _ (by have := HMA.out; omega)
      have Hs := hide hs
      have Hci := hide hci
      have Hcj := hide hcj
      clear hs hci hcj
      go_wp2_with fail
      go_loopw [13] (fun v wr => ∃ p t : Nat, v = .int .i64 (p : Int) ∧ a + t = p ∧ t ≤ i - m ∧ SWK enc kk w0 blk off (shU d a t) wr) (fun v _ => i - (intOf v).toNat)
      case atStart => exact ⟨a, 0, rfl, rfl, Nat.zero_le _, Hs.out⟩
      case round =>
        obtain ⟨p, t, rfl, hpt, ht, hs2⟩ := hrel
        have hma := HMA.out
        have hsz : (shU d a t).size = n := by rw [shU_size]; exact hdz
        by_cases hl2 : t < i - m
        · have hl2' : (p : Int) < (i : Int) - 1 := by omega
          have hp0 : (0 : Int) ≤ (p : Int) := by omega
          have hp1 : (0 : Int) ≤ (p : Int) + 1 := by omega
          have hp2 : (p : Int) + 1 < (n : Int) := by omega
          have hp3 : (p : Int) < (n : Int) := by omega
          have ep : ((p : Int) + 1).toNat = p + 1 := by omega
          have hwp : IntKind.i64.wrap ((p : Int) + 1) = (p : Int) + 1 := IntWalk.i64_in _ (by omega)
          have hz0 : (shU d a t).size = l0.toArray.size := by rw [hsz, ← hdz]; exact hdz0
          have i1 : p < (shU d a t).size := by omega
          have i2 : p + 1 < (shU d a t).size := by omega
          have l1 := hs2.ld1 HK.out hz0 P p i1
          have l2 := hs2.ld1 HK.out hz0 P (p + 1) i2
          have s1 := hs2.st1 HK.out hz0 P p i1 (shU d a t)[p + 1]!
          have s2 := hs2.st2 HK.out hz0 P p (p + 1) i1 i2 (shU d a t)[p + 1]! (shU d a t)[p]!
          have hsw := hs2.swapped HK.out p (p + 1) i1 i2
          have esw : swp (shU d a t) p (p + 1) = shU d a (t + 1) := by rw [← hpt]; rfl
          rw [esw] at hsw
          have HSW := hide hsw
          clear hsw esw
          have eA : (enc (shU d a t)[p]!).length = kk := HK.out.hk _
          have eB : (enc (shU d a t)[p + 1]!).length = kk := HK.out.hk _
          clear hs2
          generalize enc (shU d a t)[p]! = cA at *
          generalize enc (shU d a t)[p + 1]! = cB at *
          clear i1 i2 hsz hz0 hma
          go_wp2_with fail
          go_big_region_o
          all_goals go_wp2
          go_roundw
          case rel => exact ⟨p + 1, t + 1, by go_num, by omega, by omega, HSW.out⟩
          case measure => simp [intOf]; omega
        · have hl2' : ¬ (p : Int) < (i : Int) - 1 := by omega
          obtain rfl : t = i - m := by omega
          have HS2 := hide hs2
          clear hs2 hsz hma
          go_wp2
          refine bodyPost_ret (results_none rfl _ _ _) rfl ?_
          refine ⟨rfl, R.take (i - m) ++ x :: R.drop (i - m), ?_, ?_⟩
          · have hma := HMA.out
            have hA := HA.out
            have hlen := HL.out.1
            have hB := HB.out
            refine one_left HR.out (by omega) (fun h => ?_) (fun h => ?_)
            · rcases Hci.out with e | e
              · omega
              · have hg := get_seg (A := A ++ [x]) (R := R) (B := B) (k := i - 1) (i := i - m - 1) (by simp; omega) (by omega)
                have ed : (A ++ [x] ++ (R ++ B)).toArray = d := by rw [← Hd.out]; simp
                rw [ed] at hg
                rw [hg] at e
                exact cmpV_lt.1 e
            · rcases Hcj.out with e | e
              · omega
              · have hg := get_seg (A := A ++ [x]) (R := R) (B := B) (k := i) (i := i - m) (by simp; omega) (by omega)
                have ed : (A ++ [x] ++ (R ++ B)).toArray = d := by rw [← Hd.out]; simp
                rw [ed] at hg
                rw [hg] at e
                intro h2
                have := cmpV_lt.2 h2
                omega
          · have hlist := shU_list (i - m) A (R.take (i - m)) (R.drop (i - m) ++ B) x a (by rw [List.length_take]; have := HMA.out; have := HA.out; have := HL.out.1; have := HB.out; omega) HA.out
            have ed : (A ++ x :: (R.take (i - m) ++ (R.drop (i - m) ++ B))).toArray = d := by
              rw [← Hd.out, ← List.append_assoc (R.take (i - m)), List.take_append_drop]
            rw [ed] at hlist
            have := HS2.out
            rw [hlist] at this
            simpa using this
end
end Go.Proofs.Ytpfiofgchkfkhaa

/- Contract of the sort's symMerge where the right part is one element. -/
set_option linter.unusedVariables false
set_option linter.unusedSimpArgs false
namespace Go.Proofs.Ytpfiofgchkfkhaa
open Go.RowKit Go.Shelf Go.Sort Go.Lib
section
variable {P : Program} {kk : Nat} {enc : Va → List Value}
set_option maxHeartbeats 4000000 in
set_option maxRecDepth 20000 in
theorem sym_two {w0 W : World} {blk off : Nat} {l0 A L B : List Va} {x : Va} (S : SLay P kk) (K : RowK enc kk w0 blk off l0.toArray) (eg : ∀ args w, (callFunc 30 args).run P w = .ok (.enter 30 args) w) (cap n a m b : Nat) (hC : CmpLays P 30 #[] enc kk cmpV blk off n w0) (h : SWK enc kk w0 blk off (A ++ (L ++ (x :: B))).toArray W)
    (hn : A.length + L.length + 1 + B.length = n) (hn0 : n = l0.length) (hb : n ≤ 1000000) (ha : a = A.length) (hm : m = A.length + L.length) (hb2 : b = A.length + L.length + 1) (hL : Asc L) (hL1 : L.length ≠ 1) :
    Calls P 77 #[.slice (some ⟨blk, off, none⟩) n cap, .int .i64 a, .int .i64 m, .int .i64 b, .func (.func 30) #[] #[]] W fun e w' => e = .returned (.tuple #[]) ∧ ∃ X, Srt (L ++ [x]) X ∧ SWK enc kk w0 blk off (A ++ (X ++ B)).toArray w' := by
  have mixed := S.L.mixed
  have t0 : P.underlying 0 = some (TypeDesc.tuple #[]) := S.L.t0
  have a0 : ∀ w, (isAgg 0).run P w = .ok false w := S.L.a0
  have z0 : ∀ w, (Go.sizeOf 0).run P w = .ok 1 w := S.L.z0
  have t3 : P.underlying 3 = some (TypeDesc.int IntKind.i64) := S.L.t3
  have a3 : ∀ w, (isAgg 3).run P w = .ok false w := S.L.a3
  have z3 : ∀ w, (Go.sizeOf 3).run P w = .ok 1 w := S.L.z3
  have t4 : P.underlying 4 = some (TypeDesc.bool) := S.L.t4
  have a4 : ∀ w, (isAgg 4).run P w = .ok false w := S.L.a4
  have z4 : ∀ w, (Go.sizeOf 4).run P w = .ok 1 w := S.L.z4
  have t22 : P.underlying 23 = some (TypeDesc.slice 29) := S.L.t22
  have u22 := run_underlying t22
  have a22 : ∀ w, (isAgg 23).run P w = .ok false w := S.L.a22
  have z22 : ∀ w, (Go.sizeOf 23).run P w = .ok 1 w := S.L.z22
  have aE := S.aE
  have zE := S.zE
  have tu := S.tu
  have utu := run_underlying tu
  obtain ⟨d, hd⟩ : ∃ d, (A ++ (L ++ (x :: B))).toArray = d := ⟨_, rfl⟩
  have hdz : d.size = n := by rw [← hd]; simp; omega
  have hdz0 : d.size = l0.toArray.size := by rw [hdz, hn0]; simp
  have hdm : d[m]! = x := by
    rw [← hd, ← List.append_assoc]; exact get_mid (by rw [hm]; simp)
  rw [hd] at h
  have Hd := hide hd
  have HC := hide hC
  have HK := hide K
  have H := hide h
  have HLs := hide hL
  have HL := hide (And.intro hn hn0)
  have HA := hide ha
  have HM := hide hm
  have HMB := hide (show b = m + 1 by omega)
  have ham : a ≤ m := by omega
  have hmn : m < n := by omega
  obtain ⟨c, hc⟩ : ∃ c : Nat, m - a = c := ⟨_, rfl⟩
  have hc1 : ¬ (c : Int) = 1 := by omega
  have hc2 : ((c : Int) == 1) = false := beq_eq_false_iff_ne.2 hc1
  have hc3 : decide ((c : Int) = 1) = false := decide_eq_false hc1
  have hw1 : IntKind.i64.wrap ((m : Int) - (a : Int)) = (c : Int) := (IntWalk.i64_in _ (by omega)).trans (by omega)
  have hw2 : IntKind.i64.wrap ((b : Int) - (m : Int)) = 1 := (IntWalk.i64_in _ (by omega)).trans (by omega)
  have hmnz : (m : Int) < (n : Int) := by omega
  clear hd hC K h hL hn hn0 ha hm hb2 hc hL1
  go_enter S.sym, Try.ntmps77
  go_wp2_with fail
  go_loopw [14, 15] (fun p q wr => ∃ i j : Nat, p = .int .i64 (i : Int) ∧ q = .int .i64 (j : Int) ∧ a ≤ i ∧ i ≤ j ∧ j ≤ m ∧ (i = a ∨ 0 ≤ cmpV x d[i - 1]!) ∧ (j = m ∨ cmpV x d[j]! < 0) ∧ SWK enc kk w0 blk off d wr) (fun p q _ => (intOf q).toNat - (intOf p).toNat)
  case atStart => exact ⟨a, m, rfl, rfl, Nat.le_refl _, ham, Nat.le_refl _, .inl rfl, .inl rfl, H.out⟩
  case round =>
    obtain ⟨i, j, rfl, rfl, hi0, hij, hjb, hci, hcj, hs⟩ := hrel
    by_cases hlt : i < j
    · have hlt' : (i : Int) < (j : Int) := by omega
      obtain ⟨q, hq⟩ : ∃ q, (i + j) / 2 = q := ⟨_, rfl⟩
      have hq1 : i ≤ q := by omega
      have hq2 : q < j := by omega
      have hqz : ((i : Int) + (j : Int)) / 2 = (q : Int) := by omega
      have hqn : (q : Int) < (n : Int) := by omega
      have hwq : IntKind.i64.wrap ((q : Int) + 1) = (q : Int) + 1 := IntWalk.i64_in _ (by omega)
      have l1 := fun n' os' => hs.ld HK.out hdz0 P q (by omega) n' os'
      have l2 := fun n' os' => hs.ld HK.out hdz0 P m (by omega) n' os'
      have hcg := fun n' os' => hs.cmp HC.out hdz x d[q]! n' os'
      rw [hdm] at l2
      have CLS := hide (fun n' os' => hs.grown n' os')
      obtain ⟨y, hy⟩ : ∃ y, d[q]! = y := ⟨_, rfl⟩
      rw [hy] at l1 hcg
      have HY := hide hy
      have HQ := hide hq
      have Hci := hide hci
      have Hcj := hide hcj
      clear hs hci hcj hy hq
      by_cases hlv : cmpV x y < 0
      · have hld : decide (cmpV x y < 0) = true := decide_eq_true hlv
        go_wp2_with fail
        go_quiet_grown (first | (go_at_fn 30; refine Calls.grown_of (hcg _ _)))
        go_wp2
        go_roundw
        case rel => exact ⟨i, q, rfl, rfl, hi0, hq1, by omega, Hci.out, .inr (by rw [HY.out]; exact hlv), CLS.out _ _⟩
        case measure => simp [intOf]; omega
      · have hld : decide (cmpV x y < 0) = false := decide_eq_false hlv
        go_wp2_with fail
        go_quiet_grown (first | (go_at_fn 30; refine Calls.grown_of (hcg _ _)))
        go_wp2
        go_roundw
        case rel => exact ⟨q + 1, j, by go_num, rfl, by omega, by omega, hjb, .inr (by rw [Nat.add_sub_cancel, HY.out]; omega), Hcj.out, CLS.out _ _⟩
        case measure => simp [intOf]; omega
    · obtain rfl : i = j := by omega
      have hlt' : ¬ (i : Int) < (i : Int) := by omega
      have Hs := hide hs
      have Hci := hide hci
      have Hcj := hide hcj
      clear hs hci hcj
      go_wp2_with fail
      go_loopw [17] (fun v wr => ∃ p t : Nat, v = .int .i64 (p : Int) ∧ p + t = m ∧ i ≤ p ∧ SWK enc kk w0 blk off (shD d m t) wr) (fun v _ => (intOf v).toNat)
      case atStart => exact ⟨m, 0, rfl, rfl, hjb, Hs.out⟩
      case round =>
        obtain ⟨p, t, rfl, hpt, ht, hs2⟩ := hrel
        have hsz : (shD d m t).size = n := by rw [shD_size]; exact hdz
        by_cases hl2 : i < p
        · have hl2' : (i : Int) < (p : Int) := by omega
          obtain ⟨q, rfl⟩ : ∃ q, p = q + 1 := ⟨p - 1, by omega⟩
          have hp0 : (0 : Int) ≤ (q : Int) := by omega
          have hp1 : (0 : Int) ≤ (q : Int) + 1 := by omega
          have hp2 : (q : Int) + 1 < (n : Int) := by omega
          have hp3 : (q : Int) < (n : Int) := by omega
          have ep : ((q : Int) + 1).toNat = q + 1 := by omega
          have hwp : IntKind.i64.wrap (((q : Int) + 1) - 1) = (q : Int) := (IntWalk.i64_in _ (by omega)).trans (by omega)
          have hwp2 : IntKind.i64.wrap (q : Int) = (q : Int) := IntWalk.i64_in _ (by omega)
          have hl3 : (i : Int) < (q : Int) + 1 := by omega
          have hz0 : (shD d m t).size = l0.toArray.size := by rw [hsz, ← hdz]; exact hdz0
          have i1 : q < (shD d m t).size := by omega
          have i2 : q + 1 < (shD d m t).size := by omega
          have l1 := hs2.ld1 HK.out hz0 P q i1
          have l2 := hs2.ld1 HK.out hz0 P (q + 1) i2
          have s1 := hs2.st1 HK.out hz0 P (q + 1) i2 (shD d m t)[q]!
          have s2 := hs2.st2 HK.out hz0 P (q + 1) q i2 i1 (shD d m t)[q]! (shD d m t)[q + 1]!
          have hsw := hs2.swapped HK.out (q + 1) q i2 i1
          have esw : swp (shD d m t) (q + 1) q = shD d m (t + 1) := by
            show _ = swp (shD d m t) (m - t) (m - t - 1)
            rw [show m - t = q + 1 by omega, Nat.add_sub_cancel]
          rw [esw] at hsw
          have HSW := hide hsw
          clear hsw esw
          have eA : (enc (shD d m t)[q]!).length = kk := HK.out.hk _
          have eB : (enc (shD d m t)[q + 1]!).length = kk := HK.out.hk _
          clear hs2
          generalize enc (shD d m t)[q]! = cA at *
          generalize enc (shD d m t)[q + 1]! = cB at *
          clear i1 i2 hsz hz0
          go_wp2_with fail
          go_big_region_o
          all_goals go_wp2
          go_roundw
          case rel => exact ⟨q, t + 1, rfl, by omega, by omega, HSW.out⟩
          case measure => simp [intOf]
        · have hl2' : ¬ (i : Int) < (p : Int) := by omega
          obtain rfl : i = p := by omega
          have HS2 := hide hs2
          clear hs2 hsz
          go_wp2
          refine bodyPost_ret (results_none rfl _ _ _) rfl ?_
          refine ⟨rfl, L.take (i - a) ++ x :: L.drop (i - a), ?_, ?_⟩
          · have hA := HA.out
            have hM := HM.out
            have hlen := HL.out.1
            refine one_right HLs.out (by omega) (fun h => ?_) (fun h => ?_)
            · rcases Hci.out with e | e
              · omega
              · have hg := get_seg (A := A) (R := L) (B := x :: B) (k := i - 1) (i := i - a - 1) (by omega) (by omega)
                rw [Hd.out] at hg
                rw [hg] at e
                intro h2
                have := cmpV_lt.2 h2
                omega
            · rcases Hcj.out with e | e
              · omega
              · have hg := get_seg (A := A) (R := L) (B := x :: B) (k := i) (i := i - a) (by omega) (by omega)
                rw [Hd.out] at hg
                rw [hg] at e
                exact cmpV_lt.1 e
          · have hlist := shD_list t (A ++ L.take (i - a)) (L.drop (i - a)) B x m (by rw [List.length_drop]; have := HA.out; have := HM.out; omega) (by rw [List.length_append, List.length_take]; have := HA.out; have := HM.out; omega)
            have ed : ((A ++ L.take (i - a)) ++ (L.drop (i - a) ++ x :: B)).toArray = d := by
              rw [← Hd.out, List.append_assoc, ← List.append_assoc (L.take (i - a)), List.take_append_drop]
            rw [ed] at hlist
            have := HS2.out
            rw [hlist] at this
            simpa using this
end
end Go.Proofs.Ytpfiofgchkfkhaa
