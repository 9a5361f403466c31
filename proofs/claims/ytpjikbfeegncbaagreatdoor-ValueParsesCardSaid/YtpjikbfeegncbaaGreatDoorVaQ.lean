/- Plain: values of kind Bits, their digits and their shortest texts. -/
import Derived.Test.YtpjikbfeegncbaaGreatDoorVaP
set_option linter.unusedVariables false
set_option linter.unusedSimpArgs false
namespace Go.Proofs.YtpjikbfeegncbaaGreatDoor
open Go

/-- a character of a value -/
def chB (c : UInt8) : Bool := c == 48 || c == 49 || c == 120 || c == 122
def lowC (c : UInt8) : UInt8 := if c = 88 then 120 else if c = 90 then 122 else c
def upC (c : UInt8) : UInt8 := if c = 120 then 88 else if c = 122 then 90 else c
/-- a digit of a text, in either case -/
def dgB (c : UInt8) : Bool := chB (lowC c)
def isV (l : List UInt8) : Bool := decide (1 ≤ l.length ∧ l.length ≤ 128) && l.all chB
/-- with what a value is extended -/
def frC (c : UInt8) : UInt8 := if c = 49 then 48 else c
def frontC (l : List UInt8) : UInt8 := frC (l.headD 48)
def extL (n : Nat) (l : List UInt8) : List UInt8 := List.replicate (n - l.length) (frontC l) ++ l
/-- what Extend returns -/
def extendV (w : Int) (l : List UInt8) : List UInt8 × Int :=
  if w < 1 ∨ 128 < w then ([], 1) else if l = [] ∨ l.all chB = false then ([], 3) else if w < l.length then ([], 8) else (extL w.toNat l, 0)
/-- the shortest digits -/
def shortV : List UInt8 → List UInt8
  | [] => []
  | [a] => [a]
  | a :: b :: t => if a = frC b then shortV (b :: t) else a :: b :: t
theorem chB_cases {c : UInt8} (h : chB c = true) : c = 48 ∨ c = 49 ∨ c = 120 ∨ c = 122 := by
  unfold chB at h
  simp only [Bool.or_eq_true, beq_iff_eq] at h
  rcases h with ((h | h) | h) | h
  · exact .inl h
  · exact .inr (.inl h)
  · exact .inr (.inr (.inl h))
  · exact .inr (.inr (.inr h))
theorem chB_of {c : UInt8} (h : c = 48 ∨ c = 49 ∨ c = 120 ∨ c = 122) : chB c = true := by
  rcases h with rfl | rfl | rfl | rfl <;> rfl
theorem lowC_ch {c : UInt8} (h : chB c = true) : lowC c = c := by rcases chB_cases h with rfl | rfl | rfl | rfl <;> rfl
theorem frC_ch {c : UInt8} (h : chB c = true) : chB (frC c) = true := by rcases chB_cases h with rfl | rfl | rfl | rfl <;> rfl
theorem frC_idem (c : UInt8) : frC (frC c) = frC c := by
  unfold frC
  by_cases h : c = 49
  · rw [if_pos h]; rfl
  · rw [if_neg h, if_neg h]
theorem dgB_cases {c : UInt8} (h : dgB c = true) : c = 48 ∨ c = 49 ∨ c = 120 ∨ c = 122 ∨ c = 88 ∨ c = 90 := by
  unfold dgB lowC at h
  by_cases h1 : c = 88
  · exact .inr (.inr (.inr (.inr (.inl h1))))
  · by_cases h2 : c = 90
    · exact .inr (.inr (.inr (.inr (.inr h2))))
    · rw [if_neg h1, if_neg h2] at h
      rcases chB_cases h with h | h | h | h
      · exact .inl h
      · exact .inr (.inl h)
      · exact .inr (.inr (.inl h))
      · exact .inr (.inr (.inr (.inl h)))
theorem dgB_of {c : UInt8} (h : c = 48 ∨ c = 49 ∨ c = 120 ∨ c = 122 ∨ c = 88 ∨ c = 90) : dgB c = true := by
  rcases h with rfl | rfl | rfl | rfl | rfl | rfl <;> rfl
theorem low_up {c : UInt8} (h : dgB c = true) : lowC (upC c) = lowC c := by
  rcases dgB_cases h with rfl | rfl | rfl | rfl | rfl | rfl <;> rfl
theorem low_low (c : UInt8) : lowC (lowC c) = lowC c := by
  by_cases h : c = 88
  · rw [h]; rfl
  · by_cases h2 : c = 90
    · rw [h2]; rfl
    · have : lowC c = c := by unfold lowC; rw [if_neg h, if_neg h2]
      rw [this, this]
theorem all_low (l : List UInt8) : (l.map lowC).all chB = l.all dgB := by
  rw [List.all_map]; rfl
theorem map_low {l : List UInt8} (h : l.all chB = true) : l.map lowC = l := by
  have : ∀ c ∈ l, lowC c = id c := fun c hc => lowC_ch (List.all_eq_true.1 h c hc)
  rw [List.map_congr_left this, List.map_id]

theorem shortV_cons (a b : UInt8) (t : List UInt8) : shortV (a :: b :: t) = if a = frC b then shortV (b :: t) else a :: b :: t := rfl
theorem shortV_suffix (l : List UInt8) : shortV l <:+ l := by
  induction l with
  | nil => exact List.suffix_refl _
  | cons a t ih =>
    cases t with
    | nil => exact List.suffix_refl _
    | cons b t =>
      rw [shortV_cons]
      split
      · exact ih.trans (List.suffix_cons _ _)
      · exact List.suffix_refl _
theorem shortV_ne {l : List UInt8} (h : l ≠ []) : shortV l ≠ [] := by
  induction l with
  | nil => exact absurd rfl h
  | cons a t ih =>
    cases t with
    | nil => exact h
    | cons b t =>
      rw [shortV_cons]
      split
      · exact ih (by simp)
      · simp
theorem shortV_front (l : List UInt8) (h : l ≠ []) : frontC (shortV l) = frontC l ∧ extL l.length (shortV l) = l := by
  induction l with
  | nil => exact absurd rfl h
  | cons a t ih =>
    cases t with
    | nil => exact ⟨rfl, by simp [extL, shortV]⟩
    | cons b t =>
      rw [shortV_cons]
      split
      · rename_i e
        obtain ⟨h1, h2⟩ := ih (by simp)
        have hf : frontC (b :: t) = frC b := rfl
        have hf2 : frontC (a :: b :: t) = frC a := rfl
        refine ⟨by rw [h1, hf, hf2, e, frC_idem], ?_⟩
        have hle := (shortV_suffix (b :: t)).length_le
        unfold extL at h2 ⊢
        have hlen : (a :: b :: t).length - (shortV (b :: t)).length = ((b :: t).length - (shortV (b :: t)).length) + 1 := by
          rw [List.length_cons]; omega
        rw [hlen, List.replicate_succ, List.cons_append, h2, h1, hf, ← e]
      · exact ⟨rfl, by simp [extL]⟩
/-- a suffix from which the value comes is no shorter -/
theorem shortV_least (l : List UInt8) : ∀ s : List UInt8, s ≠ [] → s <:+ l → extL l.length s = l → shortV l <:+ s := by
  induction l with
  | nil =>
    intro s hs h _
    exact absurd (List.suffix_nil.1 h) hs
  | cons a t ih =>
    intro s hs h he
    rcases List.suffix_cons_iff.1 h with rfl | h
    · exact shortV_suffix _
    · cases t with
      | nil => exact absurd (List.suffix_nil.1 h) hs
      | cons b t =>
        have hle := h.length_le
        have hn : (a :: b :: t).length - s.length = ((b :: t).length - s.length) + 1 := by rw [List.length_cons]; omega
        unfold extL at he
        rw [hn, List.replicate_succ, List.cons_append] at he
        injection he with e1 e2
        have hfb : frC b = frontC s := by
          rcases Nat.eq_zero_or_pos ((b :: t).length - s.length) with h0 | h0
          · rw [h0] at e2
            have : s = b :: t := e2
            rw [this]; rfl
          · obtain ⟨k, hk⟩ : ∃ k, (b :: t).length - s.length = k + 1 := ⟨_, (Nat.succ_pred_eq_of_pos h0).symm⟩
            rw [hk, List.replicate_succ, List.cons_append] at e2
            injection e2 with e3 _
            rw [← e3]
            exact frC_idem _
        rw [shortV_cons, if_pos (by rw [hfb]; exact e1.symm)]
        exact ih s hs h e2
theorem extL_len {n : Nat} {l : List UInt8} (h : l.length ≤ n) : (extL n l).length = n := by
  unfold extL; rw [List.length_append, List.length_replicate]; omega
theorem front_ch {l : List UInt8} (h : l.all chB = true) (hne : l ≠ []) : chB (frontC l) = true := by
  cases l with
  | nil => exact absurd rfl hne
  | cons a t => exact frC_ch (List.all_eq_true.1 h a (List.mem_cons_self ..))
theorem extL_all {n : Nat} {l : List UInt8} (h : l.all chB = true) (hne : l ≠ []) : (extL n l).all chB = true := by
  rw [List.all_eq_true]
  intro c hc
  rcases List.mem_append.1 hc with hc | hc
  · rw [(List.mem_replicate.1 hc).2]; exact front_ch h hne
  · exact List.all_eq_true.1 h c hc
theorem extL_cons {n : Nat} {l : List UInt8} (h : l.length < n) (hne : l ≠ []) : extL n (frontC l :: l) = extL n l := by
  unfold extL
  have e : n - l.length = (n - (frontC l :: l).length) + 1 := by rw [List.length_cons]; omega
  have ef : frontC (frontC l :: l) = frontC l := by
    cases l with
    | nil => exact absurd rfl hne
    | cons a t => exact frC_idem a
  rw [e, List.replicate_succ', List.append_assoc, ef]; rfl
/-- what Parse returns for Bits -/
def bitsV (w : Int) (l : List UInt8) : List UInt8 × Int := extendV w (l.map lowC)
theorem bitsV_ok {w : Int} {l v : List UInt8} (h : bitsV w l = (v, 0)) : 1 ≤ w ∧ w ≤ 128 ∧ l ≠ [] ∧ l.all dgB = true ∧ (l.length : Int) ≤ w ∧ v = extL w.toNat (l.map lowC) := by
  unfold bitsV extendV at h
  split at h
  · cases h
  · rename_i h1
    split at h
    · cases h
    · rename_i h2
      split at h
      · cases h
      · rename_i h3
        rw [List.length_map] at h3
        refine ⟨by omega, by omega, fun e => h2 (.inl (by rw [e]; rfl)), ?_, by omega, (congrArg Prod.fst h).symm⟩
        rw [← all_low]
        cases hh : (l.map lowC).all chB with
        | true => rfl
        | false => exact absurd (.inr hh) h2
theorem bitsV_of {w : Int} {l : List UInt8} (h1 : 1 ≤ w) (h2 : w ≤ 128) (h3 : l ≠ []) (h4 : l.all dgB = true) (h5 : (l.length : Int) ≤ w) : bitsV w l = (extL w.toNat (l.map lowC), 0) := by
  unfold bitsV extendV
  rw [if_neg (by omega), if_neg, if_neg]
  · rw [List.length_map]; omega
  · rintro (h | h)
    · exact h3 (List.map_eq_nil_iff.1 h)
    · rw [all_low, h4] at h; cases h
theorem bitsV_err {w : Int} {l : List UInt8} (h : (bitsV w l).2 ≠ 0) : (bitsV w l).1 = [] := by
  unfold bitsV extendV at h ⊢
  split
  · rfl
  · rename_i h1
    rw [if_neg h1] at h
    split
    · rfl
    · rename_i h2
      rw [if_neg h2] at h
      split
      · rfl
      · rename_i h3; rw [if_neg h3] at h; exact absurd rfl h
/-- a value of a width -/
def valV (w : Int) (l : List UInt8) : Bool := isV l && decide ((l.length : Int) = w)
theorem valV_iff {w : Int} {l : List UInt8} : valV w l = true ↔ l.all chB = true ∧ 1 ≤ w ∧ w ≤ 128 ∧ (l.length : Int) = w := by
  unfold valV isV
  rw [Bool.and_eq_true, Bool.and_eq_true, decide_eq_true_eq, decide_eq_true_eq]
  constructor
  · rintro ⟨⟨h1, h2⟩, h3⟩; exact ⟨h2, by omega, by omega, h3⟩
  · rintro ⟨h1, h2, h3, h4⟩; exact ⟨⟨⟨by omega, by omega⟩, h1⟩, h4⟩
theorem bits_value {w : Int} {l v : List UInt8} (h : bitsV w l = (v, 0)) : valV w v = true := by
  obtain ⟨h1, h2, h3, h4, h5, rfl⟩ := bitsV_ok h
  rw [valV_iff]
  have hl : (extL w.toNat (l.map lowC)).length = w.toNat := extL_len (by rw [List.length_map]; omega)
  exact ⟨extL_all (by rw [all_low]; exact h4) (fun e => h3 (List.map_eq_nil_iff.1 e)), h1, h2, by rw [hl]; omega⟩
/-- the shortest text leads back -/
theorem short_back {w : Int} {v : List UInt8} (h : valV w v = true) : bitsV w (shortV v) = (v, 0) := by
  obtain ⟨h1, h2, h3, h4⟩ := valV_iff.1 h
  have hne : v ≠ [] := fun e => by rw [e] at h4; simp at h4; omega
  have hs := shortV_suffix v
  have hall : (shortV v).all chB = true := by
    rw [List.all_eq_true]; intro c hc; exact List.all_eq_true.1 h1 c (hs.subset hc)
  have hd : (shortV v).all dgB = true := by rw [← all_low, map_low hall]; exact hall
  have hle := hs.length_le
  rw [bitsV_of h2 h3 (shortV_ne hne) hd (by omega), map_low hall, ← h4]
  show (extL v.length (shortV v), (0 : Int)) = _
  rw [(shortV_front v hne).2]
/-- no text is shorter, and another one as short has letters of another case only -/
theorem short_suffix {w : Int} {l v : List UInt8} (h : bitsV w l = (v, 0)) : shortV v <:+ l.map lowC := by
  obtain ⟨h1, h2, h3, h4, h5, rfl⟩ := bitsV_ok h
  have hl : (extL w.toNat (l.map lowC)).length = w.toNat := extL_len (by rw [List.length_map]; omega)
  exact shortV_least _ _ (fun e => h3 (List.map_eq_nil_iff.1 e)) (List.suffix_append _ _) (by rw [hl])
/-- upper case -/
theorem bits_up {w : Int} {l v : List UInt8} (h : bitsV w l = (v, 0)) : bitsV w (l.map upC) = (v, 0) := by
  obtain ⟨h1, h2, h3, h4, h5, rfl⟩ := bitsV_ok h
  have e : (l.map upC).map lowC = l.map lowC := by
    rw [List.map_map]
    exact List.map_congr_left (fun c hc => low_up (List.all_eq_true.1 h4 c hc))
  have hd : (l.map upC).all dgB = true := by rw [← all_low, e, all_low]; exact h4
  rw [bitsV_of h1 h2 (fun e => h3 (List.map_eq_nil_iff.1 e)) hd (by rw [List.length_map]; exact h5), e]
/-- one digit more -/
theorem bits_more {w : Int} {c : UInt8} {t v : List UInt8} (h : bitsV w (c :: t) = (v, 0)) :
    bitsV w ((if c = 49 then 48 else c) :: c :: t) = if ((c :: t).length : Int) = w then ([], 8) else (v, 0) := by
  obtain ⟨h1, h2, h3, h4, h5, rfl⟩ := bitsV_ok h
  have hc : dgB c = true := List.all_eq_true.1 h4 c (List.mem_cons_self ..)
  have hlow : lowC (if c = 49 then 48 else c) = frontC ((c :: t).map lowC) := by
    show lowC (if c = 49 then 48 else c) = frC (lowC c)
    rcases dgB_cases hc with rfl | rfl | rfl | rfl | rfl | rfl <;> rfl
  have hdg : ((if c = 49 then 48 else c) :: c :: t).all dgB = true := by
    rw [List.all_cons, h4, Bool.and_true]
    rcases dgB_cases hc with rfl | rfl | rfl | rfl | rfl | rfl <;> rfl
  have hlen : ((if c = 49 then 48 else c) :: c :: t).length = (c :: t).length + 1 := rfl
  by_cases hw : ((c :: t).length : Int) = w
  · rw [if_pos hw]
    unfold bitsV extendV
    rw [if_neg (by omega), if_neg, if_pos]
    · rw [List.length_map, hlen]; omega
    · rintro (h | h)
      · cases h
      · rw [all_low, hdg] at h; cases h
  · rw [if_neg hw, bitsV_of h1 h2 (by simp) hdg (by rw [hlen]; omega), List.map_cons, hlow, extL_cons]
    · rw [List.length_map]; omega
    · simp
end Go.Proofs.YtpjikbfeegncbaaGreatDoor
