/- Plain law of PatternSets. -/
import Derived.Test.YtcjehiecgdmidaaPtX
import Derived.Test.YtcjehiecgdmidaaPtT
set_option linter.unusedVariables false
set_option linter.unusedSimpArgs false
namespace Go.Proofs.Ytcjehiecgdmidaa
open Go.RowKit Go.Shelf

/-- a byte that may stand in a set of the law -/
def setOk (c : UInt8) : Prop := 33 ≤ c.toNat ∧ c.toNat ≤ 126 ∧ c ≠ 45 ∧ c ≠ 46 ∧ c ≠ 91 ∧ c ≠ 93 ∧ c ≠ 92 ∧ c ≠ 33
theorem setOk_el {c : UInt8} (h : setOk c) : elB c = true := by
  obtain ⟨h1, h2, _, h4, h5, h6, h7, _⟩ := h
  unfold elB
  rw [decide_eq_true ⟨h1, h2⟩]
  simp [h4, h5, h6, h7]
theorem setF_plain : ∀ (b : List UInt8) (f : UInt8 → Bool), (∀ c ∈ b, setOk c) → setF b.length b f = some fun c => f c || decide (c ∈ b)
  | [], f, _ => by
    rw [setF_nil]; congr 1; funext c; simp
  | a :: t, f, h => by
    have ha := h a (List.mem_cons_self ..)
    have hr : rngB (a :: t) = false := by
      unfold rngB
      cases t with
      | nil => rfl
      | cons d r =>
        have hd := (h d (by simp)).2.2.1
        have : ((a :: d :: r)[1]? = some 45) = False := by simp [hd]
        simp only [this, decide_false, Bool.and_false]
    have h1 : hiB (a :: t) = a := by unfold hiB; rw [hr]; rfl
    have h2 : stepB (a :: t) = 1 := by unfold stepB; rw [hr]; rfl
    rw [setF_step _ _ (by simp), good_iff (a :: t) a a false rfl h1 hr, setOk_el ha, decide_eq_true (Nat.le_refl _), h2, h1]
    have e45 : (a == 45) = false := beq_eq_false_iff_ne.2 ha.2.2.1
    rw [e45]
    show setF t.length t _ = _
    rw [setF_plain t _ (fun c hc => h c (List.mem_cons_of_mem _ hc))]
    congr 1
    funext c
    have e : decide ((List.headD (a :: t) 0).toNat ≤ c.toNat ∧ c.toNat ≤ a.toNat) = decide (c = a) := by
      show decide (a.toNat ≤ c.toNat ∧ c.toNat ≤ a.toNat) = _
      rw [decide_eq_decide]
      constructor
      · intro h; exact UInt8.toNat_inj.1 (by omega)
      · rintro rfl; exact ⟨Nat.le_refl _, Nat.le_refl _⟩
    rw [e, Bool.or_assoc]
    congr 1
    rw [Bool.eq_iff_iff]
    simp
theorem setV_plain (S r : List UInt8) (hS : ∀ c ∈ S, setOk c) (hn : S ≠ []) : setV (S ++ 93 :: r) = some (setIt (fun c => decide (c ∈ S)), r) ∧ setV (33 :: S ++ 93 :: r) = some (setIt (fun c => !decide (c ∈ S)), r) := by
  have hno : ∀ c ∈ S, c ≠ 93 := fun c hc => (hS c hc).2.2.2.2.2.1
  have hcut : Lib.cut (S ++ 93 :: r) [93] = (S, r, true) := cut_at [93] 93 [] rfl S r hno
  have hf := setF_plain S (fun _ => false) hS
  have e0 : (fun c : UInt8 => false || decide (c ∈ S)) = fun c => decide (c ∈ S) := by funext c; rfl
  rw [e0] at hf
  constructor
  · have hh : (S ++ 93 :: r).head? ≠ some 33 := by
      cases S with
      | nil => exact absurd rfl hn
      | cons a t => intro e; exact (hS a (List.mem_cons_self ..)).2.2.2.2.2.2.2 (Option.some.inj e)
    obtain ⟨t1, t2⟩ := trim_one 33 (S ++ 93 :: r)
    rw [decide_eq_false hh] at t1 t2
    rw [if_neg Bool.false_ne_true] at t2
    rw [setV_eq, t2, t1, hcut, if_neg (by rintro (h | h); cases h; exact hn h), hf]
    rfl
  · obtain ⟨t1, t2⟩ := trim_one 33 (33 :: S ++ 93 :: r)
    have hh : (33 :: S ++ 93 :: r).head? = some 33 := rfl
    rw [decide_eq_true hh] at t1 t2
    have t3 : Lib.trimPrefix (33 :: S ++ 93 :: r) [33] = S ++ 93 :: r := t2
    rw [setV_eq, t3, t1, hcut, if_neg (by rintro (h | h); cases h; exact hn h), hf]
    rfl
/-- a pattern of one wild part that is no star -/
theorem nameV_wild (l : List UInt8) (w : List It) (h92 : ∀ e ∈ l, e ≠ 92) (h46 : ∀ e ∈ l, e ≠ 46) (hl : l ≠ [] ∧ l.length ≤ 64) (hs : l ≠ [42, 42]) (hw : wildF l.length l = some w) (s : List UInt8) : nameV l s = mW w s := by
  have hp : partV l = some (.wild w) := by
    unfold partV
    rw [if_neg hs, if_neg (show ¬ l.head? = some 92 from fun e => h92 92 (List.mem_of_mem_head? e) rfl)]
    unfold wildV
    rw [if_neg (by rintro (h | h); exact hl.1 h; omega), hw]; rfl
  have hr : readV l = some [.wild w] := by
    unfold readV
    rw [if_neg (by rintro (h | h); exact hl.1 h; omega), readF_end 15 l h92 h46, hp]; rfl
  unfold nameV
  rw [hr]; rfl
theorem mW_one (f : UInt8 → Bool) (s : List UInt8) : mW [setIt f] s = match s with | [c] => f c | _ => false := by
  cases s with
  | nil => exact mW_none _ rfl
  | cons c t =>
    rw [mW_cons _ _ _ rfl]
    cases t with
    | nil => show (f c && true) = f c; rw [Bool.and_true]
    | cons d r => show (f c && false) = false; rw [Bool.and_false]
theorem wildF_set (S pre post : List UInt8) (f : UInt8 → Bool) (h : setV (pre ++ (S ++ [93])) = some (setIt f, [])) : wildF (91 :: (pre ++ (S ++ [93]))).length (91 :: (pre ++ (S ++ [93]))) = some [setIt f] := by
  rw [wildF_step _ (by simp)]
  have hn : nextV (91 :: (pre ++ (S ++ [93]))) = some (setIt f, []) := by
    rw [nextV, if_neg (by decide), if_pos rfl]; exact h
  rw [hn]; rfl
theorem in_set (l : List UInt8) (c : UInt8) : Lib.contains l [c] = decide (c ∈ l) := by
  by_cases h : c ∈ l
  · rw [decide_eq_true h]
    cases hc : Lib.contains l [c] with
    | true => rfl
    | false =>
      exfalso
      have h1 := cutB_eq c l
      unfold cutB at h1
      rw [if_pos h] at h1
      unfold Lib.contains at hc
      rw [decide_eq_false_iff_not] at hc
      rcases cut_dec l [c] with ⟨h2, _⟩ | ⟨a, r, _, _, h4⟩
      · rw [h2] at h1; simp at h1
      · exact hc (by rw [h4]; omega)
  · rw [decide_eq_false h]
    unfold Lib.contains
    have h2 := cut_no [c] c [] rfl l (fun x hx e => h (e ▸ hx))
    rcases cut_dec l [c] with ⟨_, h3⟩ | ⟨a, r, _, h4, _⟩
    · exact decide_eq_false (by omega)
    · rw [h2] at h4; simp at h4
theorem sets_law (S : List UInt8) (hS : ∀ c ∈ S, setOk c) (hn : S ≠ []) (hl : S.length ≤ 20) (c : UInt8) :
    nameV ([91] ++ S ++ [93]) [c] = decide (c ∈ S) ∧ nameV ([91, 33] ++ S ++ [93]) [c] = !decide (c ∈ S) ∧ nameV ([91] ++ S ++ [93]) [] = false ∧ nameV ([91] ++ S ++ [93]) ([c] ++ [c]) = false ∧ nameV ([97, 91] ++ S ++ [93, 98]) ([97] ++ [c] ++ [98]) = decide (c ∈ S) := by
  have h92 : ∀ e ∈ S, e ≠ 92 := fun e he => (hS e he).2.2.2.2.2.2.1
  have h46 : ∀ e ∈ S, e ≠ 46 := fun e he => (hS e he).2.2.2.1
  have mem1 : ∀ e ∈ [91] ++ S ++ [93], e ≠ 92 ∧ e ≠ 46 := fun e he => by
    simp only [List.mem_append, List.mem_singleton] at he
    rcases he with (rfl | he) | rfl
    · exact ⟨by decide, by decide⟩
    · exact ⟨h92 e he, h46 e he⟩
    · exact ⟨by decide, by decide⟩
  have mem2 : ∀ e ∈ [91, 33] ++ S ++ [93], e ≠ 92 ∧ e ≠ 46 := fun e he => by
    simp only [List.mem_append, List.mem_singleton, List.mem_cons, List.not_mem_nil, or_false] at he
    rcases he with ((rfl | rfl) | he) | rfl
    · exact ⟨by decide, by decide⟩
    · exact ⟨by decide, by decide⟩
    · exact ⟨h92 e he, h46 e he⟩
    · exact ⟨by decide, by decide⟩
  have mem3 : ∀ e ∈ [97, 91] ++ S ++ [93, 98], e ≠ 92 ∧ e ≠ 46 := fun e he => by
    simp only [List.mem_append, List.mem_singleton, List.mem_cons, List.not_mem_nil, or_false] at he
    rcases he with ((rfl | rfl) | he) | (rfl | rfl)
    · exact ⟨by decide, by decide⟩
    · exact ⟨by decide, by decide⟩
    · exact ⟨h92 e he, h46 e he⟩
    · exact ⟨by decide, by decide⟩
    · exact ⟨by decide, by decide⟩
  obtain ⟨s1, s2⟩ := setV_plain S [] hS hn
  have w1 : wildF ([91] ++ S ++ [93]).length ([91] ++ S ++ [93]) = some [setIt fun c => decide (c ∈ S)] := by
    have := wildF_set S [] [] (fun c => decide (c ∈ S)) s1
    exact this
  have w2 : wildF ([91, 33] ++ S ++ [93]).length ([91, 33] ++ S ++ [93]) = some [setIt fun c => !decide (c ∈ S)] := by
    have := wildF_set S [33] [] (fun c => !decide (c ∈ S)) s2
    exact this
  have w3 : wildF ([97, 91] ++ S ++ [93, 98]).length ([97, 91] ++ S ++ [93, 98]) = some [byteIt 97, setIt (fun c => decide (c ∈ S)), byteIt 98] := by
    have e : [97, 91] ++ S ++ [93, 98] = 97 :: 91 :: (S ++ 93 :: [98]) := by simp
    obtain ⟨s3, _⟩ := setV_plain S [98] hS hn
    rw [e, wildF_step _ (by simp), show nextV (97 :: 91 :: (S ++ 93 :: [98])) = some (byteIt 97, 91 :: (S ++ 93 :: [98])) from rfl]
    simp only [Option.bind_some]
    rw [wildF_step _ (by simp), show nextV (91 :: (S ++ 93 :: [98])) = some (setIt (fun c => decide (c ∈ S)), [98]) by rw [nextV, if_neg (by decide), if_pos rfl]; exact s3]
    rfl
  have n1 := nameV_wild _ _ (fun e he => (mem1 e he).1) (fun e he => (mem1 e he).2) ⟨by simp, by simp; omega⟩ (fun e => by have := congrArg List.head? e; simp at this) w1
  have n2 := nameV_wild _ _ (fun e he => (mem2 e he).1) (fun e he => (mem2 e he).2) ⟨by simp, by simp; omega⟩ (fun e => by have := congrArg List.head? e; simp at this) w2
  have n3 := nameV_wild _ _ (fun e he => (mem3 e he).1) (fun e he => (mem3 e he).2) ⟨by simp, by simp; omega⟩ (fun e => by have := congrArg List.head? e; simp at this) w3
  refine ⟨by rw [n1, mW_one], by rw [n2, mW_one], by rw [n1, mW_one], by rw [n1, mW_one]; rfl, ?_⟩
  rw [n3]
  show mW _ (97 :: c :: [98]) = _
  rw [mW_cons _ _ _ rfl, mW_cons _ _ _ rfl, mW_cons _ _ _ rfl]
  show (true && (decide (c ∈ S) && (true && true))) = _
  simp
end Go.Proofs.Ytcjehiecgdmidaa
