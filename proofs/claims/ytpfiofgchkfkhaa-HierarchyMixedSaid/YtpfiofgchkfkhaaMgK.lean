/- MgK: the texts HkA HkB HkC HkG HkH in one. -/
import Derived.Test.YtpfiofgchkfkhaaMgI
import Derived.Test.YtpfiofgchkfkhaaMgJ
import Derived.Test.YtpfiofgchkfkhaaShelfR
import Derived.Deep.RegionHeld3
import Derived.Test.YtpfiofgchkfkhaaMgA
import Derived.WideShapes
/- Plain: a preorder is known by its chains; when Order changes nothing. -/
set_option linter.unusedVariables false
set_option linter.unusedSimpArgs false
namespace Go.Proofs.Ytpfiofgchkfkhaa
open Go.RowKit Go.Shelf
abbrev par (scs : List Sc) (i : Nat) : Int := (scH scs i).parent
theorem up_self {scs : List Sc} (hd : DeclS scs) {i : Nat} (h : i < scs.length) : i ∈ upH scs (i : Int) := by
  rw [upH_step hd h]; exact List.mem_cons_self ..
/-- what contains a container is a container -/
theorem up_in2 {scs : List Sc} (hd : DeclS scs) : ∀ (n : Nat) (i : Int), i < scs.length → i.toNat < n → ∀ c ∈ upH scs i, ∀ q ∈ upH scs (scH scs c).parent, q ∈ upH scs i
  | 0, i, _, h => absurd h (by omega)
  | n + 1, i, hi, hn => by
    intro c hc q hq
    by_cases h0 : i < 0
    · rw [upH_neg _ h0] at hc; cases hc
    · obtain ⟨m, rfl⟩ : ∃ m : Nat, i = m := ⟨i.toNat, by omega⟩
      have hm : m < scs.length := by omega
      have hpm := hd m hm
      rw [upH_step hd hm] at hc ⊢
      rcases List.mem_cons.1 hc with rfl | hc
      · exact List.mem_cons_of_mem _ hq
      · by_cases h1 : (scH scs m).parent < 0
        · rw [upH_neg _ h1] at hc; cases hc
        · exact List.mem_cons_of_mem _ (up_in2 hd n _ (by omega) (by omega) c hc q hq)
theorem up_sub {scs : List Sc} (hd : DeclS scs) {i c : Nat} (hi : i < scs.length) (hc : c ∈ upH scs (i : Int)) : ∀ q ∈ upH scs (c : Int), q ∈ upH scs (i : Int) := by
  intro q hq
  have hcl := upH_lt hd (scs.length + 1) (i : Int) (by omega) (by omega) c hc
  rw [upH_step hd hcl] at hq
  rcases List.mem_cons.1 hq with rfl | hq
  · exact hc
  · exact up_in2 hd (scs.length + 1) (i : Int) (by omega) (by omega) c hc q hq
/-- where a list's next scope may hang -/
def Hang (scs : List Sc) (p : Int) (i j : Nat) : Prop := par scs j = p ∨ ∃ q : Nat, par scs j = (q : Int) ∧ q ∈ upH scs (i : Int)
structure StepOk (scs : List Sc) (p : Int) (l : List Nat) : Prop where
  head : ∀ i B, l = i :: B → par scs i = p
  step : ∀ A i j B, l = A ++ i :: j :: B → Hang scs p i j
theorem StepOk.nil (scs : List Sc) (p : Int) : StepOk scs p [] := ⟨fun i B h => (by cases h), fun A i j B h => (by cases A <;> cases h)⟩
theorem StepOk.app {scs : List Sc} {p : Int} {a b : List Nat} (ha : StepOk scs p a) (hb : StepOk scs p b) : StepOk scs p (a ++ b) := by
  refine ⟨fun i B h => ?_, fun A i j B h => ?_⟩
  · cases a with
    | nil => exact hb.head i B h
    | cons x a => cases h; exact ha.head _ _ rfl
  · rcases List.append_eq_append_iff.1 h with ⟨c, rfl, hc⟩ | ⟨c, rfl, hc⟩
    · exact hb.step c i j B hc
    · cases c with
      | nil =>
        rw [List.nil_append] at hc
        exact hb.step [] i j B hc.symm
      | cons x c =>
        rw [List.cons_append] at hc
        obtain ⟨rfl, hc2⟩ := List.cons.inj hc
        clear hc
        cases c with
        | nil =>
          rw [List.nil_append] at hc2
          exact .inl (hb.head j B hc2.symm)
        | cons y c =>
          rw [List.cons_append] at hc2
          obtain ⟨rfl, rfl⟩ := List.cons.inj hc2
          exact ha.step A _ _ c rfl
theorem StepOk.cons {scs : List Sc} {p : Int} {c : Nat} {b : List Nat} (hc : par scs c = p) (hs : c ∈ upH scs (c : Int)) (hin : ∀ i ∈ b, c ∈ upH scs (i : Int)) (hb : StepOk scs (c : Int) b) : StepOk scs p (c :: b) := by
  refine ⟨fun i B h => by cases h; exact hc, fun A i j B h => ?_⟩
  cases A with
  | nil =>
    obtain ⟨rfl, rfl⟩ := List.cons.inj h
    exact .inr ⟨c, hb.head j B rfl, hs⟩
  | cons x A =>
    rw [List.cons_append] at h
    obtain ⟨rfl, rfl⟩ := List.cons.inj h
    rcases hb.step A i j B rfl with h1 | h1
    · exact .inr ⟨c, h1, hin i (by simp)⟩
    · exact .inr h1
theorem preG_step {scs : List Sc} {g : Int → List Nat} {p : Int} : ∀ (m i : Nat), (∀ c, i ≤ c → c < i + m → par scs c = p → c ∈ upH scs (c : Int) ∧ (∀ k ∈ g (c : Int), c ∈ upH scs (k : Int)) ∧ StepOk scs (c : Int) (g (c : Int))) → StepOk scs p (preG scs g p m i)
  | 0, _, _ => by unfold preG; exact StepOk.nil _ _
  | m + 1, i, h => by
    unfold preG
    refine StepOk.app ?_ (preG_step m (i + 1) (fun c a b e => h c (by omega) (by omega) e))
    by_cases hp : (scH scs i).parent = p
    · rw [if_pos hp]
      obtain ⟨h1, h2, h3⟩ := h i (Nat.le_refl _) (by omega) hp
      exact StepOk.cons hp h1 h2 h3
    · rw [if_neg hp]; exact StepOk.nil _ _
theorem preT_in {scs : List Sc} (hd : DeclS scs) {c : Nat} (hc : c < scs.length) {k : Nat} (hk : k ∈ preT scs (c : Int)) : k < scs.length ∧ c < k ∧ c ∈ upH scs (par scs k) ∧ c ∈ upH scs (k : Int) := by
  obtain ⟨h1, h2, h3⟩ := preT_lt hd (scs.length + 1) (c : Int) (by omega) (by omega) (by omega) k hk
  have h4 : c ∈ upH scs (par scs k) := h3 (by omega)
  exact ⟨h1, by omega, h4, by rw [upH_step hd h1]; exact List.mem_cons_of_mem _ h4⟩
theorem preT_stepOk {scs : List Sc} (hd : DeclS scs) : ∀ (n : Nat) (p : Int), -1 ≤ p → p < scs.length → scs.length ≤ n + (p + 1).toNat → StepOk scs p (preT scs p)
  | 0, p, h1, h2, h3 => by
    rw [preT_step hd h1 h2]
    exact preG_step _ _ (fun c _ hc hp => by have := hd c (by omega); have hp' : (scH scs c).parent = p := hp; omega)
  | n + 1, p, h1, h2, h3 => by
    rw [preT_step hd h1 h2]
    refine preG_step _ _ (fun c _ hc hp => ?_)
    have hpc := hd c (by omega)
    have hp' : (scH scs c).parent = p := hp
    exact ⟨up_self hd (by omega), fun k hk => (preT_in hd (by omega) hk).2.2.2, preT_stepOk hd n _ (by omega) (by omega) (by omega)⟩
def Sib (scs : List Sc) (l : List Nat) : Prop := l.Pairwise fun i j => par scs i = par scs j → i < j
theorem preG_sib {scs : List Sc} {g : Int → List Nat} {p : Int} : ∀ (m i : Nat), (∀ c, i ≤ c → c < i + m → par scs c = p → Sib scs (c :: g (c : Int))) →
    (∀ c d k e, i ≤ c → c < d → d < i + m → par scs c = p → par scs d = p → (k = c ∨ k ∈ g (c : Int)) → (e = d ∨ e ∈ g (d : Int)) → par scs k = par scs e → k < e) → Sib scs (preG scs g p m i)
  | 0, _, _, _ => by unfold preG; exact List.Pairwise.nil
  | m + 1, i, h1, h2 => by
    unfold preG
    have ih := preG_sib m (i + 1) (fun c a b e => h1 c (by omega) (by omega) e) (fun c d k e a b f => h2 c d k e (by omega) b (by omega))
    by_cases hp : (scH scs i).parent = p
    · rw [if_pos hp]
      unfold Sib
      rw [List.pairwise_append]
      refine ⟨h1 i (Nat.le_refl _) (by omega) hp, ih, fun x hx y hy e => ?_⟩
      obtain ⟨d, d1, d2, d3, d4⟩ := (preG_mem m (i + 1) y).1 hy
      exact h2 i d x y (Nat.le_refl _) (by omega) (by omega) hp d3 (List.mem_cons.1 hx) d4 e
    · rw [if_neg hp]; exact ih
theorem preT_sib {scs : List Sc} (hd : DeclS scs) : ∀ (n : Nat) (p : Int), -1 ≤ p → p < scs.length → scs.length ≤ n + (p + 1).toNat → Sib scs (preT scs p)
  | 0, p, h1, h2, h3 => by
    rw [preT_step hd h1 h2]
    refine preG_sib _ _ (fun c _ hc hp => ?_) (fun c d k e _ _ hc hp => ?_)
    · have := hd c (by omega); have hp' : (scH scs c).parent = p := hp; omega
    · have := hd c (by omega); have hp' : (scH scs c).parent = p := hp; omega
  | n + 1, p, h1, h2, h3 => by
    rw [preT_step hd h1 h2]
    refine preG_sib _ _ (fun c _ hc hp => ?_) (fun c d k e _ hcd hc hp hp2 hk hk2 he => ?_)
    · have hpc := hd c (by omega)
      have hp' : (scH scs c).parent = p := hp
      unfold Sib
      rw [List.pairwise_cons]
      refine ⟨fun j hj e => ?_, preT_sib hd n _ (by omega) (by omega) (by omega)⟩
      exact (preT_in hd (by omega) hj).2.1
    · have hpc := hd c (by omega)
      have hpd := hd d (by omega)
      have hp' : (scH scs c).parent = p := hp
      have hp2' : (scH scs d).parent = p := hp2
      have base : ∀ x, x < scs.length → (scH scs x).parent = p → ∀ y, y < scs.length → p < (y : Int) → ∀ z ∈ preT scs (y : Int), par scs x ≠ par scs z := by
        intro x hx hxp y hy hpy z hz e
        obtain ⟨z1, z2, z3, z4⟩ := preT_in hd hy hz
        have e' : (scH scs x).parent = par scs z := e
        rw [← e', hxp] at z3
        have := upH_le hd (scs.length + 1) p (by omega) (by omega) y z3
        omega
      rcases hk with rfl | hk
      · rcases hk2 with rfl | hk2
        · exact hcd
        · exact absurd he (base _ (by omega) hp' d (by omega) (by omega) _ hk2)
      · rcases hk2 with rfl | hk2
        · exact absurd he.symm (base _ (by omega) hp2' c (by omega) (by omega) _ hk)
        · obtain ⟨k1, k2, k3, k4⟩ := preT_in hd (by omega) hk
          obtain ⟨e1, e2, e3, e4⟩ := preT_in hd (by omega) hk2
          rw [← he] at e3
          have hpk := hd k k1
          have := up_two hd (scs.length + 1) (par scs k) (by show (scH scs k).parent < _; omega) (by show (scH scs k).parent.toNat < _; omega) d e3 c k3 hcd
          rw [hp2'] at this
          have := upH_le hd (scs.length + 1) p (by omega) (by omega) c this
          omega
/-- a preorder of all the scopes -/
structure PreOk (scs : List Sc) (l : List Nat) : Prop where
  nd : l.Nodup
  mem : ∀ i, i ∈ l ↔ i < scs.length
  st : StepOk scs (-1) l
  sib : Sib scs l
theorem pre_ok {scs : List Sc} (hd : DeclS scs) (h : 0 < scs.length) : PreOk scs (preH scs) :=
  ⟨preH_nodup hd h, fun i => ⟨fun hi => preH_lt hd h hi, fun hi => preH_all hd (i + 1) i (by omega) hi⟩, preT_stepOk hd (scs.length + 1) (-1) (by omega) (by omega) (by omega), preT_sib hd (scs.length + 1) (-1) (by omega) (by omega) (by omega)⟩
/-- what contains a scope stands ahead of it -/
theorem PreOk.anc {scs : List Sc} (hd : DeclS scs) {l : List Nat} (h : PreOk scs l) : ∀ (n : Nat) (A : List Nat) (i : Nat) (B : List Nat), A.length < n → l = A ++ i :: B → ∀ k ∈ upH scs (i : Int), k = i ∨ k ∈ A
  | 0, _, _, _, h0, _ => absurd h0 (by omega)
  | n + 1, A, i, B, hn, hl => by
    intro k hk
    have hi : i < scs.length := (h.mem i).1 (by rw [hl]; simp)
    rw [upH_step hd hi] at hk
    rcases List.mem_cons.1 hk with rfl | hk
    · exact .inl rfl
    · right
      rcases List.eq_nil_or_concat A with rfl | ⟨A', z, rfl⟩
      · have h1 : (scH scs i).parent = -1 := h.st.head i B (by rw [hl]; rfl)
        rw [h1, upH_neg _ (by omega)] at hk; cases hk
      · rw [List.concat_eq_append] at hl hn ⊢
        have hl2 : l = A' ++ z :: i :: B := by rw [hl]; simp
        have hz : z < scs.length := (h.mem z).1 (by rw [hl2]; simp)
        rcases h.st.step A' z i B hl2 with h1 | ⟨q, h1, h2⟩
        · have h1' : (scH scs i).parent = -1 := h1
          rw [h1', upH_neg _ (by omega)] at hk; cases hk
        · have h1' : (scH scs i).parent = (q : Int) := h1
          rw [h1'] at hk
          have h3 := up_sub hd hz h2 k hk
          rcases PreOk.anc hd h n A' z (i :: B) (by rw [List.length_append] at hn; simp at hn; omega) hl2 k h3 with rfl | h4
          · simp
          · exact List.mem_append.2 (.inl h4)
/-- behind a scope that q does not contain nothing hangs on q any more -/
theorem PreOk.gone {scs : List Sc} (hd : DeclS scs) {l : List Nat} (h : PreOk scs l) {q : Nat} : ∀ (C A : List Nat) (x : Nat), l = A ++ x :: C → q ∈ A → q ∉ upH scs (x : Int) → ∀ y ∈ C, par scs y ≠ (q : Int)
  | [], _, _, _, _, _ => fun y hy => by cases hy
  | j :: D, A, x, hl, hq, hx => by
    have hxl : x < scs.length := (h.mem x).1 (by rw [hl]; simp)
    have hjl : j < scs.length := (h.mem j).1 (by rw [hl]; simp)
    have hs := h.st.step A x j D hl
    have hnj : q ≠ j := by
      rintro rfl
      have := h.nd
      rw [hl, List.nodup_append] at this
      exact this.2.2 q hq q (by simp) rfl
    have hj : q ∉ upH scs (j : Int) := by
      intro hm
      rw [upH_step hd hjl] at hm
      rcases List.mem_cons.1 hm with e | hm
      · exact hnj e
      · rcases hs with h1 | ⟨r, h1, h2⟩
        · have h1' : (scH scs j).parent = -1 := h1
          rw [h1', upH_neg _ (by omega)] at hm; cases hm
        · have h1' : (scH scs j).parent = (r : Int) := h1
          rw [h1'] at hm
          exact hx (up_sub hd hxl h2 q hm)
    have hpj : par scs j ≠ (q : Int) := by
      intro e
      rcases hs with h1 | ⟨r, h1, h2⟩
      · omega
      · have : r = q := by omega
        exact hx (this ▸ h2)
    intro y hy
    rcases List.mem_cons.1 hy with rfl | hy
    · exact hpj
    · exact PreOk.gone hd h D (A ++ [x]) j (by rw [hl]; simp) (List.mem_append.2 (.inl hq)) hj y hy
theorem PreOk.differ {scs : List Sc} (hd : DeclS scs) {l l' : List Nat} (h : PreOk scs l) (h' : PreOk scs l') {A C C' : List Nat} {x y : Nat} (hl : l = A ++ x :: C) (hl' : l' = A ++ y :: C') (hy : y ∈ C) (hlt : par scs x < par scs y) : False := by
  have hxl : x < scs.length := (h.mem x).1 (by rw [hl]; simp)
  have hyl : y < scs.length := (h'.mem y).1 (by rw [hl']; simp)
  have hpx := hd x hxl
  have hpy := hd y hyl
  have e1 : (scH scs x).parent < (scH scs y).parent := hlt
  rcases List.eq_nil_or_concat A with rfl | ⟨A', z, rfl⟩
  · have h2 : (scH scs y).parent = -1 := h'.st.head y C' (by rw [hl']; rfl)
    omega
  · rw [List.concat_eq_append] at hl hl'
    have hl2 : l' = A' ++ z :: y :: C' := by rw [hl']; simp
    have hl1 : l = A' ++ z :: (x :: C) := by rw [hl]; simp
    rcases h'.st.step A' z y C' hl2 with h1 | ⟨q, h1, h2⟩
    · have h1' : (scH scs y).parent = -1 := h1
      omega
    · have h1' : (scH scs y).parent = (q : Int) := h1
      have hqA : q ∈ A' ++ [z] := by
        rcases h'.anc hd (A'.length + 1) A' z (y :: C') (by omega) hl2 q h2 with rfl | h3
        · simp
        · exact List.mem_append.2 (.inl h3)
      have hqx : q ∉ upH scs (x : Int) := by
        intro hm
        rw [upH_step hd hxl] at hm
        rcases List.mem_cons.1 hm with rfl | hm
        · have := h.nd
          rw [hl, List.nodup_append] at this
          exact this.2.2 q hqA q (by simp) rfl
        · have := upH_le hd (scs.length + 1) _ (by omega) (by omega) q hm
          omega
      exact h.gone hd C (A' ++ [z]) x hl hqA hqx y hy h1
theorem PreOk.uniq {scs : List Sc} (hd : DeclS scs) {l l' : List Nat} (h : PreOk scs l) (h' : PreOk scs l') : ∀ (B B' A : List Nat), l = A ++ B → l' = A ++ B' → B = B'
  | [], B', A, hl, hl' => by
    cases B' with
    | nil => rfl
    | cons y C' =>
      have hy : y ∈ l := (h.mem y).2 ((h'.mem y).1 (by rw [hl']; simp))
      rw [hl, List.append_nil] at hy
      have := h'.nd
      rw [hl', List.nodup_append] at this
      exact absurd rfl (this.2.2 y hy y (by simp))
  | x :: C, B', A, hl, hl' => by
    cases B' with
    | nil =>
      have hx : x ∈ l' := (h'.mem x).2 ((h.mem x).1 (by rw [hl]; simp))
      rw [hl', List.append_nil] at hx
      have := h.nd
      rw [hl, List.nodup_append] at this
      exact absurd rfl (this.2.2 x hx x (by simp))
    | cons y C' =>
      by_cases hxy : x = y
      · subst hxy
        rw [PreOk.uniq hd h h' C C' (A ++ [x]) (by rw [hl]; simp) (by rw [hl']; simp)]
      · exfalso
        have hy : y ∈ C := by
          have hy : y ∈ l := (h.mem y).2 ((h'.mem y).1 (by rw [hl']; simp))
          rw [hl, List.mem_append, List.mem_cons] at hy
          rcases hy with hy | rfl | hy
          · have := h'.nd
            rw [hl', List.nodup_append] at this
            exact absurd rfl (this.2.2 y hy y (by simp))
          · exact absurd rfl hxy
          · exact hy
        have hx : x ∈ C' := by
          have hx : x ∈ l' := (h'.mem x).2 ((h.mem x).1 (by rw [hl]; simp))
          rw [hl', List.mem_append, List.mem_cons] at hx
          rcases hx with hx | rfl | hx
          · have := h.nd
            rw [hl, List.nodup_append] at this
            exact absurd rfl (this.2.2 x hx x (by simp))
          · exact absurd rfl hxy
          · exact hx
        rcases Int.lt_trichotomy (par scs x) (par scs y) with e | e | e
        · exact PreOk.differ hd h h' hl hl' hy e
        · have s1 := h.sib
          unfold Sib at s1
          rw [hl, List.pairwise_append, List.pairwise_cons] at s1
          have s2 := h'.sib
          unfold Sib at s2
          rw [hl', List.pairwise_append, List.pairwise_cons] at s2
          have := s1.2.1.1 y hy e
          have := s2.2.1.1 x hx e.symm
          omega
        · exact PreOk.differ hd h' h hl' hl hx e
theorem pair_mapped {α β : Type} {f : α → β} {l : List α} (hn : l.Nodup) (hi : ∀ a ∈ l, ∀ b ∈ l, f a = f b → a = b) : (l.map f).Nodup := by
  unfold List.Nodup
  rw [List.pairwise_map]
  refine List.Pairwise.imp_of_mem (fun {a b} ha hb hne e => hne (hi a ha b hb e)) hn
theorem nodup_keys {α β : Type} [DecidableEq β] {f : α → β} {l : List α} (hn : (l.map f).Nodup) {i j : Nat} {a b : α} (hi : l[i]? = some a) (hj : l[j]? = some b) (h : f a = f b) : i = j := by
  obtain ⟨a1, a2⟩ := List.getElem?_eq_some_iff.1 hi
  obtain ⟨b1, b2⟩ := List.getElem?_eq_some_iff.1 hj
  rcases Nat.lt_trichotomy i j with e | e | e
  · have := List.pairwise_iff_getElem.1 hn i j (by simpa using a1) (by simpa using b1) e
    simp only [List.getElem_map, a2, b2] at this
    exact absurd h this
  · exact e
  · have := List.pairwise_iff_getElem.1 hn j i (by simpa using b1) (by simpa using a1) e
    simp only [List.getElem_map, a2, b2] at this
    exact absurd h.symm this
theorem range_split {n : Nat} {A B : List Nat} {i : Nat} (h : List.range n = A ++ i :: B) : i = A.length ∧ i < n := by
  have h1 : (List.range n)[A.length]? = some i := by rw [h, List.getElem?_append_right (Nat.le_refl _), Nat.sub_self]; rfl
  obtain ⟨h2, h3⟩ := List.getElem?_eq_some_iff.1 h1
  rw [List.getElem_range] at h3
  rw [List.length_range] at h2
  exact ⟨h3.symm, by omega⟩
/-- the scopes stand in preorder -/
def InPre (scs : List Sc) : Prop := ∀ i, i + 1 < scs.length → Hang scs (-1) i (i + 1)
theorem range_ok {scs : List Sc} (hd : DeclS scs) (hp : InPre scs) : PreOk scs (List.range scs.length) := by
  refine ⟨List.nodup_range, fun i => List.mem_range, ⟨fun i B h => ?_, fun A i j B h => ?_⟩, ?_⟩
  · have := range_split (A := []) h
    obtain ⟨h1, h2⟩ := this
    simp at h1
    subst h1
    have := hd 0 h2
    show (scH scs 0).parent = -1
    omega
  · have h1 := range_split h
    have h2 := range_split (A := A ++ [i]) (i := j) (B := B) (by rw [h]; simp)
    rw [List.length_append] at h2
    simp at h2
    have hj : j = i + 1 := by omega
    subst hj
    exact hp i h2.2
  · unfold Sib
    refine List.Pairwise.imp ?_ (List.pairwise_lt_range (n := scs.length))
    intro a b h _
    exact h
theorem pre_range {scs : List Sc} (hd : DeclS scs) : preH scs = List.range scs.length ↔ InPre scs := by
  rcases Nat.eq_zero_or_pos scs.length with h0 | h0
  · have h1 : preH scs = [] := List.eq_nil_of_length_eq_zero (by rw [preH_len hd, h0])
    rw [h1, h0]
    exact ⟨fun _ i hi => by omega, fun _ => rfl⟩
  · constructor
    · intro h i hi
      have hs := (pre_ok hd h0).st.step
      rw [h] at hs
      refine hs (List.range i) i (i + 1) ((List.range' (i + 2) (scs.length - (i + 2)))) ?_
      apply List.ext_getElem?
      intro k
      rcases Nat.lt_or_ge k i with h1 | h1
      · rw [List.getElem?_append_left (by rw [List.length_range]; exact h1), List.getElem?_range (by omega), List.getElem?_range h1]
      · rw [List.getElem?_append_right (by rw [List.length_range]; exact h1), List.length_range]
        obtain ⟨d, rfl⟩ : ∃ d, k = i + d := ⟨k - i, by omega⟩
        rw [Nat.add_sub_cancel_left]
        match d with
        | 0 => rw [Nat.add_zero, List.getElem?_range (by omega)]; rfl
        | 1 => rw [List.getElem?_range (by omega)]; rfl
        | d + 2 =>
          simp only [List.getElem?_cons_succ]
          by_cases hk : i + (d + 2) < scs.length
          · rw [List.getElem?_range hk, List.getElem?_range' (by omega)]
            congr 1; omega
          · rw [List.getElem?_eq_none (by rw [List.length_range]; omega), List.getElem?_eq_none (by rw [List.length_range']; omega)]
    · intro hp
      exact PreOk.uniq hd (pre_ok hd h0) (range_ok hd hp) _ _ [] rfl rfl
theorem nowH_range_id {n : Nat} {p : Int} (h1 : -1 ≤ p) (h2 : p < n) : nowH (List.range n) p = p := by
  unfold nowH
  by_cases h : p < 0
  · rw [if_pos h]; omega
  · rw [if_neg h]
    have hm : p.toNat < (List.range n).length := by rw [List.length_range]; omega
    have := List.Nodup.idxOf_getElem (List.nodup_range (n := n)) p.toNat hm
    rw [List.getElem_range] at this
    rw [this]; omega
theorem map_scH (scs : List Sc) : (List.range scs.length).map (scH scs) = scs := by
  apply List.ext_getElem
  · simp
  · intro i h1 h2
    rw [List.getElem_map, List.getElem_range, scH_at h2]
theorem orderS_id {scs : List Sc} (hd : DeclS scs) (hp : preH scs = List.range scs.length) : orderS scs = scs := by
  unfold orderS
  rw [hp]
  conv => rhs; rw [← map_scH scs]
  refine List.map_congr_left fun i hi => ?_
  have hi' := List.mem_range.1 hi
  obtain ⟨h1, h2⟩ := hd i hi'
  rw [nowH_range_id h1 (by omega)]
theorem orderS_at {scs : List Sc} (hd : DeclS scs) {k x : Nat} (hx : (preH scs)[k]? = some x) : scH (orderS scs) k = ordS scs (preH scs) x := by
  unfold scH
  rw [List.getD_eq_getElem?_getD, orderS_eq, List.getElem?_map, hx]; rfl
theorem nowH_at {l : List Nat} {i k : Nat} (hn : l.Nodup) (h : l[k]? = some i) : nowH l (i : Int) = (k : Int) := by
  obtain ⟨h1, h2⟩ := List.getElem?_eq_some_iff.1 h
  unfold nowH
  rw [if_neg (by omega)]
  have := List.Nodup.idxOf_getElem hn k h1
  rw [h2] at this
  have e : ((i : Int)).toNat = i := rfl
  rw [e, this]
theorem orderS_fix {scs : List Sc} (hd : DeclS scs) (hc : (scs.map childK).Nodup) (h : orderS scs = scs) : preH scs = List.range scs.length := by
  rcases Nat.eq_zero_or_pos scs.length with h0 | h0
  · have h1 : preH scs = [] := List.eq_nil_of_length_eq_zero (by rw [preH_len hd, h0])
    rw [h1, h0]; rfl
  have hnd := preH_nodup hd h0
  have key : ∀ n k, k < n → k < scs.length → (preH scs)[k]? = some k := by
    intro n
    induction n with
    | zero => intro k hk; omega
    | succ n ih =>
      intro k hk hkl
      obtain ⟨x, hx⟩ : ∃ x, (preH scs)[k]? = some x := ⟨_, List.getElem?_eq_getElem (by rw [preH_len hd]; exact hkl)⟩
      have hxl : x < scs.length := preH_lt hd h0 (List.mem_of_getElem? hx)
      have hat := orderS_at hd hx
      rw [h] at hat
      have hpar : (scH scs x).parent = -1 ∨ (0 ≤ (scH scs x).parent ∧ (scH scs x).parent.toNat ∈ (preH scs).take k) := preH_parent hd hx
      have hnow : nowH (preH scs) (scH scs x).parent = (scH scs x).parent := by
        rcases hpar with e | ⟨e1, e2⟩
        · rw [e]; rfl
        · obtain ⟨j, hj⟩ := List.mem_iff_getElem?.1 e2
          rw [List.getElem?_take] at hj
          split at hj
          · rename_i hjk
            have h3 := ih j (by omega) (by omega)
            rw [h3] at hj
            have h4 : (scH scs x).parent = ((j : Nat) : Int) := by have := Option.some.inj hj; omega
            rw [h4]
            exact nowH_at hnd h3
          · cases hj
      have hkk : childK (scH scs k) = childK (scH scs x) := by
        rw [hat]
        unfold childK ordS
        rw [hnow]
      have : k = x := by
        rw [scH_at hkl, scH_at hxl] at hkk
        exact nodup_keys hc (List.getElem?_eq_getElem hkl) (List.getElem?_eq_getElem hxl) hkk
      rw [hx, this]
  apply List.ext_getElem?
  intro k
  by_cases hk : k < scs.length
  · rw [key (k + 1) k (by omega) hk, List.getElem?_range hk]
  · rw [List.getElem?_eq_none (by rw [preH_len hd]; omega), List.getElem?_eq_none (by rw [List.length_range]; omega)]
theorem orderS_iff {scs : List Sc} (hd : DeclS scs) (hc : (scs.map childK).Nodup) : orderS scs = scs ↔ InPre scs :=
  ⟨fun h => (pre_range hd).1 (orderS_fix hd hc h), fun h => orderS_id hd ((pre_range hd).2 h)⟩
end Go.Proofs.Ytpfiofgchkfkhaa

/- Plain: ordering again what Order returned changes nothing. -/
set_option linter.unusedVariables false
set_option linter.unusedSimpArgs false
namespace Go.Proofs.Ytpfiofgchkfkhaa
open Go.RowKit Go.Shelf
theorem orderS_decl {scs : List Sc} (hd : DeclS scs) : DeclS (orderS scs) := by
  intro k hk
  have hk' : k < scs.length := by rw [orderS_len hd] at hk; exact hk
  have h0 : 0 < scs.length := by omega
  obtain ⟨x, hx⟩ : ∃ x, (preH scs)[k]? = some x := ⟨_, List.getElem?_eq_getElem (by rw [preH_len hd]; exact hk')⟩
  have hxl : x < scs.length := preH_lt hd h0 (List.mem_of_getElem? hx)
  rw [orderS_at hd hx]
  show -1 ≤ nowH (preH scs) (scH scs x).parent ∧ nowH (preH scs) (scH scs x).parent < k
  have hr := nowH_range hd (hd x hxl).1 (by have := (hd x hxl).2; omega)
  refine ⟨hr.1, ?_⟩
  have hp := preH_parent hd hx
  rcases hp with e | ⟨e1, e2⟩
  · rw [e]; show (-1 : Int) < k; omega
  · rw [← nowH_take (k := k) (.inr ⟨e1, e2⟩)]
    unfold nowH
    rw [if_neg (by omega)]
    have := List.idxOf_lt_length_iff.2 e2
    rw [List.length_take] at this
    omega
theorem upH_order {scs : List Sc} (hd : DeclS scs) : ∀ (n x k : Nat), x < n → (preH scs)[k]? = some x → upH (orderS scs) (k : Int) = (upH scs (x : Int)).map fun i => (preH scs).idxOf i
  | 0, _, _, h, _ => absurd h (by omega)
  | n + 1, x, k, hn, hx => by
    have hk : k < (preH scs).length := (List.getElem?_eq_some_iff.1 hx).1
    have hk' : k < scs.length := by rw [preH_len hd] at hk; exact hk
    have h0 : 0 < scs.length := by omega
    have hxl : x < scs.length := preH_lt hd h0 (List.mem_of_getElem? hx)
    have hnd := preH_nodup hd h0
    have hkx := nowH_at hnd hx
    unfold nowH at hkx
    rw [if_neg (by omega)] at hkx
    have hkx' : (preH scs).idxOf x = k := by have e : ((x : Int)).toNat = x := rfl; rw [e] at hkx; omega
    rw [upH_step (orderS_decl hd) (by rw [orderS_len hd]; exact hk'), upH_step hd hxl, List.map_cons, hkx', orderS_at hd hx]
    congr 1
    show upH (orderS scs) (nowH (preH scs) (scH scs x).parent) = _
    obtain ⟨p1, p2⟩ := hd x hxl
    rcases preH_parent hd hx with e | ⟨e1, e2⟩
    · rw [e]
      have e3 : nowH (preH scs) (-1) = -1 := rfl
      rw [e3, upH_neg _ (by omega), upH_neg _ (by omega)]; rfl
    · obtain ⟨q, hq⟩ : ∃ q : Nat, (scH scs x).parent = q := ⟨(scH scs x).parent.toNat, by omega⟩
      rw [hq] at e1 e2 p2 ⊢
      have e4 : ((q : Int)).toNat = q := rfl
      rw [e4] at e2
      obtain ⟨j, hj⟩ := List.mem_iff_getElem?.1 (List.mem_of_mem_take e2)
      rw [nowH_at hnd hj]
      exact upH_order hd n q j (by omega) hj
theorem get_split {l : List Nat} {i x y : Nat} (h1 : l[i]? = some x) (h2 : l[i + 1]? = some y) : l = l.take i ++ x :: y :: l.drop (i + 2) := by
  obtain ⟨a1, a2⟩ := List.getElem?_eq_some_iff.1 h1
  obtain ⟨b1, b2⟩ := List.getElem?_eq_some_iff.1 h2
  rw [← a2, ← b2, List.getElem_cons_drop, List.getElem_cons_drop, List.take_append_drop]
theorem orderS_in {scs : List Sc} (hd : DeclS scs) : InPre (orderS scs) := by
  intro i hi
  rw [orderS_len hd] at hi
  have h0 : 0 < scs.length := by omega
  have hnd := preH_nodup hd h0
  obtain ⟨x, hx⟩ : ∃ x, (preH scs)[i]? = some x := ⟨_, List.getElem?_eq_getElem (by rw [preH_len hd]; omega)⟩
  obtain ⟨y, hy⟩ : ∃ y, (preH scs)[i + 1]? = some y := ⟨_, List.getElem?_eq_getElem (by rw [preH_len hd]; omega)⟩
  have hxl : x < scs.length := preH_lt hd h0 (List.mem_of_getElem? hx)
  have hyl : y < scs.length := preH_lt hd h0 (List.mem_of_getElem? hy)
  have hs := (pre_ok hd h0).st.step _ x y _ (get_split hx hy)
  unfold Hang
  show (scH (orderS scs) (i + 1)).parent = -1 ∨ ∃ q : Nat, (scH (orderS scs) (i + 1)).parent = q ∧ _
  rw [orderS_at hd hy]
  show nowH (preH scs) (scH scs y).parent = -1 ∨ ∃ q : Nat, nowH (preH scs) (scH scs y).parent = q ∧ _
  rcases hs with h1 | ⟨q, h1, h2⟩
  · have h1' : (scH scs y).parent = -1 := h1
    rw [h1']; exact .inl rfl
  · have h1' : (scH scs y).parent = (q : Int) := h1
    rw [h1']
    right
    refine ⟨(preH scs).idxOf q, ?_, ?_⟩
    · unfold nowH
      rw [if_neg (by omega)]
      rfl
    · rw [upH_order hd (x + 1) x i (by omega) hx]
      exact List.mem_map.2 ⟨q, h2, rfl⟩
theorem pre_order {scs : List Sc} (hd : DeclS scs) : preH (orderS scs) = List.range scs.length := by
  have := (pre_range (orderS_decl hd)).2 (orderS_in hd)
  rwa [orderS_len hd] at this
theorem pathH_order {scs : List Sc} (hd : DeclS scs) {p : Int} (h1 : -1 ≤ p) (h2 : p < scs.length) : pathH (orderS scs) (nowH (preH scs) p) = pathH scs p := by
  by_cases h0 : p < 0
  · obtain rfl : p = -1 := by omega
    have e : nowH (preH scs) (-1) = -1 := rfl
    rw [e, pathH_neg _ (by omega), pathH_neg _ (by omega)]
  · obtain ⟨x, rfl⟩ : ∃ x : Nat, p = x := ⟨p.toNat, by omega⟩
    have hxl : x < scs.length := by omega
    have hn0 : 0 < scs.length := by omega
    have hnd := preH_nodup hd hn0
    obtain ⟨k, hk⟩ := List.mem_iff_getElem?.1 (preH_all hd (x + 1) x (by omega) hxl)
    rw [nowH_at hnd hk]
    unfold pathH
    rw [upH_order hd (x + 1) x k (by omega) hk, List.map_map]
    congr 1
    refine List.map_congr_left fun i hi => ?_
    have hil : i < scs.length := upH_lt hd (x + 1) (x : Int) (by omega) (by omega) i hi
    obtain ⟨j, hj⟩ := List.mem_iff_getElem?.1 (preH_all hd (i + 1) i (by omega) hil)
    have hij := nowH_at hnd hj
    unfold nowH at hij
    rw [if_neg (by omega)] at hij
    have e : ((i : Int)).toNat = i := rfl
    rw [e] at hij
    have hij' : (preH scs).idxOf i = j := by omega
    show (scH (orderS scs) ((preH scs).idxOf i)).name = (scH scs i).name
    rw [hij', orderS_at hd hj]; rfl
theorem nowH_inj {scs : List Sc} (hd : DeclS scs) {p q : Int} (h1 : -1 ≤ p) (h2 : p < scs.length) (h3 : -1 ≤ q) (h4 : q < scs.length) (h : nowH (preH scs) p = nowH (preH scs) q) : p = q := by
  have key : ∀ r : Int, -1 ≤ r → r < scs.length → r = -1 ∧ nowH (preH scs) r = -1 ∨ ∃ k : Nat, nowH (preH scs) r = k ∧ (preH scs)[k]? = some r.toNat ∧ 0 ≤ r := by
    intro r r1 r2
    by_cases h0 : r < 0
    · obtain rfl : r = -1 := by omega
      exact .inl ⟨rfl, rfl⟩
    · right
      obtain ⟨x, rfl⟩ : ∃ x : Nat, r = x := ⟨r.toNat, by omega⟩
      obtain ⟨k, hk⟩ := List.mem_iff_getElem?.1 (preH_all hd (x + 1) x (by omega) (by omega))
      exact ⟨k, nowH_at (preH_nodup hd (by omega)) hk, hk, by omega⟩
  rcases key p h1 h2 with ⟨e1, e2⟩ | ⟨k, e1, e2, e3⟩ <;> rcases key q h3 h4 with ⟨f1, f2⟩ | ⟨j, f1, f2, f3⟩
  · omega
  · omega
  · omega
  · have : k = j := by omega
    subst this
    rw [e2] at f2
    have := Option.some.inj f2
    omega
/-! ### variables -/
theorem Srt.perm {X Y : List Va} (h : Srt X Y) : Y.Perm X := by
  rw [List.perm_iff_count]
  intro a
  have e : ∀ l : List Va, List.count a l = List.count a (Go.Proofs.Ytpfiofgchkfkhaa.fil a.scope l) := by
    intro l
    unfold Go.Proofs.Ytpfiofgchkfkhaa.fil
    rw [List.count_filter (by simp)]
  rw [e, e X, h.fil]
theorem srt_sort {n : Nat} {l : List Va} (hb : ∀ v ∈ l, -1 ≤ v.scope ∧ v.scope < n) : Srt l (sortV n l) := by
  obtain ⟨X', hX, hs⟩ := ins_list [] l [] 0 l.length rfl (by simp)
  rw [← sort_eq hs hb]; exact hs
/-- all of a variable but its signal -/
def bareV (v : Va) : ByteArray × Int × Int × Bool × Int × Int := (v.name, v.typ, v.scope, v.ranged, v.msb, v.lsb)
theorem numF_bare : ∀ (l : List Va) (F : List Int), (numF l F).1.map bareV = l.map bareV
  | [], _ => rfl
  | v :: r, F => by rw [numF_cons, List.map_cons, List.map_cons, numF_bare r]; rfl
theorem numF_pre : ∀ (l : List Va) (F : List Int), F.Nodup → ∃ G, (numF l F).2 = F ++ G ∧ (F ++ G).Nodup
  | [], F, h => ⟨[], by simp [numF], by simpa using h⟩
  | v :: r, F, h => by
    rw [numF_cons]
    by_cases hs : v.signal ∈ F
    · rw [if_pos hs]; exact numF_pre r F h
    · rw [if_neg hs]
      obtain ⟨G, h1, h2⟩ := numF_pre r (F ++ [v.signal]) (by
        rw [List.nodup_append]
        refine ⟨h, by simp, fun a ha b hb e => ?_⟩
        obtain rfl := List.mem_singleton.1 hb
        exact hs (e ▸ ha))
      exact ⟨v.signal :: G, by simp only [h1]; simp, by simpa using h2⟩
/-- each variable's number is the place of its signal among the former ones -/
theorem numF_sig : ∀ (l : List Va) (F : List Int), F.Nodup → ∀ (i : Nat) (v : Va), l[i]? = some v → ∃ u, (numF l F).1[i]? = some u ∧ bareV u = bareV v ∧ u.signal = (((numF l F).2.idxOf v.signal : Nat) : Int) ∧ v.signal ∈ (numF l F).2
  | [], _, _, i, v, h => by cases h
  | x :: r, F, hF, i, v, h => by
    rw [numF_cons]
    have hF2 : (if x.signal ∈ F then F else F ++ [x.signal]).Nodup := by
      split
      · exact hF
      · rename_i hs
        rw [List.nodup_append]
        refine ⟨hF, by simp, fun a ha b hb e => ?_⟩
        obtain rfl := List.mem_singleton.1 hb
        exact hs (e ▸ ha)
    obtain ⟨G, h1, h2⟩ := numF_pre r _ hF2
    cases i with
    | zero =>
      cases h
      refine ⟨_, rfl, rfl, ?_, ?_⟩
      · show ((F.idxOf x.signal : Nat) : Int) = _
        show _ = (((numF r (if x.signal ∈ F then F else F ++ [x.signal])).2.idxOf x.signal : Nat) : Int)
        rw [h1]
        split
        · rename_i hs
          rw [List.idxOf_append, if_pos hs]
        · rename_i hs
          rw [List.append_assoc, List.idxOf_append, if_neg hs]
          rw [List.idxOf_eq_length hs]
          simp
      · show x.signal ∈ (numF r (if x.signal ∈ F then F else F ++ [x.signal])).2
        rw [h1]
        split
        · rename_i hs; exact List.mem_append.2 (.inl hs)
        · simp
    | succ i =>
      rw [List.getElem?_cons_succ] at h
      obtain ⟨u, g1, g2, g3, g4⟩ := numF_sig r _ hF2 i v h
      exact ⟨u, g1, g2, g3, g4⟩
def intsN (n : Nat) : List Int := (List.range n).map fun (i : Nat) => (i : Int)
theorem intsN_succ (n : Nat) : intsN (n + 1) = intsN n ++ [(n : Int)] := by unfold intsN; rw [List.range_succ, List.map_append]; rfl
theorem intsN_mem {n : Nat} {x : Int} : x ∈ intsN n ↔ 0 ≤ x ∧ x < n := by
  unfold intsN
  rw [List.mem_map]
  constructor
  · rintro ⟨i, h, rfl⟩
    have := List.mem_range.1 h
    omega
  · intro h
    exact ⟨x.toNat, List.mem_range.2 (by omega), by omega⟩
theorem intsN_idx {n i : Nat} (h : i ≤ n) : (intsN n).idxOf (i : Int) = i := by
  induction n with
  | zero =>
    obtain rfl : i = 0 := by omega
    rfl
  | succ n ih =>
    rw [intsN_succ, List.idxOf_append]
    by_cases hm : (i : Int) ∈ intsN n
    · rw [if_pos hm]
      have := intsN_mem.1 hm
      exact ih (by omega)
    · rw [if_neg hm]
      have h1 : ¬ i < n := fun e => hm (intsN_mem.2 ⟨by omega, by omega⟩)
      have hl : (intsN n).length = n := by unfold intsN; simp
      rw [hl]
      by_cases h2 : i = n
      · subst h2; simp
      · obtain rfl : i = n + 1 := by omega
        rw [List.idxOf_cons]
        have : ((n : Int) == ((n + 1 : Nat) : Int)) = false := beq_eq_false_iff_ne.2 (by omega)
        rw [this]; simp; omega
/-- numbering again -/
theorem numF_again : ∀ (l : List Va) (F : List Int), numF (numF l F).1 (intsN F.length) = ((numF l F).1, intsN (numF l F).2.length)
  | [], F => rfl
  | v :: r, F => by
    rw [numF_cons]
    simp only
    rw [numF_cons]
    have hle : F.idxOf v.signal ≤ F.length := List.idxOf_le_length
    have hi := intsN_idx hle
    simp only [hi]
    by_cases hs : v.signal ∈ F
    · have hlt := List.idxOf_lt_length_iff.2 hs
      rw [if_pos hs, if_pos (intsN_mem.2 ⟨by omega, by omega⟩), numF_again r F]
    · have hlt : F.idxOf v.signal = F.length := List.idxOf_eq_length hs
      rw [if_neg hs, hlt, if_neg (fun h => by have := intsN_mem.1 h; omega), ← intsN_succ]
      have : F.length + 1 = (F ++ [v.signal]).length := by simp
      rw [this, numF_again r (F ++ [v.signal])]
theorem asc_bare {l l' : List Va} (h : l.map bareV = l'.map bareV) (ha : Asc l') : Asc l := by
  have e : ∀ m : List Va, Asc m ↔ (m.map bareV).Pairwise fun x y => x.2.2.1 ≤ y.2.2.1 := fun m => by
    unfold Asc; rw [List.pairwise_map]; rfl
  rw [e, h, ← e]; exact ha
theorem moveV_id {scs : List Sc} {vs : List Va} (hp : preH scs = List.range scs.length) (hb : ∀ v ∈ vs, -1 ≤ v.scope ∧ v.scope < scs.length) : moveV scs vs = vs := by
  unfold moveV
  conv => rhs; rw [← List.map_id vs]
  refine List.map_congr_left fun v hv => ?_
  have := hb v hv
  rw [hp, nowH_range_id this.1 this.2]; rfl
theorem moveV_in {scs : List Sc} {vs : List Va} (hg : Good scs vs) : ∀ v ∈ moveV scs vs, -1 ≤ v.scope ∧ v.scope < scs.length := fun v hv => by
  unfold moveV at hv
  obtain ⟨u, hu, rfl⟩ := List.mem_map.1 hv
  have h1 := hg.declV u hu
  have h2 := nowH_range hg.decl h1.1 h1.2.1
  exact ⟨h2.1, h2.2.1⟩
/-- what Order returns is good -/
theorem order_goodH {scs : List Sc} {vs : List Va} (hg : Good scs vs) : Good (orderS scs) (orderV scs vs).1 := by
  have hd := hg.decl
  have hlen := orderS_len hd
  have hsrt := srt_sort (moveV_in hg)
  have hb : (orderV scs vs).1.map bareV = (sortV scs.length (moveV scs vs)).map bareV := numF_bare _ _
  have hmem : ∀ v ∈ (orderV scs vs).1, ∃ u ∈ vs, bareV v = (u.name, u.typ, nowH (preH scs) u.scope, u.ranged, u.msb, u.lsb) := by
    intro v hv
    have h1 : bareV v ∈ (sortV scs.length (moveV scs vs)).map bareV := by rw [← hb]; exact List.mem_map.2 ⟨v, hv, rfl⟩
    obtain ⟨x, hx, hxe⟩ := List.mem_map.1 h1
    have hx2 := hsrt.mem hx
    unfold moveV at hx2
    obtain ⟨u, hu, rfl⟩ := List.mem_map.1 hx2
    exact ⟨u, hu, hxe.symm⟩
  have hsm : ∀ x ∈ orderS scs, ∃ y ∈ scs, x.name = y.name ∧ x.typ = y.typ := by
    intro x hx
    rw [orderS_eq] at hx
    obtain ⟨i, hi, rfl⟩ := List.mem_map.1 hx
    have h0 : 0 < scs.length := by
      rcases Nat.eq_zero_or_pos scs.length with h | h
      · have := preH_len hd; rw [h] at this
        rw [List.eq_nil_of_length_eq_zero this] at hi; cases hi
      · exact h
    have hil := preH_lt hd h0 hi
    exact ⟨scs[i], List.getElem_mem hil, by show (scH scs i).name = _; rw [scH_at hil], by show (scH scs i).typ = _; rw [scH_at hil]⟩
  refine ⟨by rw [hlen]; exact hg.few, by rw [orderV_len hg]; exact hg.fewV, orderS_decl hd, fun v hv => ?_, fun i hi => ?_, fun x hx => ?_, fun v hv => ?_, fun x hx => ?_, fun v hv => ?_, fun v hv => ?_, ?_, ?_⟩
  · obtain ⟨u, hu, he⟩ := hmem v hv
    unfold bareV at he
    simp only [Prod.mk.injEq] at he
    have h1 := hg.declV u hu
    have h2 := nowH_range hd h1.1 h1.2.1
    rw [he.2.2.1, hlen]
    refine ⟨h2.1, h2.2.1, ?_⟩
    obtain ⟨i, hi⟩ := List.mem_iff_getElem?.1 hv
    have hl : i < (sortV scs.length (moveV scs vs)).length := by
      have := (List.getElem?_eq_some_iff.1 hi).1
      unfold orderV at this; rwa [numF_len] at this
    obtain ⟨u', g1, g2, g3, _⟩ := numF_sig (sortV scs.length (moveV scs vs)) [] List.nodup_nil i _ (List.getElem?_eq_getElem hl)
    have : v = u' := by
      unfold orderV at hi
      rw [hi] at g1; exact Option.some.inj g1
    rw [this, g3]; omega
  · have hi' : i < scs.length := by rw [hlen] at hi; exact hi
    have h0 : 0 < scs.length := by omega
    obtain ⟨x, hx⟩ : ∃ x, (preH scs)[i]? = some x := ⟨_, List.getElem?_eq_getElem (by rw [preH_len hd]; exact hi')⟩
    have hxl : x < scs.length := preH_lt hd h0 (List.mem_of_getElem? hx)
    have := pathH_order hd (p := (x : Int)) (by omega) (by omega)
    rw [nowH_at (preH_nodup hd h0) hx] at this
    rw [this]; exact hg.deep x hxl
  · obtain ⟨y, hy, e, _⟩ := hsm x hx; rw [e]; exact hg.nameS y hy
  · obtain ⟨u, hu, he⟩ := hmem v hv
    unfold bareV at he; simp only [Prod.mk.injEq] at he
    rw [he.1]; exact hg.nameV u hu
  · obtain ⟨y, hy, _, e⟩ := hsm x hx; rw [e]; exact hg.typS y hy
  · obtain ⟨u, hu, he⟩ := hmem v hv
    unfold bareV at he; simp only [Prod.mk.injEq] at he
    rw [he.2.1]; exact hg.typV u hu
  · obtain ⟨u, hu, he⟩ := hmem v hv
    unfold bareV at he; simp only [Prod.mk.injEq] at he
    have := hg.range u hu
    unfold badR at this ⊢
    rw [he.2.2.2.1, he.2.2.2.2.1, he.2.2.2.2.2]; exact this
  · rw [orderS_eq, List.map_map]
    rcases Nat.eq_zero_or_pos scs.length with h0 | h0
    · have h1 : preH scs = [] := List.eq_nil_of_length_eq_zero (by rw [preH_len hd, h0])
      rw [h1]; exact List.nodup_nil
    · refine pair_mapped (preH_nodup hd h0) (fun a ha b hb' e => ?_)
      have hal := preH_lt hd h0 ha
      have hbl := preH_lt hd h0 hb'
      have e' : (nowH (preH scs) (scH scs a).parent, (scH scs a).name) = (nowH (preH scs) (scH scs b).parent, (scH scs b).name) := e
      obtain ⟨e1, e2⟩ := Prod.mk.inj e'
      have hpa := hd a hal
      have hpb := hd b hbl
      have e3 := nowH_inj hd hpa.1 (by omega) hpb.1 (by omega) e1
      refine nodup_keys hg.child (List.getElem?_eq_getElem hal) (List.getElem?_eq_getElem hbl) ?_
      rw [scH_at hal, scH_at hbl] at e2 e3
      unfold childK
      rw [e2, e3]
  · have e1 : (orderV scs vs).1.map entryK = (sortV scs.length (moveV scs vs)).map entryK := by
      have e : ∀ m : List Va, m.map entryK = (m.map bareV).map fun x => (x.2.2.1, x.1, x.2.2.2.1, x.2.2.2.2.1, x.2.2.2.2.2) := fun m => by rw [List.map_map]; rfl
      rw [e, hb, ← e]
    rw [e1, (hsrt.perm.map entryK).nodup_iff]
    unfold moveV
    rw [List.map_map]
    have hn : (vs.map entryK).Nodup := hg.entry
    have : (vs.map entryK).map (fun x => (nowH (preH scs) x.1, x.2)) = vs.map (entryK ∘ fun v => { v with scope := nowH (preH scs) v.scope }) := by rw [List.map_map]; rfl
    rw [← this]
    refine pair_mapped hn (fun a ha b hb' e => ?_)
    obtain ⟨u, hu, rfl⟩ := List.mem_map.1 ha
    obtain ⟨v, hv, rfl⟩ := List.mem_map.1 hb'
    obtain ⟨e1, e2⟩ := Prod.mk.inj e
    have h1 := hg.declV u hu
    have h2 := hg.declV v hv
    have e3 := nowH_inj hd h1.1 h1.2.1 h2.1 h2.2.1 e1
    exact Prod.ext e3 e2
/-- ordering again -/
theorem order_again {scs : List Sc} {vs : List Va} (hg : Good scs vs) :
    orderS (orderS scs) = orderS scs ∧ orderV (orderS scs) (orderV scs vs).1 = ((orderV scs vs).1, intsN (orderV scs vs).2.length) := by
  have hd := hg.decl
  have hg2 := order_goodH hg
  have hlen := orderS_len hd
  have hp := pre_order hd
  have hp2 : preH (orderS scs) = List.range (orderS scs).length := by rw [hlen]; exact hp
  refine ⟨orderS_id (orderS_decl hd) hp2, ?_⟩
  have hb : (orderV scs vs).1.map bareV = (sortV scs.length (moveV scs vs)).map bareV := numF_bare _ _
  have hasc : Asc (orderV scs vs).1 := asc_bare hb (srt_sort (moveV_in hg)).asc
  have hin : ∀ v ∈ (orderV scs vs).1, -1 ≤ v.scope ∧ v.scope < (orderS scs).length := fun v hv => ⟨(hg2.declV v hv).1, (hg2.declV v hv).2.1⟩
  have e : orderV (orderS scs) (orderV scs vs).1 = numF (sortV (orderS scs).length (moveV (orderS scs) (orderV scs vs).1)) [] := rfl
  rw [e, moveV_id hp2 hin, ← sort_eq (Srt.refl hasc) hin]
  exact numF_again (sortV scs.length (moveV scs vs)) []
theorem order_validH {scs : List Sc} {vs : List Va} (hg : Good scs vs) : validH (orderS scs) (orderV scs vs).1 = true := by
  have h := order_again hg
  unfold validH
  exact decide_eq_true ⟨checkE_ok.2 (order_goodH hg), h.1, by rw [h.2]⟩
end Go.Proofs.Ytpfiofgchkfkhaa

/- Contract of Lookup. -/
set_option linter.unusedVariables false
set_option linter.unusedSimpArgs false
namespace Go.Proofs.Ytpfiofgchkfkhaa
open Go.RowKit Go.Shelf Go.Maps
theorem EqualStr_any (A B : Option Addr) (c d : Nat) (xs ys : List ByteArray) (w : World) (hx : Sl Value.string w A xs) (hy : Sl Value.string w B ys) (hl : xs.length ≤ 1000000) (hl' : ys.length ≤ 1000000) :
    Calls Try.prog 35 #[.slice A xs.length c, .slice B ys.length d] w fun e w' => e = .returned (.bool (decide (xs = ys))) ∧ Below w.heap.size w w' := by
  by_cases hn : xs.length = ys.length
  · rcases Nat.eq_zero_or_pos xs.length with h0 | h0
    · have e1 : xs = [] := List.eq_nil_of_length_eq_zero h0
      have e2 : ys = [] := List.eq_nil_of_length_eq_zero (by omega)
      subst e1; subst e2
      exact (Try.slices_Equal_string_empty A B c 0 d w (by decide)).mono (by rintro e w' ⟨rfl, rfl⟩; exact ⟨by simp, Below.refl _ _⟩)
    · obtain ⟨b, o, rfl, h1⟩ := hx h0
      obtain ⟨b', o', rfl, h2⟩ := hy (by omega)
      refine (Try.slices_Equal_string b o xs.length c b' o' ys.length d xs ys w (Nat.le_refl _) (Nat.le_refl _) (by omega) (by omega) (fun j hj => ?_) (fun j hj => ?_)).mono ?_
      · rw [h1 j hj, List.getD_eq_getElem?_getD, List.getElem?_eq_getElem hj]; rfl
      · rw [h2 j hj, List.getD_eq_getElem?_getD, List.getElem?_eq_getElem hj]; rfl
      · rintro e w' ⟨rfl, q, rfl⟩
        rw [List.take_length, List.take_length]
        exact ⟨rfl, Below_drewN (Below.refl _ _) q⟩
  · refine (Try.slices_Equal_string_lens A B xs.length c ys.length d w hn).mono ?_
    rintro e w' ⟨rfl, rfl⟩
    have : decide (xs = ys) = false := decide_eq_false (fun e => hn (by rw [e]))
    rw [this]
    exact ⟨rfl, Below.refl _ _⟩
theorem FullOf_len (scs : List Sc) (v : Va) : (FullOf scs v).length ≤ scs.length + 2 := by
  unfold FullOf
  split
  · rename_i h
    have hr : v.scope.toNat + 1 ≤ scs.length + 1 := by
      unfold fullOk at h
      rw [Bool.and_eq_true, Bool.or_eq_true, decide_eq_true_eq] at h
      rcases h.2 with e | e
      · omega
      · unfold thereH at e
        rw [Bool.and_eq_true, decide_eq_true_eq] at e
        omega
    rw [List.length_append, pathH_len, List.length_singleton]
    have := upF_len scs (v.scope.toNat + 1) v.scope
    show (upF scs (v.scope.toNat + 1) v.scope).length + 1 ≤ _
    omega
  · exact Nat.zero_le _
theorem Full_any {w : World} {scs : List Sc} {A : Option Addr} (cap : Nat) (v : Va) (h : InS w scs A) (hl : scs.length ≤ 100000) :
    Calls Try.prog 17 #[.slice A scs.length cap, vaV v] w fun e w' => ∃ u, e = .returned u ∧ w'.ownsRow w.heap.size 9 1 u (FullOf scs v).length ((FullOf scs v).map Value.string) ∧ Below w.heap.size w w' := by
  cases hf : fullOk scs v.scope with
  | true =>
    have e : FullOf scs v = pathH scs v.scope ++ [v.name] := by unfold FullOf; rw [if_pos hf]
    rw [e]
    refine (Full_good cap v h hl hf).mono ?_
    rintro e w' ⟨u, rfl, ho, hb⟩
    refine ⟨u, rfl, ?_, hb⟩
    rw [List.length_append, List.map_append]; exact ho
  | false =>
    have e : FullOf scs v = [] := by unfold FullOf; rw [if_neg (by rw [hf]; decide)]
    rw [e]
    refine (Full_bad cap v h hf).mono ?_
    rintro e w' ⟨rfl, hb⟩
    exact ⟨_, rfl, World.ownsRow_nil _ _ _ _, hb⟩
def atPath (scs : List Sc) (path : List ByteArray) (v : Va) : Bool := decide (FullOf scs v = path)
def LookOf (scs : List Sc) (vs : List Va) (path : List ByteArray) : List Int := if validH scs vs then idxsP (atPath scs path) vs else []
set_option maxRecDepth 20000 in
set_option maxHeartbeats 4000000 in
theorem look1_any {w : World} {scs : List Sc} {A A2 : Option Addr} (cap cap2 : Nat) (path : List ByteArray) (x : Va) (gs gp : Nat) (h : InS w scs A) (hl : scs.length ≤ 100000) (hp : Sl Value.string w A2 path) (hpl : path.length ≤ 100000)
    (hs : w.cell? ⟨gs, 0, none⟩ = some (.slice A scs.length cap)) (hq : w.cell? ⟨gp, 0, none⟩ = some (.slice A2 path.length cap2)) (hgs : gs < w.heap.size) (hgp : gp < w.heap.size) :
    Calls Try.prog 34 #[vaV x, .pointer (some ⟨gs, 0, none⟩), .pointer (some ⟨gp, 0, none⟩)] w fun e w' => e = .returned (.bool (atPath scs path x)) ∧ Below w.heap.size w w' := by
  have FU := hide (fun W (hb : Below w.heap.size w W) => Full_any cap x (h.below hb) hl)
  have hV : atPath scs path x = decide (FullOf scs x = path) := rfl
  have hFl := FullOf_len scs x
  have EQ := hide (fun (W : World) (hb : Below w.heap.size w W) (B : Option Addr) (c : Nat) (hs : Sl Value.string W B (FullOf scs x)) => EqualStr_any B A2 c cap2 (FullOf scs x) path W hs (hp.below hb) (by omega) (by omega))
  generalize FullOf scs x = F at *
  generalize atPath scs path x = r at *
  generalize scs.length = n at *
  have EQ' := EQ.out
  generalize hm : path.length = m at *
  obtain ⟨k, hk⟩ : ∃ k, F.length = k := ⟨_, rfl⟩
  rw [hk] at EQ' FU
  have EQ2 := hide EQ'
  have HV := hide hV
  have HK := hide hk
  clear h hp hV hm EQ EQ' hk
  obtain ⟨nm, ty, sc, sg, rg, msb, lsb⟩ := x
  unfold vaV at FU ⊢
  simp only at FU
  have HB0 := hide ((Below.refl w.heap.size w).alloc (Nat.le_refl _) (.cells #[.string nm, .int .i64 ty, .int .i64 sc, .int .i64 sg, .bool rg, .int .i64 msb, .int .i64 lsb] 29))
  have HR := hide (Row.new w 29 #[.string nm, .int .i64 ty, .int .i64 sc, .int .i64 sg, .bool rg, .int .i64 msb, .int .i64 lsb])
  have ha1 : (w.alloc (.cells #[.string nm, .int .i64 ty, .int .i64 sc, .int .i64 sg, .bool rg, .int .i64 msb, .int .i64 lsb] 29)).cell? ⟨gs, 0, none⟩ = some (.slice A n cap) := by
    rw [HB0.out.cell (p := ⟨gs, 0, none⟩) hgs]; exact hs
  have ha2 : (w.alloc (.cells #[.string nm, .int .i64 ty, .int .i64 sc, .int .i64 sg, .bool rg, .int .i64 msb, .int .i64 lsb] 29)).cell? ⟨gp, 0, none⟩ = some (.slice A2 m cap2) := by
    rw [HB0.out.cell (p := ⟨gp, 0, none⟩) hgp]; exact hq
  go_enter Try.func34, Try.ntmps34
  go_wp2_with fail
  obtain ⟨W0, hW0⟩ : ∃ W0, w.alloc (.cells #[.string nm, .int .i64 ty, .int .i64 sc, .int .i64 sg, .bool rg, .int .i64 msb, .int .i64 lsb] 29) = W0 := ⟨_, rfl⟩
  rw [hW0] at ha1 ha2 HB0 HR ⊢
  have c0 : W0.cell? ⟨w.heap.size, 0, none⟩ = some (.string nm) := HR.out.cell 0
  have c1 : W0.cell? ⟨w.heap.size, 1, none⟩ = some (.int .i64 ty) := HR.out.cell 1
  have c2 : W0.cell? ⟨w.heap.size, 2, none⟩ = some (.int .i64 sc) := HR.out.cell 2
  have c3 : W0.cell? ⟨w.heap.size, 3, none⟩ = some (.int .i64 sg) := HR.out.cell 3
  have c4 : W0.cell? ⟨w.heap.size, 4, none⟩ = some (.bool rg) := HR.out.cell 4
  have c5 : W0.cell? ⟨w.heap.size, 5, none⟩ = some (.int .i64 msb) := HR.out.cell 5
  have c6 : W0.cell? ⟨w.heap.size, 6, none⟩ = some (.int .i64 lsb) := HR.out.cell 6
  clear hW0 hs hq
  go_region_held3 (fun w' => w'.cell? ⟨gs, 0, none⟩ = some (.slice A n cap) ∧ w'.cell? ⟨gp, 0, none⟩ = some (.slice A2 m cap2) ∧ w'.cell? ⟨w.heap.size, 0, none⟩ = some (.string nm) ∧ w'.cell? ⟨w.heap.size, 1, none⟩ = some (.int .i64 ty) ∧ w'.cell? ⟨w.heap.size, 2, none⟩ = some (.int .i64 sc) ∧ w'.cell? ⟨w.heap.size, 3, none⟩ = some (.int .i64 sg) ∧ w'.cell? ⟨w.heap.size, 4, none⟩ = some (.bool rg) ∧ w'.cell? ⟨w.heap.size, 5, none⟩ = some (.int .i64 msb) ∧ w'.cell? ⟨w.heap.size, 6, none⟩ = some (.int .i64 lsb)) (go_keep) (first
      | (go_at_call 17; refine (FU.out W0.drew HB0.out.drew).mono ?_; rintro e w5 ⟨v1, rfl, ho5, hb5⟩; obtain ⟨A1, cp1, rfl⟩ := ownH_sl ho5; have hd1 : w5.cell? ⟨gs, 0, none⟩ = some (.slice A n cap) := (hb5.cell (p := ⟨gs, 0, none⟩) (Nat.lt_of_lt_of_le hgs HB0.out.size)).trans ha1; have hd2 : w5.cell? ⟨gp, 0, none⟩ = some (.slice A2 m cap2) := (hb5.cell (p := ⟨gp, 0, none⟩) (Nat.lt_of_lt_of_le hgp HB0.out.size)).trans ha2; have HR5 := hide (HR.out.drew.below hb5 HR.out.lt); have d0 : w5.cell? ⟨w.heap.size, 0, none⟩ = some (.string nm) := HR5.out.cell 0; have d1 : w5.cell? ⟨w.heap.size, 1, none⟩ = some (.int .i64 ty) := HR5.out.cell 1; have d2 : w5.cell? ⟨w.heap.size, 2, none⟩ = some (.int .i64 sc) := HR5.out.cell 2; have d3 : w5.cell? ⟨w.heap.size, 3, none⟩ = some (.int .i64 sg) := HR5.out.cell 3; have d4 : w5.cell? ⟨w.heap.size, 4, none⟩ = some (.bool rg) := HR5.out.cell 4; have d5 : w5.cell? ⟨w.heap.size, 5, none⟩ = some (.int .i64 msb) := HR5.out.cell 5; have d6 : w5.cell? ⟨w.heap.size, 6, none⟩ = some (.int .i64 lsb) := HR5.out.cell 6; have Ho5 := hide (Sl_own ho5 HK.out.symm); have Hb5 := hide (HB0.out.drew.trans (hb5.mono HB0.out.size)); clear ho5 hb5)
      | (go_at_call 35; refine (EQ2.out w5 Hb5.out A1 cp1 (by obtain ⟨A9, c9, e9, h9, _⟩ := Ho5.out; cases e9; exact h9)).mono ?_; rintro e w6 ⟨rfl, hb6⟩; have hd1' : w6.cell? ⟨gs, 0, none⟩ = some (.slice A n cap) := (hb6.cell (p := ⟨gs, 0, none⟩) (Nat.lt_of_lt_of_le hgs Hb5.out.size)).trans hd1; have hd2' : w6.cell? ⟨gp, 0, none⟩ = some (.slice A2 m cap2) := (hb6.cell (p := ⟨gp, 0, none⟩) (Nat.lt_of_lt_of_le hgp Hb5.out.size)).trans hd2; have HR6 := hide (HR5.out.below hb6 HR5.out.lt); have d0' : w6.cell? ⟨w.heap.size, 0, none⟩ = some (.string nm) := HR6.out.cell 0; have d1' : w6.cell? ⟨w.heap.size, 1, none⟩ = some (.int .i64 ty) := HR6.out.cell 1; have d2' : w6.cell? ⟨w.heap.size, 2, none⟩ = some (.int .i64 sc) := HR6.out.cell 2; have d3' : w6.cell? ⟨w.heap.size, 3, none⟩ = some (.int .i64 sg) := HR6.out.cell 3; have d4' : w6.cell? ⟨w.heap.size, 4, none⟩ = some (.bool rg) := HR6.out.cell 4; have d5' : w6.cell? ⟨w.heap.size, 5, none⟩ = some (.int .i64 msb) := HR6.out.cell 5; have d6' : w6.cell? ⟨w.heap.size, 6, none⟩ = some (.int .i64 lsb) := HR6.out.cell 6; have Hb6 := hide (Hb5.out.trans (hb6.mono Hb5.out.size)); clear hb6))
  go_wp2
  go_ret
  exact ⟨by rw [HV.out]; first | done | rfl, Hb6.out⟩
theorem InH.toS {w : World} {scs : List Sc} {vs : List Va} {A A' : Option Addr} {cap' : Nat} (h : InH w scs vs A A' cap') : InS w scs A := ⟨h.hs, h.hl, h.ok, h.z, h.a⟩
set_option maxRecDepth 20000 in
set_option maxHeartbeats 4000000 in
theorem Lookup_any {w : World} {scs : List Sc} {vs : List Va} {A A' A2 : Option Addr} (cap cap' cap2 : Nat) (path : List ByteArray) (h : InH w scs vs A A' cap') (hl : scs.length ≤ 100000) (hp : Sl Value.string w A2 path) (hpl : path.length ≤ 100000) :
    Calls Try.prog 12 #[.slice A scs.length cap, .slice A' vs.length cap', .slice A2 path.length cap2] w fun e w' => ∃ v, e = .returned v ∧ w'.ownsRow w.heap.size 3 1 v (LookOf scs vs path).length ((LookOf scs vs path).map intV) ∧ Below w.heap.size w w' := by
  have VH := hide (fun W (hb : Below w.heap.size w W) => Valid_H scs vs A A' cap cap' W (h.below hb))
  have IV := hide (fun (W : World) (hb : Below w.heap.size w W) (gs gp : Nat) (hg1 : W.cell? ⟨gs, 0, none⟩ = some (.slice A scs.length cap)) (hg2 : W.cell? ⟨gp, 0, none⟩ = some (.slice A2 path.length cap2)) (hl1 : gs < W.heap.size) (hl2 : gp < W.heap.size) =>
    indicesV_any A' cap' vs 34 #[.pointer (some ⟨gs, 0, none⟩), .pointer (some ⟨gp, 0, none⟩)] (atPath scs path) W (va_below h.hv hb) h.hl' ⟨fun x hx W2 hW2 => look1_any cap cap2 path x gs gp (h.toS.below (hb.trans (hW2.mono hb.size))) hl (hp.below (hb.trans (hW2.mono hb.size))) hpl ((hW2.cell (p := ⟨gs, 0, none⟩) hl1).trans hg1) ((hW2.cell (p := ⟨gp, 0, none⟩) hl2).trans hg2) (Nat.lt_of_lt_of_le hl1 hW2.size) (Nat.lt_of_lt_of_le hl2 hW2.size), fun W2 x => enters (by kernel_rfl) _ W2⟩)
  have hL : LookOf scs vs path = if validH scs vs then idxsP (atPath scs path) vs else [] := rfl
  generalize LookOf scs vs path = L at *
  generalize validH scs vs = b at *
  generalize idxsP (atPath scs path) vs = L1 at *
  generalize scs.length = n at *
  generalize vs.length = m at *
  generalize path.length = k at *
  clear h hp
  have HB0 := hide (((Below.refl w.heap.size w).alloc (Nat.le_refl _) (.cells #[.slice A n cap] 22)).alloc (by rw [World.size_alloc]; omega) (.cells #[.slice A2 k cap2] 37))
  have HR1 := hide ((Row.new w 22 #[.slice A n cap]).alloc (.cells #[.slice A2 k cap2] 37))
  have HR2 := hide (show Row ((w.alloc (.cells #[.slice A n cap] 22)).alloc (.cells #[.slice A2 k cap2] 37)) (w.heap.size + 1) 37 #[.slice A2 k cap2] from by rw [← World.size_alloc w (.cells #[.slice A n cap] 22)]; exact Row.new _ _ _)
  cases b with
  | true =>
    rw [if_pos rfl] at hL
    subst hL
    go_enter Try.func12, Try.ntmps12
    go_wp2_with fail
    refine (VH.out _ HB0.out).mono ?_
    rintro e w1 ⟨rfl, hb⟩
    have HB1 := hide (HB0.out.trans (hb.mono HB0.out.size))
    have HR3 := hide (HR1.out.below hb HR1.out.lt)
    have HR4 := hide (HR2.out.below hb HR2.out.lt)
    clear hb
    go_wp2_with fail
    refine (IV.out w1 HB1.out w.heap.size (w.heap.size + 1) (HR3.out.cell 0) (HR4.out.cell 0) HR3.out.lt HR4.out.lt).mono ?_
    rintro e w2 ⟨v1, rfl, ho1, hb2⟩
    have HB2 := hide (HB1.out.trans (hb2.mono HB1.out.size))
    have HO1 := hide (ownsRow_mono ho1 HB1.out.size)
    clear hb2 ho1
    go_wp2
    go_ret
    exact ⟨_, rfl, HO1.out, HB2.out⟩
  | false =>
    rw [if_neg (by decide)] at hL
    subst hL
    go_enter Try.func12, Try.ntmps12
    go_wp2_with fail
    refine (VH.out _ HB0.out).mono ?_
    rintro e w1 ⟨rfl, hb⟩
    have HB1 := hide (HB0.out.trans (hb.mono HB0.out.size))
    clear hb
    go_wp2
    go_ret
    exact ⟨_, rfl, World.ownsRow_nil _ _ _ _, HB1.out⟩
end Go.Proofs.Ytpfiofgchkfkhaa

/- Plain: Find inverts Path; who has a variable's path. -/
set_option linter.unusedVariables false
set_option linter.unusedSimpArgs false
namespace Go.Proofs.Ytpfiofgchkfkhaa
open Go.RowKit Go.Shelf
theorem idxsF_mem {α : Type} (p : α → Bool) : ∀ (xs : List α) (s : Nat) (k : Int), k ∈ idxsF p xs s ↔ ∃ j, ∃ h : j < xs.length, k = ((s + j : Nat) : Int) ∧ p xs[j] = true
  | [], s, k => by
    unfold idxsF
    constructor
    · intro h; cases h
    · rintro ⟨j, h, _⟩; exact absurd h (by simp)
  | x :: xs, s, k => by
    have e : idxsF p (x :: xs) s = (if p x then [(s : Int)] else []) ++ idxsF p xs (s + 1) := by
      rfl
    rw [e, List.mem_append, idxsF_mem p xs (s + 1) k]
    constructor
    · rintro (h | ⟨j, h, h1, h2⟩)
      · split at h
        · rename_i hp
          exact ⟨0, by simp, by rw [List.mem_singleton.1 h]; rfl, hp⟩
        · cases h
      · exact ⟨j + 1, by simpa using h, by rw [h1]; omega, h2⟩
    · rintro ⟨j, h, h1, h2⟩
      cases j with
      | zero =>
        left
        rw [if_pos (by simpa using h2)]
        exact List.mem_singleton.2 (by rw [h1]; rfl)
      | succ j => exact .inr ⟨j, by simpa using h, by rw [h1]; omega, by simpa using h2⟩
theorem idxsP_mem {α : Type} (p : α → Bool) (xs : List α) (k : Int) : k ∈ idxsP p xs ↔ ∃ j, ∃ h : j < xs.length, k = (j : Int) ∧ p xs[j] = true := by
  unfold idxsP
  rw [idxsF_mem]
  simp only [Nat.zero_add]
theorem validH_nil {scs : List Sc} {vs : List Va} (h : validH scs vs = true) : validH scs [] = true := by
  unfold validH at h ⊢
  obtain ⟨h1, h2, h3⟩ := of_decide_eq_true h
  have g := checkE_ok.1 h1
  refine decide_eq_true ⟨checkE_ok.2 ⟨g.few, by simp, g.decl, fun v hv => (by cases hv), g.deep, g.nameS, fun v hv => (by cases hv), g.typS, fun v hv => (by cases hv), fun v hv => (by cases hv), g.child, List.nodup_nil⟩, h2, by rw [orderV_nil]⟩
theorem findG_snoc (scs : List Sc) (p : ByteArray) : ∀ (L : List ByteArray) (a : Int), findG scs (L ++ [p]) a = (findG scs L a).bind fun b => if idxP (isH b p) scs < 0 then none else some (idxP (isH b p) scs)
  | [], a => by
    rw [List.nil_append]
    show findG scs [p] a = (some a).bind _
    unfold findG
    rfl
  | q :: L, a => by
    rw [List.cons_append]
    unfold findG
    split
    · rfl
    · exact findG_snoc scs p L _
theorem findG_path {scs : List Sc} (hd : DeclS scs) (hc : (scs.map childK).Nodup) : ∀ (n : Nat) (p : Int), -1 ≤ p → p < scs.length → (p + 1).toNat ≤ n → findG scs (pathH scs p) (-1) = some p
  | 0, p, h1, h2, h3 => by
    obtain rfl : p = -1 := by omega
    rw [pathH_neg _ (by omega)]; rfl
  | n + 1, p, h1, h2, h3 => by
    by_cases h0 : p < 0
    · obtain rfl : p = -1 := by omega
      rw [pathH_neg _ (by omega)]; rfl
    · obtain ⟨i, rfl⟩ : ∃ i : Nat, p = i := ⟨p.toNat, by omega⟩
      have hi : i < scs.length := by omega
      obtain ⟨q1, q2⟩ := hd i hi
      rw [pathH_step hd hi, findG_snoc, findG_path hd hc n _ q1 (by omega) (by omega)]
      have hidx : idxP (isH (scH scs i).parent (scH scs i).name) scs = (i : Int) := by
        refine idxP_hit hi ?_ (fun j hj hji => ?_)
        · unfold isH
          rw [scH_at hi]; simp
        · unfold isH
          rw [Bool.and_eq_false_iff, decide_eq_false_iff_not, decide_eq_false_iff_not]
          by_cases e1 : scs[j].parent = (scH scs i).parent
          · right
            intro e2
            have := nodup_keys hc (List.getElem?_eq_getElem hj) (List.getElem?_eq_getElem hi) (by unfold childK; rw [e1, e2, scH_at hi])
            omega
          · exact .inl e1
      show (if idxP (isH (scH scs i).parent (scH scs i).name) scs < 0 then none else some _) = _
      rw [hidx, if_neg (by omega)]
theorem path_inj {scs : List Sc} (hd : DeclS scs) (hc : (scs.map childK).Nodup) {p q : Int} (h1 : -1 ≤ p) (h2 : p < scs.length) (h3 : -1 ≤ q) (h4 : q < scs.length) (h : pathH scs p = pathH scs q) : p = q := by
  have e1 := findG_path hd hc (p + 1).toNat p h1 h2 (Nat.le_refl _)
  have e2 := findG_path hd hc (q + 1).toNat q h3 h4 (Nat.le_refl _)
  rw [h, e2] at e1
  exact (Option.some.inj e1).symm
theorem PathOf_valid {scs : List Sc} {i : Int} (hv : validH scs [] = true) (h1 : 0 ≤ i) (h2 : i < scs.length) : PathOf scs i = pathH scs i := by
  unfold PathOf thereH
  rw [decide_eq_true ⟨h1, h2⟩, hv]; rfl
theorem find_path {scs : List Sc} (hv : validH scs [] = true) {i : Nat} (hi : i < scs.length) : findH scs (PathOf scs (i : Int)) = ((i : Int), 0) := by
  have g := validH_decl hv
  rw [PathOf_valid hv (by omega) (by omega)]
  unfold findH
  rw [if_neg (by rw [hv]; decide), findG_path g.decl g.child (i + 1) (i : Int) (by omega) (by omega) (by omega)]
  show (if (i : Int) < 0 then _ else _) = _
  rw [if_neg (by omega)]
theorem FullOf_valid {scs : List Sc} {v : Va} (hv : validH scs [] = true) (h1 : -1 ≤ v.scope) (h2 : v.scope < scs.length) : FullOf scs v = pathH scs v.scope ++ [v.name] := by
  unfold FullOf fullOk thereH
  rw [hv, if_pos]
  by_cases h : v.scope = -1
  · rw [decide_eq_true h]; rfl
  · rw [decide_eq_true (show 0 ≤ v.scope ∧ v.scope < scs.length from ⟨by omega, h2⟩)]; simp
theorem full_inj {scs : List Sc} {u v : Va} (hv : validH scs [] = true) (h1 : -1 ≤ u.scope) (h2 : u.scope < scs.length) (h3 : -1 ≤ v.scope) (h4 : v.scope < scs.length) (h : FullOf scs u = FullOf scs v) : u.scope = v.scope ∧ u.name = v.name := by
  have g := validH_decl hv
  rw [FullOf_valid hv h1 h2, FullOf_valid hv h3 h4] at h
  obtain ⟨e1, e2⟩ := List.append_inj' h rfl
  exact ⟨path_inj g.decl g.child h1 h2 h3 h4 e1, (List.cons.inj e2).1⟩
/-- who is found by a variable's path -/
theorem look_mem {scs : List Sc} {vs : List Va} (hv : validH scs vs = true) {v : Va} (h1 : -1 ≤ v.scope) (h2 : v.scope < scs.length) (k : Int) : k ∈ LookOf scs vs (FullOf scs v) ↔ ∃ j, ∃ h : j < vs.length, k = (j : Int) ∧ vs[j].scope = v.scope ∧ vs[j].name = v.name := by
  have hn := validH_nil hv
  have g := validH_decl hv
  unfold LookOf
  rw [if_pos hv, idxsP_mem]
  constructor
  · rintro ⟨j, hj, rfl, h⟩
    have hd := g.declV _ (List.getElem_mem hj)
    have := full_inj hn hd.1 hd.2.1 h1 h2 (of_decide_eq_true h)
    exact ⟨j, hj, rfl, this⟩
  · rintro ⟨j, hj, rfl, e1, e2⟩
    refine ⟨j, hj, rfl, ?_⟩
    unfold atPath
    rw [FullOf_valid hn h1 h2, FullOf_valid hn (by rw [e1]; exact h1) (by rw [e1]; exact h2), e1, e2]
    simp
theorem LookOf_len (scs : List Sc) (vs : List Va) (p : List ByteArray) : (LookOf scs vs p).length ≤ vs.length := by
  unfold LookOf
  split
  · exact idxsF_len _ _ _
  · exact Nat.zero_le _
end Go.Proofs.Ytpfiofgchkfkhaa

/- Arguments of scopes and variables opened. -/
set_option linter.unusedVariables false
set_option linter.unusedSimpArgs false
namespace Go
open Go.ChangeShapes Go.WideShapes
theorem shape_lt {W : World} {b : Nat} {x : TypeId × Nat} (h : W.shape? b = some x) : b < W.heap.size := by
  rcases Nat.lt_or_ge b W.heap.size with h1 | h1
  · exact h1
  · unfold World.shape? at h
    rw [Array.getElem?_eq_none h1] at h
    simp at h
theorem okWide_slice_at {P : Program} {w : World} {r : Reach} {base : Nat} {t e : TypeId} {a : Option Addr} {len cap : Nat} (ht : P.underlying t = some (.slice e)) (h : Value.okWide P w r base t (.slice a len cap)) :
    (∀ x, a = some x → x.block < w.heap.size) ∧ (a = none → cap = 0 ∧ len = 0) := by
  simp only [Value.okWide, ht, Cell.okWide] at h
  cases a with
  | none =>
    refine ⟨fun x hx => (by cases hx), fun _ => ?_⟩
    cases len <;> cases cap <;> simp_all [Cell.ok]
  | some x =>
    refine ⟨fun y hy => ?_, fun h => (by cases h)⟩
    cases hy
    have h2 : w.has P r base x e cap := by
      have h3 := h
      simp only [Cell.ok, ht] at h3
      exact h3.2.2
    obtain ⟨_, _, row, cells, hs, _⟩ := h2
    exact shape_lt hs
end Go
namespace Go.Proofs.Ytpfiofgchkfkhaa
open Go.RowKit Go.Shelf Go.ChangeShapes Go.WideShapes Go.Deep
structure InScs (W : World) (A : Option Addr) (xs : List Sc) : Prop where
  s : ScS W A xs
  ok : ∀ x ∈ xs, ScOk x
  a : ∀ a, A = some a → a.block < W.heap.size
structure InVas (W : World) (A : Option Addr) (cap : Nat) (xs : List Va) : Prop where
  s : VaS W A xs
  ok : ∀ x ∈ xs, VaOk x
  a : ∀ a, A = some a → a.block < W.heap.size
  n : A = none → cap = 0 ∧ xs = []
section
variable {H : Type} {enc : TypeId × Value → H} {W : World}
set_option maxRecDepth 100000 in
theorem open_scs {fuel : Nat} {a0 : Option Addr} {len cap base : Nat} {spare : Nat → Bool} {held : Bool} {x : DataW H × List MemPlace} {r : Reach} {b2 : Nat} (h : DataW.trod enc Try.prog W base spare held fuel 22 [.slice a0 len cap] = some x)
    (hv : Value.okWide Try.prog W r b2 22 (.slice a0 len cap)) : ∃ ys : List Sc, ys.length = len ∧ len ≤ maxLen ∧ InScs W a0 ys := by
  obtain ⟨fs, hfs, h1, hC, h4, hty⟩ := fieldsSc
  obtain ⟨hlen, hel⟩ := flat_slice Try.underlying22 hfs h1 hC h (by omega)
  have hat0 := okWide_slice_at Try.underlying22 hv
  rcases Nat.eq_zero_or_pos len with h0 | h0
  · exact ⟨[], h0.symm, hlen, fun h => absurd h (by simp), fun x hx => (by cases hx), hat0.1⟩
  · obtain ⟨b, off, rfl, hat⟩ := hel h0
    rw [h4] at hat
    have ty : ∀ j, j < 3 → ∃ f, fs[j]? = some f ∧ f.type = #[9, 3, 3].getD j 0 := by
      intro j hj
      refine ⟨fs[j]'(by omega), Array.getElem?_eq_getElem _, ?_⟩
      rw [← hty]; simp [h4, hj]
    obtain ⟨l, hl, hP⟩ := list_of (n := len) (P := fun i (x : Sc) => (W.cell? ⟨b, off + i * 3, none⟩ = some (.string x.name) ∧ W.cell? ⟨b, off + i * 3 + 1, none⟩ = some (.int .i64 x.typ) ∧
        W.cell? ⟨b, off + i * 3 + 2, none⟩ = some (.int .i64 x.parent)) ∧ ScOk x) (fun i hi => by
      obtain ⟨f0, g0, e0⟩ := ty 0 (by omega)
      obtain ⟨f1, g1, e1⟩ := ty 1 (by omega)
      obtain ⟨f2, g2, e2⟩ := ty 2 (by omega)
      obtain ⟨v0, y0, n0, c0, t0⟩ := hat i hi 0 f0 g0
      obtain ⟨v1, y1, n1, c1, t1⟩ := hat i hi 1 f1 g1
      obtain ⟨v2, y2, n2, c2, t2⟩ := hat i hi 2 f2 g2
      rw [e0] at t0; rw [e1] at t1; rw [e2] at t2
      obtain ⟨s0, q0, _, w0⟩ := DataW.trod_string Try.underlying9 t0
      obtain ⟨s1, q1, _, w1⟩ := DataW.trod_int Try.underlying3 t1
      obtain ⟨s2, q2, _, w2⟩ := DataW.trod_int Try.underlying3 t2
      simp only [List.cons.injEq, and_true] at q0 q1 q2
      subst q0 q1 q2
      exact ⟨⟨s0, s1, s2⟩, ⟨c0, c1, c2⟩, ⟨i64_bounds w1, i64_bounds w2, w0⟩⟩)
    refine ⟨l, hl, hlen, fun _ => ⟨b, off, rfl, fun i hi j hj => ?_⟩, fun x hx => ?_, hat0.1⟩
    · obtain ⟨⟨c0, c1, c2⟩, _⟩ := hP i hi
      match j, hj with
      | 0, _ => exact c0
      | 1, _ => exact c1
      | 2, _ => exact c2
    · obtain ⟨i, hi, rfl⟩ := List.mem_iff_getElem.1 hx
      exact (hP i hi).2
set_option maxRecDepth 100000 in
theorem open_vas {fuel : Nat} {a0 : Option Addr} {len cap base : Nat} {spare : Nat → Bool} {held : Bool} {x : DataW H × List MemPlace} {r : Reach} {b2 : Nat} (h : DataW.trod enc Try.prog W base spare held fuel 23 [.slice a0 len cap] = some x)
    (hv : Value.okWide Try.prog W r b2 23 (.slice a0 len cap)) : ∃ ys : List Va, ys.length = len ∧ len ≤ maxLen ∧ InVas W a0 cap ys := by
  obtain ⟨fs, hfs, h1, hC, h4, hty⟩ := fieldsVa
  obtain ⟨hlen, hel⟩ := flat_slice Try.underlying23 hfs h1 hC h (by omega)
  have hat0 := okWide_slice_at Try.underlying23 hv
  rcases Nat.eq_zero_or_pos len with h0 | h0
  · exact ⟨[], h0.symm, hlen, fun h => absurd h (by simp), fun x hx => (by cases hx), hat0.1, fun e => ⟨(hat0.2 e).1, rfl⟩⟩
  · obtain ⟨b, off, rfl, hat⟩ := hel h0
    rw [h4] at hat
    have ty : ∀ j, j < 7 → ∃ f, fs[j]? = some f ∧ f.type = #[9, 3, 3, 3, 4, 3, 3].getD j 0 := by
      intro j hj
      refine ⟨fs[j]'(by omega), Array.getElem?_eq_getElem _, ?_⟩
      rw [← hty]; simp [h4, hj]
    obtain ⟨l, hl, hP⟩ := list_of (n := len) (P := fun i (x : Va) => (W.cell? ⟨b, off + i * 7, none⟩ = some (.string x.name) ∧ W.cell? ⟨b, off + i * 7 + 1, none⟩ = some (.int .i64 x.typ) ∧
        W.cell? ⟨b, off + i * 7 + 2, none⟩ = some (.int .i64 x.scope) ∧ W.cell? ⟨b, off + i * 7 + 3, none⟩ = some (.int .i64 x.signal) ∧ W.cell? ⟨b, off + i * 7 + 4, none⟩ = some (.bool x.ranged) ∧
        W.cell? ⟨b, off + i * 7 + 5, none⟩ = some (.int .i64 x.msb) ∧ W.cell? ⟨b, off + i * 7 + 6, none⟩ = some (.int .i64 x.lsb)) ∧ VaOk x) (fun i hi => by
      obtain ⟨f0, g0, e0⟩ := ty 0 (by omega)
      obtain ⟨f1, g1, e1⟩ := ty 1 (by omega)
      obtain ⟨f2, g2, e2⟩ := ty 2 (by omega)
      obtain ⟨f3, g3, e3⟩ := ty 3 (by omega)
      obtain ⟨f4, g4, e4⟩ := ty 4 (by omega)
      obtain ⟨f5, g5, e5⟩ := ty 5 (by omega)
      obtain ⟨f6, g6, e6⟩ := ty 6 (by omega)
      obtain ⟨v0, y0, n0, c0, t0⟩ := hat i hi 0 f0 g0
      obtain ⟨v1, y1, n1, c1, t1⟩ := hat i hi 1 f1 g1
      obtain ⟨v2, y2, n2, c2, t2⟩ := hat i hi 2 f2 g2
      obtain ⟨v3, y3, n3, c3, t3⟩ := hat i hi 3 f3 g3
      obtain ⟨v4, y4, n4, c4, t4⟩ := hat i hi 4 f4 g4
      obtain ⟨v5, y5, n5, c5, t5⟩ := hat i hi 5 f5 g5
      obtain ⟨v6, y6, n6, c6, t6⟩ := hat i hi 6 f6 g6
      rw [e0] at t0; rw [e1] at t1; rw [e2] at t2; rw [e3] at t3; rw [e4] at t4; rw [e5] at t5; rw [e6] at t6
      obtain ⟨s0, q0, _, w0⟩ := DataW.trod_string Try.underlying9 t0
      obtain ⟨s1, q1, _, w1⟩ := DataW.trod_int Try.underlying3 t1
      obtain ⟨s2, q2, _, w2⟩ := DataW.trod_int Try.underlying3 t2
      obtain ⟨s3, q3, _, w3⟩ := DataW.trod_int Try.underlying3 t3
      obtain ⟨s4, q4, _⟩ := DataW.trod_bool Try.underlying4 t4
      obtain ⟨s5, q5, _, w5⟩ := DataW.trod_int Try.underlying3 t5
      obtain ⟨s6, q6, _, w6⟩ := DataW.trod_int Try.underlying3 t6
      simp only [List.cons.injEq, and_true] at q0 q1 q2 q3 q4 q5 q6
      subst q0 q1 q2 q3 q4 q5 q6
      exact ⟨⟨s0, s1, s2, s3, s4, s5, s6⟩, ⟨c0, c1, c2, c3, c4, c5, c6⟩, ⟨i64_bounds w1, i64_bounds w2, i64_bounds w3, i64_bounds w5, i64_bounds w6, w0⟩⟩)
    refine ⟨l, hl, hlen, fun _ => ⟨b, off, rfl, fun i hi j hj => ?_⟩, fun x hx => ?_, hat0.1, fun e => by cases e⟩
    · obtain ⟨⟨c0, c1, c2, c3, c4, c5, c6⟩, _⟩ := hP i hi
      match j, hj with
      | 0, _ => exact c0
      | 1, _ => exact c1
      | 2, _ => exact c2
      | 3, _ => exact c3
      | 4, _ => exact c4
      | 5, _ => exact c5
      | 6, _ => exact c6
    · obtain ⟨i, hi, rfl⟩ := List.mem_iff_getElem.1 hx
      exact (hP i hi).2
end
theorem few_spec {scs : List Sc} {vs : List Va} (h : fewHB scs vs = true) : (∀ x ∈ scs, x.name.size ≤ 60) ∧ (∀ v ∈ vs, v.name.size ≤ 60) ∧ scs.length ≤ 40 ∧ vs.length ≤ 140 := by
  unfold fewHB at h
  rw [Bool.and_eq_true, Bool.and_eq_true, List.all_eq_true, List.all_eq_true, decide_eq_true_eq] at h
  exact ⟨fun x hx => of_decide_eq_true (h.1.1 x hx), fun v hv => of_decide_eq_true (h.1.2 v hv), h.2⟩
theorem in_few {W : World} {A A' : Option Addr} {cap' : Nat} {scs : List Sc} {vs : List Va} (hs : InScs W A scs) (hv : InVas W A' cap' vs) (h : fewHB scs vs = true) : InH W scs vs A A' cap' := by
  obtain ⟨h1, h2, h3, h4⟩ := few_spec h
  exact ⟨hs.s, hv.s, by omega, by omega, hs.ok, hv.ok, fun x hx => Nat.le_trans (h1 x hx) (by decide), fun v hv => Nat.le_trans (h2 v hv) (by decide), hs.a, hv.n⟩
end Go.Proofs.Ytpfiofgchkfkhaa
