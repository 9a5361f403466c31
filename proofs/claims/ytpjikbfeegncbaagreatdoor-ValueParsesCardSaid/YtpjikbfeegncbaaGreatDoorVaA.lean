/- Contracts of package logic and of bitvector, of both implementations: characters, validity. -/
import Derived.Test.YtpjikbfeegncbaaGreatDoorVaQ
import Derived.Test.YtpjikbfeegncbaaGreatDoorQuF
import Derived.Deep.DeepCutAuto
import Derived.Laws.Rows
set_option linter.unusedVariables false
set_option linter.unusedSimpArgs false
namespace Go.Proofs.YtpjikbfeegncbaaGreatDoor
open Go.RowKit Go.Shelf Go.Sort

theorem u8i (a b : UInt8) : ((a.toNat : Int) = (b.toNat : Int)) ↔ a = b := ⟨fun h => UInt8.toNat_inj.1 (by omega), fun h => by rw [h]⟩
/-- the code of a character -/
def codeB (c : UInt8) : Int := if c = 48 then 0 else if c = 49 then 1 else if c = 120 then 2 else if c = 122 then 3 else -1
theorem codeB_cases (c : UInt8) : (c = 48 ∧ codeB c = 0) ∨ (c = 49 ∧ codeB c = 1) ∨ (c = 120 ∧ codeB c = 2) ∨ (c = 122 ∧ codeB c = 3) ∨ ((c ≠ 48 ∧ c ≠ 49 ∧ c ≠ 120 ∧ c ≠ 122) ∧ codeB c = -1) := by
  unfold codeB
  by_cases h1 : c = 48
  · left; exact ⟨h1, if_pos h1⟩
  · by_cases h2 : c = 49
    · right; left; exact ⟨h2, by rw [if_neg h1, if_pos h2]⟩
    · by_cases h3 : c = 120
      · right; right; left; exact ⟨h3, by rw [if_neg h1, if_neg h2, if_pos h3]⟩
      · by_cases h4 : c = 122
        · right; right; right; left; exact ⟨h4, by rw [if_neg h1, if_neg h2, if_neg h3, if_pos h4]⟩
        · right; right; right; right; exact ⟨⟨h1, h2, h3, h4⟩, by rw [if_neg h1, if_neg h2, if_neg h3, if_neg h4]⟩
theorem codeB_ch (c : UInt8) : decide (0 ≤ codeB c) = chB c := by
  rcases codeB_cases c with ⟨rfl, h⟩ | ⟨rfl, h⟩ | ⟨rfl, h⟩ | ⟨rfl, h⟩ | ⟨⟨h1, h2, h3, h4⟩, h⟩
  · rw [h]; rfl
  · rw [h]; rfl
  · rw [h]; rfl
  · rw [h]; rfl
  · rw [h]
    symm
    unfold chB
    simp [h1, h2, h3, h4]
set_option maxHeartbeats 4000000 in
theorem Code_any (c : UInt8) (w : World) :
    Calls Tryz.prog 125 #[.int .u8 (c.toNat : Int)] w fun e w' => e = .returned (.int .i64 (codeB c)) ∧ w' = w := by
  have hcc := codeB_cases c
  generalize codeB c = r at hcc ⊢
  have e0 : ((48 : Int) = (c.toNat : Int)) ↔ c = 48 := ⟨fun h => ((u8i c 48).1 h.symm), fun h => by rw [h]; rfl⟩
  have e1 : ((49 : Int) = (c.toNat : Int)) ↔ c = 49 := ⟨fun h => ((u8i c 49).1 h.symm), fun h => by rw [h]; rfl⟩
  have e2 : ((120 : Int) = (c.toNat : Int)) ↔ c = 120 := ⟨fun h => ((u8i c 120).1 h.symm), fun h => by rw [h]; rfl⟩
  have e3 : ((122 : Int) = (c.toNat : Int)) ↔ c = 122 := ⟨fun h => ((u8i c 122).1 h.symm), fun h => by rw [h]; rfl⟩
  have HC := hide hcc
  have E0 := hide e0
  have E1 := hide e1
  have E2 := hide e2
  have E3 := hide e3
  clear hcc e0 e1 e2 e3
  generalize (c.toNat : Int) = n at *
  go_enter Tryz.func125, Tryz.ntmps125
  go_wp2
  go_loop [4] (fun v => ∃ i : Nat, v = .int .i64 i ∧ i ≤ 4 ∧ (0 < i → ¬ (48 : Int) = n) ∧ (1 < i → ¬ (49 : Int) = n) ∧ (2 < i → ¬ (120 : Int) = n) ∧ (3 < i → ¬ (122 : Int) = n)) (fun v => 4 - (intOf v).toNat)
  case atStart => exact ⟨0, rfl, by omega, by omega, by omega, by omega, by omega⟩
  case round =>
    obtain ⟨i, rfl, hi, h0, h1, h2, h3⟩ := hrel
    have hi5 : i = 0 ∨ i = 1 ∨ i = 2 ∨ i = 3 ∨ i = 4 := by omega
    rcases hi5 with rfl | rfl | rfl | rfl | rfl
    · by_cases h : (48 : Int) = n
      · have hr : r = 0 := by
          rcases HC.out with ⟨a, b⟩ | ⟨a, b⟩ | ⟨a, b⟩ | ⟨a, b⟩ | ⟨⟨a0, a1, a2, a3⟩, b⟩
          all_goals first | exact b | (rw [E0.out] at h; rw [h] at a; exact absurd a (by decide)) | (rw [E0.out] at h; exact absurd h a0)
        subst h hr
        have h' : ((((⟨#[48, 49, 120, 122]⟩ : ByteArray)[0]'(by decide)).toNat : Int) == 48) = true := rfl
        clear h0 h1 h2 h3 hi
        go_wp2
        go_ret
        exact ⟨rfl, rfl⟩
      · have h' : ((((⟨#[48, 49, 120, 122]⟩ : ByteArray)[0]'(by decide)).toNat : Int) == n) = false := beq_eq_false_iff_ne.2 h
        go_wp2
        go_round
        case rel => exact ⟨1, by go_num, by omega, fun _ => h, fun h => absurd h (by omega), fun h => absurd h (by omega), fun h => absurd h (by omega)⟩
        case measure => simp [intOf]
    · by_cases h : (49 : Int) = n
      · have hr : r = 1 := by
          rcases HC.out with ⟨a, b⟩ | ⟨a, b⟩ | ⟨a, b⟩ | ⟨a, b⟩ | ⟨⟨a0, a1, a2, a3⟩, b⟩
          all_goals first | exact b | (rw [E1.out] at h; rw [h] at a; exact absurd a (by decide)) | (rw [E1.out] at h; exact absurd h a1)
        subst h hr
        have h' : ((((⟨#[48, 49, 120, 122]⟩ : ByteArray)[1]'(by decide)).toNat : Int) == 49) = true := rfl
        clear h0 h1 h2 h3 hi
        go_wp2
        go_ret
        exact ⟨rfl, rfl⟩
      · have h' : ((((⟨#[48, 49, 120, 122]⟩ : ByteArray)[1]'(by decide)).toNat : Int) == n) = false := beq_eq_false_iff_ne.2 h
        go_wp2
        go_round
        case rel => exact ⟨2, by go_num, by omega, fun _ => h0 (by omega), fun _ => h, fun h => absurd h (by omega), fun h => absurd h (by omega)⟩
        case measure => simp [intOf]
    · by_cases h : (120 : Int) = n
      · have hr : r = 2 := by
          rcases HC.out with ⟨a, b⟩ | ⟨a, b⟩ | ⟨a, b⟩ | ⟨a, b⟩ | ⟨⟨a0, a1, a2, a3⟩, b⟩
          all_goals first | exact b | (rw [E2.out] at h; rw [h] at a; exact absurd a (by decide)) | (rw [E2.out] at h; exact absurd h a2)
        subst h hr
        have h' : ((((⟨#[48, 49, 120, 122]⟩ : ByteArray)[2]'(by decide)).toNat : Int) == 120) = true := rfl
        clear h0 h1 h2 h3 hi
        go_wp2
        go_ret
        exact ⟨rfl, rfl⟩
      · have h' : ((((⟨#[48, 49, 120, 122]⟩ : ByteArray)[2]'(by decide)).toNat : Int) == n) = false := beq_eq_false_iff_ne.2 h
        go_wp2
        go_round
        case rel => exact ⟨3, by go_num, by omega, fun _ => h0 (by omega), fun _ => h1 (by omega), fun _ => h, fun h => absurd h (by omega)⟩
        case measure => simp [intOf]
    · by_cases h : (122 : Int) = n
      · have hr : r = 3 := by
          rcases HC.out with ⟨a, b⟩ | ⟨a, b⟩ | ⟨a, b⟩ | ⟨a, b⟩ | ⟨⟨a0, a1, a2, a3⟩, b⟩
          all_goals first | exact b | (rw [E3.out] at h; rw [h] at a; exact absurd a (by decide)) | (rw [E3.out] at h; exact absurd h a3)
        subst h hr
        have h' : ((((⟨#[48, 49, 120, 122]⟩ : ByteArray)[3]'(by decide)).toNat : Int) == 122) = true := rfl
        clear h0 h1 h2 h3 hi
        go_wp2
        go_ret
        exact ⟨rfl, rfl⟩
      · have h' : ((((⟨#[48, 49, 120, 122]⟩ : ByteArray)[3]'(by decide)).toNat : Int) == n) = false := beq_eq_false_iff_ne.2 h
        go_wp2
        go_round
        case rel => exact ⟨4, by go_num, by omega, fun _ => h0 (by omega), fun _ => h1 (by omega), fun _ => h2 (by omega), fun _ => h⟩
        case measure => simp [intOf]
    · have hr : r = -1 := by
        rcases HC.out with ⟨a, b⟩ | ⟨a, b⟩ | ⟨a, b⟩ | ⟨a, b⟩ | ⟨_, b⟩
        · exact absurd (E0.out.2 a) (h0 (by omega))
        · exact absurd (E1.out.2 a) (h1 (by omega))
        · exact absurd (E2.out.2 a) (h2 (by omega))
        · exact absurd (E3.out.2 a) (h3 (by omega))
        · exact b
      subst hr
      clear h0 h1 h2 h3 hi
      go_wp2
      go_ret
      exact ⟨rfl, rfl⟩
theorem logicValid_any (c : UInt8) (w : World) :
    Calls Tryz.prog 107 #[.int .u8 (c.toNat : Int)] w fun e w' => e = .returned (.bool (chB c)) ∧ w' = w := by
  have C := hide (fun W : World => Code_any c W)
  rw [← codeB_ch c]
  generalize codeB c = r at C ⊢
  generalize (c.toNat : Int) = n at *
  go_enter Tryz.func107, Tryz.ntmps107
  go_wp2_with fail
  refine (C.out _).mono ?_
  rintro e wx ⟨rfl, rfl⟩
  go_wp2
  go_ret
  exact ⟨rfl, rfl⟩
/-- how often each character occurs -/
def cnt4 (l : List UInt8) : Array Value := #[.int .i64 (l.count 48 : Nat), .int .i64 (l.count 49 : Nat), .int .i64 (l.count 120 : Nat), .int .i64 (l.count 122 : Nat)]
def sum4 (l : List UInt8) : Nat := l.count 48 + l.count 49 + l.count 120 + l.count 122
theorem sum4_le (l : List UInt8) : sum4 l ≤ l.length ∧ (sum4 l = l.length ↔ l.all chB = true) := by
  induction l with
  | nil => exact ⟨Nat.le_refl _, by simp [sum4]⟩
  | cons a t ih =>
    obtain ⟨h1, h2⟩ := ih
    have e : sum4 (a :: t) = sum4 t + (if chB a then 1 else 0) := by
      unfold sum4
      simp only [List.count_cons]
      rcases codeB_cases a with ⟨rfl, _⟩ | ⟨rfl, _⟩ | ⟨rfl, _⟩ | ⟨rfl, _⟩ | ⟨⟨n1, n2, n3, n4⟩, _⟩
      · simp [chB]; omega
      · simp [chB]; omega
      · simp [chB]; omega
      · simp [chB]; omega
      · simp [chB, n1, n2, n3, n4]
    rw [e, List.all_cons, List.length_cons]
    cases hc : chB a with
    | true =>
      rw [if_pos rfl, Bool.true_and]
      exact ⟨by omega, ⟨fun h => h2.1 (by omega), fun h => by have := h2.2 h; omega⟩⟩
    | false =>
      rw [if_neg Bool.false_ne_true, Bool.false_and]
      exact ⟨by omega, ⟨fun h => by omega, fun h => by cases h⟩⟩
theorem cnt4_snoc (l : List UInt8) (c : UInt8) (k : Nat) (h : codeB c = k) : ∃ m : Nat, m ≤ l.length ∧ (cnt4 l)[k]? = some (.int .i64 (m : Nat)) ∧ (cnt4 l).setIfInBounds k (.int .i64 ((m : Int) + 1)) = cnt4 (l ++ [c]) := by
  have hk : ∀ x : UInt8, l.count x ≤ l.length := fun x => List.count_le_length
  rcases codeB_cases c with ⟨rfl, h'⟩ | ⟨rfl, h'⟩ | ⟨rfl, h'⟩ | ⟨rfl, h'⟩ | ⟨_, h'⟩
  · obtain rfl : k = 0 := by omega
    exact ⟨l.count 48, hk _, rfl, by simp [cnt4, List.count_append, List.count_cons]⟩
  · obtain rfl : k = 1 := by omega
    exact ⟨l.count 49, hk _, rfl, by simp [cnt4, List.count_append, List.count_cons]⟩
  · obtain rfl : k = 2 := by omega
    exact ⟨l.count 120, hk _, rfl, by simp [cnt4, List.count_append, List.count_cons]⟩
  · obtain rfl : k = 3 := by omega
    exact ⟨l.count 122, hk _, rfl, by simp [cnt4, List.count_append, List.count_cons]⟩
  · omega
theorem cnt4_skip (l : List UInt8) (c : UInt8) (h : codeB c = -1) : cnt4 (l ++ [c]) = cnt4 l := by
  rcases codeB_cases c with ⟨rfl, h'⟩ | ⟨rfl, h'⟩ | ⟨rfl, h'⟩ | ⟨rfl, h'⟩ | ⟨⟨n1, n2, n3, n4⟩, h'⟩
  · omega
  · omega
  · omega
  · omega
  · simp [cnt4, List.count_append, List.count_cons, n1, n2, n3, n4]
set_option maxRecDepth 20000 in
set_option maxHeartbeats 4000000 in
theorem Count_any (s : ByteArray) (w : World) (hz : s.size ≤ 1000000) :
    Calls Tryz.prog 124 #[.string s] w fun e w' => e = .returned (.agg (cnt4 s.data.toList)) ∧ Below w.heap.size w w' := by
  go_enter Tryz.func124, Tryz.ntmps124
  go_wp2
  go_loopw [8] (fun v wr => ∃ i : Nat, v = .int .i64 i ∧ i ≤ s.size ∧ Row wr w.heap.size 122 #[.int .i64 0, .int .i64 0, .int .i64 0, .int .i64 0] ∧ Row wr (w.heap.size + 1) 122 (cnt4 (s.data.toList.take i)) ∧ Below w.heap.size w wr) (fun v _ => s.size - (intOf v).toNat)
  case atStart =>
    refine ⟨0, rfl, Nat.zero_le _, (Row.new _ _ _).alloc _, ?_, ((Below.refl _ _).alloc (Nat.le_refl _) _).alloc (by rw [World.size_alloc]; omega) _⟩
    have h := Row.new (w.alloc (.cells #[.int .i64 0, .int .i64 0, .int .i64 0, .int .i64 0] 122)) 122 #[.int .i64 0, .int .i64 0, .int .i64 0, .int .i64 0]
    rw [World.size_alloc] at h
    exact h
  case round =>
    obtain ⟨i, rfl, hi, hr0, hr1, hb⟩ := hrel
    have H0 := hide hr0
    have H1 := hide hr1
    have Hb := hide hb
    have hl : s.data.toList.length = s.size := (Lib.size_eq s).symm
    clear hr0 hr1 hb
    by_cases hlt : i < s.size
    · have hg : s.data.toList[i]? = some (s[i]'hlt) := Lib.data_getElem? s i hlt
      have htk : s.data.toList.take (i + 1) = s.data.toList.take i ++ [s[i]'hlt] := by
        rw [List.take_add_one, hg]; rfl
      obtain ⟨c, hc⟩ : ∃ c, s[i]'hlt = c := ⟨_, rfl⟩
      have Hc := hide hc
      rw [hc] at htk
      have Htk := hide htk
      clear hg htk hc
      have C := hide (fun W : World => Code_any c W)
      rcases Int.lt_or_le (codeB c) 0 with hneg | hpos
      · have hm1 : codeB c = -1 := by
          rcases codeB_cases c with ⟨_, h⟩ | ⟨_, h⟩ | ⟨_, h⟩ | ⟨_, h⟩ | ⟨_, h⟩ <;> omega
        have hsk := cnt4_skip (s.data.toList.take i) c hm1
        rw [← Htk.out] at hsk
        have Hsk := hide hsk
        rw [hm1] at C
        clear hsk hneg hm1
        go_wp2_with fail
        rw [Hc.out]
        refine (C.out _).mono ?_
        rintro e wx ⟨rfl, rfl⟩
        go_wp2
        go_roundw
        case rel => exact ⟨i + 1, by go_num, by omega, H0.out, by rw [Hsk.out]; exact H1.out, Hb.out⟩
        case measure => simp [intOf]; omega
      · obtain ⟨k, hk⟩ : ∃ k : Nat, codeB c = k := ⟨(codeB c).toNat, by omega⟩
        obtain ⟨m, hm1, hm2, hm3⟩ := cnt4_snoc (s.data.toList.take i) c k hk
        rw [← Htk.out] at hm3
        have hml : m ≤ 1000000 := by rw [List.length_take] at hm1; omega
        have hk4 : k < 4 := by
          rcases codeB_cases c with ⟨_, h⟩ | ⟨_, h⟩ | ⟨_, h⟩ | ⟨_, h⟩ | ⟨_, h⟩ <;> omega
        have hcell : wr.cell? ⟨w.heap.size + 1, k, none⟩ = some (.int .i64 (m : Nat)) := by rw [H1.out.cell k, hm2]
        have hfz : wr.frozen? ⟨w.heap.size + 1, k, none⟩ = false := H1.out.frozen k
        have Hm3 := hide hm3
        rw [hk] at C
        clear hm1 hm2 hm3 hk hpos
        go_wp2_with fail
        rw [Hc.out]
        refine (C.out _).mono ?_
        rintro e wx ⟨rfl, rfl⟩
        go_wp2
        go_roundw
        case rel => exact ⟨i + 1, by go_num, by omega, H0.out.off (by omega) _ _, by rw [← Hm3.out]; exact H1.out.set_ k _, Hb.out.setCell (p := ⟨w.heap.size + 1, k, none⟩) (Nat.le_succ _) _⟩
        case measure => simp [intOf]; omega
    · obtain rfl : i = s.size := by omega
      have ht : s.data.toList.take s.size = s.data.toList := by rw [← hl, List.take_length]
      rw [ht] at H1
      have c0 : wr.cell? ⟨w.heap.size + 1, 0, none⟩ = some (.int .i64 (s.data.toList.count 48 : Nat)) := H1.out.cell 0
      have c1 : wr.cell? ⟨w.heap.size + 1, 1, none⟩ = some (.int .i64 (s.data.toList.count 49 : Nat)) := H1.out.cell 1
      have c2 : wr.cell? ⟨w.heap.size + 1, 2, none⟩ = some (.int .i64 (s.data.toList.count 120 : Nat)) := H1.out.cell 2
      have c3 : wr.cell? ⟨w.heap.size + 1, 3, none⟩ = some (.int .i64 (s.data.toList.count 122 : Nat)) := H1.out.cell 3
      have d0 : wr.cell? ⟨w.heap.size, 0, none⟩ = some (.int .i64 0) := H0.out.cell 0
      have d1 : wr.cell? ⟨w.heap.size, 1, none⟩ = some (.int .i64 0) := H0.out.cell 1
      have d2 : wr.cell? ⟨w.heap.size, 2, none⟩ = some (.int .i64 0) := H0.out.cell 2
      have d3 : wr.cell? ⟨w.heap.size, 3, none⟩ = some (.int .i64 0) := H0.out.cell 3
      have f0 : wr.frozen? ⟨w.heap.size, 0, none⟩ = false := H0.out.frozen 0
      have f1 : wr.frozen? ⟨w.heap.size, 1, none⟩ = false := H0.out.frozen 1
      have f2 : wr.frozen? ⟨w.heap.size, 2, none⟩ = false := H0.out.frozen 2
      have f3 : wr.frozen? ⟨w.heap.size, 3, none⟩ = false := H0.out.frozen 3
      obtain ⟨n0, q0⟩ : ∃ n, s.data.toList.count 48 = n := ⟨_, rfl⟩
      obtain ⟨n1, q1⟩ : ∃ n, s.data.toList.count 49 = n := ⟨_, rfl⟩
      obtain ⟨n2, q2⟩ : ∃ n, s.data.toList.count 120 = n := ⟨_, rfl⟩
      obtain ⟨n3, q3⟩ : ∃ n, s.data.toList.count 122 = n := ⟨_, rfl⟩
      have hcnt : cnt4 s.data.toList = #[.int .i64 (n0 : Nat), .int .i64 (n1 : Nat), .int .i64 (n2 : Nat), .int .i64 (n3 : Nat)] := by unfold cnt4; rw [q0, q1, q2, q3]
      rw [q0] at c0
      rw [q1] at c1
      rw [q2] at c2
      rw [q3] at c3
      have hrow : Row ((((wr.setCell ⟨w.heap.size, 0, none⟩ (.int .i64 (n0 : Nat))).setCell ⟨w.heap.size, 1, none⟩ (.int .i64 (n1 : Nat))).setCell ⟨w.heap.size, 2, none⟩ (.int .i64 (n2 : Nat))).setCell ⟨w.heap.size, 3, none⟩ (.int .i64 (n3 : Nat))) w.heap.size 122 #[.int .i64 (n0 : Nat), .int .i64 (n1 : Nat), .int .i64 (n2 : Nat), .int .i64 (n3 : Nat)] := (((H0.out.set_ 0 (.int .i64 (n0 : Nat))).set_ 1 (.int .i64 (n1 : Nat))).set_ 2 (.int .i64 (n2 : Nat))).set_ 3 (.int .i64 (n3 : Nat))
      have Hrow := hide hrow
      have Hcnt := hide hcnt
      clear hrow hcnt q0 q1 q2 q3
      go_wp2
      refine bodyPost_ret (v := .agg #[.int .i64 (n0 : Nat), .int .i64 (n1 : Nat), .int .i64 (n2 : Nat), .int .i64 (n3 : Nat)]) (results_cell_row rfl _ _ w.heap.size 122 _ _ _ rfl Hrow.out Tryz.underlying122 rfl (by kernel_rfl)) rfl ⟨?_, (((Hb.out.setCell (p := ⟨w.heap.size, 0, none⟩) (Nat.le_refl _) _).setCell (p := ⟨w.heap.size, 1, none⟩) (Nat.le_refl _) _).setCell (p := ⟨w.heap.size, 2, none⟩) (Nat.le_refl _) _).setCell (p := ⟨w.heap.size, 3, none⟩) (Nat.le_refl _) _⟩
      rw [Hcnt.out]
/-- is: whether a string is a value of some width -/
theorem isV_parts (s : ByteArray) : isV s.data.toList = (decide (1 ≤ s.size ∧ s.size ≤ 128) && decide (sum4 s.data.toList = s.size)) := by
  have hl : s.data.toList.length = s.size := (Lib.size_eq s).symm
  unfold isV
  rw [hl]
  congr 1
  rw [Bool.eq_iff_iff, decide_eq_true_eq, ← (sum4_le s.data.toList).2, hl]
set_option maxRecDepth 20000 in
set_option maxHeartbeats 4000000 in
theorem bvIs_any (s : ByteArray) (w : World) (hz : s.size ≤ 1000000) :
    Calls Tryz.prog 106 #[.string s] w fun e w' => e = .returned (.bool (isV s.data.toList)) ∧ Below w.heap.size w w' := by
  have C := hide (fun W : World => Count_any s W hz)
  have hp := isV_parts s
  have hsl := (sum4_le s.data.toList).1
  have hl : s.data.toList.length = s.size := (Lib.size_eq s).symm
  rw [hl] at hsl
  unfold sum4 at hp hsl
  unfold cnt4 at C
  generalize s.data.toList.count 48 = n0 at *
  generalize s.data.toList.count 49 = n1 at *
  generalize s.data.toList.count 120 = n2 at *
  generalize s.data.toList.count 122 = n3 at *
  generalize isV s.data.toList = R at *
  by_cases h0 : 0 < s.size
  · have he : s.toList.isEmpty = false := by
      cases hh : s.toList with
      | nil => rw [Lib.toList_data] at hh; rw [hh] at hl; simp at hl; omega
      | cons a t => rfl
    have hn : ¬ s.toList = [] := fun e => by rw [e] at he; cases he
    by_cases h128 : s.size ≤ 128
    · have h1 : (s.size : Int) ≤ 128 := by omega
      have hR : R = (((n0 : Int) + n1 + n2 + n3) == (s.size : Int)) := by
        rw [hp, decide_eq_true (show 1 ≤ s.size ∧ s.size ≤ 128 from ⟨h0, h128⟩), Bool.true_and, Bool.eq_iff_iff, decide_eq_true_eq, beq_iff_eq]
        constructor <;> intro h <;> omega
      have HR := hide hR
      have b0 : (n0 : Int) ≤ 128 := by omega
      have b1 : (n0 : Int) + n1 ≤ 128 := by omega
      have b2 : (n0 : Int) + n1 + n2 ≤ 128 := by omega
      have b3 : (n0 : Int) + n1 + n2 + n3 ≤ 128 := by omega
      clear hp hR h0 h128 hl hsl
      go_enter Tryz.func106, Tryz.ntmps106
      go_wp2_with fail
      refine (C.out _).mono ?_
      rintro e wx ⟨rfl, hb⟩
      have Hb := hide hb
      clear hb
      go_wp2
      go_ret
      exact ⟨ret_b HR.out, Hb.out.alloc Hb.out.size _⟩
    · have h1 : (128 : Int) < (s.size : Int) := by omega
      have hR : R = false := by
        rw [hp, decide_eq_false (show ¬ (1 ≤ s.size ∧ s.size ≤ 128) from fun h => h128 h.2), Bool.false_and]
      subst hR
      clear hp h0 h128 hl hsl
      go_enter Tryz.func106, Tryz.ntmps106
      go_wp2
      go_ret
      exact ⟨rfl, Below.refl _ _⟩
  · have hR : R = false := by
      rw [hp, decide_eq_false (show ¬ (1 ≤ s.size ∧ s.size ≤ 128) from fun h => h0 h.1), Bool.false_and]
    have hs0 : s = ⟨#[]⟩ := ByteArray.ext (Array.eq_empty_of_size_eq_zero (by show s.size = 0; omega))
    subst hR
    have he : s.toList.isEmpty = true := by rw [hs0, Lib.toList_data]; rfl
    have hn : s.toList = [] := by rw [hs0, Lib.toList_data]
    clear hp h0 hl hsl hs0
    go_enter Tryz.func106, Tryz.ntmps106
    go_wp2
    go_ret
    exact ⟨rfl, Below.refl _ _⟩
theorem bvValid_any (n : Int) (s : ByteArray) (w : World) (hz : s.size ≤ 1000000) :
    Calls Tryz.prog 78 #[.int .i64 n, .string s] w fun e w' => e = .returned (.bool (valV n s.data.toList)) ∧ Below w.heap.size w w' := by
  have C := hide (fun W : World => bvIs_any s W hz)
  have hl : s.data.toList.length = s.size := (Lib.size_eq s).symm
  have hv : valV n s.data.toList = (isV s.data.toList && ((s.size : Int) == n)) := by
    unfold valV; rw [hl]
    congr 1
  rw [hv]
  generalize isV s.data.toList = R at *
  clear hl hv
  cases R with
  | false =>
    go_enter Tryz.func78, Tryz.ntmps78
    go_wp2_with fail
    refine (C.out _).mono ?_
    rintro e wx ⟨rfl, hb⟩
    have Hb := hide hb
    clear hb
    go_wp2
    go_ret
    exact ⟨rfl, Hb.out⟩
  | true =>
    go_enter Tryz.func78, Tryz.ntmps78
    go_wp2_with fail
    refine (C.out _).mono ?_
    rintro e wx ⟨rfl, hb⟩
    have Hb := hide hb
    clear hb
    go_wp2
    go_ret
    exact ⟨rfl, Hb.out⟩
end Go.Proofs.YtpjikbfeegncbaaGreatDoor
