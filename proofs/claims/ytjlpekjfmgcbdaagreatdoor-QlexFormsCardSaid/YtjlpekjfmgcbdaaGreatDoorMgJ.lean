/- MgJ: the texts QrK QrL QrM QrN QrO QrP in one. -/
import Derived.Test.YtjlpekjfmgcbdaaGreatDoorMgI
import Derived.Test.YtjlpekjfmgcbdaaGreatDoorMgD
/- Contract of the reference's constant at the base d and where it has no form. -/
set_option linter.unusedVariables false
set_option linter.unusedSimpArgs false
namespace Go.Proofs.YtjlpekjfmgcbdaaGreatDoor
open Go.RowKit Go.Shelf
/-- the constant of base d behind the quotation mark at a -/
def conD (l : List UInt8) (a : Nat) : Nat × UInt8 × List UInt8 :=
  if lowR ((l.drop (a + 2)).headD 0) = 120 ∨ lowR ((l.drop (a + 2)).headD 0) = 122 then (a + 3, 100, (l.drop (a + 2)).take 1)
  else if spn dgQ (l.drop (a + 2)) = 0 then (0, 0, []) else (a + 2 + spn dgQ (l.drop (a + 2)), 100, (l.drop (a + 2)).take (spn dgQ (l.drop (a + 2))))
theorem headD_dropQ {l : List UInt8} {a : Nat} (h : a < l.length) : (l.drop a).headD 0 = l[a] := by
  rw [List.drop_eq_getElem_cons h]; rfl
theorem headD_dropQ_nil {l : List UInt8} {a : Nat} (h : l.length ≤ a) : (l.drop a).headD 0 = 0 := by
  rw [List.drop_eq_nil_of_le h]; rfl
theorem refConst_short (l : List UInt8) (a : Nat) (w : World) (hl : l.length ≤ 50000) (ha2 : a ≤ 50000) (ha : l.length ≤ a + 1) :
    Calls Tryz.prog 41 #[.string (bsQ l), .int .i64 (a : Int)] w fun e w' => e = .returned (.tuple #[.int .i64 0, .int .u8 0, .string (bsQ [])]) ∧ Below w.heap.size w w' := by
  have hz := bsQ_size l
  generalize bsQ l = s at *
  have q1 : (s.size : Int) ≤ (a : Int) + 1 := by omega
  have w1 : IntKind.i64.wrap ((a : Int) + 1) = (a : Int) + 1 := IntWalk.i64_in _ (by omega)
  clear hz
  go_enter Tryz.func41, Tryz.ntmps41
  go_wp2
  refine bodyPost_ret (v := .tuple #[.int .i64 0, .int .u8 0, .string ⟨#[]⟩]) (by simp [results, Tryz.results41, go_sem]) rfl ?_
  exact ⟨rfl, Below.refl _ _⟩
set_option maxRecDepth 20000 in
set_option maxHeartbeats 8000000 in
theorem refConst_none (l : List UInt8) (a : Nat) (c : UInt8) (w : World) (hl : l.length ≤ 50000) (ha : a + 1 < l.length) (hc : l[a + 1] = c) (h1 : lowR c ≠ 98) (h2 : lowR c ≠ 111) (h3 : lowR c ≠ 104) (h4 : lowR c ≠ 100) :
    Calls Tryz.prog 41 #[.string (bsQ l), .int .i64 (a : Int)] w fun e w' => e = .returned (.tuple #[.int .i64 0, .int .u8 0, .string (bsQ [])]) ∧ Below w.heap.size w w' := by
  have hz := bsQ_size l
  have L := hide (refLowerQ_any c)
  have hs1 : a + 1 < (bsQ l).size := by omega
  have hsc : (bsQ l)[a + 1]'hs1 = c := (bsQ_get l (a + 1) hs1).trans hc
  generalize bsQ l = s at *
  generalize lowR c = y at *
  have n1 : ((y.toNat : Int) == 98) = false := toNat_neQ (d := 98) h1
  have n2 : ((y.toNat : Int) == 111) = false := toNat_neQ (d := 111) h2
  have n3 : ((y.toNat : Int) == 104) = false := toNat_neQ (d := 104) h3
  have n4 : ((y.toNat : Int) == 100) = false := toNat_neQ (d := 100) h4
  have q1 : ¬ (s.size : Int) ≤ (a : Int) + 1 := by omega
  have q2 : (a : Int) + 1 < (s.size : Int) := by omega
  have q0 : (0 : Int) ≤ (a : Int) + 1 := by omega
  have q3 : ((a : Int) + 1).toNat = a + 1 := by omega
  have w1 : IntKind.i64.wrap ((a : Int) + 1) = (a : Int) + 1 := IntWalk.i64_in _ (by omega)
  have w2 : IntKind.i64.wrap ((a : Int) + 2) = (a : Int) + 2 := IntWalk.i64_in _ (by omega)
  clear hz hc h1 h2 h3 h4
  go_enter Tryz.func41, Tryz.ntmps41
  go_wp2_with fail
  refine (L.out _).mono ?_
  rintro e wz ⟨rfl, rfl⟩
  go_wp2_with fail
  go_loop [10] (fun v => v = .int .i64 ((a : Int) + 2)) (fun v => 0)
  case atStart => go_num
  case round =>
    subst hrel
    go_wp2
    refine bodyPost_ret (v := .tuple #[.int .i64 0, .int .u8 0, .string ⟨#[]⟩]) (by simp [results, Tryz.results41, go_sem]) rfl ?_
    exact ⟨rfl, Below.refl _ _⟩
set_option maxRecDepth 20000 in
set_option maxHeartbeats 1000000 in
theorem refConst_100 (l : List UInt8) (a : Nat) (c : UInt8) (w : World) (hl : l.length ≤ 50000) (ha : a + 1 < l.length) (hc : l[a + 1] = c) (hv : lowR c = 100) :
    Calls Tryz.prog 41 #[.string (bsQ l), .int .i64 (a : Int)] w fun e w' => e = .returned (.tuple #[.int .i64 ((conD l a).1 : Int), .int .u8 ((conD l a).2.1.toNat : Int), .string (bsQ (conD l a).2.2)]) ∧ Below w.heap.size w w' := by
  have hz := bsQ_size l
  have hg : ∀ (i : Nat) (h : i < (bsQ l).size) (h2 : i < l.length), (bsQ l)[i]'h = l[i] := fun i h h2 => bsQ_get l i h
  have L0 := hide (refLowerQ_any c)
  rw [hv] at L0
  have L := hide (fun W : World => show Calls Tryz.prog 44 #[.int .u8 (c.toNat : Int)] W fun e w' => e = .returned (.int .u8 100) ∧ w' = W from L0.out W)
  have LO := hide refLowerQ_any
  have DG := hide (fun W : World => refDigitsQ_any l (a + 2) W (by omega) (by omega))
  have hs1 : a + 1 < (bsQ l).size := by omega
  have hsc : (bsQ l)[a + 1]'hs1 = c := by rw [hg (a + 1) hs1 ha, hc]
  have HX := hide (bsQ_mid l (a + 2))
  obtain ⟨R, hR⟩ : ∃ R, a + 2 + spn dgQ (l.drop (a + 2)) = R := ⟨_, rfl⟩
  have hge : a + 2 ≤ R := by omega
  have hRl : R ≤ l.length ∨ R = a + 2 := by rw [← hR]; have := spn_le dgQ (l.drop (a + 2)); rw [List.length_drop] at this; omega
  obtain ⟨p, hp⟩ : ∃ p, conD l a = p := ⟨_, rfl⟩
  have HP := hide hp
  rw [hR] at DG
  rw [hp]
  generalize bsQ l = s at *
  have q1 : ¬ (s.size : Int) ≤ (a : Int) + 1 := by omega
  have q2 : (a : Int) + 1 < (s.size : Int) := by omega
  have q0 : (0 : Int) ≤ (a : Int) + 1 := by omega
  have q3 : ((a : Int) + 1).toNat = a + 1 := by omega
  have w1 : IntKind.i64.wrap ((a : Int) + 1) = (a : Int) + 1 := IntWalk.i64_in _ (by omega)
  have w2 : IntKind.i64.wrap ((a : Int) + 2) = (a : Int) + 2 := IntWalk.i64_in _ (by omega)
  have w3 : IntKind.i64.wrap ((a : Int) + 3) = (a : Int) + 3 := IntWalk.i64_in _ (by omega)
  have q4 : (0 : Int) ≤ (a : Int) + 2 := by omega
  have q5 : ((a : Int) + 2).toNat = a + 2 := by omega
  have q6 : ((a : Int) + 3).toNat = a + 3 := by omega
  have c2 : ((a + 2 : Nat) : Int) = (a : Int) + 2 := by omega
  rw [c2] at DG
  clear hv L0 hc hp
  go_enter Tryz.func41, Tryz.ntmps41
  have tail : ∀ (hn : ¬ (lowR ((l.drop (a + 2)).headD 0) = 120 ∨ lowR ((l.drop (a + 2)).headD 0) = 122)), p = if R = a + 2 then (0, 0, []) else (R, 100, (l.drop (a + 2)).take (R - (a + 2))) := fun hn => by
    rw [← HP.out]
    unfold conD
    rw [if_neg hn]
    by_cases h : R = a + 2
    · rw [if_pos h, if_pos (by omega)]
    · rw [if_neg h, if_neg (by omega), hR, show spn dgQ (l.drop (a + 2)) = R - (a + 2) by omega]
  have Tail := hide tail
  clear tail
  by_cases hlt : a + 2 < l.length
  · have q7 : (a : Int) + 2 < (s.size : Int) := by omega
    have q8 : (a : Int) + 3 ≤ (s.size : Int) := by omega
    have q9 : (a : Int) + 2 ≤ (a : Int) + 3 := by omega
    have hs2 : a + 2 < s.size := by omega
    obtain ⟨d, hd⟩ : ∃ d, l[a + 2]'hlt = d := ⟨_, rfl⟩
    have hsd : s[a + 2]'hs2 = d := by rw [hg (a + 2) hs2 hlt, hd]
    have hh := headD_dropQ hlt
    rw [hd] at hh
    have LD := hide (LO.out d)
    rw [hh] at Tail
    clear hg hd
    have hx3 := HX.out (a + 3)
    rw [show a + 3 - (a + 2) = 1 by omega] at hx3
    by_cases hxz : lowR d = 120 ∨ lowR d = 122
    · have hpv : p = (a + 3, 100, (l.drop (a + 2)).take 1) := by
        rw [← HP.out]; unfold conD; rw [hh, if_pos hxz]
      generalize (l.drop (a + 2)).take 1 = t at *
      generalize lowR d = y at *
      have HPv := hide hpv
      clear hpv hRl hR hge hz hh
      rcases hxz with rfl | rfl
      · go_wp2_with fail
        refine (L.out _).mono ?_
        rintro e wz ⟨rfl, rfl⟩
        go_wp2_with fail
        refine (LD.out _).mono ?_
        rintro e wz ⟨rfl, rfl⟩
        go_wp2_with fail
        go_quiet (fail)
        go_wp2
        refine bodyPost_ret (v := .tuple #[.int .i64 ((a : Int) + 3), .int .u8 100, .string (bsQ t)]) (by simp [results, Tryz.results41, go_sem]) rfl ?_
        rw [HPv.out]
        exact ⟨rfl, Below_drewN (Below.refl _ _) _⟩
      · go_wp2_with fail
        refine (L.out _).mono ?_
        rintro e wz ⟨rfl, rfl⟩
        go_wp2_with fail
        refine (LD.out _).mono ?_
        rintro e wz ⟨rfl, rfl⟩
        go_wp2_with fail
        refine (LD.out _).mono ?_
        rintro e wz ⟨rfl, rfl⟩
        go_wp2_with fail
        go_quiet (fail)
        go_wp2
        refine bodyPost_ret (v := .tuple #[.int .i64 ((a : Int) + 3), .int .u8 100, .string (bsQ t)]) (by simp [results, Tryz.results41, go_sem]) rfl ?_
        rw [HPv.out]
        exact ⟨rfl, Below_drewN (Below.refl _ _) _⟩
    · have hF := Tail.out hxz
      generalize lowR d = y at *
      have n1 : ((y.toNat : Int) == 120) = false := toNat_neQ (d := 120) (fun h => hxz (.inl h))
      have n2 : ((y.toNat : Int) == 122) = false := toNat_neQ (d := 122) (fun h => hxz (.inr h))
      clear Tail hxz hx3 hh hR HP
      by_cases hia : R = a + 2
      · have ei : ((R : Int) == (a : Int) + 2) = true := by rw [beq_iff_eq]; omega
        rw [if_pos hia] at hF
        have HF := hide hF
        clear hF hia hRl hz
        go_wp2_with fail
        refine (L.out _).mono ?_
        rintro e wz ⟨rfl, rfl⟩
        go_wp2_with fail
        refine (LD.out _).mono ?_
        rintro e wz ⟨rfl, rfl⟩
        go_wp2_with fail
        refine (LD.out _).mono ?_
        rintro e wz ⟨rfl, rfl⟩
        go_wp2_with fail
        refine (DG.out _).mono ?_
        rintro e wz ⟨rfl, rfl⟩
        go_wp2
        refine bodyPost_ret (v := .tuple #[.int .i64 0, .int .u8 0, .string ⟨#[]⟩]) (by simp [results, Tryz.results41, go_sem]) rfl ?_
        rw [HF.out]
        exact ⟨rfl, Below.refl _ _⟩
      · have ei : ((R : Int) == (a : Int) + 2) = false := beq_eq_false_iff_ne.2 (by omega)
        rw [if_neg hia] at hF
        have HF := hide hF
        have x1 := HX.out R
        have k1 : (a : Int) + 2 ≤ (R : Int) := by omega
        have k2 : (R : Int) ≤ (s.size : Int) := by omega
        generalize (l.drop (a + 2)).take (R - (a + 2)) = t at *
        clear hF hia hRl hz
        go_wp2_with fail
        refine (L.out _).mono ?_
        rintro e wz ⟨rfl, rfl⟩
        go_wp2_with fail
        refine (LD.out _).mono ?_
        rintro e wz ⟨rfl, rfl⟩
        go_wp2_with fail
        refine (LD.out _).mono ?_
        rintro e wz ⟨rfl, rfl⟩
        go_wp2_with fail
        refine (DG.out _).mono ?_
        rintro e wz ⟨rfl, rfl⟩
        go_wp2_with fail
        go_quiet (fail)
        go_wp2
        refine bodyPost_ret (v := .tuple #[.int .i64 (R : Int), .int .u8 100, .string (bsQ t)]) (by simp [results, Tryz.results41, go_sem]) rfl ?_
        rw [HF.out]
        exact ⟨rfl, Below_drewN (Below.refl _ _) _⟩
  · have q7 : ¬ (a : Int) + 2 < (s.size : Int) := by omega
    have hn := headD_dropQ_nil (l := l) (a := a + 2) (by omega)
    have hF := Tail.out (by rw [hn]; decide)
    have hia : R = a + 2 := by rw [← hR, spn_end (by omega)]
    have ei : ((R : Int) == (a : Int) + 2) = true := by rw [beq_iff_eq]; omega
    rw [if_pos hia] at hF
    have HF := hide hF
    clear hF hia hRl Tail HP hR hn hg hz
    go_wp2_with fail
    refine (L.out _).mono ?_
    rintro e wz ⟨rfl, rfl⟩
    go_wp2_with fail
    refine (DG.out _).mono ?_
    rintro e wz ⟨rfl, rfl⟩
    go_wp2
    refine bodyPost_ret (v := .tuple #[.int .i64 0, .int .u8 0, .string ⟨#[]⟩]) (by simp [results, Tryz.results41, go_sem]) rfl ?_
    rw [HF.out]
    exact ⟨rfl, Below.refl _ _⟩
end Go.Proofs.YtjlpekjfmgcbdaaGreatDoor

/- The reference's constant as one, and what its Bits makes of it (plain). -/
set_option linter.unusedVariables false
set_option linter.unusedSimpArgs false
namespace Go.Proofs.YtjlpekjfmgcbdaaGreatDoor
open Go.RowKit Go.Shelf
/-- the constant behind the quotation mark at a: end, base, digits -/
def conR (l : List UInt8) (a : Nat) : Nat × UInt8 × List UInt8 :=
  if a + 1 < l.length then
    (if lowR (l.getD (a + 1) 0) = 98 then conK l a 98 1 else if lowR (l.getD (a + 1) 0) = 111 then conK l a 111 3
     else if lowR (l.getD (a + 1) 0) = 104 then conK l a 104 4 else if lowR (l.getD (a + 1) 0) = 100 then conD l a else (0, 0, []))
  else (0, 0, [])
theorem getD_at {l : List UInt8} {i : Nat} (h : i < l.length) : l.getD i 0 = l[i] := by
  rw [List.getD_eq_getElem?_getD, List.getElem?_eq_getElem h]; rfl
theorem refConst_any (l : List UInt8) (a : Nat) (w : World) (hl : l.length ≤ 50000) (ha2 : a ≤ 50000) :
    Calls Tryz.prog 41 #[.string (bsQ l), .int .i64 (a : Int)] w fun e w' => e = .returned (.tuple #[.int .i64 ((conR l a).1 : Int), .int .u8 ((conR l a).2.1.toNat : Int), .string (bsQ (conR l a).2.2)]) ∧ Below w.heap.size w w' := by
  by_cases ha : a + 1 < l.length
  · have hc := getD_at ha
    generalize l.getD (a + 1) 0 = c at hc
    have e : conR l a = if lowR c = 98 then conK l a 98 1 else if lowR c = 111 then conK l a 111 3
       else if lowR c = 104 then conK l a 104 4 else if lowR c = 100 then conD l a else (0, 0, []) := by
      unfold conR; rw [if_pos ha, getD_at ha, hc]
    rw [e]
    by_cases h1 : lowR c = 98
    · rw [if_pos h1]; exact refConst_98 l a c w hl ha hc.symm h1
    rw [if_neg h1]
    by_cases h2 : lowR c = 111
    · rw [if_pos h2]; exact refConst_111 l a c w hl ha hc.symm h2
    rw [if_neg h2]
    by_cases h3 : lowR c = 104
    · rw [if_pos h3]; exact refConst_104 l a c w hl ha hc.symm h3
    rw [if_neg h3]
    by_cases h4 : lowR c = 100
    · rw [if_pos h4]; exact refConst_100 l a c w hl ha hc.symm h4
    rw [if_neg h4]
    exact refConst_none l a c w hl ha hc.symm h1 h2 h3 h4
  · have e : conR l a = (0, 0, []) := by unfold conR; rw [if_neg ha]
    rw [e]
    exact refConst_short l a w hl ha2 (by omega)
/-- the bits of digits, before they are fitted -/
def rawR (b : UInt8) (ds : List UInt8) : List UInt8 := if b = 100 then rawD ds else spellQ ((baseQ b).getD 0) ds
/-- the width, read until it is too large -/
def wR : List UInt8 → Nat → Nat
  | [], v => v
  | c :: t, v => if v ≤ 128 then wR t (10 * v + (c.toNat - 48)) else v
/-- leading zeros go until the bits fit -/
def cutR (w : Nat) : List UInt8 → Option (List UInt8)
  | [] => some []
  | c :: t => if w < (c :: t).length then (if c ≠ 48 then none else cutR w t) else some (c :: t)
def padR (c : UInt8) : UInt8 := if lowR c = 120 ∨ lowR c = 122 then lowR c else 48
def bitsR (l : List UInt8) : List UInt8 × Int :=
  if spn dgQ l = 0 ∨ l.getD (spn dgQ l) 0 ≠ 39 then ([], 3) else
  if (conR l (spn dgQ l)).1 ≠ l.length then ([], 3) else
  if wR (stripR (l.take (spn dgQ l))) 0 < 1 ∨ 128 < wR (stripR (l.take (spn dgQ l))) 0 then ([], 8) else
  match cutR (wR (stripR (l.take (spn dgQ l))) 0) (rawR (conR l (spn dgQ l)).2.1 (conR l (spn dgQ l)).2.2) with
  | none => ([], 8)
  | some out => (List.replicate (wR (stripR (l.take (spn dgQ l))) 0 - out.length) (padR ((conR l (spn dgQ l)).2.2.headD 0)) ++ out, 0)
/-- what the digits of a constant that ends the text are -/
def conOk (b : UInt8) (ds : List UInt8) : Prop :=
  0 < ds.length ∧ (b = 100 → ¬ (lowR (ds.headD 0) = 120 ∨ lowR (ds.headD 0) = 122) → ∀ c ∈ ds, dgQ c = true) ∧
  (b = 100 → (lowR (ds.headD 0) = 120 ∨ lowR (ds.headD 0) = 122) → ds.length = 1) ∧
  (b ≠ 100 → ∀ c ∈ ds, unkQ c ≠ 0 ∨ (0 ≤ hexQ c ∧ hexQ c < ((2 ^ (baseQ b).getD 0 : Nat) : Int)))
theorem pR_of : ∀ c : UInt8, pR 1 c = ofQ 98 c ∧ pR 3 c = ofQ 111 c ∧ pR 4 c = ofQ 104 c :=
  fun c => all_bytes (p := fun c => pR 1 c = ofQ 98 c ∧ pR 3 c = ofQ 111 c ∧ pR 4 c = ofQ 104 c) (by decide +kernel) c
theorem base_of : ∀ c : UInt8, (lowR c = 98 ∨ lowR c = 111 ∨ lowR c = 104 ∨ lowR c = 100 → ltQ c = true ∧ lowQ c = lowR c) ∧
    (¬ (lowR c = 98 ∨ lowR c = 111 ∨ lowR c = 104 ∨ lowR c = 100) → baseQ (lowQ c) = none ∨ ltQ c = false) :=
  fun c => all_bytes (p := fun c => (lowR c = 98 ∨ lowR c = 111 ∨ lowR c = 104 ∨ lowR c = 100 → ltQ c = true ∧ lowQ c = lowR c) ∧
    (¬ (lowR c = 98 ∨ lowR c = 111 ∨ lowR c = 104 ∨ lowR c = 100) → baseQ (lowQ c) = none ∨ ltQ c = false)) (by decide +kernel) c
theorem ofQ_ok : ∀ c : UInt8, (ofQ 98 c = true → unkQ c ≠ 0 ∨ (0 ≤ hexQ c ∧ hexQ c < ((2 ^ 1 : Nat) : Int))) ∧
    (ofQ 111 c = true → unkQ c ≠ 0 ∨ (0 ≤ hexQ c ∧ hexQ c < ((2 ^ 3 : Nat) : Int))) ∧
    (ofQ 104 c = true → unkQ c ≠ 0 ∨ (0 ≤ hexQ c ∧ hexQ c < ((2 ^ 4 : Nat) : Int))) :=
  fun c => all_bytes (p := fun c => (ofQ 98 c = true → unkQ c ≠ 0 ∨ (0 ≤ hexQ c ∧ hexQ c < ((2 ^ 1 : Nat) : Int))) ∧
    (ofQ 111 c = true → unkQ c ≠ 0 ∨ (0 ≤ hexQ c ∧ hexQ c < ((2 ^ 3 : Nat) : Int))) ∧
    (ofQ 104 c = true → unkQ c ≠ 0 ∨ (0 ≤ hexQ c ∧ hexQ c < ((2 ^ 4 : Nat) : Int)))) (by decide +kernel) c
theorem ofQ_dec : ∀ c : UInt8, ofQ 100 c = (decide (lowR c = 120 ∨ lowR c = 122) || dgQ c) ∧ ((lowR c = 120 ∨ lowR c = 122) → dgQ c = false) :=
  fun c => all_bytes (p := fun c => ofQ 100 c = (decide (lowR c = 120 ∨ lowR c = 122) || dgQ c) ∧ ((lowR c = 120 ∨ lowR c = 122) → dgQ c = false)) (by decide +kernel) c
/-- a constant of base b, o or h that ends the text -/
theorem conK_full {l : List UInt8} {a : Nat} {b : UInt8} {k : Nat} (hp : ∀ c, pR k c = ofQ b c) (ha : a + 2 ≤ l.length) (h0 : 0 < l.length) :
    ((conK l a b k).1 = l.length ↔ (if spn (ofQ b) (l.drop (a + 2)) = 0 then 0 else a + 2 + spn (ofQ b) (l.drop (a + 2))) = l.length) ∧
    ((conK l a b k).1 = l.length → (conK l a b k).2 = (b, l.drop (a + 2)) ∧ 0 < (l.drop (a + 2)).length ∧ ∀ c ∈ l.drop (a + 2), ofQ b c = true) := by
  have e : pR k = ofQ b := funext hp
  unfold conK
  rw [e]
  have hd : (l.drop (a + 2)).length = l.length - (a + 2) := List.length_drop
  generalize l.drop (a + 2) = t at *
  by_cases h : spn (ofQ b) t = 0
  · rw [if_pos h, if_pos h]
    exact ⟨Iff.rfl, fun h1 => absurd h1 (by simp only; omega)⟩
  · rw [if_neg h, if_neg h]
    refine ⟨Iff.rfl, fun h1 => ?_⟩
    have h2 : spn (ofQ b) t = t.length := by simp only at h1; omega
    refine ⟨?_, by omega, spn_all h2⟩
    simp only [h2, List.take_length]
end Go.Proofs.YtjlpekjfmgcbdaaGreatDoor

/- Plain: the reference's Bits makes what the program's Bits makes. -/
set_option linter.unusedVariables false
set_option linter.unusedSimpArgs false
namespace Go.Proofs.YtjlpekjfmgcbdaaGreatDoor
open Go.RowKit Go.Shelf
theorem wR_of : ∀ (t : List UInt8) (v : Nat), (wR t v ≤ 128 → wR t v = t.foldl (fun v c => 10 * v + (c.toNat - 48)) v) ∧ (128 < wR t v → 128 < t.foldl (fun v c => 10 * v + (c.toNat - 48)) v)
  | [], v => ⟨fun _ => rfl, fun h => h⟩
  | c :: t, v => by
    unfold wR
    rw [List.foldl_cons]
    by_cases h : v ≤ 128
    · rw [if_pos h]; exact wR_of t _
    · rw [if_neg h]
      refine ⟨fun h2 => absurd h2 h, fun _ => ?_⟩
      have := foldD_zero t (10 * v + (c.toNat - 48))
      rw [this]
      have h1 : 1 ≤ 10 ^ t.length := Nat.one_le_pow _ _ (by omega)
      have h2 := Nat.mul_le_mul_left (10 * v + (c.toNat - 48)) h1
      omega
theorem widthQ_val : ∀ (t : List UInt8) (v : Nat), t.foldl stepW (min v 1000) = min (t.foldl (fun v c => 10 * v + (c.toNat - 48)) v) 1000
  | [], v => rfl
  | c :: t, v => by
    rw [List.foldl_cons, List.foldl_cons, ← widthQ_val t]
    congr 1
    unfold stepW
    omega
theorem wR_width (d : List UInt8) : (128 < wR (stripR d) 0 ∧ 128 < widthQ d) ∨ (wR (stripR d) 0 = widthQ d ∧ widthQ d ≤ 128) := by
  have h1 := wR_of (stripR d) 0
  have h2 : widthQ d = min (valD d) 1000 := by rw [widthQ_eq]; exact widthQ_val d 0
  have h3 : (stripR d).foldl (fun v c => 10 * v + (c.toNat - 48)) 0 = valD d := valD_strip d
  rw [h3] at h1
  omega
theorem cutR_eq (w : Nat) : ∀ out : List UInt8, cutR w out = if out.length ≤ w then some out else if (out.take (out.length - w)).all (· == 48) then some (out.drop (out.length - w)) else none
  | [] => by unfold cutR; exact (if_pos (Nat.zero_le w)).symm
  | c :: t => by
    have hu : cutR w (c :: t) = if w < (c :: t).length then (if c ≠ 48 then none else cutR w t) else some (c :: t) := rfl
    rw [hu]
    clear hu
    by_cases h : w < (c :: t).length
    · rw [if_pos h]
      refine Eq.trans ?_ (if_neg (by omega)).symm
      have hl : (c :: t).length = t.length + 1 := rfl
      have e : (c :: t).length - w = (t.length - w) + 1 := by omega
      rw [e, List.take_succ_cons, List.drop_succ_cons, List.all_cons]
      by_cases hc : c = 48
      · rw [if_neg (fun h => h hc), cutR_eq w t, hc]
        by_cases h2 : t.length ≤ w
        · rw [if_pos h2, show t.length - w = 0 by omega]; simp
        · rw [if_neg h2]; simp
      · rw [if_pos hc, if_neg]
        rw [Bool.and_eq_true, beq_iff_eq]
        exact fun h => hc h.1
    · rw [if_neg h, if_pos (by omega)]
theorem padR_eq (c : UInt8) : padR c = if unkQ c ≠ 0 then unkQ c else 48 := by
  have h := unk_low c
  unfold padR
  by_cases hx : lowR c = 120 ∨ lowR c = 122
  · rw [if_pos hx, if_pos (h.1 hx).2, (h.1 hx).1]
  · rw [if_neg hx, if_neg (fun h2 => h2 (h.2 hx))]
/-- the end of fitting -/
def endR (w : Nat) (p : UInt8) (out : List UInt8) : List UInt8 × Int :=
  match cutR w out with
  | none => ([], 8)
  | some out => (List.replicate (w - out.length) p ++ out, 0)
theorem endR_fit (w : Nat) (c : UInt8) (out : List UInt8) : endR w (padR c) out = fitQ w (unkQ c) out := by
  unfold endR fitQ
  rw [cutR_eq, padR_eq]
  by_cases h : out.length < w
  · rw [if_pos h, if_pos (by omega)]
  · rw [if_neg h]
    by_cases h2 : out.length ≤ w
    · rw [if_pos h2, show out.length - w = 0 by omega]
      simp only [List.take_zero, List.all_nil, if_true, List.drop_zero]
      rw [show w - out.length = 0 by omega]; rfl
    · rw [if_neg h2]
      by_cases h3 : (out.take (out.length - w)).all (· == 48) = true
      · rw [if_pos h3, if_pos h3]
        simp only
        rw [List.length_drop, show w - (out.length - (out.length - w)) = 0 by omega]; rfl
      · rw [if_neg h3, if_neg h3]
theorem binM_pad : ∀ (w v : Nat), v < 2 ^ w → (binM v).length ≤ w ∧ List.replicate (w - (binM v).length) 48 ++ binM v = binQ w v
  | 0, v, h => by
    have : v = 0 := by simpa using h
    subst this
    rw [binM_zero]; exact ⟨Nat.le_refl _, rfl⟩
  | w + 1, v, h => by
    by_cases h0 : v = 0
    · subst h0
      rw [binM_zero, binQ_zero]
      exact ⟨Nat.zero_le _, by simp⟩
    · rw [binM_step (by omega), binQ_succ, List.length_append]
      have ih := binM_pad w (v / 2) (by rw [Nat.pow_succ] at h; omega)
      refine ⟨by have := ih.1; simp only [List.length_cons, List.length_nil]; omega, ?_⟩
      rw [← ih.2, ← List.append_assoc]
      simp only [List.length_cons, List.length_nil]
      rw [show w + 1 - ((binM (v / 2)).length + (0 + 1)) = w - (binM (v / 2)).length by omega]
theorem binM_big : ∀ (w v : Nat), 2 ^ w ≤ v → w < (binM v).length ∧ ∃ t, binM v = 49 :: t
  | 0, v, h => by
    have hv : 0 < v := by rw [Nat.pow_zero] at h; omega
    by_cases h1 : v = 1
    · subst h1
      rw [binM_step (by omega)]
      exact ⟨by simp [binM_zero], [], rfl⟩
    · have ih := binM_big 0 (v / 2) (by simp only [Nat.pow_zero]; omega)
      rw [binM_step hv]
      obtain ⟨t, ht⟩ := ih.2
      exact ⟨by rw [List.length_append]; have := ih.1; omega, t ++ [bitQ v], by rw [ht]; rfl⟩
  | w + 1, v, h => by
    have hp : 0 < 2 ^ w := Nat.two_pow_pos w
    rw [Nat.pow_succ] at h
    have ih := binM_big w (v / 2) (by omega)
    rw [binM_step (by omega)]
    obtain ⟨t, ht⟩ := ih.2
    exact ⟨by rw [List.length_append]; have := ih.1; simp only [List.length_cons, List.length_nil]; omega, t ++ [bitQ v], by rw [ht]; rfl⟩
/-- a number's bits, fitted -/
def numR (w v : Nat) : List UInt8 × Int := if v < 2 ^ w then (binQ w v, 0) else ([], 8)
theorem endR_num (w v : Nat) : endR w 48 (binM v) = numR w v := by
  unfold endR numR
  rw [cutR_eq]
  by_cases h : v < 2 ^ w
  · have h1 := binM_pad w v h
    rw [if_pos h, if_pos h1.1]
    simp only
    rw [h1.2]
  · have h1 := binM_big w v (by omega)
    obtain ⟨t, ht⟩ := h1.2
    rw [if_neg h, if_neg (by omega), if_neg]
    obtain ⟨k, hk⟩ : ∃ k, (binM v).length - w = k + 1 := ⟨(binM v).length - w - 1, by omega⟩
    rw [hk, ht, List.take_succ_cons, List.all_cons]
    simp
theorem binQ_split : ∀ (j w v : Nat), binQ (j + w) v = binQ j (v / 2 ^ w) ++ binQ w v
  | j, 0, v => by simp [binQ]
  | j, w + 1, v => by
    rw [show j + (w + 1) = (j + w) + 1 by omega, binQ_succ, binQ_succ, binQ_split j w (v / 2), ← List.append_assoc, Nat.div_div_eq_div_mul, Nat.pow_succ, Nat.mul_comm 2]
theorem binQ_zeros : ∀ (j v : Nat), v < 2 ^ j → ((binQ j v).all (· == 48) = true ↔ v = 0)
  | 0, v, h => by simp [binQ]; simpa using h
  | j + 1, v, h => by
    rw [binQ_succ, List.all_append, Bool.and_eq_true, binQ_zeros j (v / 2) (by rw [Nat.pow_succ] at h; omega)]
    unfold bitQ
    rcases Nat.mod_two_eq_zero_or_one v with h2 | h2
    · rw [if_neg (by omega)]; simp; omega
    · rw [if_pos h2]; simp; omega
theorem decBits_all : ∀ (ds : List UInt8) (v : Nat), v < 2 ^ 140 →
    decBitsF ds v = if ds.foldl (fun v c => 10 * v + (c.toNat - 48)) v < 2 ^ 140 then binQ 140 (ds.foldl (fun v c => 10 * v + (c.toNat - 48)) v) else decBitsF ds v
  | [], v, h => by rw [List.foldl_nil, if_pos h]; rfl
  | c :: t, v, h => by
    rw [List.foldl_cons]
    by_cases h1 : 2 ^ 140 ≤ 10 * v + (c.toNat - 48)
    · rw [if_neg]
      rw [foldD_zero]
      have h2 : 1 ≤ 10 ^ t.length := Nat.one_le_pow _ _ (by omega)
      have h3 := Nat.mul_le_mul_left (10 * v + (c.toNat - 48)) h2
      omega
    · have e : decBitsF (c :: t) v = decBitsF t (10 * v + (c.toNat - 48)) := by
        show (if _ then _ else _) = _
        rw [if_neg h1]
      rw [e]
      exact decBits_all t _ (by omega)
theorem decBits_over : ∀ (ds : List UInt8) (v : Nat), v < 2 ^ 140 → ¬ ds.foldl (fun v c => 10 * v + (c.toNat - 48)) v < 2 ^ 140 → ∃ x, decBitsF ds v = 49 :: binQ 140 x
  | [], v, h, hn => absurd h hn
  | c :: t, v, h, hn => by
    rw [List.foldl_cons] at hn
    by_cases h1 : 2 ^ 140 ≤ 10 * v + (c.toNat - 48)
    · refine ⟨(10 * v + (c.toNat - 48)) % 2 ^ 140, ?_⟩
      show (if _ then _ else _) = _
      rw [if_pos h1]
    · have e : decBitsF (c :: t) v = decBitsF t (10 * v + (c.toNat - 48)) := by
        show (if _ then _ else _) = _
        rw [if_neg h1]
      rw [e]
      exact decBits_over t _ (by omega) hn
theorem fitQ_num (w : Nat) (u : UInt8) (ds : List UInt8) (hw : w ≤ 128) : fitQ w u (decBitsF ds 0) = numR w (valD ds) := by
  have hp : 2 ^ w ≤ 2 ^ 140 := Nat.pow_le_pow_right (by omega) (by omega)
  unfold numR
  by_cases h : valD ds < 2 ^ 140
  · have e : decBitsF ds 0 = binQ 140 (valD ds) := by
      have h2 := decBits_all ds 0 (by decide)
      exact h2.trans (if_pos h)
    unfold fitQ
    rw [e, binQ_len, if_neg (by omega)]
    obtain ⟨j, hj⟩ : ∃ j, 140 - w = j := ⟨_, rfl⟩
    have hs := binQ_split j w (valD ds)
    rw [show j + w = 140 by omega] at hs
    rw [hj, hs, List.take_left' (binQ_len _ _), List.drop_left' (binQ_len _ _)]
    have hz := binQ_zeros j (valD ds / 2 ^ w) (by rw [Nat.div_lt_iff_lt_mul (Nat.two_pow_pos w), ← Nat.pow_add, show j + w = 140 by omega]; exact h)
    by_cases h2 : valD ds < 2 ^ w
    · rw [if_pos h2, if_pos (hz.2 (Nat.div_eq_of_lt h2))]
    · rw [if_neg h2, if_neg]
      intro h3
      have := hz.1 h3
      rw [Nat.div_eq_zero_iff] at this
      rcases this with h4 | h4
      · have := Nat.two_pow_pos w; omega
      · omega
  · obtain ⟨x, hx⟩ := decBits_over ds 0 (by decide) h
    unfold fitQ
    have hlen : (49 :: binQ 140 x).length = 140 + 1 := by rw [List.length_cons, binQ_len]
    rw [hx, hlen, if_neg (by omega : ¬ 140 + 1 < w), if_neg (by omega : ¬ valD ds < 2 ^ w), if_neg]
    rw [show 140 + 1 - w = (140 - w) + 1 by omega, List.take_succ_cons, List.all_cons]
    simp
end Go.Proofs.YtjlpekjfmgcbdaaGreatDoor

/- Plain: the reference's Bits makes what the program's Bits makes. -/
set_option linter.unusedVariables false
set_option linter.unusedSimpArgs false
namespace Go.Proofs.YtjlpekjfmgcbdaaGreatDoor
open Go.RowKit Go.Shelf
/-- when the text is a constant: both agree, and the digits are in order -/
theorem conR_full (l : List UInt8) (a : Nat) (h39 : l.getD a 0 = 39) (ha : a < l.length) :
    ((conR l a).1 = l.length ↔ constQ l a = l.length ∧ ¬ (lowQ (l.getD (a + 1) 0) = 100 ∧ ¬ ((l.drop (a + 2)).length = 1 ∧ unkQ ((l.drop (a + 2)).headD 0) ≠ 0) ∧ spn dgQ (l.drop (a + 2)) < (l.drop (a + 2)).length)) ∧
    ((conR l a).1 = l.length → (conR l a).2 = (lowQ (l.getD (a + 1) 0), l.drop (a + 2)) ∧ conOk (lowQ (l.getD (a + 1) 0)) (l.drop (a + 2))) := by
  by_cases h1 : a + 1 < l.length
  · have hc := getD_at h1
    have h39' : l[a] = 39 := by rw [← getD_at ha]; exact h39
    have hb := base_of (l.getD (a + 1) 0)
    have hcon : conR l a = if lowR (l.getD (a + 1) 0) = 98 then conK l a 98 1 else if lowR (l.getD (a + 1) 0) = 111 then conK l a 111 3
       else if lowR (l.getD (a + 1) 0) = 104 then conK l a 104 4 else if lowR (l.getD (a + 1) 0) = 100 then conD l a else (0, 0, []) := by
      unfold conR; rw [if_pos h1]
    have hno := fun h => constQ_base (l := l) (n := a) h1 h
    have hso : a + 2 < l.length → (baseQ (lowQ (l.getD (a + 1) 0))).isSome = true → ltQ (l.getD (a + 1) 0) = true →
        constQ l a = if spn (ofQ (lowQ (l.getD (a + 1) 0))) (l.drop (a + 2)) = 0 then 0 else a + 2 + spn (ofQ (lowQ (l.getD (a + 1) 0))) (l.drop (a + 2)) := fun h hb hl => by
      rw [hc] at hb hl ⊢
      exact constQ_some h h39' hb hl
    have hend : a + 2 = l.length → constQ l a = 0 := fun h => by
      unfold constQ
      rw [dropQ_two h1, h39']
      simp only
      rw [if_pos (.inl (List.drop_eq_nil_of_le (by omega)))]
    rw [← hc] at hno
    rw [hcon]
    clear hcon hc h39' h39
    generalize l.getD (a + 1) 0 = c at *
    have K : ∀ (b : UInt8) (k : Nat), lowR c = b → (∀ d, pR k d = ofQ b d) → (b ≠ 100 ∧ (baseQ b) = some k) → (∀ d, ofQ b d = true → unkQ d ≠ 0 ∨ (0 ≤ hexQ d ∧ hexQ d < ((2 ^ k : Nat) : Int))) → (b = 98 ∨ b = 111 ∨ b = 104 ∨ b = 100) →
        (((conK l a b k).1 = l.length ↔ constQ l a = l.length ∧ ¬ (lowQ c = 100 ∧ ¬ ((l.drop (a + 2)).length = 1 ∧ unkQ ((l.drop (a + 2)).headD 0) ≠ 0) ∧ spn dgQ (l.drop (a + 2)) < (l.drop (a + 2)).length)) ∧
        ((conK l a b k).1 = l.length → (conK l a b k).2 = (lowQ c, l.drop (a + 2)) ∧ conOk (lowQ c) (l.drop (a + 2)))) := by
      intro b k hcb hp hbk hof hin
      have hq := hb.1 (by rw [hcb]; exact hin)
      have hk := conK_full (l := l) (a := a) hp (by omega) (by omega)
      rw [hq.2, hcb]
      have he : constQ l a = if spn (ofQ b) (l.drop (a + 2)) = 0 then 0 else a + 2 + spn (ofQ b) (l.drop (a + 2)) := by
        by_cases h2 : a + 2 < l.length
        · rw [hso h2 (by rw [hq.2, hcb, hbk.2]; rfl) hq.1, hq.2, hcb]
        · rw [hend (by omega), List.drop_eq_nil_of_le (by omega : l.length ≤ a + 2)]; rfl
      refine ⟨?_, fun h => ?_⟩
      · rw [he]
        refine ⟨fun h => ⟨hk.1.1 h, fun h2 => hbk.1 h2.1⟩, fun h => hk.1.2 h.1⟩
      · have h2 := hk.2 h
        refine ⟨h2.1, h2.2.1, fun e => absurd e hbk.1, fun e => absurd e hbk.1, fun _ d hd => ?_⟩
        rw [hbk.2]
        exact hof d (h2.2.2 d hd)
    by_cases e1 : lowR c = 98
    · rw [if_pos e1]
      exact K 98 1 e1 (fun d => (pR_of d).1) ⟨by decide, rfl⟩ (fun d => (ofQ_ok d).1) (by decide)
    rw [if_neg e1]
    by_cases e2 : lowR c = 111
    · rw [if_pos e2]
      exact K 111 3 e2 (fun d => (pR_of d).2.1) ⟨by decide, rfl⟩ (fun d => (ofQ_ok d).2.1) (by decide)
    rw [if_neg e2]
    by_cases e3 : lowR c = 104
    · rw [if_pos e3]
      exact K 104 4 e3 (fun d => (pR_of d).2.2) ⟨by decide, rfl⟩ (fun d => (ofQ_ok d).2.2) (by decide)
    rw [if_neg e3]
    clear K
    by_cases e4 : lowR c = 100
    · rw [if_pos e4]
      have hq := hb.1 (.inr (.inr (.inr e4)))
      rw [hq.2, e4]
      have hd : (l.drop (a + 2)).length = l.length - (a + 2) := List.length_drop
      have he : constQ l a = if spn (ofQ 100) (l.drop (a + 2)) = 0 then 0 else a + 2 + spn (ofQ 100) (l.drop (a + 2)) := by
        by_cases h2 : a + 2 < l.length
        · rw [hso h2 (by rw [hq.2, e4]; rfl) hq.1, hq.2, e4]
        · rw [hend (by omega), List.drop_eq_nil_of_le (by omega : l.length ≤ a + 2)]; rfl
      rw [he]
      unfold conD conOk
      clear he hend hso hno hb hq
      generalize l.drop (a + 2) = t at *
      have hu := unk_low (t.headD 0)
      have hs1 := spn_le (ofQ 100) t
      have hs2 := spn_le dgQ t
      cases t with
      | nil =>
        have z1 : spn (ofQ 100) [] = 0 := rfl
        have z2 : spn dgQ [] = 0 := rfl
        rw [z1, z2]
        have hh : ([] : List UInt8).headD 0 = 0 := rfl
        rw [hh, if_neg (by decide), if_pos rfl, if_pos rfl]
        simp only
        exact ⟨⟨fun h => absurd h (by omega), fun h => absurd h.1 (by omega)⟩, fun h => absurd h (by omega)⟩
      | cons d r =>
        have hh : (d :: r).headD 0 = d := rfl
        rw [hh] at hu ⊢
        have hod := ofQ_dec d
        by_cases hx : lowR d = 120 ∨ lowR d = 122
        · have hsd : spn dgQ (d :: r) = 0 := spn_no (hod.2 hx)
          have hso : spn (ofQ 100) (d :: r) = spn (ofQ 100) r + 1 := spn_yes (by rw [hod.1, decide_eq_true hx]; rfl)
          have hsr := spn_le (ofQ 100) r
          rw [if_pos hx, hsd, hso]
          have hul := (hu.1 hx).2
          have hlen : (d :: r).length = r.length + 1 := rfl
          rw [hlen] at hd ⊢
          simp only [List.take_succ_cons, List.take_zero]
          refine ⟨⟨fun h => ⟨?_, fun h2 => h2.2.1 ⟨by omega, hul⟩⟩, fun h => ?_⟩, fun h => ?_⟩
          · rw [if_neg (by omega)]; omega
          · have h2 : r.length + 1 = 1 := by
              apply Classical.byContradiction
              intro h3
              exact h.2 ⟨trivial, fun h4 => h3 h4.1, by omega⟩
            omega
          · have h2 : r = [] := List.length_eq_zero_iff.1 (by omega)
            subst h2
            exact ⟨rfl, by omega, fun _ h3 => absurd hx h3, fun _ _ => rfl, fun h3 => absurd rfl h3⟩
        · have hul := hu.2 hx
          rw [if_neg hx]
          have hlen : (d :: r).length = r.length + 1 := rfl
          have hall : spn dgQ (d :: r) = (d :: r).length → spn (ofQ 100) (d :: r) = (d :: r).length := fun h => spn_of_all (fun x hx2 => by rw [(ofQ_dec x).1, spn_all h x hx2, Bool.or_true])
          by_cases hz : spn dgQ (d :: r) = 0
          · rw [if_pos hz]
            simp only
            exact ⟨⟨fun h => absurd h (by omega), fun h => absurd ⟨trivial, fun h4 => h4.2 hul, by omega⟩ h.2⟩, fun h => absurd h (by omega)⟩
          · rw [if_neg hz]
            simp only
            refine ⟨⟨fun h => ⟨?_, fun h2 => ?_⟩, fun h => ?_⟩, fun h => ?_⟩
            · rw [hall (by omega), if_neg (by omega)]; omega
            · have := h2.2.2; omega
            · have h2 : ¬ spn dgQ (d :: r) < (d :: r).length := fun h3 => h.2 ⟨trivial, fun h4 => h4.2 hul, h3⟩
              omega
            · have h2 : spn dgQ (d :: r) = (d :: r).length := by omega
              exact ⟨by rw [h2, List.take_length], by omega, fun _ _ => spn_all h2, fun _ h3 => absurd h3 hx, fun h3 => absurd rfl h3⟩
    · rw [if_neg e4]
      have hn := hno (hb.2 (by rintro (h | h | h | h); exact e1 h; exact e2 h; exact e3 h; exact e4 h))
      rw [hn]
      simp only
      exact ⟨⟨fun h => absurd h (by omega), fun h => absurd h.1 (by omega)⟩, fun h => absurd h (by omega)⟩
  · have hcon : conR l a = (0, 0, []) := by unfold conR; rw [if_neg h1]
    have hcq : constQ l a = 0 := by
      unfold constQ
      rw [List.drop_eq_getElem_cons ha, List.drop_eq_nil_of_le (by omega : l.length ≤ a + 1)]
      split
      · rename_i h; simp at h
      · rfl
    rw [hcon, hcq]
    simp only
    exact ⟨⟨fun h => absurd h (by omega), fun h => absurd h.1 (by omega)⟩, fun h => absurd h (by omega)⟩
theorem bitsR_eq (l : List UInt8) : bitsR l = bitsQ l := by
  unfold bitsR
  by_cases h0 : spn dgQ l = 0
  · rw [if_pos (.inl h0), bitsQ_none h0]
  have hlen := spn_le dgQ l
  by_cases h39 : l.getD (spn dgQ l) 0 = 39
  · have ha : spn dgQ l < l.length := by
      apply Classical.byContradiction
      intro h
      rw [List.getD_eq_getElem?_getD, List.getElem?_eq_none (by omega)] at h39
      exact absurd h39 (by decide)
    rw [if_neg (by rintro (h | h); exact h0 h; exact h h39)]
    have hf := conR_full l (spn dgQ l) h39 ha
    by_cases hc : (conR l (spn dgQ l)).1 = l.length
    · rw [if_neg (fun h => h hc)]
      have hf1 := hf.1.1 hc
      have hf2 := hf.2 hc
      rw [hf2.1, bitsQ_of h0 hf1.1]
      have hok := hf2.2
      unfold bitsW
      rw [if_neg hf1.2]
      simp only
      have hw := wR_width (l.take (spn dgQ l))
      generalize lowQ (l.getD (spn dgQ l + 1) 0) = b at *
      generalize l.drop (spn dgQ l + 2) = ds at *
      generalize l.take (spn dgQ l) = d at *
      rcases hw with hw | hw
      · rw [if_pos (.inr hw.1), if_pos (.inr hw.2)]
      · rw [hw.1]
        generalize widthQ d = w at *
        by_cases h3 : w < 1 ∨ 128 < w
        · rw [if_pos h3, if_pos h3]
        · rw [if_neg h3, if_neg h3]
          show endR w (padR (ds.headD 0)) (rawR b ds) = _
          have hu := unk_low (ds.headD 0)
          unfold rawR outQ
          by_cases hb : b = 100
          · rw [if_pos hb, if_pos hb]
            unfold rawD
            by_cases hx : lowR (ds.headD 0) = 120 ∨ lowR (ds.headD 0) = 122
            · have h1 := hok.2.2.1 hb hx
              rw [if_pos hx, if_pos ⟨hb, h1, (hu.1 hx).2⟩]
              unfold endR
              rw [cutR_eq]
              have h5 : [lowR (ds.headD 0)].length = 1 := rfl
              rw [h5, if_pos (by omega)]
              simp only
              rw [h5]
              unfold padR
              rw [if_pos hx, (hu.1 hx).1]
              obtain ⟨k, hk⟩ : ∃ k, w = k + 1 := ⟨w - 1, by omega⟩
              rw [hk, Nat.add_sub_cancel, List.replicate_succ']
            · rw [if_neg hx, if_neg (fun h => h.2.2 (hu.2 hx))]
              have hp : padR (ds.headD 0) = 48 := by unfold padR; rw [if_neg hx]
              rw [hp, endR_num, fitQ_num w _ ds (by omega)]
          · rw [if_neg hb, if_neg hb, if_neg (fun h => hb h.1)]
            exact endR_fit w _ _
    · rw [if_pos hc]
      by_cases hq : constQ l (spn dgQ l) = l.length
      · rw [bitsQ_of h0 hq]
        unfold bitsW
        have : ¬ ¬ (lowQ (l.getD (spn dgQ l + 1) 0) = 100 ∧ ¬ ((l.drop (spn dgQ l + 2)).length = 1 ∧ unkQ ((l.drop (spn dgQ l + 2)).headD 0) ≠ 0) ∧ spn dgQ (l.drop (spn dgQ l + 2)) < (l.drop (spn dgQ l + 2)).length) := fun h => hc (hf.1.2 ⟨hq, h⟩)
        rw [if_pos (Classical.not_not.1 this)]
      · rw [bitsQ_form hq]
  · rw [if_pos (.inr h39), bitsQ_form]
    intro h
    unfold constQ at h
    split at h
    · next b t e =>
      apply h39
      rw [List.getD_eq_getElem?_getD]
      have h2 : (l.drop (spn dgQ l))[0]? = some 39 := by rw [e]; rfl
      rw [List.getElem?_drop] at h2
      rw [show spn dgQ l + 0 = spn dgQ l by omega] at h2
      rw [h2]; rfl
    · have : l.length = 0 := h.symm
      omega
end Go.Proofs.YtjlpekjfmgcbdaaGreatDoor

/- Contract of the reference's Bits. -/
set_option linter.unusedVariables false
set_option linter.unusedSimpArgs false
namespace Go.Proofs.YtjlpekjfmgcbdaaGreatDoor
open Go.RowKit Go.Shelf
theorem refRaw_any (b : UInt8) (ds : List UInt8) (w : World) (hl : ds.length ≤ 1000) (h : conOk b ds) :
    Calls Tryz.prog 43 #[.int .u8 (b.toNat : Int), .string (bsQ ds)] w fun e w' => e = .returned (.string (bsQ (rawR b ds))) ∧ Below w.heap.size w w' := by
  unfold rawR
  by_cases hb : b = 100
  · subst hb
    rw [if_pos rfl]
    exact refRaw_d ds w hl h.1 (h.2.1 rfl)
  · rw [if_neg hb]
    exact refRaw_other ds b w hl hb (h.2.2.2 hb)
theorem wR_le : ∀ (t : List UInt8) (v : Nat), (∀ c ∈ t, dgQ c = true) → v ≤ 1289 → wR t v ≤ 1289
  | [], v, _, h => h
  | c :: t, v, hd, h => by
    unfold wR
    split
    · have h1 : 48 ≤ c.toNat ∧ c.toNat ≤ 57 := of_decide_eq_true (hd c List.mem_cons_self)
      exact wR_le t _ (fun x hx => hd x (List.mem_cons_of_mem _ hx)) (by omega)
    · exact h
theorem rawR_len (b : UInt8) (ds : List UInt8) (h : conOk b ds) (hl : ds.length ≤ 1000) : (rawR b ds).length ≤ 4000 := by
  unfold rawR
  split
  · rename_i hb
    unfold rawD
    split
    · show 1 ≤ 4000; omega
    · rename_i hx
      exact Nat.le_trans (binM_len (h.2.1 hb hx) hl) (by omega)
  · rw [spellQ_len]
    have := Nat.mul_le_mul (show (baseQ b).getD 0 ≤ 4 by rcases baseQ_cases b with k | k | k | k <;> rw [k] <;> omega) hl
    omega
theorem cutR_stop {w : Nat} {out : List UInt8} (h : ¬ w < out.length) : cutR w out = some out := by
  rw [cutR_eq, if_pos (by omega)]
theorem cutR_fail {w : Nat} {c : UInt8} {t : List UInt8} (h : w < (c :: t).length) (hc : c ≠ 48) : cutR w (c :: t) = none := by
  show (if _ then _ else _) = _
  rw [if_pos h, if_pos hc]
theorem cutR_step {w : Nat} {t : List UInt8} (h : w < (48 :: t : List UInt8).length) : cutR w (48 :: t) = cutR w t := by
  show (if _ then _ else _) = _
  rw [if_pos h, if_neg (fun h => h rfl)]
/-- the walk behind the reading of the constant -/
theorem bitsR_no {l : List UInt8} (h : spn dgQ l = 0 ∨ l.getD (spn dgQ l) 0 ≠ 39) : bitsR l = ([], 3) := by
  unfold bitsR; rw [if_pos h]
theorem bitsR_form {l : List UInt8} (h0 : ¬ (spn dgQ l = 0 ∨ l.getD (spn dgQ l) 0 ≠ 39)) (h : (conR l (spn dgQ l)).1 ≠ l.length) : bitsR l = ([], 3) := by
  unfold bitsR; rw [if_neg h0, if_pos h]
theorem bitsR_wide {l : List UInt8} (h0 : ¬ (spn dgQ l = 0 ∨ l.getD (spn dgQ l) 0 ≠ 39)) (h : (conR l (spn dgQ l)).1 = l.length) :
    bitsR l = if wR (stripR (l.take (spn dgQ l))) 0 < 1 ∨ 128 < wR (stripR (l.take (spn dgQ l))) 0 then ([], 8) else
      endR (wR (stripR (l.take (spn dgQ l))) 0) (padR ((conR l (spn dgQ l)).2.2.headD 0)) (rawR (conR l (spn dgQ l)).2.1 (conR l (spn dgQ l)).2.2) := by
  unfold bitsR; rw [if_neg h0, if_neg (fun h2 => h2 h)]; rfl
set_option maxRecDepth 20000 in
set_option maxHeartbeats 2000000 in
theorem refBitsQ_front (l : List UInt8) (w : World) (hl : l.length ≤ 1000) (h : spn dgQ l = 0 ∨ l.getD (spn dgQ l) 0 ≠ 39) :
    Calls Tryz.prog 14 #[.string (bsQ l)] w fun e w' => e = .returned (.tuple #[.string (bsQ (bitsR l).1), .int .i64 (bitsR l).2]) ∧ Below w.heap.size w w' := by
  have HV := hide (bitsR_no h)
  have hz := bsQ_size l
  have hnl := spn_le dgQ l
  have RD := hide (fun W : World => refDigitsQ_any l 0 W (by omega) (by omega))
  rw [List.drop_zero, Nat.zero_add] at RD
  have hg : ∀ (i : Nat) (h : i < (bsQ l).size) (h2 : i < l.length), (bsQ l)[i]'h = l.getD i 0 := fun i h h2 => by rw [bsQ_get l i h, getD_at h2]
  generalize spn dgQ l = n at *
  have Hg := hide (hg n)
  clear hg
  generalize l.getD n 0 = c at *
  generalize bsQ l = s at *
  by_cases h0 : n = 0
  · subst h0
    have RD := hide (fun W : World => show Calls Tryz.prog 40 #[.string s, .int .i64 0] W fun e w' => e = .returned (.int .i64 0) ∧ w' = W from RD.out W)
    clear hz h hnl
    go_enter Tryz.func14, Tryz.ntmps14
    go_wp2_with fail
    refine (RD.out _).mono ?_
    rintro e w1 ⟨rfl, rfl⟩
    go_wp2
    go_ret2
    exact ⟨retQ2 HV.out, Below.refl _ _⟩
  have n0 : ((n : Int) == 0) = false := beq_eq_false_iff_ne.2 (by omega)
  have RD := hide (fun W : World => show Calls Tryz.prog 40 #[.string s, .int .i64 0] W fun e w' => e = .returned (.int .i64 (n : Int)) ∧ w' = W from RD.out W)
  by_cases h1 : n < l.length
  · have hs1 : n < s.size := by omega
    have hc : s[n]'hs1 = c := Hg.out hs1 h1
    have q1 : ¬ (s.size : Int) ≤ (n : Int) := by omega
    have q2 : (n : Int) < (s.size : Int) := by omega
    have q3 : (0 : Int) ≤ (n : Int) := by omega
    have hc39 : c ≠ 39 := fun e => by rcases h with h | h; exact h0 h; exact h e
    have e1 : ((c.toNat : Int) == 39) = false := toNat_neQ (d := 39) hc39
    have e2 : ((c.toNat : Int) != 39) = true := by rw [bne, e1]; rfl
    clear hz h hnl h1 h0 hc39
    go_enter Tryz.func14, Tryz.ntmps14
    go_wp2_with fail
    refine (RD.out _).mono ?_
    rintro e w1 ⟨rfl, rfl⟩
    go_wp2
    go_ret2
    exact ⟨retQ2 HV.out, Below.refl _ _⟩
  · have q1 : (s.size : Int) ≤ (n : Int) := by omega
    clear hz h hnl h1 h0
    go_enter Tryz.func14, Tryz.ntmps14
    go_wp2_with fail
    refine (RD.out _).mono ?_
    rintro e w1 ⟨rfl, rfl⟩
    go_wp2
    go_ret2
    exact ⟨retQ2 HV.out, Below.refl _ _⟩
end Go.Proofs.YtjlpekjfmgcbdaaGreatDoor

/- Contract of the reference's Bits: the walk behind the constant. -/
set_option linter.unusedVariables false
set_option linter.unusedSimpArgs false
namespace Go.Proofs.YtjlpekjfmgcbdaaGreatDoor
open Go.RowKit Go.Shelf
theorem spn_mem8 {p : UInt8 → Bool} : ∀ (t : List UInt8), ∀ c ∈ t.take (spn p t), p c = true
  | [], c, h => by cases h
  | d :: t, c, h => by
    cases hp : p d with
    | false => rw [spn_no hp] at h; cases h
    | true =>
      rw [spn_yes hp, List.take_succ_cons] at h
      rcases List.mem_cons.1 h with rfl | h
      · exact hp
      · exact spn_mem8 t c h
theorem endR_some {w : Nat} {p : UInt8} {out m : List UInt8} (h : cutR w out = some m) : endR w p out = (List.replicate (w - m.length) p ++ m, 0) := by
  unfold endR; rw [h]
theorem endR_none {w : Nat} {p : UInt8} {out : List UInt8} (h : cutR w out = none) : endR w p out = ([], 8) := by
  unfold endR; rw [h]
set_option maxRecDepth 20000 in
set_option maxHeartbeats 8000000 in
theorem refBitsQ_form (l : List UInt8) (w : World) (hl : l.length ≤ 1000) (h0 : ¬ (spn dgQ l = 0 ∨ l.getD (spn dgQ l) 0 ≠ 39)) (h : (conR l (spn dgQ l)).1 ≠ l.length) :
    Calls Tryz.prog 14 #[.string (bsQ l)] w fun e w' => e = .returned (.tuple #[.string (bsQ (bitsR l).1), .int .i64 (bitsR l).2]) ∧ Below w.heap.size w w' := by
  have HV := hide (bitsR_form h0 h)
  have hz := bsQ_size l
  have hnl := spn_le dgQ l
  have h39 : l.getD (spn dgQ l) 0 = 39 := Classical.byContradiction fun h => h0 (.inr h)
  have hlt : spn dgQ l < l.length := by
    apply Classical.byContradiction
    intro h2
    rw [List.getD_eq_getElem?_getD, List.getElem?_eq_none (by omega)] at h39
    exact absurd h39 (by decide)
  have hn0 : spn dgQ l ≠ 0 := fun h => h0 (.inl h)
  have RD := hide (fun W : World => refDigitsQ_any l 0 W (by omega) (by omega))
  rw [List.drop_zero, Nat.zero_add] at RD
  have RC := hide (fun W : World => refConst_any l (spn dgQ l) W (by omega) (by omega))
  have hg : ∀ (i : Nat) (h : i < (bsQ l).size) (h2 : i < l.length), (bsQ l)[i]'h = l.getD i 0 := fun i h h2 => by rw [bsQ_get l i h, getD_at h2]
  obtain ⟨⟨E, b, ds⟩, hcon⟩ : ∃ p, conR l (spn dgQ l) = p := ⟨_, rfl⟩
  rw [hcon] at RC h
  clear hcon h0
  generalize spn dgQ l = n at *
  have hs1 : n < (bsQ l).size := by omega
  have hc := hg n hs1 hlt
  rw [h39] at hc
  have n0 : ((n : Int) == 0) = false := beq_eq_false_iff_ne.2 (by omega)
  have q1 : ¬ ((bsQ l).size : Int) ≤ (n : Int) := by omega
  have q2 : (n : Int) < ((bsQ l).size : Int) := by omega
  have q3 : (0 : Int) ≤ (n : Int) := by omega
  have h : E ≠ l.length := h
  have e1 : ((E : Int) == ((bsQ l).size : Int)) = false := beq_eq_false_iff_ne.2 (by omega)
  have e2 : ((E : Int) != ((bsQ l).size : Int)) = true := by rw [bne, e1]; rfl
  have RC := hide (fun W : World => show Calls Tryz.prog 41 #[.string (bsQ l), .int .i64 (n : Int)] W fun e w' => e = .returned (.tuple #[.int .i64 (E : Int), .int .u8 (b.toNat : Int), .string (bsQ ds)]) ∧ Below W.heap.size W w' from RC.out W)
  generalize bsQ ds = sd at *
  generalize bsQ l = s at *
  clear hg hz h hnl hlt hn0 h39
  go_enter Tryz.func14, Tryz.ntmps14
  go_wp2_with fail
  refine (RD.out _).mono ?_
  rintro e w1 ⟨rfl, rfl⟩
  go_wp2_with fail
  refine (RC.out _).mono ?_
  rintro e w2 ⟨rfl, hb⟩
  have Hb := hide hb
  clear hb
  go_wp2
  go_ret2
  exact ⟨retQ2 HV.out, Hb.out⟩
set_option maxRecDepth 20000 in
set_option maxHeartbeats 8000000 in
theorem refBitsQ_wide (l : List UInt8) (w : World) (hl : l.length ≤ 1000) (h0 : ¬ (spn dgQ l = 0 ∨ l.getD (spn dgQ l) 0 ≠ 39)) (h : (conR l (spn dgQ l)).1 = l.length) :
    Calls Tryz.prog 14 #[.string (bsQ l)] w fun e w' => e = .returned (.tuple #[.string (bsQ (bitsR l).1), .int .i64 (bitsR l).2]) ∧ Below w.heap.size w w' := by
  have hv := bitsR_wide h0 h
  have hz := bsQ_size l
  have hnl := spn_le dgQ l
  have h39 : l.getD (spn dgQ l) 0 = 39 := Classical.byContradiction fun h => h0 (.inr h)
  have hlt : spn dgQ l < l.length := by
    apply Classical.byContradiction
    intro h2
    rw [List.getD_eq_getElem?_getD, List.getElem?_eq_none (by omega)] at h39
    exact absurd h39 (by decide)
  have hn0 : spn dgQ l ≠ 0 := fun h => h0 (.inl h)
  have hok := ((conR_full l (spn dgQ l) h39 hlt).2 h)
  have RD := hide (fun W : World => refDigitsQ_any l 0 W (by omega) (by omega))
  rw [List.drop_zero, Nat.zero_add] at RD
  have RC := hide (fun W : World => refConst_any l (spn dgQ l) W (by omega) (by omega))
  have RS := hide (fun W : World => refStripQ_any (l.take (spn dgQ l)) W (by rw [List.length_take]; omega))
  have hg : ∀ (i : Nat) (h : i < (bsQ l).size) (h2 : i < l.length), (bsQ l)[i]'h = l.getD i 0 := fun i h h2 => by rw [bsQ_get l i h, getD_at h2]
  have hx : (bsQ l).extract 0 (spn dgQ l) = bsQ (l.take (spn dgQ l)) := bsQ_take l _
  have hDg : ∀ c ∈ stripR (l.take (spn dgQ l)), dgQ c = true := fun c hc => by
    have hc2 := stripR_mem _ c hc
    exact spn_mem8 l c hc2
  have hDl : (stripR (l.take (spn dgQ l))).length ≤ 1000 := by have := stripR_len (l.take (spn dgQ l)); rw [List.length_take] at this; omega
  obtain ⟨⟨E, b, ds⟩, hcon⟩ : ∃ p, conR l (spn dgQ l) = p := ⟨_, rfl⟩
  rw [hcon] at RC h hok hv
  have h : E = l.length := h
  obtain ⟨he, hok⟩ := hok
  have he : (b, ds) = _ := he
  cases he
  have hdl : (l.drop (spn dgQ l + 2)).length ≤ 1000 := by rw [List.length_drop]; omega
  generalize lowQ (l.getD (spn dgQ l + 1) 0) = b at *
  generalize l.drop (spn dgQ l + 2) = ds at *
  have RW := hide (fun W : World => refRaw_any b ds W hdl hok)
  have hol := rawR_len b ds hok hdl
  obtain ⟨c0, tl, rfl⟩ : ∃ c t, ds = c :: t := by
    cases ds with
    | nil => exact absurd hok.1 (by decide)
    | cons c t => exact ⟨c, t, rfl⟩
  replace hv : bitsR l = if wR (stripR (l.take (spn dgQ l))) 0 < 1 ∨ 128 < wR (stripR (l.take (spn dgQ l))) 0 then ([], 8) else endR (wR (stripR (l.take (spn dgQ l))) 0) (padR c0) (rawR b (c0 :: tl)) := hv
  have LW := hide (refLowerQ_any c0)
  have hpad := show padR c0 = if lowR c0 = 120 ∨ lowR c0 = 122 then lowR c0 else 48 from rfl
  generalize padR c0 = pd at *
  generalize rawR b (c0 :: tl) = out0 at *
  clear hcon h0 hok
  generalize stripR (l.take (spn dgQ l)) = D at *
  obtain ⟨sw, hsw⟩ : ∃ sw, bsQ (l.take (spn dgQ l)) = sw := ⟨_, rfl⟩
  rw [hsw] at RS hx
  clear hsw
  generalize spn dgQ l = n at *
  have hs1 : n < (bsQ l).size := by omega
  have hc := hg n hs1 hlt
  rw [h39] at hc
  have n0 : ((n : Int) == 0) = false := beq_eq_false_iff_ne.2 (by omega)
  have q1 : ¬ ((bsQ l).size : Int) ≤ (n : Int) := by omega
  have q2 : (n : Int) < ((bsQ l).size : Int) := by omega
  have q3 : (0 : Int) ≤ (n : Int) := by omega
  have q4 : (n : Int) ≤ ((bsQ l).size : Int) := by omega
  have e1 : ((E : Int) == ((bsQ l).size : Int)) = true := by rw [beq_iff_eq]; omega
  have e2 : ((E : Int) != ((bsQ l).size : Int)) = false := by rw [bne, e1]; rfl
  have RC := hide (fun W : World => show Calls Tryz.prog 41 #[.string (bsQ l), .int .i64 (n : Int)] W fun e w' => e = .returned (.tuple #[.int .i64 (E : Int), .int .u8 (b.toNat : Int), .string (bsQ (c0 :: tl))]) ∧ Below W.heap.size W w' from RC.out W)
  have hd0 : 0 < (bsQ (c0 :: tl)).size := by rw [bsQ_size]; exact Nat.zero_lt_succ _
  have hdc : (bsQ (c0 :: tl))[0]'hd0 = c0 := by rw [bsQ_get]; rfl
  generalize bsQ (c0 :: tl) = sd at *
  generalize bsQ l = s at *
  have hzD := bsQ_size D
  have hgD : ∀ (i : Nat) (h : i < (bsQ D).size) (h2 : i < D.length), (bsQ D)[i]'h = D[i] := fun i h h2 => bsQ_get D i h
  generalize bsQ D = sD at *
  have HgD := hide (fun (i : Nat) (h : i < sD.size) (h2 : i < D.length) => hgD i h h2)
  have HzD := hide hzD
  have HDg := hide hDg
  obtain ⟨Wd, hWd⟩ : ∃ Wd, wR D 0 = Wd := ⟨_, rfl⟩
  rw [hWd] at hv
  have HWd := hide hWd
  have HV := hide hv
  clear hg hz h hnl hlt hn0 h39 hgD hzD hDg hWd hv
  go_enter Tryz.func14, Tryz.ntmps14
  go_wp2_with fail
  refine (RD.out _).mono ?_
  rintro e w1 ⟨rfl, rfl⟩
  go_wp2_with fail
  refine (RC.out _).mono ?_
  rintro e w2 ⟨rfl, hb⟩
  have Hb := hide hb
  clear hb
  go_wp2_with fail
  refine (RS.out _).mono ?_
  rintro e w3 ⟨rfl, rfl⟩
  go_wp2_with fail
  go_loop [9, 10] (fun v9 v10 => ∃ i v : Nat, v10 = .int .i64 (i : Int) ∧ v9 = .int .i64 (v : Int) ∧ i ≤ D.length ∧ v ≤ 1289 ∧ Hid (wR (D.drop i) v = Wd)) (fun _ v => D.length - (intOf v).toNat)
  case atStart => exact ⟨0, 0, rfl, rfl, Nat.zero_le _, Nat.zero_le _, hide (by rw [List.drop_zero]; exact HWd.out)⟩
  case round =>
    obtain ⟨i, v, rfl, rfl, hi, hv, HI⟩ := hrel
    by_cases hlt : i < D.length
    · have hi' : (i : Int) < (sD.size : Int) := by have := HzD.out; omega
      have hdr := List.drop_eq_getElem_cons hlt
      by_cases hv128 : v ≤ 128
      · have q5 : (v : Int) ≤ 128 := by omega
        have hi0 : (0 : Int) ≤ (i : Int) := by omega
        have his : i < sD.size := by omega
        have hwi : IntKind.i64.wrap ((i : Int) + 1) = (i : Int) + 1 := IntWalk.i64_in _ (by omega)
        have hcd := HDg.out _ (List.getElem_mem hlt)
        obtain ⟨c, hc⟩ : ∃ c, D[i]'hlt = c := ⟨_, rfl⟩
        rw [hc] at hcd hdr
        have hsc : sD[i]'his = c := by rw [HgD.out i his hlt, hc]
        have hb2 : 48 ≤ c.toNat ∧ c.toNat ≤ 57 := of_decide_eq_true hcd
        obtain ⟨d, hd⟩ : ∃ d, c.toNat - 48 = d := ⟨_, rfl⟩
        have hcI : (c.toNat : Int) - 48 = (d : Int) := by omega
        have hd9 : d ≤ 9 := by omega
        have w1 : IntKind.u8.wrap (d : Int) = (d : Int) := by rw [IntKind.wrap_u8]; omega
        have w2 : IntKind.i64.wrap (d : Int) = (d : Int) := IntWalk.i64_in _ (by omega)
        have w3 : IntKind.i64.wrap (10 * (v : Int)) = 10 * (v : Int) := IntWalk.i64_in _ (by omega)
        have w4 : IntKind.i64.wrap (10 * (v : Int) + (d : Int)) = 10 * (v : Int) + (d : Int) := IntWalk.i64_in _ (by omega)
        have HN := hide (show wR (D.drop (i + 1)) (10 * v + d) = Wd by
          rw [← HI.out, hdr]
          conv => rhs; unfold wR
          rw [if_pos hv128, hd])
        clear hc hcd hdr hb2 hd hv128
        go_wp2
        go_round
        case rel => exact ⟨i + 1, 10 * v + d, by go_num, by go_num, by omega, by omega, HN⟩
        case measure => simp [intOf]; omega
      · have q5 : ¬ (v : Int) ≤ 128 := by omega
        have hvW : v = Wd := by
          rw [← HI.out, hdr]
          unfold wR
          rw [if_neg hv128]
        have q6 : ¬ (v : Int) < 1 := by omega
        have q7 : (128 : Int) < (v : Int) := by omega
        have HV2 := hide (show bitsR l = ([], 8) by rw [HV.out, if_pos (.inr (by omega))])
        clear hdr hv128 hvW
        go_wp2
        go_ret2
        exact ⟨retQ2 HV2.out, Hb.out⟩
    · have hi' : ¬ (i : Int) < (sD.size : Int) := by have := HzD.out; omega
      have hvW : v = Wd := by
        rw [← HI.out, List.drop_eq_nil_of_le (by omega)]; rfl
      subst hvW
      by_cases c1 : v < 1
      · have q6 : (v : Int) < 1 := by omega
        have HV2 := hide (show bitsR l = ([], 8) by rw [HV.out, if_pos (.inl c1)])
        clear c1
        go_wp2
        go_ret2
        exact ⟨retQ2 HV2.out, Hb.out⟩
      have q6 : ¬ (v : Int) < 1 := by omega
      by_cases c2 : 128 < v
      · have q7 : (128 : Int) < (v : Int) := by omega
        have HV2 := hide (show bitsR l = ([], 8) by rw [HV.out, if_pos (.inr c2)])
        clear c1 c2
        go_wp2
        go_ret2
        exact ⟨retQ2 HV2.out, Hb.out⟩
      have q7 : ¬ (128 : Int) < (v : Int) := by omega
      have HV2 := hide (show bitsR l = endR v pd out0 by rw [HV.out, if_neg (by omega)])
      clear c1 HV HI HWd
      go_wp2_with fail
      refine (RW.out _).mono ?_
      rintro e w4 ⟨rfl, hb⟩
      have Hb4 := hide (Hb.out.trans (hb.mono Hb.out.size))
      clear hb
      obtain ⟨R, hR⟩ : ∃ R, cutR v out0 = R := ⟨_, rfl⟩
      have HR := hide hR
      clear hR
      go_wp2_with fail
      go_loop [11] (fun x => ∃ m : List UInt8, x = .string (bsQ m) ∧ m.length ≤ 4000 ∧ Hid (cutR v m = R)) (fun v => match v with | .string b => b.size | _ => 0)
      case atStart => exact ⟨out0, rfl, hol, HR⟩
      case round =>
        obtain ⟨m, rfl, hml, HM⟩ := hrel
        have hzm := bsQ_size m
        by_cases hlt : v < m.length
        · obtain ⟨c, r, rfl⟩ : ∃ c r, m = c :: r := by
            cases m with
            | nil => exact absurd hlt (Nat.not_lt_zero _)
            | cons c t => exact ⟨c, t, rfl⟩
          have q8 : (v : Int) < ((bsQ (c :: r)).size : Int) := by omega
          have hs0 : 0 < (bsQ (c :: r)).size := by omega
          have hsc : (bsQ (c :: r))[0]'hs0 = c := by rw [bsQ_get]; rfl
          by_cases h48 : c = 48
          · subst h48
            have x1 : (bsQ (48 :: r)).extract 1 (bsQ (48 :: r)).size = bsQ r := bsQ_drop (48 :: r) 1
            have HN := hide (show cutR v r = R by rw [← HM.out, cutR_step hlt])
            have hz2 := bsQ_size r
            have hrl : r.length ≤ 4000 := by rw [List.length_cons] at hml; omega
            have hsz : (bsQ r).size + 1 = (bsQ (48 :: r)).size := by rw [hzm, hz2]; rfl
            obtain ⟨t2, ht2⟩ : ∃ t2, bsQ r = t2 := ⟨_, rfl⟩
            rw [ht2] at x1 hsz
            have HT := hide ht2
            have Hsz := hide hsz
            have HL := hide hrl
            clear hsz hrl
            generalize bsQ (48 :: r) = t at *
            have k1 : (1 : Int) ≤ (t.size : Int) := by omega
            clear hzm hml hz2 ht2 hlt
            go_wp2
            go_round
            case rel => exact ⟨r, by rw [HT.out], HL.out, HN⟩
            case measure => have := Hsz.out; simp; omega
          · have e3 : ((c.toNat : Int) == 48) = false := toNat_neQ (d := 48) h48
            have e4 : ((c.toNat : Int) != 48) = true := by rw [bne, e3]; rfl
            have HV3 := hide (show bitsR l = ([], 8) by rw [HV2.out, endR_none (by rw [HR.out, ← HM.out, cutR_fail hlt h48])])
            generalize bsQ (c :: r) = t at *
            clear hzm hml h48 hlt
            go_wp2
            go_ret2
            exact ⟨retQ2 HV3.out, Hb4.out⟩
        · have q8 : ¬ (v : Int) < ((bsQ m).size : Int) := by omega
          have hend := endR_some (p := pd) (show cutR v out0 = some m by rw [HR.out, ← HM.out, cutR_stop hlt])
          obtain ⟨k, hk⟩ : ∃ k, v - m.length = k := ⟨_, rfl⟩
          rw [hk] at hend
          have HV3 := hide (show bitsR l = (List.replicate k pd ++ m, 0) by rw [HV2.out, hend])
          have hkI : (v : Int) - ((bsQ m).size : Int) = (k : Int) := by omega
          have hk128 : k ≤ 128 := by omega
          have wk : IntKind.i64.wrap (k : Int) = (k : Int) := IntWalk.i64_in _ (by omega)
          have y : ∀ W' : World, (Op.stringOp .add (bsQ (List.replicate k pd)) (bsQ m)).run Tryz.prog W' = .ok (.string (bsQ (List.replicate k pd ++ m))) W' := fun W' => catQ _ _ (by rw [List.length_replicate]; omega) W'
          have RP := hide (fun W' : World => refRepeatQ_any pd (k : Int) W' (by omega))
          rw [show ((k : Int)).toNat = k from rfl] at RP
          clear HV2 HM HR hend hk hlt hzm hml
          generalize List.replicate k pd ++ m = RES at *
          generalize bsQ (List.replicate k pd) = srp at *
          generalize bsQ m = sm at *
          by_cases x1 : lowR c0 = 120
          · have hp : pd = 120 := by rw [hpad, if_pos (.inl x1), x1]
            subst hp
            rw [x1] at LW
            clear hpad x1
            go_wp2_with fail
            refine (LW.out _).mono ?_
            rintro e w5 ⟨rfl, rfl⟩
            go_wp2_with fail
            refine (RP.out _).mono ?_
            rintro e w6 ⟨rfl, hb⟩
            have Hb6 := hide (Hb4.out.trans (hb.mono Hb4.out.size))
            clear hb
            go_wp2
            go_ret2
            exact ⟨retQ2 HV3.out, Hb6.out⟩
          by_cases x2 : lowR c0 = 122
          · have hp : pd = 122 := by rw [hpad, if_pos (.inr x2), x2]
            subst hp
            rw [x2] at LW
            clear hpad x1 x2
            go_wp2_with fail
            refine (LW.out _).mono ?_
            rintro e w5 ⟨rfl, rfl⟩
            go_wp2_with fail
            refine (RP.out _).mono ?_
            rintro e w6 ⟨rfl, hb⟩
            have Hb6 := hide (Hb4.out.trans (hb.mono Hb4.out.size))
            clear hb
            go_wp2
            go_ret2
            exact ⟨retQ2 HV3.out, Hb6.out⟩
          have hp : pd = 48 := by rw [hpad, if_neg (by rintro (h | h); exact x1 h; exact x2 h)]
          subst hp
          have e3 : (((lowR c0).toNat : Int) == 120) = false := toNat_neQ (d := 120) x1
          have e4 : (((lowR c0).toNat : Int) == 122) = false := toNat_neQ (d := 122) x2
          generalize lowR c0 = lc at *
          clear hpad x1 x2
          go_wp2_with fail
          refine (LW.out _).mono ?_
          rintro e w5 ⟨rfl, rfl⟩
          go_wp2_with fail
          refine (RP.out _).mono ?_
          rintro e w6 ⟨rfl, hb⟩
          have Hb6 := hide (Hb4.out.trans (hb.mono Hb4.out.size))
          clear hb
          go_wp2
          go_ret2
          exact ⟨retQ2 HV3.out, Hb6.out⟩
theorem refBitsQ_any (l : List UInt8) (w : World) (hl : l.length ≤ 1000) :
    Calls Tryz.prog 14 #[.string (bsQ l)] w fun e w' => e = .returned (.tuple #[.string (bsQ (bitsQ l).1), .int .i64 (bitsQ l).2]) ∧ Below w.heap.size w w' := by
  rw [← bitsR_eq]
  by_cases h0 : spn dgQ l = 0 ∨ l.getD (spn dgQ l) 0 ≠ 39
  · exact refBitsQ_front l w hl h0
  · by_cases h : (conR l (spn dgQ l)).1 = l.length
    · exact refBitsQ_wide l w hl h0 h
    · exact refBitsQ_form l w hl h0 h
end Go.Proofs.YtjlpekjfmgcbdaaGreatDoor
