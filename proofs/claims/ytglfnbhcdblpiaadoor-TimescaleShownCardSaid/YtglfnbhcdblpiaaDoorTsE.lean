/- Contracts of timescale.Show, Format. -/
import Derived.Test.YtglfnbhcdblpiaaDoorTsD
import Derived.Lib.ItoaLen
set_option linter.unusedVariables false
namespace Go.Proofs.YtglfnbhcdblpiaaDoor
open Go.RowKit Go.Shelf Go.Sort

theorem Below_grown {w : World} (k : Nat) (os : Array Obj) : Below w.heap.size w (grow (w.drewN k) os) :=
  ⟨rfl, rfl, rfl, by simp [grow, World.drewN], fun j hj => by simp [grow, World.drewN, Array.getElem?_append, hj]⟩
theorem ret_s {a b : ByteArray} (h : a = b) : Ending.returned (.string b) = .returned (.string a) := by rw [h]
/-- a number in decimal -/
def decB (n : Int) : ByteArray := ⟨(Lib.itoa n).toArray⟩
/-- the factor of a scale -/
def facS (s : Int) : Int := p10 (s + 3 * (unitIx s : Int)).toNat
/-- the text of a time -/
def showS (t s : Int) : ByteArray := if validB s && decide (0 ≤ t ∧ t ≤ 1099511627776) then decB (t * facS s) ++ ⟨#[32]⟩ ++ uname (unitIx s) else ⟨#[]⟩

theorem itoa_any (n : Int) (w : World) (h0 : 0 ≤ n) (h1 : n ≤ 999999999999999) (hg : Gl w) :
    Calls Tryd.prog 36 #[.int .i64 n] w fun e w' => e = .returned (.string (decB n)) ∧ Below w.heap.size w w' := by
  refine (Tryd.strconv_Itoa n (by omega) (by omega) w hg.tab).mono ?_
  rintro e w' ⟨rfl, k, os, rfl⟩
  exact ⟨rfl, Below_grown _ _⟩

theorem decB_size (n : Int) (h0 : 0 ≤ n) (h1 : n ≤ 999999999999999) : (decB n).size ≤ 21 := by
  have := Lib.itoa_length_le n (by omega) (by omega)
  show (Lib.itoa n).toArray.size ≤ 21
  simpa using this
theorem uname_size (i : Nat) : (uname i).size ≤ 2 := by
  unfold uname
  rcases i with _ | _ | _ | _ | _ | _ | i <;> first | decide | exact Nat.zero_le 2
theorem cat_run {P : Program} (a b : ByteArray) (h : a.size + b.size ≤ 1000) (w : World) : (Op.stringOp .add a b).run P w = .ok (.string (a ++ b)) w := run_string_add_sum w _ _ (by omega)
theorem fac_lt (s : Int) (h1 : -15 ≤ s) (h2 : s ≤ 2) : (s + 3 * (unitIx s : Int)).toNat ≤ 2 ∧ ((s + 3 * (unitIx s : Int)).toNat : Int) = s + 3 * (unitIx s : Int) := by
  obtain ⟨_, u2, u3, _⟩ := unitIx_spec s h1 h2
  omega
theorem fac_le (s : Int) (h1 : -15 ≤ s) (h2 : s ≤ 2) : 1 ≤ facS s ∧ facS s ≤ 100 := by
  have := p10_mono (fac_lt s h1 h2).1
  have e : p10 2 = 100 := by decide +kernel
  have := p10_pos (s + 3 * (unitIx s : Int)).toNat
  unfold facS
  omega

set_option maxHeartbeats 1000000 in
theorem Show_any (t s : Int) (w : World) (ht1 : -9223372036854775808 ≤ t) (ht2 : t ≤ 9223372036854775807) (hg : Gl w) :
    Calls Tryd.prog 23 #[.int .i64 t, .int .i64 s] w fun e w' => e = .returned (.string (showS t s)) ∧ Below w.heap.size w w' := by
  have V := hide (fun W : World => Valid_any s W)
  cases hv : validB s with
  | false =>
    have hS : showS t s = ⟨#[]⟩ := by unfold showS; rw [hv]; rfl
    rw [hv] at V
    rw [hS]
    clear hS hv
    go_enter Tryd.func23, Tryd.ntmps23
    go_wp2_with fail
    refine (V.out _).mono ?_
    rintro e w1 ⟨rfl, rfl⟩
    go_wp2
    go_ret
    exact ⟨rfl, Below.refl _ _⟩
  | true =>
    rw [hv] at V
    have hr : -15 ≤ s ∧ s ≤ 2 := by simpa [validB] using hv
    by_cases hb : 0 ≤ t ∧ t ≤ 1099511627776
    · obtain ⟨f1, f2⟩ := fac_le s hr.1 hr.2
      obtain ⟨k1, k2⟩ := fac_lt s hr.1 hr.2
      have U := hide (fun W : World => unitOf_any s W hr.1 hr.2)
      have hS : showS t s = decB (t * facS s) ++ ⟨#[32]⟩ ++ uname (unitIx s) := by unfold showS; rw [hv, Bool.true_and, decide_eq_true hb, if_pos rfl]
      have hm : t * facS s ≤ 999999999999999 ∧ 0 ≤ t * facS s := by
        refine ⟨Int.le_trans (Int.mul_le_mul hb.2 f2 (by omega) (by omega)) (by omega), Int.mul_nonneg hb.1 (by omega)⟩
      have hw2 : IntKind.i64.wrap (t * facS s) = t * facS s := IntWalk.i64_in _ (by omega)
      have hw1 : -15 ≤ s + 3 * (unitIx s : Int) ∧ s + 3 * (unitIx s : Int) ≤ 2 := by omega
      have T := hide (fun W : World => ten_i (s + 3 * (unitIx s : Int)) (s + 3 * (unitIx s : Int)).toNat k2.symm (by omega) W)
      have I := hide (fun (W : World) (h : Gl W) => itoa_any (t * facS s) W hm.2 hm.1 h)
      rw [hS]
      have z1 := decB_size (t * facS s) hm.2 hm.1
      have z2 := uname_size (unitIx s)
      have c1 := fun W => cat_run (P := Tryd.prog) (decB (t * facS s)) ⟨#[32]⟩ (by show _ + 1 ≤ _; omega) W
      have c2 := fun W => cat_run (P := Tryd.prog) (decB (t * facS s) ++ ⟨#[32]⟩) (uname (unitIx s)) (by rw [ByteArray.size_append]; show _ + 1 + _ ≤ _; omega) W
      clear z1 z2
      have hfd : facS s = p10 (s + 3 * (unitIx s : Int)).toNat := rfl
      rw [← hfd] at T
      generalize facS s = f at *
      generalize (s + 3 * (unitIx s : Int)).toNat = n at hfd T k1 k2
      generalize uname (unitIx s) = nm at *
      generalize (unitIx s : Int) = x at *
      have h1 : ¬ t < 0 := by omega
      have h2 : ¬ 1099511627776 < t := by omega
      have G := hide hg
      clear hS hv hfd hm hb hg
      go_enter Tryd.func23, Tryd.ntmps23
      go_wp2_with fail
      refine (V.out _).mono ?_
      rintro e w1 ⟨rfl, rfl⟩
      go_wp2_with fail
      refine (U.out _).mono ?_
      rintro e w2 ⟨rfl, hb2⟩
      have HB := hide hb2
      clear hb2
      go_wp2_with fail
      have hw3 : ∃ w3, w2.alloc (Obj.cells #[Value.string nm, Value.int IntKind.i64 (-(3 * x))] 51) = w3 := ⟨_, rfl⟩
      obtain ⟨w3, hw3⟩ := hw3
      rw [hw3]
      have hrow : Row w3 w2.heap.size 51 #[Value.string nm, Value.int IntKind.i64 (-(3 * x))] := hw3 ▸ Row.new _ _ _
      have hb3 : Below w1.heap.size w1 w3 := hw3 ▸ HB.out.alloc HB.out.size _
      have G2 := G.out.below hb3
      have H3 := hide hb3
      have cT : ∀ d os, Calls Tryd.prog 37 #[.int .i64 (s + 3 * x)] (grow (redrawn w3 d) os) fun e w'' => e = .returned (.int .i64 f) ∧ ∃ p : Regrown, w'' = grow (redrawn w3 p.d) p.os := fun d os => Calls.regrown_of (T.out _)
      have cI : ∀ d os, Calls Tryd.prog 36 #[.int .i64 (t * f)] (grow (redrawn w3 d) os) fun e w'' => e = .returned (.string (decB (t * f))) ∧ ∃ p : Regrown, w'' = grow (redrawn w3 p.d) p.os := fun d os => Calls.regrown_of (I.out _ (G2.below (below_regrown w3 d os)))
      have g1 : ∀ d os, (grow (redrawn w3 d) os).cell? ⟨w2.heap.size, 0, none⟩ = some (.string nm) := fun d os => cell_regrown (hrow.cell 0) d os
      have g2 : ∀ d os, (grow (redrawn w3 d) os).cell? ⟨w2.heap.size, 1, none⟩ = some (.int .i64 (-(3 * x))) := fun d os => cell_regrown (hrow.cell 1) d os
      have CT := hide cT
      have CI := hide cI
      clear cT cI G2 hw3 hrow hb3
      refine wp_region_quiet_below (by kernel_rfl) (by kernel_rfl) ?_
      repeat (go_big_quiet_step (first | with_reducible exact CT.out _ _ | with_reducible exact CI.out _ _))
      refine wpQuiet_nil ?_
      intro _ hw'
      obtain ⟨⟨dq, osq⟩, hw''⟩ := hw'
      subst hw''
      go_wp2
      go_ret
      exact ⟨rfl, H3.out.trans ((below_regrown w3 dq osq).mono H3.out.size)⟩
    · have hS : showS t s = ⟨#[]⟩ := by unfold showS; rw [hv, Bool.true_and, decide_eq_false hb]; rfl
      rw [hS]
      clear hS hv
      go_enter Tryd.func23, Tryd.ntmps23
      by_cases h1 : t < 0
      · go_wp2_with fail
        refine (V.out _).mono ?_
        rintro e w1 ⟨rfl, rfl⟩
        go_wp2
        go_ret
        exact ⟨rfl, Below.refl _ _⟩
      · have h2 : 1099511627776 < t := by omega
        go_wp2_with fail
        refine (V.out _).mono ?_
        rintro e w1 ⟨rfl, rfl⟩
        go_wp2
        go_ret
        exact ⟨rfl, Below.refl _ _⟩

/-- the text of a scale -/
def formatS (s : Int) : ByteArray := if validB s then decB (facS s) ++ ⟨#[32]⟩ ++ uname (unitIx s) else ⟨#[]⟩
theorem format_show (s : Int) : showS 1 s = formatS s := by
  unfold showS formatS
  rw [show decide ((0 : Int) ≤ 1 ∧ (1 : Int) ≤ 1099511627776) = true by decide, Bool.and_true, Int.one_mul]
theorem Format_any (s : Int) (w : World) (hg : Gl w) :
    Calls Tryd.prog 15 #[.int .i64 s] w fun e w' => e = .returned (.string (formatS s)) ∧ Below w.heap.size w w' := by
  have V := hide (fun W : World => Valid_any s W)
  have S := hide (fun (W : World) (h : Gl W) => Show_any 1 s W (by omega) (by omega) h)
  rw [format_show] at S
  have G := hide hg
  clear hg
  cases hv : validB s with
  | false =>
    have hS : formatS s = ⟨#[]⟩ := by unfold formatS; rw [hv]; rfl
    rw [hv] at V
    rw [hS]
    clear hS hv
    go_enter Tryd.func15, Tryd.ntmps15
    go_wp2_with fail
    refine (V.out _).mono ?_
    rintro e w1 ⟨rfl, rfl⟩
    go_wp2
    go_ret
    exact ⟨rfl, Below.refl _ _⟩
  | true =>
    rw [hv] at V
    go_enter Tryd.func15, Tryd.ntmps15
    go_wp2_with fail
    refine (V.out _).mono ?_
    rintro e w1 ⟨rfl, rfl⟩
    go_wp2_with fail
    refine (S.out _ G.out).mono ?_
    rintro e w2 ⟨rfl, hb⟩
    have HB := hide hb
    clear hb
    go_wp2
    go_ret
    exact ⟨rfl, HB.out⟩
end Go.Proofs.YtglfnbhcdblpiaaDoor
