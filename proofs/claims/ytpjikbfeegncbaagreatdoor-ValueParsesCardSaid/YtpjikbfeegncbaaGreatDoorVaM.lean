/- Contract of value's of. -/
import Derived.Test.YtpjikbfeegncbaaGreatDoorVaL
import Derived.StillTailTactics
import Derived.Laws.EntriesVeiled
set_option linter.unusedVariables false
set_option linter.unusedSimpArgs false
namespace Go.Proofs.YtpjikbfeegncbaaGreatDoor
open Go.RowKit Go.Shelf Go.Sort

/-- the cells of no kind -/
def kindZ : Array Value := #[.int .i64 0, .int .i64 0, .nilFunc, .nilFunc, .nilFunc, .nilFunc, .string ⟨#[]⟩]
def okW (k : Nat) (wd : Int) : Bool := if k = 0 then decide (1 ≤ wd ∧ wd ≤ 128) else decide (wd = 0)
def OfPost (n wd : Int) (B : Nat) (w : World) (e : Ending) (w' : World) : Prop :=
  Below B w w' ∧ ((∃ (k p : Nat), n = (k : Int) ∧ k < 4 ∧ e = .returned (.tuple #[.agg (kindA k p), .bool (okW k wd)]) ∧ Row w' p 9 #[.string (kindS k)] ∧ B ≤ p) ∨ ((n < 0 ∨ 4 ≤ n) ∧ e = .returned (.tuple #[.agg kindZ, .bool false])))
set_option maxRecDepth 20000 in
set_option maxHeartbeats 16000000 in
theorem of_any (n wd : Int) (w : World) :
    Calls Tryz.prog 29 #[.int .i64 n, .int .i64 wd] w (OfPost n wd w.heap.size w) := by
  have KD := hide (fun W : World => kinds_any W)
  have R0 := hide (Row.new w 45 kindZ)
  have B0 := hide ((Below.refl w.heap.size w).alloc (Nat.le_refl _) (.cells kindZ 45))
  go_enter Tryz.func29, Tryz.ntmps29
  go_wp2_with fail
  refine (KD.out _).mono ?_
  rintro e w1 ⟨rfl, k1, k2, k3, k4, hb⟩
  simp only [World.size_alloc] at k1 k2 k3 k4
  rw [World.size_alloc]
  obtain ⟨p1, hp1⟩ : ∃ p, w.heap.size + 1 = p := ⟨_, rfl⟩
  have hpw : w.heap.size ≤ p1 := by omega
  rw [hp1] at k1 k2 k3 k4 ⊢
  have K1 := hide k1
  have K2 := hide k2
  have K3 := hide k3
  have K4 := hide k4
  have B1 := hide (B0.out.trans (hb.mono B0.out.size))
  have R1 := hide (R0.out.below hb R0.out.lt)
  clear k1 k2 k3 k4 hb R0 B0 KD
  have z0 : w1.cell? ⟨w.heap.size, 0, none⟩ = some (.int .i64 0) := R1.out.cell 0
  have f0 : w1.frozen? ⟨w.heap.size, 0, none⟩ = false := R1.out.frozen 0
  have z1 : w1.cell? ⟨w.heap.size, 1, none⟩ = some (.int .i64 0) := R1.out.cell 1
  have f1 : w1.frozen? ⟨w.heap.size, 1, none⟩ = false := R1.out.frozen 1
  have z2 : w1.cell? ⟨w.heap.size, 2, none⟩ = some (.nilFunc) := R1.out.cell 2
  have f2 : w1.frozen? ⟨w.heap.size, 2, none⟩ = false := R1.out.frozen 2
  have z3 : w1.cell? ⟨w.heap.size, 3, none⟩ = some (.nilFunc) := R1.out.cell 3
  have f3 : w1.frozen? ⟨w.heap.size, 3, none⟩ = false := R1.out.frozen 3
  have z4 : w1.cell? ⟨w.heap.size, 4, none⟩ = some (.nilFunc) := R1.out.cell 4
  have f4 : w1.frozen? ⟨w.heap.size, 4, none⟩ = false := R1.out.frozen 4
  have z5 : w1.cell? ⟨w.heap.size, 5, none⟩ = some (.nilFunc) := R1.out.cell 5
  have f5 : w1.frozen? ⟨w.heap.size, 5, none⟩ = false := R1.out.frozen 5
  have z6 : w1.cell? ⟨w.heap.size, 6, none⟩ = some (.string ⟨#[]⟩) := R1.out.cell 6
  have f6 : w1.frozen? ⟨w.heap.size, 6, none⟩ = false := R1.out.frozen 6
  rcases Classical.em (n < 0) with hn | hn
  · skip
    have HRow := hide (show Row (((((((w1.setCell ⟨w.heap.size, 0, none⟩ (.int .i64 0)).setCell ⟨w.heap.size, 1, none⟩ (.int .i64 0)).setCell ⟨w.heap.size, 2, none⟩ (.nilFunc)).setCell ⟨w.heap.size, 3, none⟩ (.nilFunc)).setCell ⟨w.heap.size, 4, none⟩ (.nilFunc)).setCell ⟨w.heap.size, 5, none⟩ (.nilFunc)).setCell ⟨w.heap.size, 6, none⟩ (.string ⟨#[]⟩)) w.heap.size 45 #[.int .i64 0, .int .i64 0, .nilFunc, .nilFunc, .nilFunc, .nilFunc, .string ⟨#[]⟩] from (((((((R1.out.set_ 0 (.int .i64 0)).set_ 1 (.int .i64 0)).set_ 2 (.nilFunc)).set_ 3 (.nilFunc)).set_ 4 (.nilFunc)).set_ 5 (.nilFunc)).set_ 6 (.string ⟨#[]⟩)))
    have HBel := hide (((((((B1.out.setCell (p := ⟨w.heap.size, 0, none⟩) (Nat.le_refl _) (.int .i64 0)).setCell (p := ⟨w.heap.size, 1, none⟩) (Nat.le_refl _) (.int .i64 0)).setCell (p := ⟨w.heap.size, 2, none⟩) (Nat.le_refl _) (.nilFunc)).setCell (p := ⟨w.heap.size, 3, none⟩) (Nat.le_refl _) (.nilFunc)).setCell (p := ⟨w.heap.size, 4, none⟩) (Nat.le_refl _) (.nilFunc)).setCell (p := ⟨w.heap.size, 5, none⟩) (Nat.le_refl _) (.nilFunc)).setCell (p := ⟨w.heap.size, 6, none⟩) (Nat.le_refl _) (.string ⟨#[]⟩))
    go_wp2
    exact bodyPost_ret (v := .tuple #[.agg #[.int .i64 0, .int .i64 0, .nilFunc, .nilFunc, .nilFunc, .nilFunc, .string ⟨#[]⟩], .bool false]) (results_row_tmp rfl _ _ w.heap.size 45 _ _ _ (.bool false) rfl rfl HRow.out Tryz.underlying45 rfl (by kernel_rfl)) rfl ⟨HBel.out, .inr ⟨.inl hn, rfl⟩⟩
  rcases Classical.em (4 ≤ n) with h4n | h4n
  · skip
    have HRow := hide (show Row (((((((w1.setCell ⟨w.heap.size, 0, none⟩ (.int .i64 0)).setCell ⟨w.heap.size, 1, none⟩ (.int .i64 0)).setCell ⟨w.heap.size, 2, none⟩ (.nilFunc)).setCell ⟨w.heap.size, 3, none⟩ (.nilFunc)).setCell ⟨w.heap.size, 4, none⟩ (.nilFunc)).setCell ⟨w.heap.size, 5, none⟩ (.nilFunc)).setCell ⟨w.heap.size, 6, none⟩ (.string ⟨#[]⟩)) w.heap.size 45 #[.int .i64 0, .int .i64 0, .nilFunc, .nilFunc, .nilFunc, .nilFunc, .string ⟨#[]⟩] from (((((((R1.out.set_ 0 (.int .i64 0)).set_ 1 (.int .i64 0)).set_ 2 (.nilFunc)).set_ 3 (.nilFunc)).set_ 4 (.nilFunc)).set_ 5 (.nilFunc)).set_ 6 (.string ⟨#[]⟩)))
    have HBel := hide (((((((B1.out.setCell (p := ⟨w.heap.size, 0, none⟩) (Nat.le_refl _) (.int .i64 0)).setCell (p := ⟨w.heap.size, 1, none⟩) (Nat.le_refl _) (.int .i64 0)).setCell (p := ⟨w.heap.size, 2, none⟩) (Nat.le_refl _) (.nilFunc)).setCell (p := ⟨w.heap.size, 3, none⟩) (Nat.le_refl _) (.nilFunc)).setCell (p := ⟨w.heap.size, 4, none⟩) (Nat.le_refl _) (.nilFunc)).setCell (p := ⟨w.heap.size, 5, none⟩) (Nat.le_refl _) (.nilFunc)).setCell (p := ⟨w.heap.size, 6, none⟩) (Nat.le_refl _) (.string ⟨#[]⟩))
    go_wp2
    exact bodyPost_ret (v := .tuple #[.agg #[.int .i64 0, .int .i64 0, .nilFunc, .nilFunc, .nilFunc, .nilFunc, .string ⟨#[]⟩], .bool false]) (results_row_tmp rfl _ _ w.heap.size 45 _ _ _ (.bool false) rfl rfl HRow.out Tryz.underlying45 rfl (by kernel_rfl)) rfl ⟨HBel.out, .inr ⟨.inr h4n, rfl⟩⟩
  have hn4 : n = 0 ∨ n = 1 ∨ n = 2 ∨ n = 3 := by omega
  rcases hn4 with rfl | rfl | rfl | rfl
  · skip
    have c0 : w1.cell? ⟨p1 + 3, 0, none⟩ = some (.int .i64 1) := K1.out.cell 0
    have c1 : w1.cell? ⟨p1 + 3, 1, none⟩ = some (.int .i64 128) := K1.out.cell 1
    have c2 : w1.cell? ⟨p1 + 3, 2, none⟩ = some (fnV 78) := K1.out.cell 2
    have c3 : w1.cell? ⟨p1 + 3, 3, none⟩ = some (fnV 79) := K1.out.cell 3
    have c4 : w1.cell? ⟨p1 + 3, 4, none⟩ = some (fnV 81) := K1.out.cell 4
    have c5 : w1.cell? ⟨p1 + 3, 5, none⟩ = some (fnV 82) := K1.out.cell 5
    have c6 : w1.cell? ⟨p1 + 3, 6, none⟩ = some (.string ⟨#[98]⟩) := K1.out.cell 6
    unfold fnV at *
    rcases Classical.em (wd < 1) with hw | hw
    · skip
      have hne1 : ¬ w.heap.size = p1 + 3 := by omega
      have hne2 : ¬ p1 + 3 = w.heap.size := by omega
      have hw1 : ¬ 1 ≤ wd := by omega
      have hd1 : decide ((1 : Int) ≤ wd) = false := by first | exact decide_eq_true hw1 | exact decide_eq_false hw1
      go_upto_region 4 with fail
      refine wp_region_held_drew (S := fun w' => w'.cell? ⟨p1 + 3, 0, none⟩ = some (.int .i64 1) ∧ w'.cell? ⟨p1 + 3, 1, none⟩ = some (.int .i64 128) ∧ w'.cell? ⟨p1 + 3, 2, none⟩ = some (.func (.func 78) #[] #[]) ∧ w'.cell? ⟨p1 + 3, 3, none⟩ = some (.func (.func 79) #[] #[]) ∧ w'.cell? ⟨p1 + 3, 4, none⟩ = some (.func (.func 81) #[] #[]) ∧ w'.cell? ⟨p1 + 3, 5, none⟩ = some (.func (.func 82) #[] #[]) ∧ w'.cell? ⟨p1 + 3, 6, none⟩ = some (.string ⟨#[98]⟩)) (by kernel_rfl) ?_ (fun hHeld => ?_)
      · go_keep
      refine wpAnyH_take (i := 0) (oi := ?oi0k0) (v := ?v0k0) ?h00k0 ?h10k0 ?h20k0 ?h30k0 ?h40k0 (Or.inl ⟨?hw0k0, ?hy0k0⟩) hHeld ?rest0k0
      case h00k0 => (simp only [List.getElem?_toArray, List.getElem?_cons_zero, List.getElem?_cons_succ]; rfl)
      case h10k0 => kernel_rfl
      case h20k0 => kernel_rfl
      case h30k0 => kernel_rfl
      case h40k0 => exact fun _ _ _ h => h
      case hw0k0 => rfl
      case hy0k0 => ((intro w hSw; (try dsimp only at hSw); go_simp); (try (with_reducible rfl)))
      try simp only [Act.put, List.setIfInBounds_toArray, List.set_cons_zero, List.set_cons_succ]
      refine wpAnyH_take (i := 1) (oi := ?oi1k0) (v := ?v1k0) ?h01k0 ?h11k0 ?h21k0 ?h31k0 ?h41k0 (Or.inl ⟨?hw1k0, ?hy1k0⟩) hHeld ?rest1k0
      case h01k0 => (simp only [List.getElem?_toArray, List.getElem?_cons_zero, List.getElem?_cons_succ]; rfl)
      case h11k0 => kernel_rfl
      case h21k0 => kernel_rfl
      case h31k0 => kernel_rfl
      case h41k0 => exact fun _ _ _ h => h
      case hw1k0 => rfl
      case hy1k0 => ((intro w hSw; (try dsimp only at hSw); go_simp); (try (with_reducible rfl)))
      try simp only [Act.put, List.setIfInBounds_toArray, List.set_cons_zero, List.set_cons_succ]
      refine wpAnyH_take (i := 2) (oi := ?oi2k0) (v := ?v2k0) ?h02k0 ?h12k0 ?h22k0 ?h32k0 ?h42k0 (Or.inl ⟨?hw2k0, ?hy2k0⟩) hHeld ?rest2k0
      case h02k0 => (simp only [List.getElem?_toArray, List.getElem?_cons_zero, List.getElem?_cons_succ]; rfl)
      case h12k0 => kernel_rfl
      case h22k0 => kernel_rfl
      case h32k0 => kernel_rfl
      case h42k0 => exact fun _ _ _ h => h
      case hw2k0 => rfl
      case hy2k0 => ((intro w hSw; (try dsimp only at hSw); go_simp); (try (with_reducible rfl)))
      try simp only [Act.put, List.setIfInBounds_toArray, List.set_cons_zero, List.set_cons_succ]
      refine wpAnyH_take (i := 3) (oi := ?oi3k0) (v := ?v3k0) ?h03k0 ?h13k0 ?h23k0 ?h33k0 ?h43k0 (Or.inl ⟨?hw3k0, ?hy3k0⟩) hHeld ?rest3k0
      case h03k0 => (simp only [List.getElem?_toArray, List.getElem?_cons_zero, List.getElem?_cons_succ]; rfl)
      case h13k0 => kernel_rfl
      case h23k0 => kernel_rfl
      case h33k0 => kernel_rfl
      case h43k0 => exact fun _ _ _ h => h
      case hw3k0 => rfl
      case hy3k0 => ((intro w hSw; (try dsimp only at hSw); go_simp); (try (with_reducible rfl)))
      try simp only [Act.put, List.setIfInBounds_toArray, List.set_cons_zero, List.set_cons_succ]
      refine wpAnyH_take (i := 4) (oi := ?oi4k0) (v := ?v4k0) ?h04k0 ?h14k0 ?h24k0 ?h34k0 ?h44k0 (Or.inl ⟨?hw4k0, ?hy4k0⟩) hHeld ?rest4k0
      case h04k0 => (simp only [List.getElem?_toArray, List.getElem?_cons_zero, List.getElem?_cons_succ]; rfl)
      case h14k0 => kernel_rfl
      case h24k0 => kernel_rfl
      case h34k0 => kernel_rfl
      case h44k0 => exact fun _ _ _ h => h
      case hw4k0 => rfl
      case hy4k0 => ((intro w hSw; (try dsimp only at hSw); go_simp); (try (with_reducible rfl)))
      try simp only [Act.put, List.setIfInBounds_toArray, List.set_cons_zero, List.set_cons_succ]
      refine wpAnyH_take (i := 5) (oi := ?oi5k0) (v := ?v5k0) ?h05k0 ?h15k0 ?h25k0 ?h35k0 ?h45k0 (Or.inl ⟨?hw5k0, ?hy5k0⟩) hHeld ?rest5k0
      case h05k0 => (simp only [List.getElem?_toArray, List.getElem?_cons_zero, List.getElem?_cons_succ]; rfl)
      case h15k0 => kernel_rfl
      case h25k0 => kernel_rfl
      case h35k0 => kernel_rfl
      case h45k0 => exact fun _ _ _ h => h
      case hw5k0 => rfl
      case hy5k0 => ((intro w hSw; (try dsimp only at hSw); go_simp); (try (with_reducible rfl)))
      try simp only [Act.put, List.setIfInBounds_toArray, List.set_cons_zero, List.set_cons_succ]
      refine wpAnyH_take (i := 6) (oi := ?oi6k0) (v := ?v6k0) ?h06k0 ?h16k0 ?h26k0 ?h36k0 ?h46k0 (Or.inl ⟨?hw6k0, ?hy6k0⟩) hHeld ?rest6k0
      case h06k0 => (simp only [List.getElem?_toArray, List.getElem?_cons_zero, List.getElem?_cons_succ]; rfl)
      case h16k0 => kernel_rfl
      case h26k0 => kernel_rfl
      case h36k0 => kernel_rfl
      case h46k0 => exact fun _ _ _ h => h
      case hw6k0 => rfl
      case hy6k0 => ((intro w hSw; (try dsimp only at hSw); go_simp); (try (with_reducible rfl)))
      try simp only [Act.put, List.setIfInBounds_toArray, List.set_cons_zero, List.set_cons_succ]
      refine wpAnyH_take (i := 7) (oi := ?oi7k0) (v := ?v7k0) ?h07k0 ?h17k0 ?h27k0 ?h37k0 ?h47k0 (Or.inl ⟨?hw7k0, ?hy7k0⟩) hHeld ?rest7k0
      case h07k0 => (simp only [List.getElem?_toArray, List.getElem?_cons_zero, List.getElem?_cons_succ]; rfl)
      case h17k0 => kernel_rfl
      case h27k0 => kernel_rfl
      case h37k0 => kernel_rfl
      case h47k0 => exact fun _ _ _ h => h
      case hw7k0 => rfl
      case hy7k0 => ((intro w hSw; (try dsimp only at hSw); go_simp); (try (with_reducible rfl)))
      try simp only [Act.put, List.setIfInBounds_toArray, List.set_cons_zero, List.set_cons_succ]
      refine wpAnyH_take (i := 8) (oi := ?oi8k0) (v := ?v8k0) ?h08k0 ?h18k0 ?h28k0 ?h38k0 ?h48k0 (Or.inl ⟨?hw8k0, ?hy8k0⟩) hHeld ?rest8k0
      case h08k0 => (simp only [List.getElem?_toArray, List.getElem?_cons_zero, List.getElem?_cons_succ]; rfl)
      case h18k0 => kernel_rfl
      case h28k0 => kernel_rfl
      case h38k0 => kernel_rfl
      case h48k0 => exact fun _ _ _ h => h
      case hw8k0 => rfl
      case hy8k0 => ((intro w hSw; (try dsimp only at hSw); go_simp); (try (with_reducible rfl)))
      try simp only [Act.put, List.setIfInBounds_toArray, List.set_cons_zero, List.set_cons_succ]
      refine wpAnyH_take (i := 9) (oi := ?oi9k0) (v := ?v9k0) ?h09k0 ?h19k0 ?h29k0 ?h39k0 ?h49k0 (Or.inl ⟨?hw9k0, ?hy9k0⟩) hHeld ?rest9k0
      case h09k0 => (simp only [List.getElem?_toArray, List.getElem?_cons_zero, List.getElem?_cons_succ]; rfl)
      case h19k0 => kernel_rfl
      case h29k0 => kernel_rfl
      case h39k0 => kernel_rfl
      case h49k0 => exact fun _ _ _ h => h
      case hw9k0 => rfl
      case hy9k0 => ((intro w hSw; (try dsimp only at hSw); go_simp); (try (with_reducible rfl)))
      try simp only [Act.put, List.setIfInBounds_toArray, List.set_cons_zero, List.set_cons_succ]
      refine wpAnyH_take (i := 10) (oi := ?oi10k0) (v := ?v10k0) ?h010k0 ?h110k0 ?h210k0 ?h310k0 ?h410k0 (Or.inl ⟨?hw10k0, ?hy10k0⟩) hHeld ?rest10k0
      case h010k0 => (simp only [List.getElem?_toArray, List.getElem?_cons_zero, List.getElem?_cons_succ]; rfl)
      case h110k0 => kernel_rfl
      case h210k0 => kernel_rfl
      case h310k0 => kernel_rfl
      case h410k0 => exact fun _ _ _ h => h
      case hw10k0 => rfl
      case hy10k0 => ((intro w hSw; (try dsimp only at hSw); go_simp); (try (with_reducible rfl)))
      try simp only [Act.put, List.setIfInBounds_toArray, List.set_cons_zero, List.set_cons_succ]
      refine wpAnyH_take (i := 11) (oi := ?oi11k0) (v := ?v11k0) ?h011k0 ?h111k0 ?h211k0 ?h311k0 ?h411k0 (Or.inl ⟨?hw11k0, ?hy11k0⟩) hHeld ?rest11k0
      case h011k0 => (simp only [List.getElem?_toArray, List.getElem?_cons_zero, List.getElem?_cons_succ]; rfl)
      case h111k0 => kernel_rfl
      case h211k0 => kernel_rfl
      case h311k0 => kernel_rfl
      case h411k0 => exact fun _ _ _ h => h
      case hw11k0 => rfl
      case hy11k0 => ((intro w hSw; (try dsimp only at hSw); go_simp); (try (with_reducible rfl)))
      try simp only [Act.put, List.setIfInBounds_toArray, List.set_cons_zero, List.set_cons_succ]
      refine wpAnyH_take (i := 12) (oi := ?oi12k0) (v := ?v12k0) ?h012k0 ?h112k0 ?h212k0 ?h312k0 ?h412k0 (Or.inl ⟨?hw12k0, ?hy12k0⟩) hHeld ?rest12k0
      case h012k0 => (simp only [List.getElem?_toArray, List.getElem?_cons_zero, List.getElem?_cons_succ]; rfl)
      case h112k0 => kernel_rfl
      case h212k0 => kernel_rfl
      case h312k0 => kernel_rfl
      case h412k0 => exact fun _ _ _ h => h
      case hw12k0 => rfl
      case hy12k0 => ((intro w hSw; (try dsimp only at hSw); go_simp); (try (with_reducible rfl)))
      try simp only [Act.put, List.setIfInBounds_toArray, List.set_cons_zero, List.set_cons_succ]
      refine wpAnyH_take (i := 13) (oi := ?oi13k0) (v := undef) ?h013k0 ?h113k0 ?h213k0 ?h313k0 ?h413k0 (Or.inr ⟨?hw13k0, rfl⟩) hHeld ?rest13k0
      case h013k0 => (simp only [List.getElem?_toArray, List.getElem?_cons_zero, List.getElem?_cons_succ]; rfl)
      case h113k0 => kernel_rfl
      case h213k0 => kernel_rfl
      case h313k0 => kernel_rfl
      case h413k0 => exact fun _ _ _ h => h
      case hw13k0 => rfl
      try simp only [Act.put, List.setIfInBounds_toArray, List.set_cons_zero, List.set_cons_succ]
      refine wpAnyH_take (i := 14) (oi := ?oi14k0) (v := undef) ?h014k0 ?h114k0 ?h214k0 ?h314k0 ?h414k0 (Or.inr ⟨?hw14k0, rfl⟩) hHeld ?rest14k0
      case h014k0 => (simp only [List.getElem?_toArray, List.getElem?_cons_zero, List.getElem?_cons_succ]; rfl)
      case h114k0 => kernel_rfl
      case h214k0 => kernel_rfl
      case h314k0 => kernel_rfl
      case h414k0 => exact fun _ _ _ h => h
      case hw14k0 => rfl
      try simp only [Act.put, List.setIfInBounds_toArray, List.set_cons_zero, List.set_cons_succ]
      refine wpAnyH_take (i := 15) (oi := ?oi15k0) (v := undef) ?h015k0 ?h115k0 ?h215k0 ?h315k0 ?h415k0 (Or.inr ⟨?hw15k0, rfl⟩) hHeld ?rest15k0
      case h015k0 => (simp only [List.getElem?_toArray, List.getElem?_cons_zero, List.getElem?_cons_succ]; rfl)
      case h115k0 => kernel_rfl
      case h215k0 => kernel_rfl
      case h315k0 => kernel_rfl
      case h415k0 => exact fun _ _ _ h => h
      case hw15k0 => rfl
      try simp only [Act.put, List.setIfInBounds_toArray, List.set_cons_zero, List.set_cons_succ]
      refine wpAnyH_take (i := 16) (oi := ?oi16k0) (v := undef) ?h016k0 ?h116k0 ?h216k0 ?h316k0 ?h416k0 (Or.inr ⟨?hw16k0, rfl⟩) hHeld ?rest16k0
      case h016k0 => (simp only [List.getElem?_toArray, List.getElem?_cons_zero, List.getElem?_cons_succ]; rfl)
      case h116k0 => kernel_rfl
      case h216k0 => kernel_rfl
      case h316k0 => kernel_rfl
      case h416k0 => exact fun _ _ _ h => h
      case hw16k0 => rfl
      try simp only [Act.put, List.setIfInBounds_toArray, List.set_cons_zero, List.set_cons_succ]
      refine wpAnyH_take (i := 17) (oi := ?oi17k0) (v := undef) ?h017k0 ?h117k0 ?h217k0 ?h317k0 ?h417k0 (Or.inr ⟨?hw17k0, rfl⟩) hHeld ?rest17k0
      case h017k0 => (simp only [List.getElem?_toArray, List.getElem?_cons_zero, List.getElem?_cons_succ]; rfl)
      case h117k0 => kernel_rfl
      case h217k0 => kernel_rfl
      case h317k0 => kernel_rfl
      case h417k0 => exact fun _ _ _ h => h
      case hw17k0 => rfl
      try simp only [Act.put, List.setIfInBounds_toArray, List.set_cons_zero, List.set_cons_succ]
      refine wpAnyH_take (i := 18) (oi := ?oi18k0) (v := undef) ?h018k0 ?h118k0 ?h218k0 ?h318k0 ?h418k0 (Or.inr ⟨?hw18k0, rfl⟩) hHeld ?rest18k0
      case h018k0 => (simp only [List.getElem?_toArray, List.getElem?_cons_zero, List.getElem?_cons_succ]; rfl)
      case h118k0 => kernel_rfl
      case h218k0 => kernel_rfl
      case h318k0 => kernel_rfl
      case h418k0 => exact fun _ _ _ h => h
      case hw18k0 => rfl
      try simp only [Act.put, List.setIfInBounds_toArray, List.set_cons_zero, List.set_cons_succ]
      refine wpAnyH_take (i := 19) (oi := ?oi19k0) (v := undef) ?h019k0 ?h119k0 ?h219k0 ?h319k0 ?h419k0 (Or.inr ⟨?hw19k0, rfl⟩) hHeld ?rest19k0
      case h019k0 => (simp only [List.getElem?_toArray, List.getElem?_cons_zero, List.getElem?_cons_succ]; rfl)
      case h119k0 => kernel_rfl
      case h219k0 => kernel_rfl
      case h319k0 => kernel_rfl
      case h419k0 => exact fun _ _ _ h => h
      case hw19k0 => rfl
      try simp only [Act.put, List.setIfInBounds_toArray, List.set_cons_zero, List.set_cons_succ]
      refine wpAnyH_take (i := 20) (oi := ?oi20k0) (v := undef) ?h020k0 ?h120k0 ?h220k0 ?h320k0 ?h420k0 (Or.inr ⟨?hw20k0, rfl⟩) hHeld ?rest20k0
      case h020k0 => (simp only [List.getElem?_toArray, List.getElem?_cons_zero, List.getElem?_cons_succ]; rfl)
      case h120k0 => kernel_rfl
      case h220k0 => kernel_rfl
      case h320k0 => kernel_rfl
      case h420k0 => exact fun _ _ _ h => h
      case hw20k0 => rfl
      try simp only [Act.put, List.setIfInBounds_toArray, List.set_cons_zero, List.set_cons_succ]
      refine wpAnyH_take (i := 21) (oi := ?oi21k0) (v := ?v21k0) ?h021k0 ?h121k0 ?h221k0 ?h321k0 ?h421k0 (Or.inl ⟨?hw21k0, ?hy21k0⟩) hHeld ?rest21k0
      case h021k0 => (simp only [List.getElem?_toArray, List.getElem?_cons_zero, List.getElem?_cons_succ]; rfl)
      case h121k0 => kernel_rfl
      case h221k0 => kernel_rfl
      case h321k0 => kernel_rfl
      case h421k0 => exact fun _ _ _ h => h
      case hw21k0 => rfl
      case hy21k0 => ((intro w hSw; (try dsimp only at hSw); go_simp); (try (with_reducible rfl)))
      try simp only [Act.put, List.setIfInBounds_toArray, List.set_cons_zero, List.set_cons_succ]
      refine wpAnyH_ready (rs := [22]) (by kernel_rfl) (by simp) ?_
      refine AllReadyH.cons (o := ?oi22k0) ?h022k0 (fun K hK => ?_) AllReadyH.nil
      case h022k0 => (simp only [List.getElem?_toArray, List.getElem?_cons_zero, List.getElem?_cons_succ]; rfl)
      go_simp
      refine hK.out _ _ ?_ (fun hHeld => ?_)
      · go_keep
      clear hK K
      try simp only [Act.put, List.setIfInBounds_toArray, List.set_cons_zero, List.set_cons_succ]
      refine wpAnyH_take (i := 23) (oi := ?oi23k0) (v := ?v23k0) ?h023k0 ?h123k0 ?h223k0 ?h323k0 ?h423k0 (Or.inl ⟨?hw23k0, ?hy23k0⟩) hHeld ?rest23k0
      case h023k0 => (simp only [List.getElem?_toArray, List.getElem?_cons_zero, List.getElem?_cons_succ]; rfl)
      case h123k0 => kernel_rfl
      case h223k0 => kernel_rfl
      case h323k0 => kernel_rfl
      case h423k0 => exact fun _ _ _ h => h
      case hw23k0 => rfl
      case hy23k0 => ((intro w hSw; (try dsimp only at hSw); go_simp); (try (with_reducible rfl)))
      try simp only [Act.put, List.setIfInBounds_toArray, List.set_cons_zero, List.set_cons_succ]
      refine wpAnyH_done (by kernel_rfl) ?_ _
      have HRow := hide (show Row (((((((w1.setCell ⟨w.heap.size, 0, none⟩ (.int .i64 1)).setCell ⟨w.heap.size, 1, none⟩ (.int .i64 128)).setCell ⟨w.heap.size, 2, none⟩ (.func (.func 78) #[] #[])).setCell ⟨w.heap.size, 3, none⟩ (.func (.func 79) #[] #[])).setCell ⟨w.heap.size, 4, none⟩ (.func (.func 81) #[] #[])).setCell ⟨w.heap.size, 5, none⟩ (.func (.func 82) #[] #[])).setCell ⟨w.heap.size, 6, none⟩ (.string ⟨#[98]⟩)) w.heap.size 45 #[.int .i64 1, .int .i64 128, .func (.func 78) #[] #[], .func (.func 79) #[] #[], .func (.func 81) #[] #[], .func (.func 82) #[] #[], .string ⟨#[98]⟩] from (((((((R1.out.set_ 0 (.int .i64 1)).set_ 1 (.int .i64 128)).set_ 2 (.func (.func 78) #[] #[])).set_ 3 (.func (.func 79) #[] #[])).set_ 4 (.func (.func 81) #[] #[])).set_ 5 (.func (.func 82) #[] #[])).set_ 6 (.string ⟨#[98]⟩)))
      have HBel := hide (((((((B1.out.setCell (p := ⟨w.heap.size, 0, none⟩) (Nat.le_refl _) (.int .i64 1)).setCell (p := ⟨w.heap.size, 1, none⟩) (Nat.le_refl _) (.int .i64 128)).setCell (p := ⟨w.heap.size, 2, none⟩) (Nat.le_refl _) (.func (.func 78) #[] #[])).setCell (p := ⟨w.heap.size, 3, none⟩) (Nat.le_refl _) (.func (.func 79) #[] #[])).setCell (p := ⟨w.heap.size, 4, none⟩) (Nat.le_refl _) (.func (.func 81) #[] #[])).setCell (p := ⟨w.heap.size, 5, none⟩) (Nat.le_refl _) (.func (.func 82) #[] #[])).setCell (p := ⟨w.heap.size, 6, none⟩) (Nat.le_refl _) (.string ⟨#[98]⟩))
      have hok : okW 0 wd = false := by unfold okW; simp; omega
      have HOk := hide hok
      have hkp : Keeps (fun c => c = w.heap.size) w1 (((((((w1.setCell ⟨w.heap.size, 0, none⟩ (.int .i64 1)).setCell ⟨w.heap.size, 1, none⟩ (.int .i64 128)).setCell ⟨w.heap.size, 2, none⟩ (.func (.func 78) #[] #[])).setCell ⟨w.heap.size, 3, none⟩ (.func (.func 79) #[] #[])).setCell ⟨w.heap.size, 4, none⟩ (.func (.func 81) #[] #[])).setCell ⟨w.heap.size, 5, none⟩ (.func (.func 82) #[] #[])).setCell ⟨w.heap.size, 6, none⟩ (.string ⟨#[98]⟩)) := (((((((Keeps.refl (fun c => c = w.heap.size) w1).set (.inl rfl) 0 _).set (.inl rfl) 1 _).set (.inl rfl) 2 _).set (.inl rfl) 3 _).set (.inl rfl) 4 _).set (.inl rfl) 5 _).set (.inl rfl) 6 _
      have HKR := hide (K3.out.keep hkp (by omega))
      clear hok hkp
      go_wp2
      exact bodyPost_ret (v := .tuple #[.agg #[.int .i64 1, .int .i64 128, .func (.func 78) #[] #[], .func (.func 79) #[] #[], .func (.func 81) #[] #[], .func (.func 82) #[] #[], .string ⟨#[98]⟩], .bool false]) (results_row_tmp rfl _ _ w.heap.size 45 _ _ _ (.bool false) rfl rfl HRow.out.drew Tryz.underlying45 rfl (by kernel_rfl)) rfl ⟨HBel.out.drew, .inl ⟨0, (p1 + 1), rfl, by decide, by rw [HOk.out]; rfl, HKR.out.drew, by omega⟩⟩
    rcases Classical.em (128 < wd) with hw | hw
    · skip
      have hne1 : ¬ w.heap.size = p1 + 3 := by omega
      have hne2 : ¬ p1 + 3 = w.heap.size := by omega
      have hw1 : 1 ≤ wd := by omega
      have hw2 : ¬ wd ≤ 128 := by omega
      have hd1 : decide ((1 : Int) ≤ wd) = true := by first | exact decide_eq_true hw1 | exact decide_eq_false hw1
      have hd2 : decide (wd ≤ (128 : Int)) = false := by first | exact decide_eq_true hw2 | exact decide_eq_false hw2
      go_upto_region 4 with fail
      go_region_held3 (fun w' => w'.cell? ⟨p1 + 3, 0, none⟩ = some (.int .i64 1) ∧ w'.cell? ⟨p1 + 3, 1, none⟩ = some (.int .i64 128) ∧ w'.cell? ⟨p1 + 3, 2, none⟩ = some (.func (.func 78) #[] #[]) ∧ w'.cell? ⟨p1 + 3, 3, none⟩ = some (.func (.func 79) #[] #[]) ∧ w'.cell? ⟨p1 + 3, 4, none⟩ = some (.func (.func 81) #[] #[]) ∧ w'.cell? ⟨p1 + 3, 5, none⟩ = some (.func (.func 82) #[] #[]) ∧ w'.cell? ⟨p1 + 3, 6, none⟩ = some (.string ⟨#[98]⟩)) (go_keep) (fail)
      have HRow := hide (show Row (((((((w1.setCell ⟨w.heap.size, 0, none⟩ (.int .i64 1)).setCell ⟨w.heap.size, 1, none⟩ (.int .i64 128)).setCell ⟨w.heap.size, 2, none⟩ (.func (.func 78) #[] #[])).setCell ⟨w.heap.size, 3, none⟩ (.func (.func 79) #[] #[])).setCell ⟨w.heap.size, 4, none⟩ (.func (.func 81) #[] #[])).setCell ⟨w.heap.size, 5, none⟩ (.func (.func 82) #[] #[])).setCell ⟨w.heap.size, 6, none⟩ (.string ⟨#[98]⟩)) w.heap.size 45 #[.int .i64 1, .int .i64 128, .func (.func 78) #[] #[], .func (.func 79) #[] #[], .func (.func 81) #[] #[], .func (.func 82) #[] #[], .string ⟨#[98]⟩] from (((((((R1.out.set_ 0 (.int .i64 1)).set_ 1 (.int .i64 128)).set_ 2 (.func (.func 78) #[] #[])).set_ 3 (.func (.func 79) #[] #[])).set_ 4 (.func (.func 81) #[] #[])).set_ 5 (.func (.func 82) #[] #[])).set_ 6 (.string ⟨#[98]⟩)))
      have HBel := hide (((((((B1.out.setCell (p := ⟨w.heap.size, 0, none⟩) (Nat.le_refl _) (.int .i64 1)).setCell (p := ⟨w.heap.size, 1, none⟩) (Nat.le_refl _) (.int .i64 128)).setCell (p := ⟨w.heap.size, 2, none⟩) (Nat.le_refl _) (.func (.func 78) #[] #[])).setCell (p := ⟨w.heap.size, 3, none⟩) (Nat.le_refl _) (.func (.func 79) #[] #[])).setCell (p := ⟨w.heap.size, 4, none⟩) (Nat.le_refl _) (.func (.func 81) #[] #[])).setCell (p := ⟨w.heap.size, 5, none⟩) (Nat.le_refl _) (.func (.func 82) #[] #[])).setCell (p := ⟨w.heap.size, 6, none⟩) (Nat.le_refl _) (.string ⟨#[98]⟩))
      have hok : okW 0 wd = false := by unfold okW; simp; omega
      have HOk := hide hok
      have hkp : Keeps (fun c => c = w.heap.size) w1 (((((((w1.setCell ⟨w.heap.size, 0, none⟩ (.int .i64 1)).setCell ⟨w.heap.size, 1, none⟩ (.int .i64 128)).setCell ⟨w.heap.size, 2, none⟩ (.func (.func 78) #[] #[])).setCell ⟨w.heap.size, 3, none⟩ (.func (.func 79) #[] #[])).setCell ⟨w.heap.size, 4, none⟩ (.func (.func 81) #[] #[])).setCell ⟨w.heap.size, 5, none⟩ (.func (.func 82) #[] #[])).setCell ⟨w.heap.size, 6, none⟩ (.string ⟨#[98]⟩)) := (((((((Keeps.refl (fun c => c = w.heap.size) w1).set (.inl rfl) 0 _).set (.inl rfl) 1 _).set (.inl rfl) 2 _).set (.inl rfl) 3 _).set (.inl rfl) 4 _).set (.inl rfl) 5 _).set (.inl rfl) 6 _
      have HKR := hide (K3.out.keep hkp (by omega))
      clear hok hkp
      go_wp2
      exact bodyPost_ret (v := .tuple #[.agg #[.int .i64 1, .int .i64 128, .func (.func 78) #[] #[], .func (.func 79) #[] #[], .func (.func 81) #[] #[], .func (.func 82) #[] #[], .string ⟨#[98]⟩], .bool false]) (results_row_tmp rfl _ _ w.heap.size 45 _ _ _ (.bool false) rfl rfl HRow.out.drew Tryz.underlying45 rfl (by kernel_rfl)) rfl ⟨HBel.out.drew, .inl ⟨0, (p1 + 1), rfl, by decide, by rw [HOk.out]; rfl, HKR.out.drew, by omega⟩⟩
    have hne1 : ¬ w.heap.size = p1 + 3 := by omega
    have hne2 : ¬ p1 + 3 = w.heap.size := by omega
    have hw1 : 1 ≤ wd := by omega
    have hw2 : wd ≤ 128 := by omega
    have hd1 : decide ((1 : Int) ≤ wd) = true := by first | exact decide_eq_true hw1 | exact decide_eq_false hw1
    have hd2 : decide (wd ≤ (128 : Int)) = true := by first | exact decide_eq_true hw2 | exact decide_eq_false hw2
    go_upto_region 4 with fail
    go_region_held3 (fun w' => w'.cell? ⟨p1 + 3, 0, none⟩ = some (.int .i64 1) ∧ w'.cell? ⟨p1 + 3, 1, none⟩ = some (.int .i64 128) ∧ w'.cell? ⟨p1 + 3, 2, none⟩ = some (.func (.func 78) #[] #[]) ∧ w'.cell? ⟨p1 + 3, 3, none⟩ = some (.func (.func 79) #[] #[]) ∧ w'.cell? ⟨p1 + 3, 4, none⟩ = some (.func (.func 81) #[] #[]) ∧ w'.cell? ⟨p1 + 3, 5, none⟩ = some (.func (.func 82) #[] #[]) ∧ w'.cell? ⟨p1 + 3, 6, none⟩ = some (.string ⟨#[98]⟩)) (go_keep) (fail)
    have HRow := hide (show Row (((((((w1.setCell ⟨w.heap.size, 0, none⟩ (.int .i64 1)).setCell ⟨w.heap.size, 1, none⟩ (.int .i64 128)).setCell ⟨w.heap.size, 2, none⟩ (.func (.func 78) #[] #[])).setCell ⟨w.heap.size, 3, none⟩ (.func (.func 79) #[] #[])).setCell ⟨w.heap.size, 4, none⟩ (.func (.func 81) #[] #[])).setCell ⟨w.heap.size, 5, none⟩ (.func (.func 82) #[] #[])).setCell ⟨w.heap.size, 6, none⟩ (.string ⟨#[98]⟩)) w.heap.size 45 #[.int .i64 1, .int .i64 128, .func (.func 78) #[] #[], .func (.func 79) #[] #[], .func (.func 81) #[] #[], .func (.func 82) #[] #[], .string ⟨#[98]⟩] from (((((((R1.out.set_ 0 (.int .i64 1)).set_ 1 (.int .i64 128)).set_ 2 (.func (.func 78) #[] #[])).set_ 3 (.func (.func 79) #[] #[])).set_ 4 (.func (.func 81) #[] #[])).set_ 5 (.func (.func 82) #[] #[])).set_ 6 (.string ⟨#[98]⟩)))
    have HBel := hide (((((((B1.out.setCell (p := ⟨w.heap.size, 0, none⟩) (Nat.le_refl _) (.int .i64 1)).setCell (p := ⟨w.heap.size, 1, none⟩) (Nat.le_refl _) (.int .i64 128)).setCell (p := ⟨w.heap.size, 2, none⟩) (Nat.le_refl _) (.func (.func 78) #[] #[])).setCell (p := ⟨w.heap.size, 3, none⟩) (Nat.le_refl _) (.func (.func 79) #[] #[])).setCell (p := ⟨w.heap.size, 4, none⟩) (Nat.le_refl _) (.func (.func 81) #[] #[])).setCell (p := ⟨w.heap.size, 5, none⟩) (Nat.le_refl _) (.func (.func 82) #[] #[])).setCell (p := ⟨w.heap.size, 6, none⟩) (Nat.le_refl _) (.string ⟨#[98]⟩))
    have hok : okW 0 wd = true := by unfold okW; simp; omega
    have HOk := hide hok
    have hkp : Keeps (fun c => c = w.heap.size) w1 (((((((w1.setCell ⟨w.heap.size, 0, none⟩ (.int .i64 1)).setCell ⟨w.heap.size, 1, none⟩ (.int .i64 128)).setCell ⟨w.heap.size, 2, none⟩ (.func (.func 78) #[] #[])).setCell ⟨w.heap.size, 3, none⟩ (.func (.func 79) #[] #[])).setCell ⟨w.heap.size, 4, none⟩ (.func (.func 81) #[] #[])).setCell ⟨w.heap.size, 5, none⟩ (.func (.func 82) #[] #[])).setCell ⟨w.heap.size, 6, none⟩ (.string ⟨#[98]⟩)) := (((((((Keeps.refl (fun c => c = w.heap.size) w1).set (.inl rfl) 0 _).set (.inl rfl) 1 _).set (.inl rfl) 2 _).set (.inl rfl) 3 _).set (.inl rfl) 4 _).set (.inl rfl) 5 _).set (.inl rfl) 6 _
    have HKR := hide (K3.out.keep hkp (by omega))
    clear hok hkp
    go_wp2
    exact bodyPost_ret (v := .tuple #[.agg #[.int .i64 1, .int .i64 128, .func (.func 78) #[] #[], .func (.func 79) #[] #[], .func (.func 81) #[] #[], .func (.func 82) #[] #[], .string ⟨#[98]⟩], .bool true]) (results_row_tmp rfl _ _ w.heap.size 45 _ _ _ (.bool true) rfl rfl HRow.out.drew Tryz.underlying45 rfl (by kernel_rfl)) rfl ⟨HBel.out.drew, .inl ⟨0, (p1 + 1), rfl, by decide, by rw [HOk.out]; rfl, HKR.out.drew, by omega⟩⟩
  · skip
    have c0 : w1.cell? ⟨p1 + 3, 7, none⟩ = some (.int .i64 0) := K1.out.cell 7
    have c1 : w1.cell? ⟨p1 + 3, 8, none⟩ = some (.int .i64 0) := K1.out.cell 8
    have c2 : w1.cell? ⟨p1 + 3, 9, none⟩ = some (fnV 83) := K1.out.cell 9
    have c3 : w1.cell? ⟨p1 + 3, 10, none⟩ = some (sameV p1) := K1.out.cell 10
    have c4 : w1.cell? ⟨p1 + 3, 11, none⟩ = some (fnV 86) := K1.out.cell 11
    have c5 : w1.cell? ⟨p1 + 3, 12, none⟩ = some (fnV 88) := K1.out.cell 12
    have c6 : w1.cell? ⟨p1 + 3, 13, none⟩ = some (.string ⟨#[114]⟩) := K1.out.cell 13
    unfold fnV sameV at *
    rcases Classical.em (wd < 0) with hw | hw
    · skip
      have hne1 : ¬ w.heap.size = p1 + 3 := by omega
      have hne2 : ¬ p1 + 3 = w.heap.size := by omega
      have hw1 : ¬ 0 ≤ wd := by omega
      have hd1 : decide ((0 : Int) ≤ wd) = false := by first | exact decide_eq_true hw1 | exact decide_eq_false hw1
      go_upto_region 4 with fail
      refine wp_region_held_drew (S := fun w' => w'.cell? ⟨p1 + 3, 7, none⟩ = some (.int .i64 0) ∧ w'.cell? ⟨p1 + 3, 8, none⟩ = some (.int .i64 0) ∧ w'.cell? ⟨p1 + 3, 9, none⟩ = some (.func (.func 83) #[] #[]) ∧ w'.cell? ⟨p1 + 3, 10, none⟩ = some (.func (.func 112) #[] #[.pointer (some ⟨p1, 0, none⟩)]) ∧ w'.cell? ⟨p1 + 3, 11, none⟩ = some (.func (.func 86) #[] #[]) ∧ w'.cell? ⟨p1 + 3, 12, none⟩ = some (.func (.func 88) #[] #[]) ∧ w'.cell? ⟨p1 + 3, 13, none⟩ = some (.string ⟨#[114]⟩)) (by kernel_rfl) ?_ (fun hHeld => ?_)
      · go_keep
      refine wpAnyH_take (i := 0) (oi := ?oi0k1) (v := ?v0k1) ?h00k1 ?h10k1 ?h20k1 ?h30k1 ?h40k1 (Or.inl ⟨?hw0k1, ?hy0k1⟩) hHeld ?rest0k1
      case h00k1 => (simp only [List.getElem?_toArray, List.getElem?_cons_zero, List.getElem?_cons_succ]; rfl)
      case h10k1 => kernel_rfl
      case h20k1 => kernel_rfl
      case h30k1 => kernel_rfl
      case h40k1 => exact fun _ _ _ h => h
      case hw0k1 => rfl
      case hy0k1 => ((intro w hSw; (try dsimp only at hSw); go_simp); (try (with_reducible rfl)))
      try simp only [Act.put, List.setIfInBounds_toArray, List.set_cons_zero, List.set_cons_succ]
      refine wpAnyH_take (i := 1) (oi := ?oi1k1) (v := ?v1k1) ?h01k1 ?h11k1 ?h21k1 ?h31k1 ?h41k1 (Or.inl ⟨?hw1k1, ?hy1k1⟩) hHeld ?rest1k1
      case h01k1 => (simp only [List.getElem?_toArray, List.getElem?_cons_zero, List.getElem?_cons_succ]; rfl)
      case h11k1 => kernel_rfl
      case h21k1 => kernel_rfl
      case h31k1 => kernel_rfl
      case h41k1 => exact fun _ _ _ h => h
      case hw1k1 => rfl
      case hy1k1 => ((intro w hSw; (try dsimp only at hSw); go_simp); (try (with_reducible rfl)))
      try simp only [Act.put, List.setIfInBounds_toArray, List.set_cons_zero, List.set_cons_succ]
      refine wpAnyH_take (i := 2) (oi := ?oi2k1) (v := ?v2k1) ?h02k1 ?h12k1 ?h22k1 ?h32k1 ?h42k1 (Or.inl ⟨?hw2k1, ?hy2k1⟩) hHeld ?rest2k1
      case h02k1 => (simp only [List.getElem?_toArray, List.getElem?_cons_zero, List.getElem?_cons_succ]; rfl)
      case h12k1 => kernel_rfl
      case h22k1 => kernel_rfl
      case h32k1 => kernel_rfl
      case h42k1 => exact fun _ _ _ h => h
      case hw2k1 => rfl
      case hy2k1 => ((intro w hSw; (try dsimp only at hSw); go_simp); (try (with_reducible rfl)))
      try simp only [Act.put, List.setIfInBounds_toArray, List.set_cons_zero, List.set_cons_succ]
      refine wpAnyH_take (i := 3) (oi := ?oi3k1) (v := ?v3k1) ?h03k1 ?h13k1 ?h23k1 ?h33k1 ?h43k1 (Or.inl ⟨?hw3k1, ?hy3k1⟩) hHeld ?rest3k1
      case h03k1 => (simp only [List.getElem?_toArray, List.getElem?_cons_zero, List.getElem?_cons_succ]; rfl)
      case h13k1 => kernel_rfl
      case h23k1 => kernel_rfl
      case h33k1 => kernel_rfl
      case h43k1 => exact fun _ _ _ h => h
      case hw3k1 => rfl
      case hy3k1 => ((intro w hSw; (try dsimp only at hSw); go_simp); (try (with_reducible rfl)))
      try simp only [Act.put, List.setIfInBounds_toArray, List.set_cons_zero, List.set_cons_succ]
      refine wpAnyH_take (i := 4) (oi := ?oi4k1) (v := ?v4k1) ?h04k1 ?h14k1 ?h24k1 ?h34k1 ?h44k1 (Or.inl ⟨?hw4k1, ?hy4k1⟩) hHeld ?rest4k1
      case h04k1 => (simp only [List.getElem?_toArray, List.getElem?_cons_zero, List.getElem?_cons_succ]; rfl)
      case h14k1 => kernel_rfl
      case h24k1 => kernel_rfl
      case h34k1 => kernel_rfl
      case h44k1 => exact fun _ _ _ h => h
      case hw4k1 => rfl
      case hy4k1 => ((intro w hSw; (try dsimp only at hSw); go_simp); (try (with_reducible rfl)))
      try simp only [Act.put, List.setIfInBounds_toArray, List.set_cons_zero, List.set_cons_succ]
      refine wpAnyH_take (i := 5) (oi := ?oi5k1) (v := ?v5k1) ?h05k1 ?h15k1 ?h25k1 ?h35k1 ?h45k1 (Or.inl ⟨?hw5k1, ?hy5k1⟩) hHeld ?rest5k1
      case h05k1 => (simp only [List.getElem?_toArray, List.getElem?_cons_zero, List.getElem?_cons_succ]; rfl)
      case h15k1 => kernel_rfl
      case h25k1 => kernel_rfl
      case h35k1 => kernel_rfl
      case h45k1 => exact fun _ _ _ h => h
      case hw5k1 => rfl
      case hy5k1 => ((intro w hSw; (try dsimp only at hSw); go_simp); (try (with_reducible rfl)))
      try simp only [Act.put, List.setIfInBounds_toArray, List.set_cons_zero, List.set_cons_succ]
      refine wpAnyH_take (i := 6) (oi := ?oi6k1) (v := ?v6k1) ?h06k1 ?h16k1 ?h26k1 ?h36k1 ?h46k1 (Or.inl ⟨?hw6k1, ?hy6k1⟩) hHeld ?rest6k1
      case h06k1 => (simp only [List.getElem?_toArray, List.getElem?_cons_zero, List.getElem?_cons_succ]; rfl)
      case h16k1 => kernel_rfl
      case h26k1 => kernel_rfl
      case h36k1 => kernel_rfl
      case h46k1 => exact fun _ _ _ h => h
      case hw6k1 => rfl
      case hy6k1 => ((intro w hSw; (try dsimp only at hSw); go_simp); (try (with_reducible rfl)))
      try simp only [Act.put, List.setIfInBounds_toArray, List.set_cons_zero, List.set_cons_succ]
      refine wpAnyH_take (i := 7) (oi := ?oi7k1) (v := ?v7k1) ?h07k1 ?h17k1 ?h27k1 ?h37k1 ?h47k1 (Or.inl ⟨?hw7k1, ?hy7k1⟩) hHeld ?rest7k1
      case h07k1 => (simp only [List.getElem?_toArray, List.getElem?_cons_zero, List.getElem?_cons_succ]; rfl)
      case h17k1 => kernel_rfl
      case h27k1 => kernel_rfl
      case h37k1 => kernel_rfl
      case h47k1 => exact fun _ _ _ h => h
      case hw7k1 => rfl
      case hy7k1 => ((intro w hSw; (try dsimp only at hSw); go_simp); (try (with_reducible rfl)))
      try simp only [Act.put, List.setIfInBounds_toArray, List.set_cons_zero, List.set_cons_succ]
      refine wpAnyH_take (i := 8) (oi := ?oi8k1) (v := ?v8k1) ?h08k1 ?h18k1 ?h28k1 ?h38k1 ?h48k1 (Or.inl ⟨?hw8k1, ?hy8k1⟩) hHeld ?rest8k1
      case h08k1 => (simp only [List.getElem?_toArray, List.getElem?_cons_zero, List.getElem?_cons_succ]; rfl)
      case h18k1 => kernel_rfl
      case h28k1 => kernel_rfl
      case h38k1 => kernel_rfl
      case h48k1 => exact fun _ _ _ h => h
      case hw8k1 => rfl
      case hy8k1 => ((intro w hSw; (try dsimp only at hSw); go_simp); (try (with_reducible rfl)))
      try simp only [Act.put, List.setIfInBounds_toArray, List.set_cons_zero, List.set_cons_succ]
      refine wpAnyH_take (i := 9) (oi := ?oi9k1) (v := ?v9k1) ?h09k1 ?h19k1 ?h29k1 ?h39k1 ?h49k1 (Or.inl ⟨?hw9k1, ?hy9k1⟩) hHeld ?rest9k1
      case h09k1 => (simp only [List.getElem?_toArray, List.getElem?_cons_zero, List.getElem?_cons_succ]; rfl)
      case h19k1 => kernel_rfl
      case h29k1 => kernel_rfl
      case h39k1 => kernel_rfl
      case h49k1 => exact fun _ _ _ h => h
      case hw9k1 => rfl
      case hy9k1 => ((intro w hSw; (try dsimp only at hSw); go_simp); (try (with_reducible rfl)))
      try simp only [Act.put, List.setIfInBounds_toArray, List.set_cons_zero, List.set_cons_succ]
      refine wpAnyH_take (i := 10) (oi := ?oi10k1) (v := ?v10k1) ?h010k1 ?h110k1 ?h210k1 ?h310k1 ?h410k1 (Or.inl ⟨?hw10k1, ?hy10k1⟩) hHeld ?rest10k1
      case h010k1 => (simp only [List.getElem?_toArray, List.getElem?_cons_zero, List.getElem?_cons_succ]; rfl)
      case h110k1 => kernel_rfl
      case h210k1 => kernel_rfl
      case h310k1 => kernel_rfl
      case h410k1 => exact fun _ _ _ h => h
      case hw10k1 => rfl
      case hy10k1 => ((intro w hSw; (try dsimp only at hSw); go_simp); (try (with_reducible rfl)))
      try simp only [Act.put, List.setIfInBounds_toArray, List.set_cons_zero, List.set_cons_succ]
      refine wpAnyH_take (i := 11) (oi := ?oi11k1) (v := ?v11k1) ?h011k1 ?h111k1 ?h211k1 ?h311k1 ?h411k1 (Or.inl ⟨?hw11k1, ?hy11k1⟩) hHeld ?rest11k1
      case h011k1 => (simp only [List.getElem?_toArray, List.getElem?_cons_zero, List.getElem?_cons_succ]; rfl)
      case h111k1 => kernel_rfl
      case h211k1 => kernel_rfl
      case h311k1 => kernel_rfl
      case h411k1 => exact fun _ _ _ h => h
      case hw11k1 => rfl
      case hy11k1 => ((intro w hSw; (try dsimp only at hSw); go_simp); (try (with_reducible rfl)))
      try simp only [Act.put, List.setIfInBounds_toArray, List.set_cons_zero, List.set_cons_succ]
      refine wpAnyH_take (i := 12) (oi := ?oi12k1) (v := ?v12k1) ?h012k1 ?h112k1 ?h212k1 ?h312k1 ?h412k1 (Or.inl ⟨?hw12k1, ?hy12k1⟩) hHeld ?rest12k1
      case h012k1 => (simp only [List.getElem?_toArray, List.getElem?_cons_zero, List.getElem?_cons_succ]; rfl)
      case h112k1 => kernel_rfl
      case h212k1 => kernel_rfl
      case h312k1 => kernel_rfl
      case h412k1 => exact fun _ _ _ h => h
      case hw12k1 => rfl
      case hy12k1 => ((intro w hSw; (try dsimp only at hSw); go_simp); (try (with_reducible rfl)))
      try simp only [Act.put, List.setIfInBounds_toArray, List.set_cons_zero, List.set_cons_succ]
      refine wpAnyH_take (i := 13) (oi := ?oi13k1) (v := undef) ?h013k1 ?h113k1 ?h213k1 ?h313k1 ?h413k1 (Or.inr ⟨?hw13k1, rfl⟩) hHeld ?rest13k1
      case h013k1 => (simp only [List.getElem?_toArray, List.getElem?_cons_zero, List.getElem?_cons_succ]; rfl)
      case h113k1 => kernel_rfl
      case h213k1 => kernel_rfl
      case h313k1 => kernel_rfl
      case h413k1 => exact fun _ _ _ h => h
      case hw13k1 => rfl
      try simp only [Act.put, List.setIfInBounds_toArray, List.set_cons_zero, List.set_cons_succ]
      refine wpAnyH_take (i := 14) (oi := ?oi14k1) (v := undef) ?h014k1 ?h114k1 ?h214k1 ?h314k1 ?h414k1 (Or.inr ⟨?hw14k1, rfl⟩) hHeld ?rest14k1
      case h014k1 => (simp only [List.getElem?_toArray, List.getElem?_cons_zero, List.getElem?_cons_succ]; rfl)
      case h114k1 => kernel_rfl
      case h214k1 => kernel_rfl
      case h314k1 => kernel_rfl
      case h414k1 => exact fun _ _ _ h => h
      case hw14k1 => rfl
      try simp only [Act.put, List.setIfInBounds_toArray, List.set_cons_zero, List.set_cons_succ]
      refine wpAnyH_take (i := 15) (oi := ?oi15k1) (v := undef) ?h015k1 ?h115k1 ?h215k1 ?h315k1 ?h415k1 (Or.inr ⟨?hw15k1, rfl⟩) hHeld ?rest15k1
      case h015k1 => (simp only [List.getElem?_toArray, List.getElem?_cons_zero, List.getElem?_cons_succ]; rfl)
      case h115k1 => kernel_rfl
      case h215k1 => kernel_rfl
      case h315k1 => kernel_rfl
      case h415k1 => exact fun _ _ _ h => h
      case hw15k1 => rfl
      try simp only [Act.put, List.setIfInBounds_toArray, List.set_cons_zero, List.set_cons_succ]
      refine wpAnyH_take (i := 16) (oi := ?oi16k1) (v := undef) ?h016k1 ?h116k1 ?h216k1 ?h316k1 ?h416k1 (Or.inr ⟨?hw16k1, rfl⟩) hHeld ?rest16k1
      case h016k1 => (simp only [List.getElem?_toArray, List.getElem?_cons_zero, List.getElem?_cons_succ]; rfl)
      case h116k1 => kernel_rfl
      case h216k1 => kernel_rfl
      case h316k1 => kernel_rfl
      case h416k1 => exact fun _ _ _ h => h
      case hw16k1 => rfl
      try simp only [Act.put, List.setIfInBounds_toArray, List.set_cons_zero, List.set_cons_succ]
      refine wpAnyH_take (i := 17) (oi := ?oi17k1) (v := undef) ?h017k1 ?h117k1 ?h217k1 ?h317k1 ?h417k1 (Or.inr ⟨?hw17k1, rfl⟩) hHeld ?rest17k1
      case h017k1 => (simp only [List.getElem?_toArray, List.getElem?_cons_zero, List.getElem?_cons_succ]; rfl)
      case h117k1 => kernel_rfl
      case h217k1 => kernel_rfl
      case h317k1 => kernel_rfl
      case h417k1 => exact fun _ _ _ h => h
      case hw17k1 => rfl
      try simp only [Act.put, List.setIfInBounds_toArray, List.set_cons_zero, List.set_cons_succ]
      refine wpAnyH_take (i := 18) (oi := ?oi18k1) (v := undef) ?h018k1 ?h118k1 ?h218k1 ?h318k1 ?h418k1 (Or.inr ⟨?hw18k1, rfl⟩) hHeld ?rest18k1
      case h018k1 => (simp only [List.getElem?_toArray, List.getElem?_cons_zero, List.getElem?_cons_succ]; rfl)
      case h118k1 => kernel_rfl
      case h218k1 => kernel_rfl
      case h318k1 => kernel_rfl
      case h418k1 => exact fun _ _ _ h => h
      case hw18k1 => rfl
      try simp only [Act.put, List.setIfInBounds_toArray, List.set_cons_zero, List.set_cons_succ]
      refine wpAnyH_take (i := 19) (oi := ?oi19k1) (v := undef) ?h019k1 ?h119k1 ?h219k1 ?h319k1 ?h419k1 (Or.inr ⟨?hw19k1, rfl⟩) hHeld ?rest19k1
      case h019k1 => (simp only [List.getElem?_toArray, List.getElem?_cons_zero, List.getElem?_cons_succ]; rfl)
      case h119k1 => kernel_rfl
      case h219k1 => kernel_rfl
      case h319k1 => kernel_rfl
      case h419k1 => exact fun _ _ _ h => h
      case hw19k1 => rfl
      try simp only [Act.put, List.setIfInBounds_toArray, List.set_cons_zero, List.set_cons_succ]
      refine wpAnyH_take (i := 20) (oi := ?oi20k1) (v := undef) ?h020k1 ?h120k1 ?h220k1 ?h320k1 ?h420k1 (Or.inr ⟨?hw20k1, rfl⟩) hHeld ?rest20k1
      case h020k1 => (simp only [List.getElem?_toArray, List.getElem?_cons_zero, List.getElem?_cons_succ]; rfl)
      case h120k1 => kernel_rfl
      case h220k1 => kernel_rfl
      case h320k1 => kernel_rfl
      case h420k1 => exact fun _ _ _ h => h
      case hw20k1 => rfl
      try simp only [Act.put, List.setIfInBounds_toArray, List.set_cons_zero, List.set_cons_succ]
      refine wpAnyH_take (i := 21) (oi := ?oi21k1) (v := ?v21k1) ?h021k1 ?h121k1 ?h221k1 ?h321k1 ?h421k1 (Or.inl ⟨?hw21k1, ?hy21k1⟩) hHeld ?rest21k1
      case h021k1 => (simp only [List.getElem?_toArray, List.getElem?_cons_zero, List.getElem?_cons_succ]; rfl)
      case h121k1 => kernel_rfl
      case h221k1 => kernel_rfl
      case h321k1 => kernel_rfl
      case h421k1 => exact fun _ _ _ h => h
      case hw21k1 => rfl
      case hy21k1 => ((intro w hSw; (try dsimp only at hSw); go_simp); (try (with_reducible rfl)))
      try simp only [Act.put, List.setIfInBounds_toArray, List.set_cons_zero, List.set_cons_succ]
      refine wpAnyH_ready (rs := [22]) (by kernel_rfl) (by simp) ?_
      refine AllReadyH.cons (o := ?oi22k1) ?h022k1 (fun K hK => ?_) AllReadyH.nil
      case h022k1 => (simp only [List.getElem?_toArray, List.getElem?_cons_zero, List.getElem?_cons_succ]; rfl)
      go_simp
      refine hK.out _ _ ?_ (fun hHeld => ?_)
      · go_keep
      clear hK K
      try simp only [Act.put, List.setIfInBounds_toArray, List.set_cons_zero, List.set_cons_succ]
      refine wpAnyH_take (i := 23) (oi := ?oi23k1) (v := ?v23k1) ?h023k1 ?h123k1 ?h223k1 ?h323k1 ?h423k1 (Or.inl ⟨?hw23k1, ?hy23k1⟩) hHeld ?rest23k1
      case h023k1 => (simp only [List.getElem?_toArray, List.getElem?_cons_zero, List.getElem?_cons_succ]; rfl)
      case h123k1 => kernel_rfl
      case h223k1 => kernel_rfl
      case h323k1 => kernel_rfl
      case h423k1 => exact fun _ _ _ h => h
      case hw23k1 => rfl
      case hy23k1 => ((intro w hSw; (try dsimp only at hSw); go_simp); (try (with_reducible rfl)))
      try simp only [Act.put, List.setIfInBounds_toArray, List.set_cons_zero, List.set_cons_succ]
      refine wpAnyH_done (by kernel_rfl) ?_ _
      have HRow := hide (show Row (((((((w1.setCell ⟨w.heap.size, 0, none⟩ (.int .i64 0)).setCell ⟨w.heap.size, 1, none⟩ (.int .i64 0)).setCell ⟨w.heap.size, 2, none⟩ (.func (.func 83) #[] #[])).setCell ⟨w.heap.size, 3, none⟩ (.func (.func 112) #[] #[.pointer (some ⟨p1, 0, none⟩)])).setCell ⟨w.heap.size, 4, none⟩ (.func (.func 86) #[] #[])).setCell ⟨w.heap.size, 5, none⟩ (.func (.func 88) #[] #[])).setCell ⟨w.heap.size, 6, none⟩ (.string ⟨#[114]⟩)) w.heap.size 45 #[.int .i64 0, .int .i64 0, .func (.func 83) #[] #[], .func (.func 112) #[] #[.pointer (some ⟨p1, 0, none⟩)], .func (.func 86) #[] #[], .func (.func 88) #[] #[], .string ⟨#[114]⟩] from (((((((R1.out.set_ 0 (.int .i64 0)).set_ 1 (.int .i64 0)).set_ 2 (.func (.func 83) #[] #[])).set_ 3 (.func (.func 112) #[] #[.pointer (some ⟨p1, 0, none⟩)])).set_ 4 (.func (.func 86) #[] #[])).set_ 5 (.func (.func 88) #[] #[])).set_ 6 (.string ⟨#[114]⟩)))
      have HBel := hide (((((((B1.out.setCell (p := ⟨w.heap.size, 0, none⟩) (Nat.le_refl _) (.int .i64 0)).setCell (p := ⟨w.heap.size, 1, none⟩) (Nat.le_refl _) (.int .i64 0)).setCell (p := ⟨w.heap.size, 2, none⟩) (Nat.le_refl _) (.func (.func 83) #[] #[])).setCell (p := ⟨w.heap.size, 3, none⟩) (Nat.le_refl _) (.func (.func 112) #[] #[.pointer (some ⟨p1, 0, none⟩)])).setCell (p := ⟨w.heap.size, 4, none⟩) (Nat.le_refl _) (.func (.func 86) #[] #[])).setCell (p := ⟨w.heap.size, 5, none⟩) (Nat.le_refl _) (.func (.func 88) #[] #[])).setCell (p := ⟨w.heap.size, 6, none⟩) (Nat.le_refl _) (.string ⟨#[114]⟩))
      have hok : okW 1 wd = false := by unfold okW; simp; omega
      have HOk := hide hok
      have hkp : Keeps (fun c => c = w.heap.size) w1 (((((((w1.setCell ⟨w.heap.size, 0, none⟩ (.int .i64 0)).setCell ⟨w.heap.size, 1, none⟩ (.int .i64 0)).setCell ⟨w.heap.size, 2, none⟩ (.func (.func 83) #[] #[])).setCell ⟨w.heap.size, 3, none⟩ (.func (.func 112) #[] #[.pointer (some ⟨p1, 0, none⟩)])).setCell ⟨w.heap.size, 4, none⟩ (.func (.func 86) #[] #[])).setCell ⟨w.heap.size, 5, none⟩ (.func (.func 88) #[] #[])).setCell ⟨w.heap.size, 6, none⟩ (.string ⟨#[114]⟩)) := (((((((Keeps.refl (fun c => c = w.heap.size) w1).set (.inl rfl) 0 _).set (.inl rfl) 1 _).set (.inl rfl) 2 _).set (.inl rfl) 3 _).set (.inl rfl) 4 _).set (.inl rfl) 5 _).set (.inl rfl) 6 _
      have HKR := hide (K2.out.keep hkp (by omega))
      clear hok hkp
      go_wp2
      exact bodyPost_ret (v := .tuple #[.agg #[.int .i64 0, .int .i64 0, .func (.func 83) #[] #[], .func (.func 112) #[] #[.pointer (some ⟨p1, 0, none⟩)], .func (.func 86) #[] #[], .func (.func 88) #[] #[], .string ⟨#[114]⟩], .bool false]) (results_row_tmp rfl _ _ w.heap.size 45 _ _ _ (.bool false) rfl rfl HRow.out.drew Tryz.underlying45 rfl (by kernel_rfl)) rfl ⟨HBel.out.drew, .inl ⟨1, p1, rfl, by decide, by rw [HOk.out]; rfl, HKR.out.drew, by omega⟩⟩
    rcases Classical.em (0 < wd) with hw | hw
    · skip
      have hne1 : ¬ w.heap.size = p1 + 3 := by omega
      have hne2 : ¬ p1 + 3 = w.heap.size := by omega
      have hw1 : 0 ≤ wd := by omega
      have hw2 : ¬ wd ≤ 0 := by omega
      have hd1 : decide ((0 : Int) ≤ wd) = true := by first | exact decide_eq_true hw1 | exact decide_eq_false hw1
      have hd2 : decide (wd ≤ (0 : Int)) = false := by first | exact decide_eq_true hw2 | exact decide_eq_false hw2
      go_upto_region 4 with fail
      go_region_held3 (fun w' => w'.cell? ⟨p1 + 3, 7, none⟩ = some (.int .i64 0) ∧ w'.cell? ⟨p1 + 3, 8, none⟩ = some (.int .i64 0) ∧ w'.cell? ⟨p1 + 3, 9, none⟩ = some (.func (.func 83) #[] #[]) ∧ w'.cell? ⟨p1 + 3, 10, none⟩ = some (.func (.func 112) #[] #[.pointer (some ⟨p1, 0, none⟩)]) ∧ w'.cell? ⟨p1 + 3, 11, none⟩ = some (.func (.func 86) #[] #[]) ∧ w'.cell? ⟨p1 + 3, 12, none⟩ = some (.func (.func 88) #[] #[]) ∧ w'.cell? ⟨p1 + 3, 13, none⟩ = some (.string ⟨#[114]⟩)) (go_keep) (fail)
      have HRow := hide (show Row (((((((w1.setCell ⟨w.heap.size, 0, none⟩ (.int .i64 0)).setCell ⟨w.heap.size, 1, none⟩ (.int .i64 0)).setCell ⟨w.heap.size, 2, none⟩ (.func (.func 83) #[] #[])).setCell ⟨w.heap.size, 3, none⟩ (.func (.func 112) #[] #[.pointer (some ⟨p1, 0, none⟩)])).setCell ⟨w.heap.size, 4, none⟩ (.func (.func 86) #[] #[])).setCell ⟨w.heap.size, 5, none⟩ (.func (.func 88) #[] #[])).setCell ⟨w.heap.size, 6, none⟩ (.string ⟨#[114]⟩)) w.heap.size 45 #[.int .i64 0, .int .i64 0, .func (.func 83) #[] #[], .func (.func 112) #[] #[.pointer (some ⟨p1, 0, none⟩)], .func (.func 86) #[] #[], .func (.func 88) #[] #[], .string ⟨#[114]⟩] from (((((((R1.out.set_ 0 (.int .i64 0)).set_ 1 (.int .i64 0)).set_ 2 (.func (.func 83) #[] #[])).set_ 3 (.func (.func 112) #[] #[.pointer (some ⟨p1, 0, none⟩)])).set_ 4 (.func (.func 86) #[] #[])).set_ 5 (.func (.func 88) #[] #[])).set_ 6 (.string ⟨#[114]⟩)))
      have HBel := hide (((((((B1.out.setCell (p := ⟨w.heap.size, 0, none⟩) (Nat.le_refl _) (.int .i64 0)).setCell (p := ⟨w.heap.size, 1, none⟩) (Nat.le_refl _) (.int .i64 0)).setCell (p := ⟨w.heap.size, 2, none⟩) (Nat.le_refl _) (.func (.func 83) #[] #[])).setCell (p := ⟨w.heap.size, 3, none⟩) (Nat.le_refl _) (.func (.func 112) #[] #[.pointer (some ⟨p1, 0, none⟩)])).setCell (p := ⟨w.heap.size, 4, none⟩) (Nat.le_refl _) (.func (.func 86) #[] #[])).setCell (p := ⟨w.heap.size, 5, none⟩) (Nat.le_refl _) (.func (.func 88) #[] #[])).setCell (p := ⟨w.heap.size, 6, none⟩) (Nat.le_refl _) (.string ⟨#[114]⟩))
      have hok : okW 1 wd = false := by unfold okW; simp; omega
      have HOk := hide hok
      have hkp : Keeps (fun c => c = w.heap.size) w1 (((((((w1.setCell ⟨w.heap.size, 0, none⟩ (.int .i64 0)).setCell ⟨w.heap.size, 1, none⟩ (.int .i64 0)).setCell ⟨w.heap.size, 2, none⟩ (.func (.func 83) #[] #[])).setCell ⟨w.heap.size, 3, none⟩ (.func (.func 112) #[] #[.pointer (some ⟨p1, 0, none⟩)])).setCell ⟨w.heap.size, 4, none⟩ (.func (.func 86) #[] #[])).setCell ⟨w.heap.size, 5, none⟩ (.func (.func 88) #[] #[])).setCell ⟨w.heap.size, 6, none⟩ (.string ⟨#[114]⟩)) := (((((((Keeps.refl (fun c => c = w.heap.size) w1).set (.inl rfl) 0 _).set (.inl rfl) 1 _).set (.inl rfl) 2 _).set (.inl rfl) 3 _).set (.inl rfl) 4 _).set (.inl rfl) 5 _).set (.inl rfl) 6 _
      have HKR := hide (K2.out.keep hkp (by omega))
      clear hok hkp
      go_wp2
      exact bodyPost_ret (v := .tuple #[.agg #[.int .i64 0, .int .i64 0, .func (.func 83) #[] #[], .func (.func 112) #[] #[.pointer (some ⟨p1, 0, none⟩)], .func (.func 86) #[] #[], .func (.func 88) #[] #[], .string ⟨#[114]⟩], .bool false]) (results_row_tmp rfl _ _ w.heap.size 45 _ _ _ (.bool false) rfl rfl HRow.out.drew Tryz.underlying45 rfl (by kernel_rfl)) rfl ⟨HBel.out.drew, .inl ⟨1, p1, rfl, by decide, by rw [HOk.out]; rfl, HKR.out.drew, by omega⟩⟩
    have hne1 : ¬ w.heap.size = p1 + 3 := by omega
    have hne2 : ¬ p1 + 3 = w.heap.size := by omega
    have hw1 : 0 ≤ wd := by omega
    have hw2 : wd ≤ 0 := by omega
    have hd1 : decide ((0 : Int) ≤ wd) = true := by first | exact decide_eq_true hw1 | exact decide_eq_false hw1
    have hd2 : decide (wd ≤ (0 : Int)) = true := by first | exact decide_eq_true hw2 | exact decide_eq_false hw2
    go_upto_region 4 with fail
    go_region_held3 (fun w' => w'.cell? ⟨p1 + 3, 7, none⟩ = some (.int .i64 0) ∧ w'.cell? ⟨p1 + 3, 8, none⟩ = some (.int .i64 0) ∧ w'.cell? ⟨p1 + 3, 9, none⟩ = some (.func (.func 83) #[] #[]) ∧ w'.cell? ⟨p1 + 3, 10, none⟩ = some (.func (.func 112) #[] #[.pointer (some ⟨p1, 0, none⟩)]) ∧ w'.cell? ⟨p1 + 3, 11, none⟩ = some (.func (.func 86) #[] #[]) ∧ w'.cell? ⟨p1 + 3, 12, none⟩ = some (.func (.func 88) #[] #[]) ∧ w'.cell? ⟨p1 + 3, 13, none⟩ = some (.string ⟨#[114]⟩)) (go_keep) (fail)
    have HRow := hide (show Row (((((((w1.setCell ⟨w.heap.size, 0, none⟩ (.int .i64 0)).setCell ⟨w.heap.size, 1, none⟩ (.int .i64 0)).setCell ⟨w.heap.size, 2, none⟩ (.func (.func 83) #[] #[])).setCell ⟨w.heap.size, 3, none⟩ (.func (.func 112) #[] #[.pointer (some ⟨p1, 0, none⟩)])).setCell ⟨w.heap.size, 4, none⟩ (.func (.func 86) #[] #[])).setCell ⟨w.heap.size, 5, none⟩ (.func (.func 88) #[] #[])).setCell ⟨w.heap.size, 6, none⟩ (.string ⟨#[114]⟩)) w.heap.size 45 #[.int .i64 0, .int .i64 0, .func (.func 83) #[] #[], .func (.func 112) #[] #[.pointer (some ⟨p1, 0, none⟩)], .func (.func 86) #[] #[], .func (.func 88) #[] #[], .string ⟨#[114]⟩] from (((((((R1.out.set_ 0 (.int .i64 0)).set_ 1 (.int .i64 0)).set_ 2 (.func (.func 83) #[] #[])).set_ 3 (.func (.func 112) #[] #[.pointer (some ⟨p1, 0, none⟩)])).set_ 4 (.func (.func 86) #[] #[])).set_ 5 (.func (.func 88) #[] #[])).set_ 6 (.string ⟨#[114]⟩)))
    have HBel := hide (((((((B1.out.setCell (p := ⟨w.heap.size, 0, none⟩) (Nat.le_refl _) (.int .i64 0)).setCell (p := ⟨w.heap.size, 1, none⟩) (Nat.le_refl _) (.int .i64 0)).setCell (p := ⟨w.heap.size, 2, none⟩) (Nat.le_refl _) (.func (.func 83) #[] #[])).setCell (p := ⟨w.heap.size, 3, none⟩) (Nat.le_refl _) (.func (.func 112) #[] #[.pointer (some ⟨p1, 0, none⟩)])).setCell (p := ⟨w.heap.size, 4, none⟩) (Nat.le_refl _) (.func (.func 86) #[] #[])).setCell (p := ⟨w.heap.size, 5, none⟩) (Nat.le_refl _) (.func (.func 88) #[] #[])).setCell (p := ⟨w.heap.size, 6, none⟩) (Nat.le_refl _) (.string ⟨#[114]⟩))
    have hok : okW 1 wd = true := by unfold okW; simp; omega
    have HOk := hide hok
    have hkp : Keeps (fun c => c = w.heap.size) w1 (((((((w1.setCell ⟨w.heap.size, 0, none⟩ (.int .i64 0)).setCell ⟨w.heap.size, 1, none⟩ (.int .i64 0)).setCell ⟨w.heap.size, 2, none⟩ (.func (.func 83) #[] #[])).setCell ⟨w.heap.size, 3, none⟩ (.func (.func 112) #[] #[.pointer (some ⟨p1, 0, none⟩)])).setCell ⟨w.heap.size, 4, none⟩ (.func (.func 86) #[] #[])).setCell ⟨w.heap.size, 5, none⟩ (.func (.func 88) #[] #[])).setCell ⟨w.heap.size, 6, none⟩ (.string ⟨#[114]⟩)) := (((((((Keeps.refl (fun c => c = w.heap.size) w1).set (.inl rfl) 0 _).set (.inl rfl) 1 _).set (.inl rfl) 2 _).set (.inl rfl) 3 _).set (.inl rfl) 4 _).set (.inl rfl) 5 _).set (.inl rfl) 6 _
    have HKR := hide (K2.out.keep hkp (by omega))
    clear hok hkp
    go_wp2
    exact bodyPost_ret (v := .tuple #[.agg #[.int .i64 0, .int .i64 0, .func (.func 83) #[] #[], .func (.func 112) #[] #[.pointer (some ⟨p1, 0, none⟩)], .func (.func 86) #[] #[], .func (.func 88) #[] #[], .string ⟨#[114]⟩], .bool true]) (results_row_tmp rfl _ _ w.heap.size 45 _ _ _ (.bool true) rfl rfl HRow.out.drew Tryz.underlying45 rfl (by kernel_rfl)) rfl ⟨HBel.out.drew, .inl ⟨1, p1, rfl, by decide, by rw [HOk.out]; rfl, HKR.out.drew, by omega⟩⟩
  · skip
    have c0 : w1.cell? ⟨p1 + 3, 14, none⟩ = some (.int .i64 0) := K1.out.cell 14
    have c1 : w1.cell? ⟨p1 + 3, 15, none⟩ = some (.int .i64 0) := K1.out.cell 15
    have c2 : w1.cell? ⟨p1 + 3, 16, none⟩ = some (fnV 89) := K1.out.cell 16
    have c3 : w1.cell? ⟨p1 + 3, 17, none⟩ = some (sameV (p1 + 1)) := K1.out.cell 17
    have c4 : w1.cell? ⟨p1 + 3, 18, none⟩ = some (fnV 90) := K1.out.cell 18
    have c5 : w1.cell? ⟨p1 + 3, 19, none⟩ = some (fnV 92) := K1.out.cell 19
    have c6 : w1.cell? ⟨p1 + 3, 20, none⟩ = some (.string ⟨#[115]⟩) := K1.out.cell 20
    unfold fnV sameV at *
    rcases Classical.em (wd < 0) with hw | hw
    · skip
      have hne1 : ¬ w.heap.size = p1 + 3 := by omega
      have hne2 : ¬ p1 + 3 = w.heap.size := by omega
      have hw1 : ¬ 0 ≤ wd := by omega
      have hd1 : decide ((0 : Int) ≤ wd) = false := by first | exact decide_eq_true hw1 | exact decide_eq_false hw1
      go_upto_region 4 with fail
      refine wp_region_held_drew (S := fun w' => w'.cell? ⟨p1 + 3, 14, none⟩ = some (.int .i64 0) ∧ w'.cell? ⟨p1 + 3, 15, none⟩ = some (.int .i64 0) ∧ w'.cell? ⟨p1 + 3, 16, none⟩ = some (.func (.func 89) #[] #[]) ∧ w'.cell? ⟨p1 + 3, 17, none⟩ = some (.func (.func 112) #[] #[.pointer (some ⟨(p1 + 1), 0, none⟩)]) ∧ w'.cell? ⟨p1 + 3, 18, none⟩ = some (.func (.func 90) #[] #[]) ∧ w'.cell? ⟨p1 + 3, 19, none⟩ = some (.func (.func 92) #[] #[]) ∧ w'.cell? ⟨p1 + 3, 20, none⟩ = some (.string ⟨#[115]⟩)) (by kernel_rfl) ?_ (fun hHeld => ?_)
      · go_keep
      refine wpAnyH_take (i := 0) (oi := ?oi0k2) (v := ?v0k2) ?h00k2 ?h10k2 ?h20k2 ?h30k2 ?h40k2 (Or.inl ⟨?hw0k2, ?hy0k2⟩) hHeld ?rest0k2
      case h00k2 => (simp only [List.getElem?_toArray, List.getElem?_cons_zero, List.getElem?_cons_succ]; rfl)
      case h10k2 => kernel_rfl
      case h20k2 => kernel_rfl
      case h30k2 => kernel_rfl
      case h40k2 => exact fun _ _ _ h => h
      case hw0k2 => rfl
      case hy0k2 => ((intro w hSw; (try dsimp only at hSw); go_simp); (try (with_reducible rfl)))
      try simp only [Act.put, List.setIfInBounds_toArray, List.set_cons_zero, List.set_cons_succ]
      refine wpAnyH_take (i := 1) (oi := ?oi1k2) (v := ?v1k2) ?h01k2 ?h11k2 ?h21k2 ?h31k2 ?h41k2 (Or.inl ⟨?hw1k2, ?hy1k2⟩) hHeld ?rest1k2
      case h01k2 => (simp only [List.getElem?_toArray, List.getElem?_cons_zero, List.getElem?_cons_succ]; rfl)
      case h11k2 => kernel_rfl
      case h21k2 => kernel_rfl
      case h31k2 => kernel_rfl
      case h41k2 => exact fun _ _ _ h => h
      case hw1k2 => rfl
      case hy1k2 => ((intro w hSw; (try dsimp only at hSw); go_simp); (try (with_reducible rfl)))
      try simp only [Act.put, List.setIfInBounds_toArray, List.set_cons_zero, List.set_cons_succ]
      refine wpAnyH_take (i := 2) (oi := ?oi2k2) (v := ?v2k2) ?h02k2 ?h12k2 ?h22k2 ?h32k2 ?h42k2 (Or.inl ⟨?hw2k2, ?hy2k2⟩) hHeld ?rest2k2
      case h02k2 => (simp only [List.getElem?_toArray, List.getElem?_cons_zero, List.getElem?_cons_succ]; rfl)
      case h12k2 => kernel_rfl
      case h22k2 => kernel_rfl
      case h32k2 => kernel_rfl
      case h42k2 => exact fun _ _ _ h => h
      case hw2k2 => rfl
      case hy2k2 => ((intro w hSw; (try dsimp only at hSw); go_simp); (try (with_reducible rfl)))
      try simp only [Act.put, List.setIfInBounds_toArray, List.set_cons_zero, List.set_cons_succ]
      refine wpAnyH_take (i := 3) (oi := ?oi3k2) (v := ?v3k2) ?h03k2 ?h13k2 ?h23k2 ?h33k2 ?h43k2 (Or.inl ⟨?hw3k2, ?hy3k2⟩) hHeld ?rest3k2
      case h03k2 => (simp only [List.getElem?_toArray, List.getElem?_cons_zero, List.getElem?_cons_succ]; rfl)
      case h13k2 => kernel_rfl
      case h23k2 => kernel_rfl
      case h33k2 => kernel_rfl
      case h43k2 => exact fun _ _ _ h => h
      case hw3k2 => rfl
      case hy3k2 => ((intro w hSw; (try dsimp only at hSw); go_simp); (try (with_reducible rfl)))
      try simp only [Act.put, List.setIfInBounds_toArray, List.set_cons_zero, List.set_cons_succ]
      refine wpAnyH_take (i := 4) (oi := ?oi4k2) (v := ?v4k2) ?h04k2 ?h14k2 ?h24k2 ?h34k2 ?h44k2 (Or.inl ⟨?hw4k2, ?hy4k2⟩) hHeld ?rest4k2
      case h04k2 => (simp only [List.getElem?_toArray, List.getElem?_cons_zero, List.getElem?_cons_succ]; rfl)
      case h14k2 => kernel_rfl
      case h24k2 => kernel_rfl
      case h34k2 => kernel_rfl
      case h44k2 => exact fun _ _ _ h => h
      case hw4k2 => rfl
      case hy4k2 => ((intro w hSw; (try dsimp only at hSw); go_simp); (try (with_reducible rfl)))
      try simp only [Act.put, List.setIfInBounds_toArray, List.set_cons_zero, List.set_cons_succ]
      refine wpAnyH_take (i := 5) (oi := ?oi5k2) (v := ?v5k2) ?h05k2 ?h15k2 ?h25k2 ?h35k2 ?h45k2 (Or.inl ⟨?hw5k2, ?hy5k2⟩) hHeld ?rest5k2
      case h05k2 => (simp only [List.getElem?_toArray, List.getElem?_cons_zero, List.getElem?_cons_succ]; rfl)
      case h15k2 => kernel_rfl
      case h25k2 => kernel_rfl
      case h35k2 => kernel_rfl
      case h45k2 => exact fun _ _ _ h => h
      case hw5k2 => rfl
      case hy5k2 => ((intro w hSw; (try dsimp only at hSw); go_simp); (try (with_reducible rfl)))
      try simp only [Act.put, List.setIfInBounds_toArray, List.set_cons_zero, List.set_cons_succ]
      refine wpAnyH_take (i := 6) (oi := ?oi6k2) (v := ?v6k2) ?h06k2 ?h16k2 ?h26k2 ?h36k2 ?h46k2 (Or.inl ⟨?hw6k2, ?hy6k2⟩) hHeld ?rest6k2
      case h06k2 => (simp only [List.getElem?_toArray, List.getElem?_cons_zero, List.getElem?_cons_succ]; rfl)
      case h16k2 => kernel_rfl
      case h26k2 => kernel_rfl
      case h36k2 => kernel_rfl
      case h46k2 => exact fun _ _ _ h => h
      case hw6k2 => rfl
      case hy6k2 => ((intro w hSw; (try dsimp only at hSw); go_simp); (try (with_reducible rfl)))
      try simp only [Act.put, List.setIfInBounds_toArray, List.set_cons_zero, List.set_cons_succ]
      refine wpAnyH_take (i := 7) (oi := ?oi7k2) (v := ?v7k2) ?h07k2 ?h17k2 ?h27k2 ?h37k2 ?h47k2 (Or.inl ⟨?hw7k2, ?hy7k2⟩) hHeld ?rest7k2
      case h07k2 => (simp only [List.getElem?_toArray, List.getElem?_cons_zero, List.getElem?_cons_succ]; rfl)
      case h17k2 => kernel_rfl
      case h27k2 => kernel_rfl
      case h37k2 => kernel_rfl
      case h47k2 => exact fun _ _ _ h => h
      case hw7k2 => rfl
      case hy7k2 => ((intro w hSw; (try dsimp only at hSw); go_simp); (try (with_reducible rfl)))
      try simp only [Act.put, List.setIfInBounds_toArray, List.set_cons_zero, List.set_cons_succ]
      refine wpAnyH_take (i := 8) (oi := ?oi8k2) (v := ?v8k2) ?h08k2 ?h18k2 ?h28k2 ?h38k2 ?h48k2 (Or.inl ⟨?hw8k2, ?hy8k2⟩) hHeld ?rest8k2
      case h08k2 => (simp only [List.getElem?_toArray, List.getElem?_cons_zero, List.getElem?_cons_succ]; rfl)
      case h18k2 => kernel_rfl
      case h28k2 => kernel_rfl
      case h38k2 => kernel_rfl
      case h48k2 => exact fun _ _ _ h => h
      case hw8k2 => rfl
      case hy8k2 => ((intro w hSw; (try dsimp only at hSw); go_simp); (try (with_reducible rfl)))
      try simp only [Act.put, List.setIfInBounds_toArray, List.set_cons_zero, List.set_cons_succ]
      refine wpAnyH_take (i := 9) (oi := ?oi9k2) (v := ?v9k2) ?h09k2 ?h19k2 ?h29k2 ?h39k2 ?h49k2 (Or.inl ⟨?hw9k2, ?hy9k2⟩) hHeld ?rest9k2
      case h09k2 => (simp only [List.getElem?_toArray, List.getElem?_cons_zero, List.getElem?_cons_succ]; rfl)
      case h19k2 => kernel_rfl
      case h29k2 => kernel_rfl
      case h39k2 => kernel_rfl
      case h49k2 => exact fun _ _ _ h => h
      case hw9k2 => rfl
      case hy9k2 => ((intro w hSw; (try dsimp only at hSw); go_simp); (try (with_reducible rfl)))
      try simp only [Act.put, List.setIfInBounds_toArray, List.set_cons_zero, List.set_cons_succ]
      refine wpAnyH_take (i := 10) (oi := ?oi10k2) (v := ?v10k2) ?h010k2 ?h110k2 ?h210k2 ?h310k2 ?h410k2 (Or.inl ⟨?hw10k2, ?hy10k2⟩) hHeld ?rest10k2
      case h010k2 => (simp only [List.getElem?_toArray, List.getElem?_cons_zero, List.getElem?_cons_succ]; rfl)
      case h110k2 => kernel_rfl
      case h210k2 => kernel_rfl
      case h310k2 => kernel_rfl
      case h410k2 => exact fun _ _ _ h => h
      case hw10k2 => rfl
      case hy10k2 => ((intro w hSw; (try dsimp only at hSw); go_simp); (try (with_reducible rfl)))
      try simp only [Act.put, List.setIfInBounds_toArray, List.set_cons_zero, List.set_cons_succ]
      refine wpAnyH_take (i := 11) (oi := ?oi11k2) (v := ?v11k2) ?h011k2 ?h111k2 ?h211k2 ?h311k2 ?h411k2 (Or.inl ⟨?hw11k2, ?hy11k2⟩) hHeld ?rest11k2
      case h011k2 => (simp only [List.getElem?_toArray, List.getElem?_cons_zero, List.getElem?_cons_succ]; rfl)
      case h111k2 => kernel_rfl
      case h211k2 => kernel_rfl
      case h311k2 => kernel_rfl
      case h411k2 => exact fun _ _ _ h => h
      case hw11k2 => rfl
      case hy11k2 => ((intro w hSw; (try dsimp only at hSw); go_simp); (try (with_reducible rfl)))
      try simp only [Act.put, List.setIfInBounds_toArray, List.set_cons_zero, List.set_cons_succ]
      refine wpAnyH_take (i := 12) (oi := ?oi12k2) (v := ?v12k2) ?h012k2 ?h112k2 ?h212k2 ?h312k2 ?h412k2 (Or.inl ⟨?hw12k2, ?hy12k2⟩) hHeld ?rest12k2
      case h012k2 => (simp only [List.getElem?_toArray, List.getElem?_cons_zero, List.getElem?_cons_succ]; rfl)
      case h112k2 => kernel_rfl
      case h212k2 => kernel_rfl
      case h312k2 => kernel_rfl
      case h412k2 => exact fun _ _ _ h => h
      case hw12k2 => rfl
      case hy12k2 => ((intro w hSw; (try dsimp only at hSw); go_simp); (try (with_reducible rfl)))
      try simp only [Act.put, List.setIfInBounds_toArray, List.set_cons_zero, List.set_cons_succ]
      refine wpAnyH_take (i := 13) (oi := ?oi13k2) (v := undef) ?h013k2 ?h113k2 ?h213k2 ?h313k2 ?h413k2 (Or.inr ⟨?hw13k2, rfl⟩) hHeld ?rest13k2
      case h013k2 => (simp only [List.getElem?_toArray, List.getElem?_cons_zero, List.getElem?_cons_succ]; rfl)
      case h113k2 => kernel_rfl
      case h213k2 => kernel_rfl
      case h313k2 => kernel_rfl
      case h413k2 => exact fun _ _ _ h => h
      case hw13k2 => rfl
      try simp only [Act.put, List.setIfInBounds_toArray, List.set_cons_zero, List.set_cons_succ]
      refine wpAnyH_take (i := 14) (oi := ?oi14k2) (v := undef) ?h014k2 ?h114k2 ?h214k2 ?h314k2 ?h414k2 (Or.inr ⟨?hw14k2, rfl⟩) hHeld ?rest14k2
      case h014k2 => (simp only [List.getElem?_toArray, List.getElem?_cons_zero, List.getElem?_cons_succ]; rfl)
      case h114k2 => kernel_rfl
      case h214k2 => kernel_rfl
      case h314k2 => kernel_rfl
      case h414k2 => exact fun _ _ _ h => h
      case hw14k2 => rfl
      try simp only [Act.put, List.setIfInBounds_toArray, List.set_cons_zero, List.set_cons_succ]
      refine wpAnyH_take (i := 15) (oi := ?oi15k2) (v := undef) ?h015k2 ?h115k2 ?h215k2 ?h315k2 ?h415k2 (Or.inr ⟨?hw15k2, rfl⟩) hHeld ?rest15k2
      case h015k2 => (simp only [List.getElem?_toArray, List.getElem?_cons_zero, List.getElem?_cons_succ]; rfl)
      case h115k2 => kernel_rfl
      case h215k2 => kernel_rfl
      case h315k2 => kernel_rfl
      case h415k2 => exact fun _ _ _ h => h
      case hw15k2 => rfl
      try simp only [Act.put, List.setIfInBounds_toArray, List.set_cons_zero, List.set_cons_succ]
      refine wpAnyH_take (i := 16) (oi := ?oi16k2) (v := undef) ?h016k2 ?h116k2 ?h216k2 ?h316k2 ?h416k2 (Or.inr ⟨?hw16k2, rfl⟩) hHeld ?rest16k2
      case h016k2 => (simp only [List.getElem?_toArray, List.getElem?_cons_zero, List.getElem?_cons_succ]; rfl)
      case h116k2 => kernel_rfl
      case h216k2 => kernel_rfl
      case h316k2 => kernel_rfl
      case h416k2 => exact fun _ _ _ h => h
      case hw16k2 => rfl
      try simp only [Act.put, List.setIfInBounds_toArray, List.set_cons_zero, List.set_cons_succ]
      refine wpAnyH_take (i := 17) (oi := ?oi17k2) (v := undef) ?h017k2 ?h117k2 ?h217k2 ?h317k2 ?h417k2 (Or.inr ⟨?hw17k2, rfl⟩) hHeld ?rest17k2
      case h017k2 => (simp only [List.getElem?_toArray, List.getElem?_cons_zero, List.getElem?_cons_succ]; rfl)
      case h117k2 => kernel_rfl
      case h217k2 => kernel_rfl
      case h317k2 => kernel_rfl
      case h417k2 => exact fun _ _ _ h => h
      case hw17k2 => rfl
      try simp only [Act.put, List.setIfInBounds_toArray, List.set_cons_zero, List.set_cons_succ]
      refine wpAnyH_take (i := 18) (oi := ?oi18k2) (v := undef) ?h018k2 ?h118k2 ?h218k2 ?h318k2 ?h418k2 (Or.inr ⟨?hw18k2, rfl⟩) hHeld ?rest18k2
      case h018k2 => (simp only [List.getElem?_toArray, List.getElem?_cons_zero, List.getElem?_cons_succ]; rfl)
      case h118k2 => kernel_rfl
      case h218k2 => kernel_rfl
      case h318k2 => kernel_rfl
      case h418k2 => exact fun _ _ _ h => h
      case hw18k2 => rfl
      try simp only [Act.put, List.setIfInBounds_toArray, List.set_cons_zero, List.set_cons_succ]
      refine wpAnyH_take (i := 19) (oi := ?oi19k2) (v := undef) ?h019k2 ?h119k2 ?h219k2 ?h319k2 ?h419k2 (Or.inr ⟨?hw19k2, rfl⟩) hHeld ?rest19k2
      case h019k2 => (simp only [List.getElem?_toArray, List.getElem?_cons_zero, List.getElem?_cons_succ]; rfl)
      case h119k2 => kernel_rfl
      case h219k2 => kernel_rfl
      case h319k2 => kernel_rfl
      case h419k2 => exact fun _ _ _ h => h
      case hw19k2 => rfl
      try simp only [Act.put, List.setIfInBounds_toArray, List.set_cons_zero, List.set_cons_succ]
      refine wpAnyH_take (i := 20) (oi := ?oi20k2) (v := undef) ?h020k2 ?h120k2 ?h220k2 ?h320k2 ?h420k2 (Or.inr ⟨?hw20k2, rfl⟩) hHeld ?rest20k2
      case h020k2 => (simp only [List.getElem?_toArray, List.getElem?_cons_zero, List.getElem?_cons_succ]; rfl)
      case h120k2 => kernel_rfl
      case h220k2 => kernel_rfl
      case h320k2 => kernel_rfl
      case h420k2 => exact fun _ _ _ h => h
      case hw20k2 => rfl
      try simp only [Act.put, List.setIfInBounds_toArray, List.set_cons_zero, List.set_cons_succ]
      refine wpAnyH_take (i := 21) (oi := ?oi21k2) (v := ?v21k2) ?h021k2 ?h121k2 ?h221k2 ?h321k2 ?h421k2 (Or.inl ⟨?hw21k2, ?hy21k2⟩) hHeld ?rest21k2
      case h021k2 => (simp only [List.getElem?_toArray, List.getElem?_cons_zero, List.getElem?_cons_succ]; rfl)
      case h121k2 => kernel_rfl
      case h221k2 => kernel_rfl
      case h321k2 => kernel_rfl
      case h421k2 => exact fun _ _ _ h => h
      case hw21k2 => rfl
      case hy21k2 => ((intro w hSw; (try dsimp only at hSw); go_simp); (try (with_reducible rfl)))
      try simp only [Act.put, List.setIfInBounds_toArray, List.set_cons_zero, List.set_cons_succ]
      refine wpAnyH_ready (rs := [22]) (by kernel_rfl) (by simp) ?_
      refine AllReadyH.cons (o := ?oi22k2) ?h022k2 (fun K hK => ?_) AllReadyH.nil
      case h022k2 => (simp only [List.getElem?_toArray, List.getElem?_cons_zero, List.getElem?_cons_succ]; rfl)
      go_simp
      refine hK.out _ _ ?_ (fun hHeld => ?_)
      · go_keep
      clear hK K
      try simp only [Act.put, List.setIfInBounds_toArray, List.set_cons_zero, List.set_cons_succ]
      refine wpAnyH_take (i := 23) (oi := ?oi23k2) (v := ?v23k2) ?h023k2 ?h123k2 ?h223k2 ?h323k2 ?h423k2 (Or.inl ⟨?hw23k2, ?hy23k2⟩) hHeld ?rest23k2
      case h023k2 => (simp only [List.getElem?_toArray, List.getElem?_cons_zero, List.getElem?_cons_succ]; rfl)
      case h123k2 => kernel_rfl
      case h223k2 => kernel_rfl
      case h323k2 => kernel_rfl
      case h423k2 => exact fun _ _ _ h => h
      case hw23k2 => rfl
      case hy23k2 => ((intro w hSw; (try dsimp only at hSw); go_simp); (try (with_reducible rfl)))
      try simp only [Act.put, List.setIfInBounds_toArray, List.set_cons_zero, List.set_cons_succ]
      refine wpAnyH_done (by kernel_rfl) ?_ _
      have HRow := hide (show Row (((((((w1.setCell ⟨w.heap.size, 0, none⟩ (.int .i64 0)).setCell ⟨w.heap.size, 1, none⟩ (.int .i64 0)).setCell ⟨w.heap.size, 2, none⟩ (.func (.func 89) #[] #[])).setCell ⟨w.heap.size, 3, none⟩ (.func (.func 112) #[] #[.pointer (some ⟨(p1 + 1), 0, none⟩)])).setCell ⟨w.heap.size, 4, none⟩ (.func (.func 90) #[] #[])).setCell ⟨w.heap.size, 5, none⟩ (.func (.func 92) #[] #[])).setCell ⟨w.heap.size, 6, none⟩ (.string ⟨#[115]⟩)) w.heap.size 45 #[.int .i64 0, .int .i64 0, .func (.func 89) #[] #[], .func (.func 112) #[] #[.pointer (some ⟨(p1 + 1), 0, none⟩)], .func (.func 90) #[] #[], .func (.func 92) #[] #[], .string ⟨#[115]⟩] from (((((((R1.out.set_ 0 (.int .i64 0)).set_ 1 (.int .i64 0)).set_ 2 (.func (.func 89) #[] #[])).set_ 3 (.func (.func 112) #[] #[.pointer (some ⟨(p1 + 1), 0, none⟩)])).set_ 4 (.func (.func 90) #[] #[])).set_ 5 (.func (.func 92) #[] #[])).set_ 6 (.string ⟨#[115]⟩)))
      have HBel := hide (((((((B1.out.setCell (p := ⟨w.heap.size, 0, none⟩) (Nat.le_refl _) (.int .i64 0)).setCell (p := ⟨w.heap.size, 1, none⟩) (Nat.le_refl _) (.int .i64 0)).setCell (p := ⟨w.heap.size, 2, none⟩) (Nat.le_refl _) (.func (.func 89) #[] #[])).setCell (p := ⟨w.heap.size, 3, none⟩) (Nat.le_refl _) (.func (.func 112) #[] #[.pointer (some ⟨(p1 + 1), 0, none⟩)])).setCell (p := ⟨w.heap.size, 4, none⟩) (Nat.le_refl _) (.func (.func 90) #[] #[])).setCell (p := ⟨w.heap.size, 5, none⟩) (Nat.le_refl _) (.func (.func 92) #[] #[])).setCell (p := ⟨w.heap.size, 6, none⟩) (Nat.le_refl _) (.string ⟨#[115]⟩))
      have hok : okW 2 wd = false := by unfold okW; simp; omega
      have HOk := hide hok
      have hkp : Keeps (fun c => c = w.heap.size) w1 (((((((w1.setCell ⟨w.heap.size, 0, none⟩ (.int .i64 0)).setCell ⟨w.heap.size, 1, none⟩ (.int .i64 0)).setCell ⟨w.heap.size, 2, none⟩ (.func (.func 89) #[] #[])).setCell ⟨w.heap.size, 3, none⟩ (.func (.func 112) #[] #[.pointer (some ⟨(p1 + 1), 0, none⟩)])).setCell ⟨w.heap.size, 4, none⟩ (.func (.func 90) #[] #[])).setCell ⟨w.heap.size, 5, none⟩ (.func (.func 92) #[] #[])).setCell ⟨w.heap.size, 6, none⟩ (.string ⟨#[115]⟩)) := (((((((Keeps.refl (fun c => c = w.heap.size) w1).set (.inl rfl) 0 _).set (.inl rfl) 1 _).set (.inl rfl) 2 _).set (.inl rfl) 3 _).set (.inl rfl) 4 _).set (.inl rfl) 5 _).set (.inl rfl) 6 _
      have HKR := hide (K3.out.keep hkp (by omega))
      clear hok hkp
      go_wp2
      exact bodyPost_ret (v := .tuple #[.agg #[.int .i64 0, .int .i64 0, .func (.func 89) #[] #[], .func (.func 112) #[] #[.pointer (some ⟨(p1 + 1), 0, none⟩)], .func (.func 90) #[] #[], .func (.func 92) #[] #[], .string ⟨#[115]⟩], .bool false]) (results_row_tmp rfl _ _ w.heap.size 45 _ _ _ (.bool false) rfl rfl HRow.out.drew Tryz.underlying45 rfl (by kernel_rfl)) rfl ⟨HBel.out.drew, .inl ⟨2, (p1 + 1), rfl, by decide, by rw [HOk.out]; rfl, HKR.out.drew, by omega⟩⟩
    rcases Classical.em (0 < wd) with hw | hw
    · skip
      have hne1 : ¬ w.heap.size = p1 + 3 := by omega
      have hne2 : ¬ p1 + 3 = w.heap.size := by omega
      have hw1 : 0 ≤ wd := by omega
      have hw2 : ¬ wd ≤ 0 := by omega
      have hd1 : decide ((0 : Int) ≤ wd) = true := by first | exact decide_eq_true hw1 | exact decide_eq_false hw1
      have hd2 : decide (wd ≤ (0 : Int)) = false := by first | exact decide_eq_true hw2 | exact decide_eq_false hw2
      go_upto_region 4 with fail
      go_region_held3 (fun w' => w'.cell? ⟨p1 + 3, 14, none⟩ = some (.int .i64 0) ∧ w'.cell? ⟨p1 + 3, 15, none⟩ = some (.int .i64 0) ∧ w'.cell? ⟨p1 + 3, 16, none⟩ = some (.func (.func 89) #[] #[]) ∧ w'.cell? ⟨p1 + 3, 17, none⟩ = some (.func (.func 112) #[] #[.pointer (some ⟨(p1 + 1), 0, none⟩)]) ∧ w'.cell? ⟨p1 + 3, 18, none⟩ = some (.func (.func 90) #[] #[]) ∧ w'.cell? ⟨p1 + 3, 19, none⟩ = some (.func (.func 92) #[] #[]) ∧ w'.cell? ⟨p1 + 3, 20, none⟩ = some (.string ⟨#[115]⟩)) (go_keep) (fail)
      have HRow := hide (show Row (((((((w1.setCell ⟨w.heap.size, 0, none⟩ (.int .i64 0)).setCell ⟨w.heap.size, 1, none⟩ (.int .i64 0)).setCell ⟨w.heap.size, 2, none⟩ (.func (.func 89) #[] #[])).setCell ⟨w.heap.size, 3, none⟩ (.func (.func 112) #[] #[.pointer (some ⟨(p1 + 1), 0, none⟩)])).setCell ⟨w.heap.size, 4, none⟩ (.func (.func 90) #[] #[])).setCell ⟨w.heap.size, 5, none⟩ (.func (.func 92) #[] #[])).setCell ⟨w.heap.size, 6, none⟩ (.string ⟨#[115]⟩)) w.heap.size 45 #[.int .i64 0, .int .i64 0, .func (.func 89) #[] #[], .func (.func 112) #[] #[.pointer (some ⟨(p1 + 1), 0, none⟩)], .func (.func 90) #[] #[], .func (.func 92) #[] #[], .string ⟨#[115]⟩] from (((((((R1.out.set_ 0 (.int .i64 0)).set_ 1 (.int .i64 0)).set_ 2 (.func (.func 89) #[] #[])).set_ 3 (.func (.func 112) #[] #[.pointer (some ⟨(p1 + 1), 0, none⟩)])).set_ 4 (.func (.func 90) #[] #[])).set_ 5 (.func (.func 92) #[] #[])).set_ 6 (.string ⟨#[115]⟩)))
      have HBel := hide (((((((B1.out.setCell (p := ⟨w.heap.size, 0, none⟩) (Nat.le_refl _) (.int .i64 0)).setCell (p := ⟨w.heap.size, 1, none⟩) (Nat.le_refl _) (.int .i64 0)).setCell (p := ⟨w.heap.size, 2, none⟩) (Nat.le_refl _) (.func (.func 89) #[] #[])).setCell (p := ⟨w.heap.size, 3, none⟩) (Nat.le_refl _) (.func (.func 112) #[] #[.pointer (some ⟨(p1 + 1), 0, none⟩)])).setCell (p := ⟨w.heap.size, 4, none⟩) (Nat.le_refl _) (.func (.func 90) #[] #[])).setCell (p := ⟨w.heap.size, 5, none⟩) (Nat.le_refl _) (.func (.func 92) #[] #[])).setCell (p := ⟨w.heap.size, 6, none⟩) (Nat.le_refl _) (.string ⟨#[115]⟩))
      have hok : okW 2 wd = false := by unfold okW; simp; omega
      have HOk := hide hok
      have hkp : Keeps (fun c => c = w.heap.size) w1 (((((((w1.setCell ⟨w.heap.size, 0, none⟩ (.int .i64 0)).setCell ⟨w.heap.size, 1, none⟩ (.int .i64 0)).setCell ⟨w.heap.size, 2, none⟩ (.func (.func 89) #[] #[])).setCell ⟨w.heap.size, 3, none⟩ (.func (.func 112) #[] #[.pointer (some ⟨(p1 + 1), 0, none⟩)])).setCell ⟨w.heap.size, 4, none⟩ (.func (.func 90) #[] #[])).setCell ⟨w.heap.size, 5, none⟩ (.func (.func 92) #[] #[])).setCell ⟨w.heap.size, 6, none⟩ (.string ⟨#[115]⟩)) := (((((((Keeps.refl (fun c => c = w.heap.size) w1).set (.inl rfl) 0 _).set (.inl rfl) 1 _).set (.inl rfl) 2 _).set (.inl rfl) 3 _).set (.inl rfl) 4 _).set (.inl rfl) 5 _).set (.inl rfl) 6 _
      have HKR := hide (K3.out.keep hkp (by omega))
      clear hok hkp
      go_wp2
      exact bodyPost_ret (v := .tuple #[.agg #[.int .i64 0, .int .i64 0, .func (.func 89) #[] #[], .func (.func 112) #[] #[.pointer (some ⟨(p1 + 1), 0, none⟩)], .func (.func 90) #[] #[], .func (.func 92) #[] #[], .string ⟨#[115]⟩], .bool false]) (results_row_tmp rfl _ _ w.heap.size 45 _ _ _ (.bool false) rfl rfl HRow.out.drew Tryz.underlying45 rfl (by kernel_rfl)) rfl ⟨HBel.out.drew, .inl ⟨2, (p1 + 1), rfl, by decide, by rw [HOk.out]; rfl, HKR.out.drew, by omega⟩⟩
    have hne1 : ¬ w.heap.size = p1 + 3 := by omega
    have hne2 : ¬ p1 + 3 = w.heap.size := by omega
    have hw1 : 0 ≤ wd := by omega
    have hw2 : wd ≤ 0 := by omega
    have hd1 : decide ((0 : Int) ≤ wd) = true := by first | exact decide_eq_true hw1 | exact decide_eq_false hw1
    have hd2 : decide (wd ≤ (0 : Int)) = true := by first | exact decide_eq_true hw2 | exact decide_eq_false hw2
    go_upto_region 4 with fail
    go_region_held3 (fun w' => w'.cell? ⟨p1 + 3, 14, none⟩ = some (.int .i64 0) ∧ w'.cell? ⟨p1 + 3, 15, none⟩ = some (.int .i64 0) ∧ w'.cell? ⟨p1 + 3, 16, none⟩ = some (.func (.func 89) #[] #[]) ∧ w'.cell? ⟨p1 + 3, 17, none⟩ = some (.func (.func 112) #[] #[.pointer (some ⟨(p1 + 1), 0, none⟩)]) ∧ w'.cell? ⟨p1 + 3, 18, none⟩ = some (.func (.func 90) #[] #[]) ∧ w'.cell? ⟨p1 + 3, 19, none⟩ = some (.func (.func 92) #[] #[]) ∧ w'.cell? ⟨p1 + 3, 20, none⟩ = some (.string ⟨#[115]⟩)) (go_keep) (fail)
    have HRow := hide (show Row (((((((w1.setCell ⟨w.heap.size, 0, none⟩ (.int .i64 0)).setCell ⟨w.heap.size, 1, none⟩ (.int .i64 0)).setCell ⟨w.heap.size, 2, none⟩ (.func (.func 89) #[] #[])).setCell ⟨w.heap.size, 3, none⟩ (.func (.func 112) #[] #[.pointer (some ⟨(p1 + 1), 0, none⟩)])).setCell ⟨w.heap.size, 4, none⟩ (.func (.func 90) #[] #[])).setCell ⟨w.heap.size, 5, none⟩ (.func (.func 92) #[] #[])).setCell ⟨w.heap.size, 6, none⟩ (.string ⟨#[115]⟩)) w.heap.size 45 #[.int .i64 0, .int .i64 0, .func (.func 89) #[] #[], .func (.func 112) #[] #[.pointer (some ⟨(p1 + 1), 0, none⟩)], .func (.func 90) #[] #[], .func (.func 92) #[] #[], .string ⟨#[115]⟩] from (((((((R1.out.set_ 0 (.int .i64 0)).set_ 1 (.int .i64 0)).set_ 2 (.func (.func 89) #[] #[])).set_ 3 (.func (.func 112) #[] #[.pointer (some ⟨(p1 + 1), 0, none⟩)])).set_ 4 (.func (.func 90) #[] #[])).set_ 5 (.func (.func 92) #[] #[])).set_ 6 (.string ⟨#[115]⟩)))
    have HBel := hide (((((((B1.out.setCell (p := ⟨w.heap.size, 0, none⟩) (Nat.le_refl _) (.int .i64 0)).setCell (p := ⟨w.heap.size, 1, none⟩) (Nat.le_refl _) (.int .i64 0)).setCell (p := ⟨w.heap.size, 2, none⟩) (Nat.le_refl _) (.func (.func 89) #[] #[])).setCell (p := ⟨w.heap.size, 3, none⟩) (Nat.le_refl _) (.func (.func 112) #[] #[.pointer (some ⟨(p1 + 1), 0, none⟩)])).setCell (p := ⟨w.heap.size, 4, none⟩) (Nat.le_refl _) (.func (.func 90) #[] #[])).setCell (p := ⟨w.heap.size, 5, none⟩) (Nat.le_refl _) (.func (.func 92) #[] #[])).setCell (p := ⟨w.heap.size, 6, none⟩) (Nat.le_refl _) (.string ⟨#[115]⟩))
    have hok : okW 2 wd = true := by unfold okW; simp; omega
    have HOk := hide hok
    have hkp : Keeps (fun c => c = w.heap.size) w1 (((((((w1.setCell ⟨w.heap.size, 0, none⟩ (.int .i64 0)).setCell ⟨w.heap.size, 1, none⟩ (.int .i64 0)).setCell ⟨w.heap.size, 2, none⟩ (.func (.func 89) #[] #[])).setCell ⟨w.heap.size, 3, none⟩ (.func (.func 112) #[] #[.pointer (some ⟨(p1 + 1), 0, none⟩)])).setCell ⟨w.heap.size, 4, none⟩ (.func (.func 90) #[] #[])).setCell ⟨w.heap.size, 5, none⟩ (.func (.func 92) #[] #[])).setCell ⟨w.heap.size, 6, none⟩ (.string ⟨#[115]⟩)) := (((((((Keeps.refl (fun c => c = w.heap.size) w1).set (.inl rfl) 0 _).set (.inl rfl) 1 _).set (.inl rfl) 2 _).set (.inl rfl) 3 _).set (.inl rfl) 4 _).set (.inl rfl) 5 _).set (.inl rfl) 6 _
    have HKR := hide (K3.out.keep hkp (by omega))
    clear hok hkp
    go_wp2
    exact bodyPost_ret (v := .tuple #[.agg #[.int .i64 0, .int .i64 0, .func (.func 89) #[] #[], .func (.func 112) #[] #[.pointer (some ⟨(p1 + 1), 0, none⟩)], .func (.func 90) #[] #[], .func (.func 92) #[] #[], .string ⟨#[115]⟩], .bool true]) (results_row_tmp rfl _ _ w.heap.size 45 _ _ _ (.bool true) rfl rfl HRow.out.drew Tryz.underlying45 rfl (by kernel_rfl)) rfl ⟨HBel.out.drew, .inl ⟨2, (p1 + 1), rfl, by decide, by rw [HOk.out]; rfl, HKR.out.drew, by omega⟩⟩
  · skip
    have c0 : w1.cell? ⟨p1 + 3, 21, none⟩ = some (.int .i64 0) := K1.out.cell 21
    have c1 : w1.cell? ⟨p1 + 3, 22, none⟩ = some (.int .i64 0) := K1.out.cell 22
    have c2 : w1.cell? ⟨p1 + 3, 23, none⟩ = some (fnV 93) := K1.out.cell 23
    have c3 : w1.cell? ⟨p1 + 3, 24, none⟩ = some (sameV (p1 + 2)) := K1.out.cell 24
    have c4 : w1.cell? ⟨p1 + 3, 25, none⟩ = some (fnV 94) := K1.out.cell 25
    have c5 : w1.cell? ⟨p1 + 3, 26, none⟩ = some (fnV 95) := K1.out.cell 26
    have c6 : w1.cell? ⟨p1 + 3, 27, none⟩ = some (.string ⟨#[]⟩) := K1.out.cell 27
    unfold fnV sameV at *
    rcases Classical.em (wd < 0) with hw | hw
    · skip
      have hne1 : ¬ w.heap.size = p1 + 3 := by omega
      have hne2 : ¬ p1 + 3 = w.heap.size := by omega
      have hw1 : ¬ 0 ≤ wd := by omega
      have hd1 : decide ((0 : Int) ≤ wd) = false := by first | exact decide_eq_true hw1 | exact decide_eq_false hw1
      go_upto_region 4 with fail
      refine wp_region_held_drew (S := fun w' => w'.cell? ⟨p1 + 3, 21, none⟩ = some (.int .i64 0) ∧ w'.cell? ⟨p1 + 3, 22, none⟩ = some (.int .i64 0) ∧ w'.cell? ⟨p1 + 3, 23, none⟩ = some (.func (.func 93) #[] #[]) ∧ w'.cell? ⟨p1 + 3, 24, none⟩ = some (.func (.func 112) #[] #[.pointer (some ⟨(p1 + 2), 0, none⟩)]) ∧ w'.cell? ⟨p1 + 3, 25, none⟩ = some (.func (.func 94) #[] #[]) ∧ w'.cell? ⟨p1 + 3, 26, none⟩ = some (.func (.func 95) #[] #[]) ∧ w'.cell? ⟨p1 + 3, 27, none⟩ = some (.string ⟨#[]⟩)) (by kernel_rfl) ?_ (fun hHeld => ?_)
      · go_keep
      refine wpAnyH_take (i := 0) (oi := ?oi0k3) (v := ?v0k3) ?h00k3 ?h10k3 ?h20k3 ?h30k3 ?h40k3 (Or.inl ⟨?hw0k3, ?hy0k3⟩) hHeld ?rest0k3
      case h00k3 => (simp only [List.getElem?_toArray, List.getElem?_cons_zero, List.getElem?_cons_succ]; rfl)
      case h10k3 => kernel_rfl
      case h20k3 => kernel_rfl
      case h30k3 => kernel_rfl
      case h40k3 => exact fun _ _ _ h => h
      case hw0k3 => rfl
      case hy0k3 => ((intro w hSw; (try dsimp only at hSw); go_simp); (try (with_reducible rfl)))
      try simp only [Act.put, List.setIfInBounds_toArray, List.set_cons_zero, List.set_cons_succ]
      refine wpAnyH_take (i := 1) (oi := ?oi1k3) (v := ?v1k3) ?h01k3 ?h11k3 ?h21k3 ?h31k3 ?h41k3 (Or.inl ⟨?hw1k3, ?hy1k3⟩) hHeld ?rest1k3
      case h01k3 => (simp only [List.getElem?_toArray, List.getElem?_cons_zero, List.getElem?_cons_succ]; rfl)
      case h11k3 => kernel_rfl
      case h21k3 => kernel_rfl
      case h31k3 => kernel_rfl
      case h41k3 => exact fun _ _ _ h => h
      case hw1k3 => rfl
      case hy1k3 => ((intro w hSw; (try dsimp only at hSw); go_simp); (try (with_reducible rfl)))
      try simp only [Act.put, List.setIfInBounds_toArray, List.set_cons_zero, List.set_cons_succ]
      refine wpAnyH_take (i := 2) (oi := ?oi2k3) (v := ?v2k3) ?h02k3 ?h12k3 ?h22k3 ?h32k3 ?h42k3 (Or.inl ⟨?hw2k3, ?hy2k3⟩) hHeld ?rest2k3
      case h02k3 => (simp only [List.getElem?_toArray, List.getElem?_cons_zero, List.getElem?_cons_succ]; rfl)
      case h12k3 => kernel_rfl
      case h22k3 => kernel_rfl
      case h32k3 => kernel_rfl
      case h42k3 => exact fun _ _ _ h => h
      case hw2k3 => rfl
      case hy2k3 => ((intro w hSw; (try dsimp only at hSw); go_simp); (try (with_reducible rfl)))
      try simp only [Act.put, List.setIfInBounds_toArray, List.set_cons_zero, List.set_cons_succ]
      refine wpAnyH_take (i := 3) (oi := ?oi3k3) (v := ?v3k3) ?h03k3 ?h13k3 ?h23k3 ?h33k3 ?h43k3 (Or.inl ⟨?hw3k3, ?hy3k3⟩) hHeld ?rest3k3
      case h03k3 => (simp only [List.getElem?_toArray, List.getElem?_cons_zero, List.getElem?_cons_succ]; rfl)
      case h13k3 => kernel_rfl
      case h23k3 => kernel_rfl
      case h33k3 => kernel_rfl
      case h43k3 => exact fun _ _ _ h => h
      case hw3k3 => rfl
      case hy3k3 => ((intro w hSw; (try dsimp only at hSw); go_simp); (try (with_reducible rfl)))
      try simp only [Act.put, List.setIfInBounds_toArray, List.set_cons_zero, List.set_cons_succ]
      refine wpAnyH_take (i := 4) (oi := ?oi4k3) (v := ?v4k3) ?h04k3 ?h14k3 ?h24k3 ?h34k3 ?h44k3 (Or.inl ⟨?hw4k3, ?hy4k3⟩) hHeld ?rest4k3
      case h04k3 => (simp only [List.getElem?_toArray, List.getElem?_cons_zero, List.getElem?_cons_succ]; rfl)
      case h14k3 => kernel_rfl
      case h24k3 => kernel_rfl
      case h34k3 => kernel_rfl
      case h44k3 => exact fun _ _ _ h => h
      case hw4k3 => rfl
      case hy4k3 => ((intro w hSw; (try dsimp only at hSw); go_simp); (try (with_reducible rfl)))
      try simp only [Act.put, List.setIfInBounds_toArray, List.set_cons_zero, List.set_cons_succ]
      refine wpAnyH_take (i := 5) (oi := ?oi5k3) (v := ?v5k3) ?h05k3 ?h15k3 ?h25k3 ?h35k3 ?h45k3 (Or.inl ⟨?hw5k3, ?hy5k3⟩) hHeld ?rest5k3
      case h05k3 => (simp only [List.getElem?_toArray, List.getElem?_cons_zero, List.getElem?_cons_succ]; rfl)
      case h15k3 => kernel_rfl
      case h25k3 => kernel_rfl
      case h35k3 => kernel_rfl
      case h45k3 => exact fun _ _ _ h => h
      case hw5k3 => rfl
      case hy5k3 => ((intro w hSw; (try dsimp only at hSw); go_simp); (try (with_reducible rfl)))
      try simp only [Act.put, List.setIfInBounds_toArray, List.set_cons_zero, List.set_cons_succ]
      refine wpAnyH_take (i := 6) (oi := ?oi6k3) (v := ?v6k3) ?h06k3 ?h16k3 ?h26k3 ?h36k3 ?h46k3 (Or.inl ⟨?hw6k3, ?hy6k3⟩) hHeld ?rest6k3
      case h06k3 => (simp only [List.getElem?_toArray, List.getElem?_cons_zero, List.getElem?_cons_succ]; rfl)
      case h16k3 => kernel_rfl
      case h26k3 => kernel_rfl
      case h36k3 => kernel_rfl
      case h46k3 => exact fun _ _ _ h => h
      case hw6k3 => rfl
      case hy6k3 => ((intro w hSw; (try dsimp only at hSw); go_simp); (try (with_reducible rfl)))
      try simp only [Act.put, List.setIfInBounds_toArray, List.set_cons_zero, List.set_cons_succ]
      refine wpAnyH_take (i := 7) (oi := ?oi7k3) (v := ?v7k3) ?h07k3 ?h17k3 ?h27k3 ?h37k3 ?h47k3 (Or.inl ⟨?hw7k3, ?hy7k3⟩) hHeld ?rest7k3
      case h07k3 => (simp only [List.getElem?_toArray, List.getElem?_cons_zero, List.getElem?_cons_succ]; rfl)
      case h17k3 => kernel_rfl
      case h27k3 => kernel_rfl
      case h37k3 => kernel_rfl
      case h47k3 => exact fun _ _ _ h => h
      case hw7k3 => rfl
      case hy7k3 => ((intro w hSw; (try dsimp only at hSw); go_simp); (try (with_reducible rfl)))
      try simp only [Act.put, List.setIfInBounds_toArray, List.set_cons_zero, List.set_cons_succ]
      refine wpAnyH_take (i := 8) (oi := ?oi8k3) (v := ?v8k3) ?h08k3 ?h18k3 ?h28k3 ?h38k3 ?h48k3 (Or.inl ⟨?hw8k3, ?hy8k3⟩) hHeld ?rest8k3
      case h08k3 => (simp only [List.getElem?_toArray, List.getElem?_cons_zero, List.getElem?_cons_succ]; rfl)
      case h18k3 => kernel_rfl
      case h28k3 => kernel_rfl
      case h38k3 => kernel_rfl
      case h48k3 => exact fun _ _ _ h => h
      case hw8k3 => rfl
      case hy8k3 => ((intro w hSw; (try dsimp only at hSw); go_simp); (try (with_reducible rfl)))
      try simp only [Act.put, List.setIfInBounds_toArray, List.set_cons_zero, List.set_cons_succ]
      refine wpAnyH_take (i := 9) (oi := ?oi9k3) (v := ?v9k3) ?h09k3 ?h19k3 ?h29k3 ?h39k3 ?h49k3 (Or.inl ⟨?hw9k3, ?hy9k3⟩) hHeld ?rest9k3
      case h09k3 => (simp only [List.getElem?_toArray, List.getElem?_cons_zero, List.getElem?_cons_succ]; rfl)
      case h19k3 => kernel_rfl
      case h29k3 => kernel_rfl
      case h39k3 => kernel_rfl
      case h49k3 => exact fun _ _ _ h => h
      case hw9k3 => rfl
      case hy9k3 => ((intro w hSw; (try dsimp only at hSw); go_simp); (try (with_reducible rfl)))
      try simp only [Act.put, List.setIfInBounds_toArray, List.set_cons_zero, List.set_cons_succ]
      refine wpAnyH_take (i := 10) (oi := ?oi10k3) (v := ?v10k3) ?h010k3 ?h110k3 ?h210k3 ?h310k3 ?h410k3 (Or.inl ⟨?hw10k3, ?hy10k3⟩) hHeld ?rest10k3
      case h010k3 => (simp only [List.getElem?_toArray, List.getElem?_cons_zero, List.getElem?_cons_succ]; rfl)
      case h110k3 => kernel_rfl
      case h210k3 => kernel_rfl
      case h310k3 => kernel_rfl
      case h410k3 => exact fun _ _ _ h => h
      case hw10k3 => rfl
      case hy10k3 => ((intro w hSw; (try dsimp only at hSw); go_simp); (try (with_reducible rfl)))
      try simp only [Act.put, List.setIfInBounds_toArray, List.set_cons_zero, List.set_cons_succ]
      refine wpAnyH_take (i := 11) (oi := ?oi11k3) (v := ?v11k3) ?h011k3 ?h111k3 ?h211k3 ?h311k3 ?h411k3 (Or.inl ⟨?hw11k3, ?hy11k3⟩) hHeld ?rest11k3
      case h011k3 => (simp only [List.getElem?_toArray, List.getElem?_cons_zero, List.getElem?_cons_succ]; rfl)
      case h111k3 => kernel_rfl
      case h211k3 => kernel_rfl
      case h311k3 => kernel_rfl
      case h411k3 => exact fun _ _ _ h => h
      case hw11k3 => rfl
      case hy11k3 => ((intro w hSw; (try dsimp only at hSw); go_simp); (try (with_reducible rfl)))
      try simp only [Act.put, List.setIfInBounds_toArray, List.set_cons_zero, List.set_cons_succ]
      refine wpAnyH_take (i := 12) (oi := ?oi12k3) (v := ?v12k3) ?h012k3 ?h112k3 ?h212k3 ?h312k3 ?h412k3 (Or.inl ⟨?hw12k3, ?hy12k3⟩) hHeld ?rest12k3
      case h012k3 => (simp only [List.getElem?_toArray, List.getElem?_cons_zero, List.getElem?_cons_succ]; rfl)
      case h112k3 => kernel_rfl
      case h212k3 => kernel_rfl
      case h312k3 => kernel_rfl
      case h412k3 => exact fun _ _ _ h => h
      case hw12k3 => rfl
      case hy12k3 => ((intro w hSw; (try dsimp only at hSw); go_simp); (try (with_reducible rfl)))
      try simp only [Act.put, List.setIfInBounds_toArray, List.set_cons_zero, List.set_cons_succ]
      refine wpAnyH_take (i := 13) (oi := ?oi13k3) (v := undef) ?h013k3 ?h113k3 ?h213k3 ?h313k3 ?h413k3 (Or.inr ⟨?hw13k3, rfl⟩) hHeld ?rest13k3
      case h013k3 => (simp only [List.getElem?_toArray, List.getElem?_cons_zero, List.getElem?_cons_succ]; rfl)
      case h113k3 => kernel_rfl
      case h213k3 => kernel_rfl
      case h313k3 => kernel_rfl
      case h413k3 => exact fun _ _ _ h => h
      case hw13k3 => rfl
      try simp only [Act.put, List.setIfInBounds_toArray, List.set_cons_zero, List.set_cons_succ]
      refine wpAnyH_take (i := 14) (oi := ?oi14k3) (v := undef) ?h014k3 ?h114k3 ?h214k3 ?h314k3 ?h414k3 (Or.inr ⟨?hw14k3, rfl⟩) hHeld ?rest14k3
      case h014k3 => (simp only [List.getElem?_toArray, List.getElem?_cons_zero, List.getElem?_cons_succ]; rfl)
      case h114k3 => kernel_rfl
      case h214k3 => kernel_rfl
      case h314k3 => kernel_rfl
      case h414k3 => exact fun _ _ _ h => h
      case hw14k3 => rfl
      try simp only [Act.put, List.setIfInBounds_toArray, List.set_cons_zero, List.set_cons_succ]
      refine wpAnyH_take (i := 15) (oi := ?oi15k3) (v := undef) ?h015k3 ?h115k3 ?h215k3 ?h315k3 ?h415k3 (Or.inr ⟨?hw15k3, rfl⟩) hHeld ?rest15k3
      case h015k3 => (simp only [List.getElem?_toArray, List.getElem?_cons_zero, List.getElem?_cons_succ]; rfl)
      case h115k3 => kernel_rfl
      case h215k3 => kernel_rfl
      case h315k3 => kernel_rfl
      case h415k3 => exact fun _ _ _ h => h
      case hw15k3 => rfl
      try simp only [Act.put, List.setIfInBounds_toArray, List.set_cons_zero, List.set_cons_succ]
      refine wpAnyH_take (i := 16) (oi := ?oi16k3) (v := undef) ?h016k3 ?h116k3 ?h216k3 ?h316k3 ?h416k3 (Or.inr ⟨?hw16k3, rfl⟩) hHeld ?rest16k3
      case h016k3 => (simp only [List.getElem?_toArray, List.getElem?_cons_zero, List.getElem?_cons_succ]; rfl)
      case h116k3 => kernel_rfl
      case h216k3 => kernel_rfl
      case h316k3 => kernel_rfl
      case h416k3 => exact fun _ _ _ h => h
      case hw16k3 => rfl
      try simp only [Act.put, List.setIfInBounds_toArray, List.set_cons_zero, List.set_cons_succ]
      refine wpAnyH_take (i := 17) (oi := ?oi17k3) (v := undef) ?h017k3 ?h117k3 ?h217k3 ?h317k3 ?h417k3 (Or.inr ⟨?hw17k3, rfl⟩) hHeld ?rest17k3
      case h017k3 => (simp only [List.getElem?_toArray, List.getElem?_cons_zero, List.getElem?_cons_succ]; rfl)
      case h117k3 => kernel_rfl
      case h217k3 => kernel_rfl
      case h317k3 => kernel_rfl
      case h417k3 => exact fun _ _ _ h => h
      case hw17k3 => rfl
      try simp only [Act.put, List.setIfInBounds_toArray, List.set_cons_zero, List.set_cons_succ]
      refine wpAnyH_take (i := 18) (oi := ?oi18k3) (v := undef) ?h018k3 ?h118k3 ?h218k3 ?h318k3 ?h418k3 (Or.inr ⟨?hw18k3, rfl⟩) hHeld ?rest18k3
      case h018k3 => (simp only [List.getElem?_toArray, List.getElem?_cons_zero, List.getElem?_cons_succ]; rfl)
      case h118k3 => kernel_rfl
      case h218k3 => kernel_rfl
      case h318k3 => kernel_rfl
      case h418k3 => exact fun _ _ _ h => h
      case hw18k3 => rfl
      try simp only [Act.put, List.setIfInBounds_toArray, List.set_cons_zero, List.set_cons_succ]
      refine wpAnyH_take (i := 19) (oi := ?oi19k3) (v := undef) ?h019k3 ?h119k3 ?h219k3 ?h319k3 ?h419k3 (Or.inr ⟨?hw19k3, rfl⟩) hHeld ?rest19k3
      case h019k3 => (simp only [List.getElem?_toArray, List.getElem?_cons_zero, List.getElem?_cons_succ]; rfl)
      case h119k3 => kernel_rfl
      case h219k3 => kernel_rfl
      case h319k3 => kernel_rfl
      case h419k3 => exact fun _ _ _ h => h
      case hw19k3 => rfl
      try simp only [Act.put, List.setIfInBounds_toArray, List.set_cons_zero, List.set_cons_succ]
      refine wpAnyH_take (i := 20) (oi := ?oi20k3) (v := undef) ?h020k3 ?h120k3 ?h220k3 ?h320k3 ?h420k3 (Or.inr ⟨?hw20k3, rfl⟩) hHeld ?rest20k3
      case h020k3 => (simp only [List.getElem?_toArray, List.getElem?_cons_zero, List.getElem?_cons_succ]; rfl)
      case h120k3 => kernel_rfl
      case h220k3 => kernel_rfl
      case h320k3 => kernel_rfl
      case h420k3 => exact fun _ _ _ h => h
      case hw20k3 => rfl
      try simp only [Act.put, List.setIfInBounds_toArray, List.set_cons_zero, List.set_cons_succ]
      refine wpAnyH_take (i := 21) (oi := ?oi21k3) (v := ?v21k3) ?h021k3 ?h121k3 ?h221k3 ?h321k3 ?h421k3 (Or.inl ⟨?hw21k3, ?hy21k3⟩) hHeld ?rest21k3
      case h021k3 => (simp only [List.getElem?_toArray, List.getElem?_cons_zero, List.getElem?_cons_succ]; rfl)
      case h121k3 => kernel_rfl
      case h221k3 => kernel_rfl
      case h321k3 => kernel_rfl
      case h421k3 => exact fun _ _ _ h => h
      case hw21k3 => rfl
      case hy21k3 => ((intro w hSw; (try dsimp only at hSw); go_simp); (try (with_reducible rfl)))
      try simp only [Act.put, List.setIfInBounds_toArray, List.set_cons_zero, List.set_cons_succ]
      refine wpAnyH_ready (rs := [22]) (by kernel_rfl) (by simp) ?_
      refine AllReadyH.cons (o := ?oi22k3) ?h022k3 (fun K hK => ?_) AllReadyH.nil
      case h022k3 => (simp only [List.getElem?_toArray, List.getElem?_cons_zero, List.getElem?_cons_succ]; rfl)
      go_simp
      refine hK.out _ _ ?_ (fun hHeld => ?_)
      · go_keep
      clear hK K
      try simp only [Act.put, List.setIfInBounds_toArray, List.set_cons_zero, List.set_cons_succ]
      refine wpAnyH_take (i := 23) (oi := ?oi23k3) (v := ?v23k3) ?h023k3 ?h123k3 ?h223k3 ?h323k3 ?h423k3 (Or.inl ⟨?hw23k3, ?hy23k3⟩) hHeld ?rest23k3
      case h023k3 => (simp only [List.getElem?_toArray, List.getElem?_cons_zero, List.getElem?_cons_succ]; rfl)
      case h123k3 => kernel_rfl
      case h223k3 => kernel_rfl
      case h323k3 => kernel_rfl
      case h423k3 => exact fun _ _ _ h => h
      case hw23k3 => rfl
      case hy23k3 => ((intro w hSw; (try dsimp only at hSw); go_simp); (try (with_reducible rfl)))
      try simp only [Act.put, List.setIfInBounds_toArray, List.set_cons_zero, List.set_cons_succ]
      refine wpAnyH_done (by kernel_rfl) ?_ _
      have HRow := hide (show Row (((((((w1.setCell ⟨w.heap.size, 0, none⟩ (.int .i64 0)).setCell ⟨w.heap.size, 1, none⟩ (.int .i64 0)).setCell ⟨w.heap.size, 2, none⟩ (.func (.func 93) #[] #[])).setCell ⟨w.heap.size, 3, none⟩ (.func (.func 112) #[] #[.pointer (some ⟨(p1 + 2), 0, none⟩)])).setCell ⟨w.heap.size, 4, none⟩ (.func (.func 94) #[] #[])).setCell ⟨w.heap.size, 5, none⟩ (.func (.func 95) #[] #[])).setCell ⟨w.heap.size, 6, none⟩ (.string ⟨#[]⟩)) w.heap.size 45 #[.int .i64 0, .int .i64 0, .func (.func 93) #[] #[], .func (.func 112) #[] #[.pointer (some ⟨(p1 + 2), 0, none⟩)], .func (.func 94) #[] #[], .func (.func 95) #[] #[], .string ⟨#[]⟩] from (((((((R1.out.set_ 0 (.int .i64 0)).set_ 1 (.int .i64 0)).set_ 2 (.func (.func 93) #[] #[])).set_ 3 (.func (.func 112) #[] #[.pointer (some ⟨(p1 + 2), 0, none⟩)])).set_ 4 (.func (.func 94) #[] #[])).set_ 5 (.func (.func 95) #[] #[])).set_ 6 (.string ⟨#[]⟩)))
      have HBel := hide (((((((B1.out.setCell (p := ⟨w.heap.size, 0, none⟩) (Nat.le_refl _) (.int .i64 0)).setCell (p := ⟨w.heap.size, 1, none⟩) (Nat.le_refl _) (.int .i64 0)).setCell (p := ⟨w.heap.size, 2, none⟩) (Nat.le_refl _) (.func (.func 93) #[] #[])).setCell (p := ⟨w.heap.size, 3, none⟩) (Nat.le_refl _) (.func (.func 112) #[] #[.pointer (some ⟨(p1 + 2), 0, none⟩)])).setCell (p := ⟨w.heap.size, 4, none⟩) (Nat.le_refl _) (.func (.func 94) #[] #[])).setCell (p := ⟨w.heap.size, 5, none⟩) (Nat.le_refl _) (.func (.func 95) #[] #[])).setCell (p := ⟨w.heap.size, 6, none⟩) (Nat.le_refl _) (.string ⟨#[]⟩))
      have hok : okW 3 wd = false := by unfold okW; simp; omega
      have HOk := hide hok
      have hkp : Keeps (fun c => c = w.heap.size) w1 (((((((w1.setCell ⟨w.heap.size, 0, none⟩ (.int .i64 0)).setCell ⟨w.heap.size, 1, none⟩ (.int .i64 0)).setCell ⟨w.heap.size, 2, none⟩ (.func (.func 93) #[] #[])).setCell ⟨w.heap.size, 3, none⟩ (.func (.func 112) #[] #[.pointer (some ⟨(p1 + 2), 0, none⟩)])).setCell ⟨w.heap.size, 4, none⟩ (.func (.func 94) #[] #[])).setCell ⟨w.heap.size, 5, none⟩ (.func (.func 95) #[] #[])).setCell ⟨w.heap.size, 6, none⟩ (.string ⟨#[]⟩)) := (((((((Keeps.refl (fun c => c = w.heap.size) w1).set (.inl rfl) 0 _).set (.inl rfl) 1 _).set (.inl rfl) 2 _).set (.inl rfl) 3 _).set (.inl rfl) 4 _).set (.inl rfl) 5 _).set (.inl rfl) 6 _
      have HKR := hide (K4.out.keep hkp (by omega))
      clear hok hkp
      go_wp2
      exact bodyPost_ret (v := .tuple #[.agg #[.int .i64 0, .int .i64 0, .func (.func 93) #[] #[], .func (.func 112) #[] #[.pointer (some ⟨(p1 + 2), 0, none⟩)], .func (.func 94) #[] #[], .func (.func 95) #[] #[], .string ⟨#[]⟩], .bool false]) (results_row_tmp rfl _ _ w.heap.size 45 _ _ _ (.bool false) rfl rfl HRow.out.drew Tryz.underlying45 rfl (by kernel_rfl)) rfl ⟨HBel.out.drew, .inl ⟨3, (p1 + 2), rfl, by decide, by rw [HOk.out]; rfl, HKR.out.drew, by omega⟩⟩
    rcases Classical.em (0 < wd) with hw | hw
    · skip
      have hne1 : ¬ w.heap.size = p1 + 3 := by omega
      have hne2 : ¬ p1 + 3 = w.heap.size := by omega
      have hw1 : 0 ≤ wd := by omega
      have hw2 : ¬ wd ≤ 0 := by omega
      have hd1 : decide ((0 : Int) ≤ wd) = true := by first | exact decide_eq_true hw1 | exact decide_eq_false hw1
      have hd2 : decide (wd ≤ (0 : Int)) = false := by first | exact decide_eq_true hw2 | exact decide_eq_false hw2
      go_upto_region 4 with fail
      go_region_held3 (fun w' => w'.cell? ⟨p1 + 3, 21, none⟩ = some (.int .i64 0) ∧ w'.cell? ⟨p1 + 3, 22, none⟩ = some (.int .i64 0) ∧ w'.cell? ⟨p1 + 3, 23, none⟩ = some (.func (.func 93) #[] #[]) ∧ w'.cell? ⟨p1 + 3, 24, none⟩ = some (.func (.func 112) #[] #[.pointer (some ⟨(p1 + 2), 0, none⟩)]) ∧ w'.cell? ⟨p1 + 3, 25, none⟩ = some (.func (.func 94) #[] #[]) ∧ w'.cell? ⟨p1 + 3, 26, none⟩ = some (.func (.func 95) #[] #[]) ∧ w'.cell? ⟨p1 + 3, 27, none⟩ = some (.string ⟨#[]⟩)) (go_keep) (fail)
      have HRow := hide (show Row (((((((w1.setCell ⟨w.heap.size, 0, none⟩ (.int .i64 0)).setCell ⟨w.heap.size, 1, none⟩ (.int .i64 0)).setCell ⟨w.heap.size, 2, none⟩ (.func (.func 93) #[] #[])).setCell ⟨w.heap.size, 3, none⟩ (.func (.func 112) #[] #[.pointer (some ⟨(p1 + 2), 0, none⟩)])).setCell ⟨w.heap.size, 4, none⟩ (.func (.func 94) #[] #[])).setCell ⟨w.heap.size, 5, none⟩ (.func (.func 95) #[] #[])).setCell ⟨w.heap.size, 6, none⟩ (.string ⟨#[]⟩)) w.heap.size 45 #[.int .i64 0, .int .i64 0, .func (.func 93) #[] #[], .func (.func 112) #[] #[.pointer (some ⟨(p1 + 2), 0, none⟩)], .func (.func 94) #[] #[], .func (.func 95) #[] #[], .string ⟨#[]⟩] from (((((((R1.out.set_ 0 (.int .i64 0)).set_ 1 (.int .i64 0)).set_ 2 (.func (.func 93) #[] #[])).set_ 3 (.func (.func 112) #[] #[.pointer (some ⟨(p1 + 2), 0, none⟩)])).set_ 4 (.func (.func 94) #[] #[])).set_ 5 (.func (.func 95) #[] #[])).set_ 6 (.string ⟨#[]⟩)))
      have HBel := hide (((((((B1.out.setCell (p := ⟨w.heap.size, 0, none⟩) (Nat.le_refl _) (.int .i64 0)).setCell (p := ⟨w.heap.size, 1, none⟩) (Nat.le_refl _) (.int .i64 0)).setCell (p := ⟨w.heap.size, 2, none⟩) (Nat.le_refl _) (.func (.func 93) #[] #[])).setCell (p := ⟨w.heap.size, 3, none⟩) (Nat.le_refl _) (.func (.func 112) #[] #[.pointer (some ⟨(p1 + 2), 0, none⟩)])).setCell (p := ⟨w.heap.size, 4, none⟩) (Nat.le_refl _) (.func (.func 94) #[] #[])).setCell (p := ⟨w.heap.size, 5, none⟩) (Nat.le_refl _) (.func (.func 95) #[] #[])).setCell (p := ⟨w.heap.size, 6, none⟩) (Nat.le_refl _) (.string ⟨#[]⟩))
      have hok : okW 3 wd = false := by unfold okW; simp; omega
      have HOk := hide hok
      have hkp : Keeps (fun c => c = w.heap.size) w1 (((((((w1.setCell ⟨w.heap.size, 0, none⟩ (.int .i64 0)).setCell ⟨w.heap.size, 1, none⟩ (.int .i64 0)).setCell ⟨w.heap.size, 2, none⟩ (.func (.func 93) #[] #[])).setCell ⟨w.heap.size, 3, none⟩ (.func (.func 112) #[] #[.pointer (some ⟨(p1 + 2), 0, none⟩)])).setCell ⟨w.heap.size, 4, none⟩ (.func (.func 94) #[] #[])).setCell ⟨w.heap.size, 5, none⟩ (.func (.func 95) #[] #[])).setCell ⟨w.heap.size, 6, none⟩ (.string ⟨#[]⟩)) := (((((((Keeps.refl (fun c => c = w.heap.size) w1).set (.inl rfl) 0 _).set (.inl rfl) 1 _).set (.inl rfl) 2 _).set (.inl rfl) 3 _).set (.inl rfl) 4 _).set (.inl rfl) 5 _).set (.inl rfl) 6 _
      have HKR := hide (K4.out.keep hkp (by omega))
      clear hok hkp
      go_wp2
      exact bodyPost_ret (v := .tuple #[.agg #[.int .i64 0, .int .i64 0, .func (.func 93) #[] #[], .func (.func 112) #[] #[.pointer (some ⟨(p1 + 2), 0, none⟩)], .func (.func 94) #[] #[], .func (.func 95) #[] #[], .string ⟨#[]⟩], .bool false]) (results_row_tmp rfl _ _ w.heap.size 45 _ _ _ (.bool false) rfl rfl HRow.out.drew Tryz.underlying45 rfl (by kernel_rfl)) rfl ⟨HBel.out.drew, .inl ⟨3, (p1 + 2), rfl, by decide, by rw [HOk.out]; rfl, HKR.out.drew, by omega⟩⟩
    have hne1 : ¬ w.heap.size = p1 + 3 := by omega
    have hne2 : ¬ p1 + 3 = w.heap.size := by omega
    have hw1 : 0 ≤ wd := by omega
    have hw2 : wd ≤ 0 := by omega
    have hd1 : decide ((0 : Int) ≤ wd) = true := by first | exact decide_eq_true hw1 | exact decide_eq_false hw1
    have hd2 : decide (wd ≤ (0 : Int)) = true := by first | exact decide_eq_true hw2 | exact decide_eq_false hw2
    go_upto_region 4 with fail
    go_region_held3 (fun w' => w'.cell? ⟨p1 + 3, 21, none⟩ = some (.int .i64 0) ∧ w'.cell? ⟨p1 + 3, 22, none⟩ = some (.int .i64 0) ∧ w'.cell? ⟨p1 + 3, 23, none⟩ = some (.func (.func 93) #[] #[]) ∧ w'.cell? ⟨p1 + 3, 24, none⟩ = some (.func (.func 112) #[] #[.pointer (some ⟨(p1 + 2), 0, none⟩)]) ∧ w'.cell? ⟨p1 + 3, 25, none⟩ = some (.func (.func 94) #[] #[]) ∧ w'.cell? ⟨p1 + 3, 26, none⟩ = some (.func (.func 95) #[] #[]) ∧ w'.cell? ⟨p1 + 3, 27, none⟩ = some (.string ⟨#[]⟩)) (go_keep) (fail)
    have HRow := hide (show Row (((((((w1.setCell ⟨w.heap.size, 0, none⟩ (.int .i64 0)).setCell ⟨w.heap.size, 1, none⟩ (.int .i64 0)).setCell ⟨w.heap.size, 2, none⟩ (.func (.func 93) #[] #[])).setCell ⟨w.heap.size, 3, none⟩ (.func (.func 112) #[] #[.pointer (some ⟨(p1 + 2), 0, none⟩)])).setCell ⟨w.heap.size, 4, none⟩ (.func (.func 94) #[] #[])).setCell ⟨w.heap.size, 5, none⟩ (.func (.func 95) #[] #[])).setCell ⟨w.heap.size, 6, none⟩ (.string ⟨#[]⟩)) w.heap.size 45 #[.int .i64 0, .int .i64 0, .func (.func 93) #[] #[], .func (.func 112) #[] #[.pointer (some ⟨(p1 + 2), 0, none⟩)], .func (.func 94) #[] #[], .func (.func 95) #[] #[], .string ⟨#[]⟩] from (((((((R1.out.set_ 0 (.int .i64 0)).set_ 1 (.int .i64 0)).set_ 2 (.func (.func 93) #[] #[])).set_ 3 (.func (.func 112) #[] #[.pointer (some ⟨(p1 + 2), 0, none⟩)])).set_ 4 (.func (.func 94) #[] #[])).set_ 5 (.func (.func 95) #[] #[])).set_ 6 (.string ⟨#[]⟩)))
    have HBel := hide (((((((B1.out.setCell (p := ⟨w.heap.size, 0, none⟩) (Nat.le_refl _) (.int .i64 0)).setCell (p := ⟨w.heap.size, 1, none⟩) (Nat.le_refl _) (.int .i64 0)).setCell (p := ⟨w.heap.size, 2, none⟩) (Nat.le_refl _) (.func (.func 93) #[] #[])).setCell (p := ⟨w.heap.size, 3, none⟩) (Nat.le_refl _) (.func (.func 112) #[] #[.pointer (some ⟨(p1 + 2), 0, none⟩)])).setCell (p := ⟨w.heap.size, 4, none⟩) (Nat.le_refl _) (.func (.func 94) #[] #[])).setCell (p := ⟨w.heap.size, 5, none⟩) (Nat.le_refl _) (.func (.func 95) #[] #[])).setCell (p := ⟨w.heap.size, 6, none⟩) (Nat.le_refl _) (.string ⟨#[]⟩))
    have hok : okW 3 wd = true := by unfold okW; simp; omega
    have HOk := hide hok
    have hkp : Keeps (fun c => c = w.heap.size) w1 (((((((w1.setCell ⟨w.heap.size, 0, none⟩ (.int .i64 0)).setCell ⟨w.heap.size, 1, none⟩ (.int .i64 0)).setCell ⟨w.heap.size, 2, none⟩ (.func (.func 93) #[] #[])).setCell ⟨w.heap.size, 3, none⟩ (.func (.func 112) #[] #[.pointer (some ⟨(p1 + 2), 0, none⟩)])).setCell ⟨w.heap.size, 4, none⟩ (.func (.func 94) #[] #[])).setCell ⟨w.heap.size, 5, none⟩ (.func (.func 95) #[] #[])).setCell ⟨w.heap.size, 6, none⟩ (.string ⟨#[]⟩)) := (((((((Keeps.refl (fun c => c = w.heap.size) w1).set (.inl rfl) 0 _).set (.inl rfl) 1 _).set (.inl rfl) 2 _).set (.inl rfl) 3 _).set (.inl rfl) 4 _).set (.inl rfl) 5 _).set (.inl rfl) 6 _
    have HKR := hide (K4.out.keep hkp (by omega))
    clear hok hkp
    go_wp2
    exact bodyPost_ret (v := .tuple #[.agg #[.int .i64 0, .int .i64 0, .func (.func 93) #[] #[], .func (.func 112) #[] #[.pointer (some ⟨(p1 + 2), 0, none⟩)], .func (.func 94) #[] #[], .func (.func 95) #[] #[], .string ⟨#[]⟩], .bool true]) (results_row_tmp rfl _ _ w.heap.size 45 _ _ _ (.bool true) rfl rfl HRow.out.drew Tryz.underlying45 rfl (by kernel_rfl)) rfl ⟨HBel.out.drew, .inl ⟨3, (p1 + 2), rfl, by decide, by rw [HOk.out]; rfl, HKR.out.drew, by omega⟩⟩
end Go.Proofs.YtpjikbfeegncbaaGreatDoor
