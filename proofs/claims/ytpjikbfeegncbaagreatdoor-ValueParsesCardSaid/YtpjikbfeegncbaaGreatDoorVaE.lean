/- Contracts of decimal's trim, first and of scan's closures. -/
import Derived.Test.YtpjikbfeegncbaaGreatDoorVaD
set_option linter.unusedVariables false
set_option linter.unusedSimpArgs false
namespace Go.Proofs.YtpjikbfeegncbaaGreatDoor
open Go.RowKit Go.Shelf Go.Sort

/-- a number by value -/
def numV (neg : Bool) (A : Option Addr) (n cap : Nat) (e : Int) : Value := .agg #[.bool neg, .slice A n cap, .int .i64 e]
theorem stripV_dropR (l : List UInt8) : stripV l = dropR (l.dropWhile (· == 48)) := rfl
theorem dropR_le (l : List UInt8) : (dropR l).length ≤ l.length ∧ dropR l = l.take (dropR l).length := by
  have h : dropR l <+: l := by
    unfold dropR
    rw [← List.reverse_suffix, List.reverse_reverse]
    exact List.dropWhile_suffix _
  exact ⟨h.length_le, List.prefix_iff_eq_take.1 h⟩
theorem Sl_take {W : World} {A : Option Addr} {l : List UInt8} (h : Sl by8 W A l) (k : Nat) : Sl by8 W A (l.take k) := by
  intro hp
  rw [List.length_take] at hp
  obtain ⟨b, off, rfl, hat⟩ := h (by omega)
  exact ⟨b, off, rfl, fun i hi => by rw [hat i (by rw [List.length_take] at hi; omega), List.getElem_take]⟩
set_option maxRecDepth 20000 in
set_option maxHeartbeats 4000000 in
theorem numFirst_any (neg : Bool) (A : Option Addr) (n cap : Nat) (e : Int) (w : World) (hn : n ≤ 1000000) (h0 : -1000000000 ≤ e) (h1 : e ≤ 1000000000) :
    Calls Tryz.prog 132 #[numV neg A n cap e] w fun e' w' => e' = .returned (.int .i64 (e + n - 1)) ∧ Below w.heap.size w w' := by
  unfold numV
  have hn' : (n : Int) ≤ 1000000 := by omega
  go_enter Tryz.func132, Tryz.ntmps132
  go_wp2
  go_ret
  exact ⟨rfl, (Below.refl _ _).alloc (Nat.le_refl _) _⟩
set_option maxRecDepth 20000 in
set_option maxHeartbeats 8000000 in
theorem trim_any (neg : Bool) (A : Option Addr) (n cap : Nat) (l : List UInt8) (e : Int) (w : World) (hn : n = l.length) (hl : l.length ≤ 1000000) (hc : n ≤ cap) (hz : cap ≤ maxLen) (h0 : -1000000000 ≤ e) (h1 : e ≤ 1000000000) (hs : Sl by8 w A l) :
    Calls Tryz.prog 131 #[numV neg A n cap e] w fun e' w' => ∃ A' cap' neg' ex', e' = .returned (numV neg' A' (stripV l).length cap' ex') ∧ Sl by8 w' A' (stripV l) ∧ (stripV l).length ≤ cap' ∧ cap' ≤ maxLen ∧ Below w.heap.size w w' ∧
      (stripV l ≠ [] → neg' = neg ∧ ex' = e + ((l.dropWhile (· == 48)).length - (stripV l).length)) ∧ (stripV l = [] → neg' = false ∧ ex' = 0) := by
  subst hn
  unfold numV
  have TL := hide (fun (W : World) (h : Sl by8 W A l) => TrimLeft_any A l.length cap l W rfl hc hz h)
  have Hs := hide hs
  have hdl : (l.dropWhile (· == 48)).length ≤ l.length := (List.dropWhile_suffix (p := (· == (48 : UInt8))) (l := l)).length_le
  have hdr := dropR_le (l.dropWhile (· == 48))
  rw [stripV_dropR]
  generalize l.dropWhile (· == 48) = D at *
  obtain ⟨T, hT⟩ : ∃ T, dropR D = T := ⟨_, rfl⟩
  have TR := hide (fun (A' : Option Addr) (cap' : Nat) (W : World) (hc : D.length ≤ cap') (hz : cap' ≤ maxLen) (h : Sl by8 W A' D) => TrimRight_any A' D.length cap' D W rfl hc hz h)
  rw [hT] at TR hdr ⊢
  have htd : T.length ≤ D.length := hdr.1
  have HT := hide hdr.2
  have hdI : (D.length : Int) ≤ 1000000 := by omega
  have htI : (T.length : Int) ≤ D.length := by omega
  clear hs hdr hT
  go_enter Tryz.func131, Tryz.ntmps131
  go_wp2_with fail
  refine (TL.out _ (Hs.out.below (((Below.refl w.heap.size w).alloc (Nat.le_refl _) _).alloc (by rw [World.size_alloc]; omega) _))).mono ?_
  rintro e' wx ⟨⟨A1, cap1, rfl, hs1, hc1, hz1⟩, rfl⟩
  have Hs1 := hide hs1
  have hsD : Sl by8 w A1 D := hs1 w Hs.out
  have HsD := hide hsD
  clear hs1 hsD
  have c1 : (T.length : Int) ≤ (cap1 : Int) := by omega
  unfold maxLen at hz1
  have zI : (cap1 : Int) ≤ 9223372036854775807 := by omega
  go_wp2_with fail
  refine (TR.out _ _ _ hc1 hz1 (HsD.out.below (((Below.refl w.heap.size w).alloc (Nat.le_refl _) _).alloc (by rw [World.size_alloc]; omega) _))).mono ?_
  rintro e' wx ⟨⟨A2, cap2, rfl⟩, rfl⟩
  by_cases hT0 : T.length = 0
  · obtain rfl : T = [] := List.eq_nil_of_length_eq_zero hT0
    have hTI : (([] : List UInt8).length : Int) = 0 := rfl
    go_wp2
    exact bodyPost_ret (v := .agg #[.bool false, .slice none 0 0, .int .i64 0]) (results_cell_row rfl _ _ (w.heap.size + 1) 104 _ _ _ rfl (heap_alloc2_new w _ _) Tryz.underlying104 rfl (by kernel_rfl)) rfl
      ⟨none, 0, 0, rfl, Sl.nil _ _ _, by unfold maxLen; omega, ((Below.refl _ _).alloc (Nat.le_refl _) _).alloc (by rw [World.size_alloc]; omega) _, rfl⟩
  · have hTI : (T.length : Int) ≠ 0 := by omega
    have hne : T ≠ [] := fun e => hT0 (by rw [e]; rfl)
    have HsT := hide (show Sl by8 w A1 T from by have := Sl_take HsD.out T.length; rw [← HT.out] at this; exact this)
    go_wp2
    exact bodyPost_ret (v := .agg #[.bool neg, .slice A1 T.length T.length, .int .i64 (e + ((D.length : Int) - T.length))]) (results_cell_row rfl _ _ (w.heap.size + 1) 104 _ _ _ rfl (heap_alloc2_new w _ _) Tryz.underlying104 rfl (by kernel_rfl)) rfl
      ⟨A1, T.length, neg, _, rfl, HsT.out.below (((Below.refl _ _).alloc (Nat.le_refl _) _).alloc (by rw [World.size_alloc]; omega) _), Nat.le_refl _, by unfold maxLen; omega, ((Below.refl _ _).alloc (Nat.le_refl _) _).alloc (by rw [World.size_alloc]; omega) _, fun _ => ⟨rfl, rfl⟩, fun h => absurd h hne⟩
end Go.Proofs.YtpjikbfeegncbaaGreatDoor
