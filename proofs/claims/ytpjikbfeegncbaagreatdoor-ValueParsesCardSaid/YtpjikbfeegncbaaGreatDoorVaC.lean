/- Contract of bitvector's Shorten. -/
import Derived.Test.YtpjikbfeegncbaaGreatDoorVaB
import Derived.Lib.Split
set_option linter.unusedVariables false
set_option linter.unusedSimpArgs false
namespace Go.Proofs.YtpjikbfeegncbaaGreatDoor
open Go.RowKit Go.Shelf Go.Sort

theorem bs_size (l : List UInt8) : (bsV l).size = l.length := by rw [Lib.size_eq, bsV_list]
theorem bs_get (l : List UInt8) (i : Nat) (h : i < (bsV l).size) : (bsV l)[i]'h = l[i]'(by rw [← bs_size]; exact h) := by
  have := Lib.data_getElem? (bsV l) i h
  rw [bsV_list, List.getElem?_eq_getElem (by rw [← bs_size]; exact h)] at this
  exact (Option.some.inj this).symm
theorem bs_drop (l : List UInt8) (k : Nat) : (bsV l).extract k (bsV l).size = bsV (l.drop k) := by
  apply Go.WideShapes.bytes_inj
  rw [Lib.extract_to_end, bsV_list, bsV_list]
theorem bs_take (l : List UInt8) (k : Nat) : (bsV l).extract 0 k = bsV (l.take k) := by
  apply Go.WideShapes.bytes_inj
  rw [Lib.extract_from_zero, bsV_list, bsV_list]
theorem bs_of (s : ByteArray) : s = bsV s.data.toList := rfl
/-- when a digit in front is left out -/
theorem frC_iff (a b : UInt8) : a = frC b ↔ (a = b ∧ a ≠ 49) ∨ (a = 48 ∧ b = 49) := by
  unfold frC
  by_cases h : b = 49
  · rw [if_pos h]
    constructor
    · intro e; exact .inr ⟨e, h⟩
    · rintro (⟨e, e2⟩ | ⟨e, _⟩)
      · exact absurd (e.trans h) e2
      · exact e
  · rw [if_neg h]
    constructor
    · intro e; exact .inl ⟨e, fun h2 => h (e ▸ h2)⟩
    · rintro (⟨e, e2⟩ | ⟨_, e⟩)
      · exact e
      · exact absurd e h
set_option maxRecDepth 20000 in
set_option maxHeartbeats 8000000 in
theorem bvShorten_any (l : List UInt8) (w : World) (hz : l.length ≤ 1000000) :
    Calls Tryz.prog 82 #[.string (bsV l)] w fun e w' => e = .returned (.string (bsV (if isV l then shortV l else []))) ∧ Below w.heap.size w w' := by
  have I := hide (fun W : World => bvIs_any (bsV l) W (by rw [bs_size]; exact hz))
  rw [bsV_list] at I
  cases hv : isV l with
  | false =>
    rw [hv] at I
    rw [if_neg Bool.false_ne_true]
    clear hv
    go_enter Tryz.func82, Tryz.ntmps82
    go_wp2_with fail
    refine (I.out _).mono ?_
    rintro e wx ⟨rfl, hb⟩
    have Hb := hide hb
    clear hb
    go_wp2
    go_ret
    exact ⟨rfl, Hb.out⟩
  | true =>
    rw [hv] at I
    rw [if_pos rfl]
    have hne : l ≠ [] := fun e => by rw [e] at hv; exact absurd hv (by decide)
    obtain ⟨R, hR⟩ : ∃ R, shortV l = R := ⟨_, rfl⟩
    have HR := hide hR
    rw [hR]
    clear hv hR
    go_enter Tryz.func82, Tryz.ntmps82
    go_wp2_with fail
    refine (I.out _).mono ?_
    rintro e wx ⟨rfl, hb⟩
    have Hb := hide hb
    clear hb
    go_wp2_with fail
    go_loopg [0] l.length (fun g v wr => ∃ r : List UInt8, v = .string (bsV r) ∧ r.length = g ∧ r ≠ [] ∧ g ≤ 1000000 ∧ shortV r = R ∧ Below w.heap.size w wr)
    case atStart => exact ⟨l, rfl, rfl, hne, hz, HR.out, Hb.out⟩
    case round =>
      obtain ⟨r, rfl, hrl, hrne, hg, hsh, hb⟩ := hrel
      have Hb2 := hide hb
      have Hsh := hide hsh
      clear hb hsh
      obtain ⟨a, t, rfl⟩ : ∃ a t, r = a :: t := by
        cases r with
        | nil => exact absurd rfl hrne
        | cons a t => exact ⟨a, t, rfl⟩
      cases t with
      | nil =>
        have hs := Hsh.out
        have hz1 : (bsV [a]).size = 1 := rfl
        have hz2 : ¬ (1 : Int) < ((bsV [a]).size : Int) := by rw [hz1]; decide
        subst hs
        obtain ⟨rb, hrb⟩ : ∃ rb, bsV [a] = rb := ⟨_, rfl⟩
        have Hf := hide (show bsV (shortV [a]) = rb from hrb)
        rw [hrb] at hz1 hz2 ⊢
        clear hrb hrl hrne
        go_upto_region 3 with fail
        go_quiet (fail)
        go_wp2
        go_ret
        exact ⟨ret_s Hf.out, Below_drewN Hb2.out _⟩
      | cons b t =>
        obtain ⟨rb, hrb⟩ : ∃ rb, bsV (a :: b :: t) = rb := ⟨_, rfl⟩
        have hsz : rb.size = t.length + 2 := by rw [← hrb, bs_size]; rfl
        have p0 : 0 < rb.size := by omega
        have p1 : 1 < rb.size := by omega
        have p1' : (1 : Int) < (rb.size : Int) := by omega
        have p1'' : (1 : Int) ≤ (rb.size : Int) := by omega
        have g0 : rb[0]'p0 = a := by subst hrb; exact bs_get _ 0 p0
        have g1 : rb[1]'p1 = b := by subst hrb; exact bs_get _ 1 p1
        have hd : rb.extract 1 rb.size = bsV (b :: t) := by rw [← hrb, bs_drop]; rfl
        have Hd := hide hd
        have hsh := Hsh.out
        rw [shortV_cons] at hsh
        rw [hrb]
        have eab : (((rb[0]'p0).toNat : Int) == ((rb[1]'p1).toNat : Int)) = decide (a = b) := by
          rw [g0, g1, Bool.eq_iff_iff, beq_iff_eq, decide_eq_true_eq]; exact u8i a b
        have e49 : (((rb[0]'p0).toNat : Int) != 49) = !decide (a = 49) := by
          rw [g0]; show (!(_ == _)) = _; congr 1
          rw [Bool.eq_iff_iff, beq_iff_eq, decide_eq_true_eq]; exact u8i a 49
        have e48 : (((rb[0]'p0).toNat : Int) == 48) = decide (a = 48) := by
          rw [g0, Bool.eq_iff_iff, beq_iff_eq, decide_eq_true_eq]; exact u8i a 48
        have f49 : (((rb[1]'p1).toNat : Int) == 49) = decide (b = 49) := by
          rw [g1, Bool.eq_iff_iff, beq_iff_eq, decide_eq_true_eq]; exact u8i b 49
        have hst : ¬ a = frC b → bsV R = rb := fun h => by rw [if_neg h] at hsh; rw [← hsh, hrb]
        have hdr : a = frC b → shortV (b :: t) = R := fun h => by rw [if_pos h] at hsh; exact hsh
        have hi := frC_iff a b
        clear hsh hrb hd g0 g1 hsz hrne
        by_cases c1 : a = b
        · by_cases c2 : a = 49
          · have hfin := hst (fun h => by rcases hi.1 h with ⟨_, h⟩ | ⟨h, _⟩; exact h c2; rw [c2] at h; exact absurd h (by decide))
            rw [decide_eq_true c1] at eab
            rw [decide_eq_true c2] at e49
            rw [decide_eq_false (show ¬ a = 48 by rw [c2]; decide)] at e48
            clear f49 hi hst hdr c1 c2
            have Hf := hide hfin
            clear hfin
            go_upto_region 3 with fail
            go_quiet (fail)
            go_wp2
            go_ret
            exact ⟨ret_s Hf.out, Below_drewN Hb2.out _⟩
          · have hfin := hdr (hi.2 (.inl ⟨c1, c2⟩))
            rw [decide_eq_true c1] at eab
            rw [decide_eq_false c2] at e49
            clear f49 e48 hi hst hdr c1 c2
            have Hf := hide hfin
            clear hfin
            go_upto_region 3 with fail
            go_quiet (fail)
            go_wp2
            go_roundg (t.length + 1)
            case measure => simp only [List.length_cons] at hrl; omega
            case rel => exact ⟨b :: t, by rw [Hd.out], rfl, by simp, by simp only [List.length_cons] at hrl; omega, Hf.out, Below_drewN Hb2.out _⟩
        · rw [decide_eq_false c1] at eab
          by_cases c2 : a = 48
          · rw [decide_eq_true c2] at e48
            by_cases c3 : b = 49
            · have hfin := hdr (hi.2 (.inr ⟨c2, c3⟩))
              rw [decide_eq_true c3] at f49
              clear e49 hi hst hdr c1 c2 c3
              have Hf := hide hfin
              clear hfin
              go_upto_region 3 with fail
              go_quiet (fail)
              go_wp2
              go_roundg (t.length + 1)
              case measure => simp only [List.length_cons] at hrl; omega
              case rel => exact ⟨b :: t, by rw [Hd.out], rfl, by simp, by simp only [List.length_cons] at hrl; omega, Hf.out, Below_drewN Hb2.out _⟩
            · have hfin := hst (fun h => by rcases hi.1 h with ⟨h, _⟩ | ⟨_, h⟩; exact c1 h; exact c3 h)
              rw [decide_eq_false c3] at f49
              clear e49 hi hst hdr c1 c2 c3
              have Hf := hide hfin
              clear hfin
              go_upto_region 3 with fail
              go_quiet (fail)
              go_wp2
              go_ret
              exact ⟨ret_s Hf.out, Below_drewN Hb2.out _⟩
          · have hfin := hst (fun h => by rcases hi.1 h with ⟨h, _⟩ | ⟨h, _⟩; exact c1 h; exact c2 h)
            rw [decide_eq_false c2] at e48
            clear e49 f49 hi hst hdr c1 c2
            have Hf := hide hfin
            clear hfin
            go_upto_region 3 with fail
            go_quiet (fail)
            go_wp2
            go_ret
            exact ⟨ret_s Hf.out, Below_drewN Hb2.out _⟩
end Go.Proofs.YtpjikbfeegncbaaGreatDoor
