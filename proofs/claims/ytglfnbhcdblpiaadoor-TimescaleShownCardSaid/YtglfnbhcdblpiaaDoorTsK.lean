/- Contract of timescale.Read. -/
import Derived.Test.YtglfnbhcdblpiaaDoorTsI
import Derived.Test.YtglfnbhcdblpiaaDoorTsJ
set_option linter.unusedVariables false
namespace Go.Proofs.YtglfnbhcdblpiaaDoor
open Go.RowKit Go.Shelf Go.Sort

/-- a text without a blank ahead -/
def trimB (t : ByteArray) : ByteArray := ⟨(Lib.trimPrefix t.data.toList [32]).toArray⟩
/-- the power that the rest of a text says, by the first units -/
def powAt (r : ByteArray) (s : Int) : Nat → Int × Bool
  | 0 => (s, decide (r = ⟨#[]⟩))
  | i + 1 => if trimB r = uname i then (-(3 * (i : Int)), true) else powAt r s i
/-- the digits of a text are no number -/
def badN (text : ByteArray) : Bool := decide (nd text.data.toList < 1 ∨ 15 < nd text.data.toList ∨ (text.data.toList[0]? = some 48 ∧ 1 < nd text.data.toList))
def numN (text : ByteArray) : Int := (dv (text.data.toList.take (nd text.data.toList)) : Nat)
def restN (text : ByteArray) : ByteArray := text.extract (nd text.data.toList) text.size
def readS (text : ByteArray) (s : Int) : Int × Int :=
  if validB s then
    (if badN text then (0, 3)
     else if (powAt (restN text) s 6).2 then
        (if (shiftS (numN text) ((powAt (restN text) s 6).1 - s)).2.1 && (shiftS (numN text) ((powAt (restN text) s 6).1 - s)).2.2 then ((shiftS (numN text) ((powAt (restN text) s 6).1 - s)).1, 0) else (0, 2))
     else (0, 3))
  else (0, 1)

theorem powAt_bd (r : ByteArray) (s : Int) (hs1 : -15 ≤ s) (hs2 : s ≤ 2) : ∀ i, i ≤ 6 → -15 ≤ (powAt r s i).1 ∧ (powAt r s i).1 ≤ 2 := by
  intro i
  induction i with
  | zero => intro _; exact ⟨hs1, hs2⟩
  | succ i ih =>
    intro h
    have := ih (by omega)
    unfold powAt
    split
    · exact ⟨by simp only; omega, by simp only; omega⟩
    · exact this
theorem num_bd (text : ByteArray) (h : nd text.data.toList ≤ 15) : 0 ≤ numN text ∧ numN text ≤ 999999999999999 := by
  have h1 := dv_lt text.data.toList (nd text.data.toList) (nd_in _) (nd_le _)
  have h2 := Nat.pow_le_pow_right (n := 10) (by decide) h
  have e : (10 : Nat) ^ 15 = 1000000000000000 := by decide
  unfold numN
  omega
theorem ndB (text : ByteArray) : nd text.data.toList ≤ text.size ∧ (∀ j (h : j < text.size), j < nd text.data.toList → 48 ≤ (text[j]'h).toNat ∧ (text[j]'h).toNat ≤ 57) ∧ (∀ h : nd text.data.toList < text.size, ¬ (48 ≤ (text[nd text.data.toList]'h).toNat ∧ (text[nd text.data.toList]'h).toNat ≤ 57)) := by
  have hsz : text.data.toList.length = text.size := (Lib.size_eq text).symm
  refine ⟨hsz ▸ nd_le _, fun j h hj => ?_, fun h => ?_⟩
  · have := nd_in text.data.toList j (by omega) hj
    rw [Array.getElem_toList] at this
    simp only [isD, decide_eq_true_eq] at this
    exact this
  · have := nd_end text.data.toList (by omega)
    simp only [isD, decide_eq_false_iff_not] at this
    rw [Array.getElem_toList] at this
    exact this
theorem Below_bytes {w : World} {e : TypeId} {t : ByteArray} : Below w.heap.size w (Lib.bytesWorld w e t) := ⟨rfl, rfl, rfl, by rw [Lib.bytesWorld_size]; omega, fun k hk => Lib.bytesWorld_at_old w _ _ k hk⟩
theorem atoi_any (text : ByteArray) (N : Nat) (hN : nd text.data.toList = N) (h1 : 1 ≤ N) (h2 : N ≤ 15) (w : World) :
    Calls Tryd.prog 31 #[.string (text.extract 0 N)] w fun e w' => e = .returned (.tuple #[.int .i64 (numN text), .nilIface]) ∧ Below w.heap.size w w' := by
  have hl : (text.extract 0 N).data.toList = text.data.toList.take N := Lib.extract_from_zero text N
  refine (Tryd.strconv_Atoi (text.extract 0 N) (numN text) (by rw [ByteArray.size_extract]; omega) ?_ w).mono ?_
  · rw [hl]
    unfold numN
    rw [hN]
    exact atoi_dv _ N (fun j h hj => nd_in _ j h (by omega)) (by rw [← hN]; exact nd_le _) h1
  · rintro e w' ⟨rfl, t, rfl⟩
    exact ⟨rfl, Below_bytes⟩
theorem trim_any (t : ByteArray) (w : World) :
    Calls Tryd.prog 33 #[.string t, .string ⟨#[32]⟩] w fun e w' => e = .returned (.string (trimB t)) ∧ w' = w := Tryd.strings_TrimPrefix t ⟨#[32]⟩ w

theorem isEmpty_dec (t : ByteArray) : t.toList.isEmpty = decide (t = ⟨#[]⟩) := by
  rw [Bool.eq_iff_iff, decide_eq_true_eq, List.isEmpty_iff]
  constructor
  · intro h; exact Go.WideShapes.bytes_inj (by rw [← Lib.toList_data, h])
  · intro h; rw [h, Lib.toList_data]
set_option maxRecDepth 20000 in
set_option maxHeartbeats 4000000 in
theorem Read_any (text : ByteArray) (s : Int) (w : World) (hz : text.size ≤ 1000000) (hg : Gl w) :
    Calls Tryd.prog 21 #[.string text, .int .i64 s] w fun e w' => e = .returned (.tuple #[.int .i64 (readS text s).1, .int .i64 (readS text s).2]) ∧ Below w.heap.size w w' := by
  have V := hide (fun W : World => Valid_any s W)
  cases hv : validB s with
  | false =>
    have hS : readS text s = (0, 1) := by unfold readS; rw [hv]; rfl
    rw [hv] at V
    rw [hS]
    clear hS hv
    go_enter Tryd.func21, Tryd.ntmps21
    go_wp2_with fail
    refine (V.out _).mono ?_
    rintro e w1 ⟨rfl, rfl⟩
    go_wp2
    go_ret2
    exact ⟨rfl, Below.refl _ _⟩
  | true =>
    rw [hv] at V
    have hr : -15 ≤ s ∧ s ≤ 2 := by simpa [validB] using hv
    obtain ⟨n1, n2, n3⟩ := ndB text
    have N2 := hide n2
    have N3 := hide n3
    have hN : ∃ N, nd text.data.toList = N := ⟨_, rfl⟩
    obtain ⟨N, hN⟩ := hN
    rw [hN] at n1 N2
    have N3 : Hid (∀ h : N < text.size, ¬ (48 ≤ (text[N]'h).toNat ∧ (text[N]'h).toNat ≤ 57)) := by subst hN; exact N3
    have HN := hide hN
    clear n2 n3 hN
    go_enter Tryd.func21, Tryd.ntmps21
    go_wp2_with fail
    refine (V.out _).mono ?_
    rintro e w1 ⟨rfl, rfl⟩
    go_wp2
    go_loop [6] (fun v => ∃ k : Nat, v = .int .i64 k ∧ k ≤ N) (fun v => N - (intOf v).toNat)
    case atStart => exact ⟨0, rfl, Nat.zero_le _⟩
    case round =>
      obtain ⟨k, rfl, hk⟩ := hrel
      by_cases hlt : k < N
      · have hks : k < text.size := by omega
        have hd := N2.out k hks hlt
        have hks' : (k : Int) < (text.size : Int) := by omega
        have hd1 : (48 : Int) ≤ ((text[k]'hks).toNat : Int) := by omega
        have hd2 : ((text[k]'hks).toNat : Int) ≤ 57 := by omega
        go_wp2
        go_round
        case rel => exact ⟨k + 1, by go_num, by omega⟩
        case measure => simp [intOf]; omega
      · obtain rfl : k = N := Nat.le_antisymm hk (Nat.le_of_not_lt hlt)
        have EX : (¬ (k : Int) < (text.size : Int)) ∨ (∃ h : k < text.size, (k : Int) < (text.size : Int) ∧ ((text[k]'h).toNat : Int) < 48) ∨ (∃ h : k < text.size, (k : Int) < (text.size : Int) ∧ (48 : Int) ≤ ((text[k]'h).toNat : Int) ∧ (57 : Int) < ((text[k]'h).toNat : Int)) := by
          by_cases h : k < text.size
          · have := N3.out h
            by_cases h2 : 48 ≤ (text[k]'h).toNat
            · exact .inr (.inr ⟨h, by omega, by omega, by omega⟩)
            · exact .inr (.inl ⟨h, by omega, by omega⟩)
          · exact .inl (by omega)
        by_cases a1 : k < 1
        · have hb : badN text = true := decide_eq_true (.inl (by rw [HN.out]; exact a1))
          have hS : readS text s = (0, 3) := by unfold readS; rw [hv, if_pos rfl, hb, if_pos rfl]
          have HS := hide hS
          clear hS hb hv
          rcases EX with e1 | ⟨h1, e1, e2⟩ | ⟨h1, e1, e2, e3⟩
          all_goals (go_wp2; go_ret2; exact ⟨by rw [HS.out]; rfl, Below.refl _ _⟩)
        by_cases a2 : 15 < k
        · have hb : badN text = true := decide_eq_true (.inr (.inl (by rw [HN.out]; exact a2)))
          have hS : readS text s = (0, 3) := by unfold readS; rw [hv, if_pos rfl, hb, if_pos rfl]
          have HS := hide hS
          clear hS hb hv
          rcases EX with e1 | ⟨h1, e1, e2⟩ | ⟨h1, e1, e2, e3⟩
          all_goals (go_wp2; go_ret2; exact ⟨by rw [HS.out]; rfl, Below.refl _ _⟩)
        have z0 : 0 < text.size := by omega
        have z0' : (0 : Int) < (text.size : Int) := by omega
        have hh0 : text.data.toList[0]? = some (text[0]'z0) := by
          rw [List.getElem?_eq_getElem (by rw [← Lib.size_eq]; exact z0), Array.getElem_toList]; rfl
        by_cases a3 : text[0]'z0 = 48 ∧ 1 < k
        · have hb : badN text = true := decide_eq_true (.inr (.inr (by rw [HN.out, hh0, a3.1]; exact ⟨rfl, a3.2⟩)))
          have hS : readS text s = (0, 3) := by unfold readS; rw [hv, if_pos rfl, hb, if_pos rfl]
          have HS := hide hS
          have m1 : ((text[0]'z0).toNat : Int) = 48 := by rw [a3.1]; rfl
          have a4 : (1 : Int) < (k : Int) := by omega
          clear hS hb hv hh0
          rcases EX with e1 | ⟨h1, e1, e2⟩ | ⟨h1, e1, e2, e3⟩
          all_goals (go_wp2; go_ret2; exact ⟨by rw [HS.out]; rfl, Below.refl _ _⟩)
        · have hb : badN text = false := decide_eq_false (by rw [HN.out, hh0]; exact fun h => h.elim a1 fun h => h.elim a2 fun h => a3 ⟨Option.some.inj h.1, h.2⟩)
          have hS : readS text s = (if (powAt (restN text) s 6).2 then
            (if (shiftS (numN text) ((powAt (restN text) s 6).1 - s)).2.1 && (shiftS (numN text) ((powAt (restN text) s 6).1 - s)).2.2 then ((shiftS (numN text) ((powAt (restN text) s 6).1 - s)).1, 0) else (0, 2))
            else (0, 3)) := by unfold readS; rw [hv, if_pos rfl, hb, if_neg Bool.false_ne_true]
          have HS := hide hS
          have hrs : restN text = text.extract k text.size := by unfold restN; rw [HN.out]
          have HR := hide hrs
          have AT := hide (fun W : World => atoi_any text k HN.out (by omega) (by omega) W)
          have m : (¬ ((text[0]'z0).toNat : Int) = 48) ∨ (((text[0]'z0).toNat : Int) = 48 ∧ ¬ (1 : Int) < (k : Int)) := by
            by_cases h : text[0]'z0 = 48
            · exact .inr ⟨by rw [h]; rfl, by have : ¬ 1 < k := fun h' => a3 ⟨h, h'⟩
                                             omega⟩
            · exact .inl (fun e => h (UInt8.toNat_inj.1 (by have : ((48 : UInt8).toNat : Int) = 48 := rfl; omega)))
          have ks : (k : Int) ≤ (text.size : Int) := by omega
          clear hS hb hv hh0 hrs a3
          rcases EX with e1 | ⟨h1, e1, e2⟩ | ⟨h1, e1, e2, e3⟩
          all_goals rcases m with m1 | ⟨m1, m2⟩
          all_goals
            go_wp2_with fail
            refine (AT.out _).mono ?_
            rintro e w2 ⟨rfl, hb2⟩
            have H2 := hide hb2
            clear hb2
            go_wp2_with fail
            refine wp_still (by kernel_rfl) (by kernel_rfl) ?_
            repeat still_step
            refine wpStill_nil ?_
            go_wp2_with fail
            refine (units_any _).mono ?_
            rintro e w3 ⟨rfl, hrow, hb3⟩
            have H3 := hide (H2.out.trans (Below.mono (show Below w2.heap.size w2 w3 from ⟨hb3.os, hb3.tape, hb3.output, hb3.size, hb3.block⟩) H2.out.size))
            have HRow := hide (show Row w3 w2.heap.size 51 unitCells.toArray from hrow)
            have hE : (text.extract k text.size).toList.isEmpty = (powAt (restN text) s 0).2 := by rw [HR.out]; exact isEmpty_dec _
            rw [hE]
            clear hrow hb3 hE
            go_wp2
            go_loopw [9, 10, 66] (fun vp vf vi wr => ∃ i : Nat, vi = .int .i64 i ∧ i ≤ 6 ∧ vp = .int .i64 (powAt (restN text) s i).1 ∧ vf = .bool (powAt (restN text) s i).2 ∧ Row wr w2.heap.size 51 unitCells.toArray ∧ Below w1.heap.size w1 wr) (fun _ _ vi _ => 6 - (intOf vi).toNat)
            case atStart => exact ⟨0, rfl, by omega, rfl, rfl, HRow.out, H3.out⟩
            case round =>
              obtain ⟨i, rfl, hi, rfl, rfl, hr', hb'⟩ := hrel
              have Hr := hide hr'
              have Hb := hide hb'
              by_cases hi6 : i < 6
              · obtain ⟨x1, x2⟩ := unitCells_at i hi6
                have y1 : wr.cell? ⟨w2.heap.size, 2 * i, none⟩ = some (.string (uname i)) := by rw [hr'.cell]; simpa using x1
                have y2 : wr.cell? ⟨w2.heap.size, 2 * i + 1, none⟩ = some (.int .i64 (-(3 * (i : Int)))) := by rw [hr'.cell]; simpa using x2
                rw [show 2 * i = i * 2 by omega] at y1 y2
                have hstep : powAt (restN text) s (i + 1) = if trimB (text.extract k text.size) = uname i then (-(3 * (i : Int)), true) else powAt (restN text) s i := by rw [← HR.out]; rfl
                have HStep := hide hstep
                have hgl := hr'.lt
                have hi6' : (i : Int) < 6 := by omega
                clear hr' hb' x1 x2 hstep hi
                go_wp2_with fail
                have hW : ∃ W, wr.alloc (Obj.cells #[Value.string (uname i), Value.int IntKind.i64 (-(3 * (i : Int)))] 51) = W := ⟨_, rfl⟩
                obtain ⟨W, hW⟩ := hW
                rw [hW]
                have hu : Row W wr.heap.size 51 #[Value.string (uname i), Value.int IntKind.i64 (-(3 * (i : Int)))] := hW ▸ Row.new _ _ _
                have Hr2 := hide (show Row W w2.heap.size 51 unitCells.toArray from hW ▸ Hr.out.alloc _)
                have Hb2 := hide (show Below w1.heap.size w1 W from hW ▸ Hb.out.alloc Hb.out.size _)
                have q1 : W.cell? ⟨wr.heap.size, 0, none⟩ = some (.string (uname i)) := hu.cell 0
                have q2 : W.cell? ⟨wr.heap.size, 1, none⟩ = some (.int .i64 (-(3 * (i : Int)))) := hu.cell 1
                have TR := hide (fun V : World => trim_any (text.extract k text.size) V)
                clear hW hu y1 y2 hgl
                generalize trimB (text.extract k text.size) = T at TR HStep
                generalize hnm : uname i = nm at q1 HStep
                by_cases hT : T = nm
                · have hs2 := HStep.out
                  rw [if_pos hT] at hs2
                  have HS2 := hide hs2
                  clear hs2
                  subst hT
                  go_quiet (exact Calls.quiet_of_same (TR.out _))
                  go_wp2
                  go_roundw
                  case rel => exact ⟨i + 1, by go_num, by omega, by rw [HS2.out], by rw [HS2.out], Hr2.out.drewN nq, Below_drewN Hb2.out nq⟩
                  case measure => simp [intOf]; omega
                · have hs2 := HStep.out
                  rw [if_neg hT] at hs2
                  have HS2 := hide hs2
                  have e9 : (T.toList == nm.toList) = false := beq_eq_false_iff_ne.2 (toList_ne hT)
                  clear hs2
                  go_quiet (exact Calls.quiet_of_same (TR.out _))
                  go_wp2
                  go_roundw
                  case rel => exact ⟨i + 1, by go_num, by omega, by rw [HS2.out], by rw [HS2.out], Hr2.out.drewN nq, Below_drewN Hb2.out nq⟩
                  case measure => simp [intOf]; omega
              · obtain rfl : i = 6 := by omega
                obtain ⟨b1, b2⟩ := powAt_bd (restN text) s hr.1 hr.2 6 (Nat.le_refl _)
                obtain ⟨b3, b4⟩ := num_bd text (by rw [HN.out]; omega)
                generalize powAt (restN text) s 6 = pf at b1 b2 HS ⊢
                obtain ⟨p, f⟩ := pf
                simp only at b1 b2 HS
                clear hr' hb' hi hi6
                cases f with
                | false =>
                  rw [if_neg Bool.false_ne_true] at HS
                  go_wp2
                  go_ret2
                  exact ⟨by rw [HS.out]; rfl, Hb.out⟩
                | true =>
                  rw [if_pos rfl] at HS
                  have SH := hide (fun W : World => shift_any (numN text) (p - s) W b3 (by omega) (by omega) (by omega))
                  generalize shiftS (numN text) (p - s) = r at SH HS
                  obtain ⟨o, x, ok⟩ := r
                  simp only at HS
                  have qw : IntKind.i64.wrap (p - s) = p - s := IntWalk.i64_in _ (by omega)
                  generalize numN text = num at *
                  go_wp2_with fail
                  refine (SH.out _).mono ?_
                  rintro e w5 ⟨rfl, hb5⟩
                  have H5 := hide (Hb.out.trans (hb5.mono Hb.out.size))
                  clear hb5
                  cases x <;> cases ok
                  all_goals (go_wp2; go_ret2; exact ⟨by rw [HS.out]; rfl, H5.out⟩)
end Go.Proofs.YtglfnbhcdblpiaaDoor
