/- strings.ContainsAny at whatever bytes: the shelf's contract stops at strings of at most 8 bytes with bytes over 127. -/
import Derived.Test.YtcjehiecgdmidaaShelfJ
import Derived.Test.YtcjehiecgdmidaaCore
import Derived.Laws.RangeAny
import Derived.Laws.Runes
import Derived.WalkMore
set_option linter.unusedVariables false
namespace Go
theorem decode_cont (s : ByteArray) (pos : Nat) (h : pos < s.size) : pos + (Utf8.decode s pos).2 ≤ s.size ∧ ∀ j, 1 ≤ j → j < (Utf8.decode s pos).2 → 128 ≤ (s.get! (pos + j)).toNat := by
  simp only [Utf8.decode]
  repeat' split
  all_goals (try simp only [Bool.and_eq_true, decide_eq_true_eq, beq_iff_eq] at *)
  all_goals (refine ⟨by omega, fun j h1 h2 => ?_⟩)
  all_goals (have hj : j = 1 ∨ j = 2 ∨ j = 3 := by omega)
  all_goals (rcases hj with rfl | rfl | rfl <;> omega)

theorem get_in (s : ByteArray) (k : Nat) (h : k < s.size) : s.get! k = s[k]'h := get_at s k h
end Go
namespace Go.Proofs.Ytcjehiecgdmidaa
open Go.RowKit Go.Shelf Go.Lib

/-- a string of ASCII bytes -/
def Ascii (s : ByteArray) : Prop := ∀ (j : Nat) b, s.data.toList[j]? = some b → b.toNat < 128

theorem Ascii.at {s : ByteArray} (h : Ascii s) (k : Nat) (hk : k < s.size) : (s[k]'hk).toNat < 128 := h k _ (Lib.data_getElem? s k hk)

set_option maxHeartbeats 4000000 in
set_option maxRecDepth 1000000 in
/-- the rune error is not among ASCII bytes -/
theorem indexRune_error (s : ByteArray) (w : World) (hs : Ascii s) :
    Calls Try.prog 28 #[.string s, .int .i32 65533] w fun e w' => e = .returned (.int .i64 (-1)) ∧ Below w.heap.size w w' := by
  have HA := hide hs
  clear hs
  go_enter Try.func28, Try.ntmps28
  go_wp2
  go_loopg [5, 6] s.size (fun g _ _ wx => ∃ i : Nat, i + g = s.size ∧ wx = w.iter s i)
  case atStart => exact ⟨0, by omega, rfl⟩
  case round =>
    obtain ⟨i, hig, rfl⟩ := hrel
    cases gk with
    | zero =>
      obtain rfl : i = s.size := by omega
      have hnx := run_next_end (P := Try.prog) w s s.size
      go_wp2
      go_ret
      exact ⟨rfl, (Below.refl _ _).alloc (Nat.le_refl _) _⟩
    | succ g =>
      have hi : i < s.size := by omega
      have hx128 := HA.out.at i hi
      have hnx := fun ty => run_next_ascii (P := Try.prog) w s i ty hi hx128
      have hne : (((s[i]'hi).toNat : Int) == 65533) = false := beq_eq_false_iff_ne.2 (by omega)
      go_wp2
      go_roundg g
      case measure => omega
      case rel => exact ⟨i + 1, by omega, rfl⟩

set_option maxHeartbeats 4000000 in
set_option maxRecDepth 1000000 in
/-- another rune over 127 is not among ASCII bytes -/
theorem indexRune_high (s : ByteArray) (r : Int) (w : World) (h128 : 128 ≤ r) (hr : r ≤ 2147483647) (hne : r ≠ 65533) (hs : Ascii s) (h4 : 4 ≤ s.size) (hbig : s.size ≤ 1000) :
    Calls Try.prog 28 #[.string s, .int .i32 r] w fun e w' => e = .returned (.int .i64 (-1)) ∧ Below w.heap.size w w' := by
  have hne' : (r == 65533) = false := beq_eq_false_iff_ne.2 hne
  cases hv : Lib.validRune r
  · go_enter Try.func28, Try.ntmps28
    go_wp2_with fail
    refine (Try.utf8_ValidRune _ _).mono ?_
    rintro e w' ⟨rfl, rfl⟩
    rw [hv]
    go_wp2
    go_ret
    exact ⟨rfl, Below.refl _ _⟩
  · have hv' : Utf8.valid r = true := hv ▸ Go.validRune_eq r
    obtain ⟨e2, e4, elast⟩ := encode_facts r hv' h128
    obtain ⟨t, ht⟩ : ∃ t, Utf8.encode r = t := ⟨_, rfl⟩
    rw [ht] at e2 e4 elast
    obtain ⟨m, hm⟩ : ∃ m, t.size = m + 1 := ⟨t.size - 1, by omega⟩
    have hl : m < t.size := by omega
    have el : 128 ≤ (t[m]'hl).toNat := by
      have h7 := elast (by omega)
      have h8 : t.size - 1 = m := by omega
      simpa only [h8] using h7
    obtain ⟨c, hc⟩ : ∃ c : UInt8, t[m]'hl = c := ⟨_, rfl⟩
    rw [hc] at el
    have hk : m < s.size := by omega
    have hx := hs.at m hk
    have hdiff : (((s[m]'hk).toNat : Int) == (c.toNat : Int)) = false := beq_eq_false_iff_ne.2 (by omega)
    have hnone : Lib.indexByte (s.extract (m + 1) s.size).data.toList c = -1 := by
      have hg := indexByte_ge (s.extract (m + 1) s.size).data.toList c
      have hcn : ((s.extract (m + 1) s.size).data.toList).contains c = false := by
        rw [List.contains_eq_any_beq, List.any_eq_false]
        intro b hb hcb
        have hb2 := Go.mem_extract hb
        obtain ⟨j, hj, rfl⟩ := List.getElem_of_mem hb2
        have h5 := hs j _ (List.getElem?_eq_getElem hj)
        have h6 := eq_of_beq hcb
        rw [← h6] at h5
        omega
      rw [contains_iff_indexByte] at hcn
      have := of_decide_eq_false hcn
      omega
    have hdiff' : (((s[m]'hk).toNat : Int) != (c.toNat : Int)) = true := by simp only [bne, hdiff, Bool.not_false]
    have hback : ((c.toNat : Int)).toNat.toUInt8 = c := by simp
    have Hib : Hid (∀ W : World, Calls Try.prog 37 #[.string (s.extract (m + 1) s.size), .int .u8 c.toNat] W fun e w' => e = .returned (.int .i64 (-1)) ∧ w' = W) := hide (fun W => by
      refine (Try.strings_IndexByte _ _ _).mono ?_
      rintro e w1 ⟨rfl, rfl⟩
      rw [hback, hnone]
      exact ⟨rfl, rfl⟩)
    have Hs := hide hs
    have Hv := hide hv'
    have Hel := hide elast
    have Hr := hide hr
    have Hn := hide hne
    clear hs hv' elast hr hne
    have hw1 : IntKind.i64.wrap ((t.size : Int) - 1) = (m : Int) := by rw [IntWalk.i64_in] <;> omega
    have hw2 : IntKind.i64.wrap ((m : Int) + 1) = ((m + 1 : Nat) : Int) := by rw [IntWalk.i64_in] <;> omega
    have hlts : ((m : Int) < (s.size : Int)) := by omega
    go_enter Try.func28, Try.ntmps28
    go_wp2_with fail
    refine (Try.utf8_ValidRune _ _).mono ?_
    rintro e w' ⟨rfl, rfl⟩
    rw [hv]
    have hcv : ∀ W : World, (convert 21 9 (.int .i32 r)).run Try.prog W = .ok (.string t) W := fun W => by
      rw [run_convert_int_string W 21 9 .i32 r (by kernel_rfl) (by kernel_rfl), ht]
    go_wp2_with fail
    go_step3
    go_wp2_with fail
    go_loop [9] (fun i => i = .int .i64 (m : Int)) (fun _ => 0)
    case atStart => go_num
    case round =>
      subst hrel
      go_wp2_with fail
      go_step3
      go_wp2_with fail
      go_region_both
      go_wp2_with fail
      refine wp_still (by kernel_rfl) (by kernel_rfl) ?_
      have hsl : (0 : Int) ≤ (m : Int) + 1 ∧ (m : Int) + 1 ≤ (s.size : Int) := by omega
      have hsm : (m : Int) < (m : Int) + 1 := by omega
      repeat still_step
      still_call (Hib.out _)
      repeat still_step
      refine wpStill_nil ?_
      go_wp2_with fail
      rw [Exit.noGoto_ret]
      go_wp2_with fail
      rw [Exit.noGoto_ret]
      go_wp2_with fail
      go_ret
      exact ⟨rfl, (Below.refl _ _).drew.drew⟩

/-- a rune over 127 -/
theorem indexRune_over (s : ByteArray) (r : Int) (w : World) (h128 : 128 ≤ r) (hr : r ≤ 2147483647) (hs : Ascii s) (h4 : 4 ≤ s.size) (hbig : s.size ≤ 1000) :
    Calls Try.prog 28 #[.string s, .int .i32 r] w fun e w' => e = .returned (.int .i64 (-1)) ∧ Below w.heap.size w w' := by
  by_cases h : r = 65533
  · rw [h]; exact indexRune_error s w hs
  · exact indexRune_high s r w h128 hr h hs h4 hbig

/-- the iterator's next step, in whatever world that holds it -/
theorem next_ex (b : Nat) (W : World) (s : ByteArray) (i : Nat) (hi : i < s.size) (hrow : W.heap[b]? = some (.stringIter s i)) :
    ∃ W' : World, (∀ ty, (Instr.next (.pointer (some ⟨b, 0, none⟩)) true ty).run Try.prog W = .ok (.tuple #[.bool true, .int .i64 i, .int .i32 (Utf8.decode s i).1]) W') ∧
      W'.heap[b]? = some (.stringIter s (i + (Utf8.decode s i).2)) ∧ ∀ n, n ≤ b → Below n W W' := by
  have hb : b < W.heap.size := by
    rcases Nat.lt_or_ge b W.heap.size with h | h
    · exact h
    · rw [Array.getElem?_eq_none (by omega)] at hrow; exact nomatch hrow
  refine ⟨{ W with heap := W.heap.setIfInBounds b (.stringIter s (i + (Utf8.decode s i).2)) }, fun ty => ?_, ?_, fun n hn => ⟨rfl, rfl, rfl, by simp, fun k hk => ?_⟩⟩
  · simp only [Instr.next, getObj, setObj, Sem.run_bind, Sem.run, hrow, Result.andThen, hi, if_true]
    simp [goInt]
  · simp [hb]
  · simp only [Array.getElem?_setIfInBounds]
    rw [if_neg (by omega)]

theorem next_no (b : Nat) (W : World) (s : ByteArray) (hrow : W.heap[b]? = some (.stringIter s s.size)) (ty : TypeId) :
    (Instr.next (.pointer (some ⟨b, 0, none⟩)) true ty).run Try.prog W = .ok (.tuple #[.bool false]) W := by
  simp [Instr.next, getObj, Sem.run, hrow]

/-- ASCII bytes alone are in a set of ASCII bytes -/
theorem Ascii.high {l : ByteArray} (h : Ascii l) {x : UInt8} (hx : 128 ≤ x.toNat) : l.data.toList.contains x = false := by
  rw [List.contains_eq_any_beq, List.any_eq_false]
  intro b hb hcb
  obtain ⟨j, hj, rfl⟩ := List.getElem_of_mem hb
  have h5 := h j _ (List.getElem?_eq_getElem hj)
  have h6 := eq_of_beq hcb
  rw [← h6] at h5
  omega

theorem NoAny.skip {s chars : ByteArray} (hc : Ascii chars) (i : Nat) (hi : i < s.size) (hx : 128 ≤ (s[i]'hi).toNat) (h : NoAny s.data.toList chars.data.toList i) :
    NoAny s.data.toList chars.data.toList (i + (Utf8.decode s i).2) := by
  intro j b hj hb
  by_cases hji : j < i
  · exact h j b hji hb
  · have hjs : j < s.size := by
      rcases Nat.lt_or_ge j s.size with h | h
      · exact h
      · rw [List.getElem?_eq_none (by rw [← Lib.size_eq]; exact h)] at hb; exact nomatch hb
    rw [Lib.data_getElem? s j hjs] at hb
    obtain rfl := Option.some.inj hb
    refine hc.high ?_
    by_cases he : j = i
    · subst he; exact hx
    · have := (decode_cont s i hi).2 (j - i) (by omega) (by omega)
      rw [show i + (j - i) = j from by omega, get_in s j hjs] at this
      exact this

set_option maxHeartbeats 8000000 in
set_option maxRecDepth 1000000 in
theorem indexAny_short (s chars : ByteArray) (w : World) (h4 : 4 ≤ chars.size) (hb : chars.size ≤ 1000) (h8 : s.size ≤ 8) (hac : Ascii chars) :
    Calls Try.prog 21 #[.string s, .string chars] w fun e w' => e = .returned (.int .i64 (Lib.indexAny s.data.toList chars.data.toList)) ∧ Below w.heap.size w w' := by
  have HA := hide hac
  clear hac
  have hemp : chars.toList.isEmpty = false := by
    rw [Lib.toList_data]
    cases h : chars.data.toList with
    | nil => have := Lib.size_eq chars; rw [h, List.length_nil] at this; omega
    | cons _ _ => rfl
  have hn1 : ((chars.size : Int) == 1) = false := beq_eq_false_iff_ne.2 (by omega)
  have h8z : decide ((8 : Int) < (s.size : Int)) = false := decide_eq_false (by omega)
  obtain ⟨N, hN⟩ : ∃ N, w.heap.size = N := ⟨_, rfl⟩
  go_enter Try.func21, Try.ntmps21
  go_wp2_with fail
  refine (Try.strings_shouldUseASCIISet _ _).mono ?_
  rintro e w' ⟨rfl, rfl⟩
  rw [h8z]
  go_wp2_with fail
  go_loopg [9, 10] s.size (fun g _ _ wx => ∃ i : Nat, i ≤ s.size ∧ s.size - i ≤ g ∧ wx.heap[N]? = some (.stringIter s i) ∧ Below N w' wx ∧ N < wx.heap.size ∧ NoAny s.data.toList chars.data.toList i)
  case atStart => exact ⟨0, by omega, by omega, by rw [← hN]; exact World.iter_heap _ _ _, (Below.refl _ _).alloc (by omega) _, by rw [World.iter, World.size_alloc]; omega, NoAny.zero _ _⟩
  case round =>
    obtain ⟨i, his, hig, hrow, hbw, hNw, hno⟩ := hrel
    have HN := hide hno
    have HG := hide hig
    have HS := hide his
    have HB := hide hbw
    have HR := hide hrow
    clear hno hig his hbw
    by_cases hi : i < s.size
    · clear hrow
      obtain ⟨wy, hnx, hrowy, hby⟩ := next_ex N _ s i hi HR.out
      have HBy := hide hby
      have HRy := hide hrowy
      clear hby hrowy
      have hNy : N < wy.heap.size := Nat.lt_of_lt_of_le hNw (HBy.out 0 (Nat.zero_le _)).size
      obtain ⟨r, hr⟩ : ∃ r : Nat, (Utf8.decode s i).1 = r := ⟨_, rfl⟩
      rw [hr] at hnx
      by_cases hx : (s[i]'hi).toNat < 128
      · have hd := decode_ascii s i hi hx
        obtain ⟨x, hxx⟩ : ∃ x : UInt8, s[i]'hi = x := ⟨_, rfl⟩
        have hk1 : (Utf8.decode s i).2 = 1 := by rw [hd]
        have hr1 : r = x.toNat := by rw [← hr, hd, hxx]
        rw [hxx] at hx
        have Hx := hide (show s.data.toList[i]? = some x from hxx ▸ Lib.data_getElem? s i hi)
        have HK := hide hk1
        subst hr1
        clear hr hd hxx hk1
        have hcon := Lib.contains_iff_indexByte chars.data.toList x
        have hback : ((x.toNat : Int)).toNat.toUInt8 = x := by simp
        cases hin : chars.data.toList.contains x
        · rw [hin] at hcon
          have hlt : ¬ ((0 : Int) ≤ Lib.indexByte chars.data.toList x) := of_decide_eq_false hcon.symm
          clear hcon
          go_wp2_with fail
          refine (Try.strings_IndexRune_ascii _ _ _ (by omega) (by omega)).mono ?_
          rintro e w2 ⟨rfl, rfl⟩
          rw [hback]
          go_wp2
          go_roundg (gk - 1)
          case measure => have := HG.out; have := HS.out; omega
          case rel => exact ⟨i + 1, by omega, by have := HG.out; omega, by have := HRy.out; rw [HK.out] at this; exact this, HB.out.trans (HBy.out N (Nat.le_refl _)), hNy, HN.out.succ Hx.out hin⟩
        · rw [hin] at hcon
          have hge : (0 : Int) ≤ Lib.indexByte chars.data.toList x := of_decide_eq_true hcon.symm
          clear hcon
          go_wp2_with fail
          refine (Try.strings_IndexRune_ascii _ _ _ (by omega) (by omega)).mono ?_
          rintro e w2 ⟨rfl, rfl⟩
          rw [hback]
          go_wp2
          go_ret
          exact ⟨by rw [Lib.indexAny_hit HN.out Hx.out hin]; rfl, hN ▸ HB.out.trans (HBy.out N (Nat.le_refl _))⟩
      · have hx' : 128 ≤ (s[i]'hi).toNat := by omega
        have hdh := decode_high s i hi hx'
        have hdl := decode_le s i
        have hdc := (decode_cont s i hi).1
        rw [hr] at hdh hdl
        have HC := hide hdc
        have HK := hide hdh.2
        have h128 : (128 : Int) ≤ (r : Int) := by omega
        have Hl := hide hdl
        have Hsk := hide (NoAny.skip HA.out i hi hx' HN.out)
        clear hdh hdl hdc hr hx
        go_wp2_with fail
        refine (indexRune_over _ _ _ (by omega) (by have := Hl.out; omega) HA.out h4 hb).mono ?_
        rintro e w2 ⟨rfl, hb2⟩
        have Hb2 := hide hb2
        clear hb2
        go_wp2
        go_roundg (gk - 1)
        case measure => have := HG.out; have := HS.out; omega
        case rel => exact ⟨i + (Utf8.decode s i).2, HC.out, by have := HG.out; have := HK.out; omega, by rw [Hb2.out.block N hNy]; exact HRy.out, (HB.out.trans (HBy.out N (Nat.le_refl _))).trans (Hb2.out.mono (Nat.le_of_lt hNy)), Nat.lt_of_lt_of_le hNy Hb2.out.size, Hsk.out⟩
    · obtain rfl : i = s.size := Nat.le_antisymm HS.out (Nat.le_of_not_lt hi)
      have hnx := next_no N _ s hrow
      clear hrow
      go_wp2
      go_ret
      exact ⟨by rw [Lib.indexAny_none (by rw [← Lib.size_eq]; exact HN.out)]; rfl, hN ▸ HB.out⟩

theorem indexAny_any (s chars : ByteArray) (w : World) (h4 : 4 ≤ chars.size) (hb : chars.size ≤ 1000) (hs : s.size < 4294967281) (hac : Ascii chars) :
    Calls Try.prog 21 #[.string s, .string chars] w fun e w' => e = .returned (.int .i64 (Lib.indexAny s.data.toList chars.data.toList)) ∧ Below w.heap.size w w' := by
  rcases Nat.lt_or_ge 8 s.size with h | h
  · refine (Try.strings_IndexAny_long (zero_of_info (n := 256) (by kernel_rfl)).1 s chars w (by omega) h hs (by omega) hac).mono ?_
    rintro e w1 ⟨he, rfl⟩
    exact ⟨he, ((Below.refl _ _).alloc (Nat.le_refl _) _).alloc (by rw [World.size_alloc]; omega) _⟩
  · exact indexAny_short s chars w h4 hb h hac

/-- strings.ContainsAny at whatever bytes, the set being of ASCII bytes -/
theorem containsAny_any (s chars : ByteArray) (w : World) (h4 : 4 ≤ chars.size) (hb : chars.size ≤ 1000) (hs : s.size < 4294967281) (hac : Ascii chars) :
    Calls Try.prog 13 #[.string s, .string chars] w fun e w' => e = .returned (.bool (Lib.containsAny s.data.toList chars.data.toList)) ∧ Below w.heap.size w w' := by
  have H := hide hac
  clear hac
  go_enter Try.func13, Try.ntmps13
  go_wp2_with fail
  refine (indexAny_any _ _ _ h4 hb hs H.out).mono ?_
  rintro e w1 ⟨rfl, hb1⟩
  have Hb := hide hb1
  clear hb1
  go_wp2
  go_ret
  exact ⟨rfl, Hb.out⟩
end Go.Proofs.Ytcjehiecgdmidaa
