/- Contract of quote.Unquote. -/
import Derived.Test.YtpjikbfeegncbaaGreatDoorQuD
set_option linter.unusedVariables false
namespace Go.Proofs.YtpjikbfeegncbaaGreatDoor
open Go.RowKit Go.Shelf

/-- what Unquote returns -/
def unqRes (l : List UInt8) : ByteArray × Int := match unq l with
  | none => (⟨#[]⟩, 3)
  | some t => if 64 < t.length then (⟨#[]⟩, 9) else (⟨t.toArray⟩, 0)
theorem rest_list (s : ByteArray) (i : Nat) : (s.extract i s.size).data.toList = s.data.toList.drop i := by
  rw [Lib.extract_data, List.take_of_length_le]
  rw [List.length_drop, Lib.size_eq]; omega
theorem rest_size (s : ByteArray) (i : Nat) : (s.extract i s.size).size = s.size - i := by rw [ByteArray.size_extract]; omega
theorem rest_rest (s : ByteArray) (i n : Nat) (h : i + n ≤ s.size) : (s.extract i s.size).extract n (s.extract i s.size).size = s.extract (i + n) s.size := by
  apply ByteArray.ext
  apply Array.toList_inj.1
  rw [rest_list, rest_list, rest_list, List.drop_drop]
theorem rest_none (s : ByteArray) (i : Nat) (h : i < s.size) (hs : step1 (s.data.toList.drop i) = none) : unq (s.data.toList.drop i) = none :=
  unq_stop hs (by intro e; have := congrArg List.length e; rw [List.length_drop, ← Lib.size_eq] at this; simp at this; omega)
theorem ret_pair {a b : ByteArray} {x y : Int} (h : a = b) (h2 : x = y) : Ending.returned (.tuple #[.string a, .int .i64 x]) = .returned (.tuple #[.string b, .int .i64 y]) := by rw [h, h2]
/-- out holds what is read so far -/
def Read (s : ByteArray) (i : Nat) (O : List UInt8) : Prop := i ≤ s.size ∧ O.length ≤ i ∧ unq s.data.toList = (unq (s.data.toList.drop i)).map (O ++ ·)
theorem Read.zero (s : ByteArray) : Read s 0 [] := ⟨Nat.zero_le _, Nat.le_refl _, by simp⟩
theorem Read.step {s : ByteArray} {i : Nat} {O : List UInt8} (h : Read s i O) {c : UInt8} {n : Nat} (hs : step1 (s.data.toList.drop i) = some (c, n)) : Read s (i + n) (O ++ [c]) := by
  obtain ⟨h1, h2, h3⟩ := h
  have h4 := step1_pos hs
  rw [List.length_drop, ← Lib.size_eq] at h4
  refine ⟨by omega, by simp; omega, ?_⟩
  rw [h3, unq_step hs, List.drop_drop]
  cases unq (List.drop (i + n) s.data.toList) <;> simp
theorem Read.stop {s : ByteArray} {i : Nat} {O : List UInt8} (h : Read s i O) (hi : i < s.size) (hs : step1 (s.data.toList.drop i) = none) : unqRes s.data.toList = (⟨#[]⟩, 3) := by
  unfold unqRes; rw [h.2.2, rest_none s i hi hs]; rfl
theorem Read.done {s : ByteArray} {O : List UInt8} (h : Read s s.size O) : unqRes s.data.toList = if 64 < O.length then (⟨#[]⟩, 9) else (⟨O.toArray⟩, 0) := by
  unfold unqRes
  rw [h.2.2, List.drop_eq_nil_of_le (by rw [Lib.size_eq]; exact Nat.le_refl _), unq_nil]
  simp only [Option.map_some, List.append_nil]

set_option maxRecDepth 100000 in
set_option maxHeartbeats 4000000 in
theorem Unquote_any (s : ByteArray) (w : World) (hs : s.size ≤ 1099511627776) :
    Calls Tryz.prog 91 #[.string s] w fun e w' => e = .returned (.tuple #[.string (unqRes s.data.toList).1, .int .i64 (unqRes s.data.toList).2]) ∧ Below w.heap.size w w' := by
  go_enter Tryz.func91, Tryz.ntmps91
  go_wp2
  go_loopw [0, 4] (fun t o wr => ∃ (i : Nat) (O : List UInt8), t = .string (s.extract i s.size) ∧ Read s i O ∧ wr.ownsRow w.heap.size 5 1 o O.length (byC O) ∧ Below w.heap.size w wr) (fun t _ _ => match t with | .string b => b.size | _ => 0)
  case atStart => exact ⟨0, [], by rw [show s.extract 0 s.size = s from by apply ByteArray.ext; apply Array.toList_inj.1; rw [rest_list]; rfl], Read.zero s, World.ownsRow_nil _ _ _ _, Below.refl _ _⟩
  case round =>
    obtain ⟨i, O, rfl, hrd, hown, hbr⟩ := hrel
    have Hrd := hide hrd
    have Hown := hide hown
    have Hbr := hide hbr
    have hle := hrd.1
    have hol := hrd.2.1
    clear hrd hown hbr
    by_cases hi : i < s.size
    · have hrs := rest_size s i
      have hpos : 0 < (s.extract i s.size).size := by omega
      obtain ⟨hn, he⟩ := toList_ne hpos
      have HR := hide hrs
      have HL := hide (rest_list s i)
      have HX := hide (fun n h => rest_rest s i n h)
      generalize s.extract i s.size = R at HR HL HX hn he hpos
      clear hrs
      go_wp2_with fail
      refine (first_any R _ hpos (by have := HR.out; omega)).mono ?_
      intro e w1 hfp
      unfold FirstPost at hfp
      rw [HL.out] at hfp
      cases hst : step1 (s.data.toList.drop i) with
      | none =>
        rw [hst] at hfp
        obtain ⟨c, r, rfl, hb1⟩ := hfp
        have Hres := hide (Hrd.out.stop hi hst)
        have Hb1 := hide hb1
        clear hb1 hst
        go_wp2
        go_ret2
        exact ⟨ret_pair (by rw [Hres.out]) (by rw [Hres.out]), Hbr.out.trans (Hb1.out.mono Hbr.out.size)⟩
      | some p =>
        obtain ⟨c, n⟩ := p
        rw [hst] at hfp
        obtain ⟨rfl, hb1⟩ := hfp
        have Hrd2 := hide (Hrd.out.step hst)
        have hn2 : i + n ≤ s.size := Hrd2.out.1
        have hn1 := (step1_pos hst).1
        rw [HX.out n hn2]
        have Hb1 := hide hb1
        have hown1 := ownsRow_below Hown.out hb1
        have Hown1 := hide hown1
        have Hz := hide (Nat.le_trans Hbr.out.size hb1.size)
        clear hb1 hst hown1
        go_wp2_with (at_builtin; have hown9 := Hown1.out.alloc (.cells #[.int .u8 c.toNat] 5); refine wpList_append_at _ rfl _ _ 60 rfl w.heap.size 5 infoU8 Tryz.underlying60 rfl (by decide) u4 O.length (byC O) rfl hown9 ⟨w1.heap.size, 0, none⟩ 1 1 [.int .u8 c.toNat] rfl rfl (cells_new _ _ rfl) (by intro u hu; simp only [List.mem_cons, List.not_mem_nil, or_false] at hu; rcases hu with rfl; rfl) (by unfold maxLen; omega) (by omega) (by rw [World.size_alloc]; exact Nat.le_succ_of_le Hz.out) ?_; intro v' w4 hown4 hgrow4 _ _)
        have HO4 := hide hown4
        have HG4 := hide hgrow4
        have HO9 := hide hown9
        clear hown4 hgrow4 hown9
        go_roundw
        case rel => exact ⟨i + n, O ++ [c], rfl, Hrd2.out, by rw [List.length_append, byC_append]; exact HO4.out, ((Hbr.out.trans (Hb1.out.mono Hbr.out.size)).alloc Hz.out _).grown HG4.out (by rw [World.size_alloc]; exact Nat.le_succ_of_le Hz.out) (fun j hj => (HO9.out.lt j hj).1)⟩
        case measure =>
          have := HR.out
          have := rest_size s (i + n)
          simp only
          omega
    · obtain rfl : i = s.size := Nat.le_antisymm hle (Nat.le_of_not_lt hi)
      have hemp : s.extract s.size s.size = ⟨#[]⟩ := ByteArray.ext (Array.eq_empty_of_size_eq_zero (by have := rest_size s s.size; rw [Nat.sub_self] at this; exact this))
      rw [hemp]
      have Hres := hide Hrd.out.done
      have hol2 : (O.length : Int) ≤ 1099511627776 := by omega
      obtain ⟨A, cap, rfl, _⟩ : ∃ A cap, u4 = .slice A O.length cap ∧ True := by
        obtain ⟨_, h2⟩ := Hown.out
        rcases h2 with ⟨rfl, h0⟩ | ⟨g, cap, cs, rfl, _⟩
        · exact ⟨none, 0, by rw [h0], trivial⟩
        · exact ⟨_, cap, rfl, trivial⟩
      have hcv := run_string_own (src := 60) (dst := 9) Tryz.underlying60 Tryz.underlying5 Tryz.underlying9 Hown.out
      clear hemp hi
      by_cases hbig : (64 : Int) < (O.length : Int)
      · go_wp2
        go_ret2
        exact ⟨ret_pair (by rw [Hres.out, if_pos (by omega)]) (by rw [Hres.out, if_pos (by omega)]), Hbr.out⟩
      · go_wp2
        go_ret2
        exact ⟨ret_pair (by rw [Hres.out, if_neg (by omega)]) (by rw [Hres.out, if_neg (by omega)]), Hbr.out⟩
end Go.Proofs.YtpjikbfeegncbaaGreatDoor
