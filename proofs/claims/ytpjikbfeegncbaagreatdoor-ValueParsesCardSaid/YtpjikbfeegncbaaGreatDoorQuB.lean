/- Contracts of quote.Quote and of the reference's. -/
import Derived.Test.YtpjikbfeegncbaaGreatDoorQuA
import Derived.Lib.ConvBytes
import Derived.Deep.RegionHeld3
set_option linter.unusedVariables false
namespace Go
open Go.RowKit Go.Lib
/-- a row of bytes made a string -/
theorem run_string_own {P : Program} {W : World} {base : Nat} {e : TypeId} {v : Value} {n : Nat} {bs : List UInt8} {src dst : TypeId} (hs : P.underlying src = some (.slice e)) (he : P.underlying e = some (.int .u8)) (hd : P.underlying dst = some .string)
    (hown : W.ownsRow base e 1 v n (bs.map fun b => Value.int .u8 b.toNat)) : (convert src dst v).run P W = .ok (.string ⟨bs.toArray⟩) W := by
  have hl : bs.length = n := by have := hown.1; simpa using this
  rcases Nat.eq_zero_or_pos n with h0 | h0
  · subst h0
    obtain rfl : bs = [] := List.eq_nil_of_length_eq_zero hl
    rcases hown.2 with ⟨rfl, _⟩ | ⟨g, cap, cur, rfl, _⟩
    · rw [run_convert_bytes_string W src dst e none 0 0 hs he hd]
      simp [Conv.bytesToString, Sem.run_pure]
      rfl
    · exact run_convert_bytes_back W src dst e ⟨g, 0, none⟩ cap [] hs he hd (fun j hj => absurd hj (by simp))
  · obtain ⟨g, cap, rfl, _⟩ := World.ownsRow.form hown h0
    rw [← hl]
    refine run_convert_bytes_back W src dst e ⟨g, 0, none⟩ cap bs hs he hd (fun j hj => ?_)
    rw [show (⟨g, 0, none⟩ : Addr).add j = ⟨g, j, none⟩ by unfold Addr.add; split <;> simp_all, World.ownsRow.cellAt hown j (by omega), List.getElem?_map, List.getElem?_eq_getElem hj]; rfl
end Go
namespace Go.Proofs.YtpjikbfeegncbaaGreatDoor
open Go.RowKit Go.Shelf

theorem infoU8 : (Tryz.prog.info? 5).map (fun i => (i.zero, i.size, i.bytes)) = some (some (.int .u8 0), 1, 1) := by kernel_rfl
def byC (l : List UInt8) : List Value := l.map fun b => Value.int .u8 b.toNat
theorem byC_append (a b : List UInt8) : byC (a ++ b) = byC a ++ byC b := List.map_append
theorem byC_one (l : List UInt8) : ∀ u ∈ byC l, u.oneCell' = true := by
  intro u hu
  obtain ⟨b, _, rfl⟩ := List.mem_map.1 hu
  rfl
def digitsB : ByteArray := ⟨#[48, 49, 50, 51, 52, 53, 54, 55, 56, 57, 97, 98, 99, 100, 101, 102]⟩
theorem run_hex {P : Program} {t : TypeId} (n : Int) (m : Nat) (h : P.underlying t = some .string) (W : World) (hm : n = (m : Int)) (h1 : m < 16) : (Instr.index t (.string digitsB) (.int .u8 n)).run P W = .ok (.int .u8 (hexD m).toNat) W := by
  subst hm
  rw [run_index_string W t digitsB .u8 m h]
  have h16 : digitsB.size = 16 := rfl
  rw [dif_pos ⟨by omega, by omega⟩]
  have : m = 0 ∨ m = 1 ∨ m = 2 ∨ m = 3 ∨ m = 4 ∨ m = 5 ∨ m = 6 ∨ m = 7 ∨ m = 8 ∨ m = 9 ∨ m = 10 ∨ m = 11 ∨ m = 12 ∨ m = 13 ∨ m = 14 ∨ m = 15 := by omega
  rcases this with rfl | rfl | rfl | rfl | rfl | rfl | rfl | rfl | rfl | rfl | rfl | rfl | rfl | rfl | rfl | rfl <;> rfl
theorem bits_and15 : ∀ m : Nat, m < 256 → bits .and .u8 (m : Int) 15 = (m : Int) % 16 := by decide +kernel
theorem quoteL_snoc (l : List UInt8) (c : UInt8) : quoteL (l ++ [c]) = quoteL l ++ quoteB c := by unfold quoteL; rw [List.flatMap_append]; simp
theorem quoteB_len (c : UInt8) : (quoteB c).length ≤ 4 ∧ 1 ≤ (quoteB c).length := by unfold quoteB; (repeat' split) <;> simp
theorem quoteL_len (l : List UInt8) : (quoteL l).length ≤ 4 * l.length := by
  induction l with
  | nil => simp [quoteL]
  | cons c l ih =>
    have : quoteL (c :: l) = quoteB c ++ quoteL l := rfl
    rw [this, List.length_append, List.length_cons]
    have := quoteB_len c
    omega

set_option maxRecDepth 100000 in
set_option maxHeartbeats 4000000 in
theorem Quote_any (s : ByteArray) (w : World) (hs : s.size ≤ 1099511627776) :
    Calls Tryz.prog 92 #[.string s] w fun e w' => e = .returned (.string ⟨(quoteL s.data.toList).toArray⟩) ∧ Below w.heap.size w w' := by
  have hcv := Lib.run_convert_string_bytes (P := Tryz.prog) w 9 60 5 s Tryz.underlying9 Tryz.underlying60 Tryz.underlying5
  have hW0 : Below w.heap.size w (Lib.bytesWorld w 5 s) := ⟨rfl, rfl, rfl, by rw [Lib.bytesWorld_size]; omega, fun k hk => Lib.bytesWorld_at_old w _ s k hk⟩
  have hWz := Lib.bytesWorld_size w 5 s
  have hWc : ∀ j, ∀ hj : j < s.size, (Lib.bytesWorld w 5 s).cell? ⟨w.heap.size, j, none⟩ = some (.int .u8 (s[j]'hj).toNat) := fun j hj => by
    rw [Lib.bytesWorld_cell w _ s j hj, List.getD_eq_getElem?_getD, Lib.data_getElem? s j hj]; rfl
  generalize Lib.bytesWorld w 5 s = W1 at hcv hW0 hWz hWc
  have HW0 := hide hW0
  have HWz := hide hWz
  have HWc := hide hWc
  clear hW0 hWz hWc
  go_enter Tryz.func92, Tryz.ntmps92
  go_wp2
  clear hcv
  go_loopw [3, 9] (fun o i wr => ∃ k : Nat, i = .int .i64 k ∧ k ≤ s.size ∧ wr.ownsRow W1.heap.size 5 1 o (quoteL (s.data.toList.take k)).length (byC (quoteL (s.data.toList.take k))) ∧ Below W1.heap.size W1 wr) (fun _ i _ => s.size - (intOf i).toNat)
  case atStart => exact ⟨0, rfl, Nat.zero_le _, World.ownsRow_nil _ _ _ _, Below.refl _ _⟩
  case round =>
    obtain ⟨k, rfl, hk, hown, hbr⟩ := hrel
    have Hown := hide hown
    have Hbr := hide hbr
    clear hown hbr
    by_cases hlt : k < s.size
    · have hsn : s.data.toList.take (k + 1) = s.data.toList.take k ++ [s[k]'hlt] := by
        have h := Lib.data_getElem? s k hlt
        have h2 : k < s.data.toList.length := by rw [← Lib.size_eq]; exact hlt
        rw [List.take_succ_eq_append_getElem h2]
        rw [List.getElem?_eq_getElem h2] at h
        rw [Option.some.inj h]
      have hcell : wr.cell? ⟨w.heap.size, k, none⟩ = some (.int .u8 (s[k]'hlt).toNat) := (Hbr.out.cell (p := ⟨w.heap.size, k, none⟩) (by rw [HWz.out]; exact Nat.lt_succ_self _)).trans (HWc.out k hlt)
      generalize s[k]'hlt = c at hsn hcell
      have hq : quoteL (s.data.toList.take (k + 1)) = quoteL (s.data.toList.take k) ++ quoteB c := by rw [hsn, quoteL_snoc]
      have hl4 := quoteL_len (s.data.toList.take k)
      rw [List.length_take] at hl4
      have hl5 : (quoteL (s.data.toList.take k)).length ≤ 4 * 1099511627776 := by omega
      have Hq := hide hq
      clear hsn hq hl4
      generalize quoteL (s.data.toList.take k) = Q at Hown Hq hl5
      obtain ⟨iu, hi1, hi2, hi3, hi4⟩ := info_parts infoU8
      have HI1 := hide hi1
      have HI2 := hide hi2
      have HI3 := hide hi3
      have HI4 := hide hi4
      clear hi1 hi2 hi3 hi4
      have hzz := Hbr.out.size
      have Hzz := hide hzz
      clear hzz
      by_cases hc : c = 92
      · subst hc
        go_wp2_with (at_builtin; go_loud (refine Lib.wpList_append_own_string _ rfl _ _ 60 9 rfl W1.heap.size 5 iu Tryz.underlying60 Tryz.underlying9 HI1.out HI2.out HI3.out HI4.out u3 Q.length (byC Q) rfl Hown.out ⟨#[92, 92]⟩ rfl (by show Q.length + 2 ≤ _; unfold maxLen; omega) (by show Q.length + 2 ≤ _; omega) Hzz.out ?_); intro v' w4 hown4 hgrow4 _)
        have HO4 := hide hown4
        have HG4 := hide hgrow4
        clear hown4 hgrow4
        go_roundw
        case rel => exact ⟨k + 1, by go_num, by omega, by rw [Hq.out, List.length_append, byC_append]; exact HO4.out, Hbr.out.grown HG4.out Hzz.out (fun j hj => (Hown.out.lt j hj).1)⟩
        case measure => simp [intOf]; omega
      have hc1 : ((c.toNat : Int) == 92) = false := beq_eq_false_iff_ne.2 (fun e => hc (UInt8.toNat_inj.1 (by have : ((92 : UInt8).toNat : Int) = 92 := rfl; omega)))
      cases hp : prB c with
      | true =>
        obtain ⟨p1, p2⟩ := prB_true hp
        have Hb := hide (show quoteB c = [c] by unfold quoteB; rw [if_neg hc, if_pos hp])
        clear hp hc
        go_wp2_with (at_builtin; have hown9 := Hown.out.alloc (.cells #[.int .u8 c.toNat] 5); go_loud (refine wpList_append_at _ rfl _ _ 60 rfl W1.heap.size 5 infoU8 Tryz.underlying60 rfl (by decide) u3 Q.length (byC Q) rfl hown9 ⟨wr.heap.size, 0, none⟩ 1 1 [.int .u8 c.toNat] rfl rfl (cells_new _ _ rfl) (by intro u hu; simp only [List.mem_cons, List.not_mem_nil, or_false] at hu; rcases hu with rfl; rfl) (by unfold maxLen; omega) (by omega) (by rw [World.size_alloc]; exact Nat.le_succ_of_le Hzz.out) ?_); intro v' w4 hown4 hgrow4 _ _)
        have HO4 := hide hown4
        have HG4 := hide hgrow4
        have HO9 := hide hown9
        clear hown4 hgrow4 hown9
        go_roundw
        case rel => exact ⟨k + 1, by go_num, by omega, by rw [Hq.out, Hb.out, List.length_append, byC_append]; exact HO4.out, (Hbr.out.alloc Hzz.out _).grown HG4.out (by rw [World.size_alloc]; exact Nat.le_succ_of_le Hzz.out) (fun j hj => (HO9.out.lt j hj).1)⟩
        case measure => simp [intOf]; omega
      | false =>
        have p := prB_false hp
        have Hb := hide (show quoteB c = [92, 120, hexD (c.toNat / 16), hexD (c.toNat % 16)] by unfold quoteB; rw [if_neg hc, if_neg (by rw [hp]; decide)])
        clear hp hc
        have hc255 := c.toNat_lt
        have hx1 : ∀ W : World, (Instr.index 9 (.string digitsB) (.int .u8 ((c.toNat : Int) / 16))).run Tryz.prog W = .ok (.int .u8 (hexD (c.toNat / 16)).toNat) W := fun W => run_hex _ _ Tryz.underlying9 W (by omega) (by omega)
        have hx2 : ∀ W : World, (Instr.index 9 (.string digitsB) (.int .u8 ((c.toNat : Int) % 16))).run Tryz.prog W = .ok (.int .u8 (hexD (c.toNat % 16)).toNat) W := fun W => run_hex _ _ Tryz.underlying9 W (by omega) (by omega)
        have hand : bits .and .u8 (c.toNat : Int) 15 = (c.toNat : Int) % 16 := bits_and15 c.toNat hc255
        unfold digitsB at hx1 hx2
        rcases p with p | p
        · go_wp2_with fail
          go_region_held3 (fun _ => True) (exact trivial) ((refine step_append_lies _ (by rfl) _ _ 60 (by rfl) W1.heap.size 5 iu _ 1 1 Tryz.underlying60 HI1.out HI2.out HI3.out HI4.out rfl (by decide) u3 Q.length (byC Q) (by rfl) ((Hown.out.alloc _).drew) ⟨wr.heap.size, 0, none⟩ 4 4 [.int .u8 92, .int .u8 120, .int .u8 (hexD (c.toNat / 16)).toNat, .int .u8 (hexD (c.toNat % 16)).toNat] (by rfl) (by rfl) (World.news_of_block (cs := #[.int .u8 92, .int .u8 120, .int .u8 (hexD (c.toNat / 16)).toNat, .int .u8 (hexD (c.toNat % 16)).toNat]) (t := 5) (fr := (0, 0)) (heap_alloc_new wr _)) (by simp [Value.oneCell']) (by omega) (by unfold maxLen; omega) (by omega) (by simp; have := Hzz.out; omega) (wr.heap.size + 1) (by simp) ?_; intro g4 cap4 w4 hown4 hgrow4 hat4 hlt4))
          all_goals
            go_wp2
            have HO4 := hide hown4
            have HG4 := hide hgrow4
            clear hown4 hgrow4
            go_roundw
            case rel => exact ⟨k + 1, by go_num, by omega, by rw [Hq.out, Hb.out, List.length_append, byC_append]; exact HO4.out, ((Hbr.out.alloc Hzz.out _).drew).grown HG4.out (by simp; have := Hzz.out; omega) (fun j hj => (Hown.out.lt j hj).1)⟩
            case measure => simp [intOf]; omega
        · go_wp2_with fail
          go_region_held3 (fun _ => True) (exact trivial) ((refine step_append_lies _ (by rfl) _ _ 60 (by rfl) W1.heap.size 5 iu _ 1 1 Tryz.underlying60 HI1.out HI2.out HI3.out HI4.out rfl (by decide) u3 Q.length (byC Q) (by rfl) ((Hown.out.alloc _).drew) ⟨wr.heap.size, 0, none⟩ 4 4 [.int .u8 92, .int .u8 120, .int .u8 (hexD (c.toNat / 16)).toNat, .int .u8 (hexD (c.toNat % 16)).toNat] (by rfl) (by rfl) (World.news_of_block (cs := #[.int .u8 92, .int .u8 120, .int .u8 (hexD (c.toNat / 16)).toNat, .int .u8 (hexD (c.toNat % 16)).toNat]) (t := 5) (fr := (0, 0)) (heap_alloc_new wr _)) (by simp [Value.oneCell']) (by omega) (by unfold maxLen; omega) (by omega) (by simp; have := Hzz.out; omega) (wr.heap.size + 1) (by simp) ?_; intro g4 cap4 w4 hown4 hgrow4 hat4 hlt4))
          all_goals
            go_wp2
            have HO4 := hide hown4
            have HG4 := hide hgrow4
            clear hown4 hgrow4
            go_roundw
            case rel => exact ⟨k + 1, by go_num, by omega, by rw [Hq.out, Hb.out, List.length_append, byC_append]; exact HO4.out, ((Hbr.out.alloc Hzz.out _).drew).grown HG4.out (by simp; have := Hzz.out; omega) (fun j hj => (Hown.out.lt j hj).1)⟩
            case measure => simp [intOf]; omega
    · obtain rfl : k = s.size := Nat.le_antisymm hk (Nat.le_of_not_lt hlt)
      have hcv := run_string_own (src := 60) (dst := 9) Tryz.underlying60 Tryz.underlying5 Tryz.underlying9 Hown.out
      have hall : s.data.toList.take s.size = s.data.toList := by rw [Lib.size_eq]; exact List.take_length
      rw [hall] at hcv
      clear hall
      go_wp2
      go_ret
      exact ⟨rfl, HW0.out.trans (Hbr.out.mono HW0.out.size)⟩
end Go.Proofs.YtpjikbfeegncbaaGreatDoor
