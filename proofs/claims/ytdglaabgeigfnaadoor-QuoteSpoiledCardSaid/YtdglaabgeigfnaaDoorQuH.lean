/- The reference's Split; Join and Words of both. -/
import Derived.Test.YtdglaabgeigfnaaDoorQuG
import Derived.Test.YtdglaabgeigfnaaDoorQuF
import Derived.IntWalk
set_option linter.unusedVariables false
namespace Go.Proofs.YtdglaabgeigfnaaDoor
open Go.RowKit Go.Shelf

theorem splitB_snoc (c : UInt8) (s : ByteArray) (i : Nat) (hi : i < s.size) (D : List (List UInt8)) (q : List UInt8) (h : splitL c (s.data.toList.take i) = D ++ [q]) :
    splitL c (s.data.toList.take (i + 1)) = if s[i]'hi = c then D ++ [q, []] else D ++ [q ++ [s[i]'hi]] := by
  rw [take_snoc s i hi]; exact splitL_snoc c _ _ D q h
def strC (L : List (List UInt8)) : List Value := L.map fun l => Value.string ⟨l.toArray⟩
theorem strC_append (a b : List (List UInt8)) : strC (a ++ b) = strC a ++ strC b := List.map_append
theorem splitL_bd (c : UInt8) (l : List UInt8) : (splitL c l).length ≤ l.length + 1 := by
  rw [splitL_len]; have : Lib.countByte l c ≤ l.length := List.count_le_length; omega

set_option maxHeartbeats 4000000 in
theorem refSplit_any (s : ByteArray) (w : World) (hs : s.size ≤ 1099511627776) :
    Calls Tryd.prog 32 #[.string s] w (StrsPost (splitB 32 s) w) := by
  go_enter Tryd.func32, Tryd.ntmps32
  go_wp2
  go_loopw [3, 4] (fun o v wr => ∃ (i : Nat) (D : List (List UInt8)) (q : List UInt8), v = .int .i64 i ∧ i ≤ s.size ∧ splitL 32 (s.data.toList.take i) = D ++ [q] ∧ q.length ≤ i ∧ D.length ≤ i ∧
    wr.ownsRow w.heap.size 9 1 o (D.length + 1) (strC (D ++ [q])) ∧ Below w.heap.size w wr) (fun _ v _ => s.size - (intOf v).toNat)
  case atStart => exact ⟨0, [], [], rfl, Nat.zero_le _, rfl, Nat.le_refl _, Nat.le_refl _, World.ownsRow_lit (size := 1) w #[.string ⟨#[]⟩] 1 (Nat.le_refl _) (by unfold maxLen; omega) rfl, (Below.refl _ _).alloc (Nat.le_refl _) _⟩
  case round =>
    obtain ⟨i, D, q, rfl, hi0, hsp, hq, hDi, hown, hbr⟩ := hrel
    obtain ⟨g, cap, rfl, hg0, hg1⟩ := World.ownsRow.form hown (by omega)
    have Hsp := hide hsp
    have Hown := hide hown
    have Hbr := hide hbr
    have Hz := hide hbr.size
    have hDb : (D.length : Int) ≤ 1099511627776 := by omega
    clear hsp hbr
    by_cases hi : i < s.size
    · have hstep := splitB_snoc 32 s i hi D q Hsp.out
      by_cases hc : s[i]'hi = 32
      · rw [if_pos hc] at hstep
        have hc1 : ((s[i]'hi).toNat : Int) = 32 := by rw [hc]; rfl
        have Hstep := hide hstep
        clear hstep hc hown
        go_wp2_with (at_builtin; have hown9 := Hown.out.alloc (.cells #[.string ⟨#[]⟩] 9); refine wpList_append_at _ rfl _ _ 28 rfl w.heap.size 9 infoStr1 Tryd.underlying28 rfl (by decide) _ (D.length + 1) (strC (D ++ [q])) rfl hown9 ⟨wr.heap.size, 0, none⟩ 1 1 [.string ⟨#[]⟩] rfl rfl (cells_new _ _ rfl) (by intro u hu; simp only [List.mem_cons, List.not_mem_nil, or_false] at hu; rcases hu with rfl; rfl) (by unfold maxLen; omega) (by omega) (by rw [World.size_alloc]; exact Nat.le_succ_of_le Hz.out) ?_; intro v' w4 hown4 hgrow4 _ _)
        have HO4 := hide hown4
        have HG4 := hide hgrow4
        have HO9 := hide hown9
        clear hown4 hgrow4 hown9
        go_roundw
        case rel => exact ⟨i + 1, D ++ [q], [], by go_num, by omega, by rw [Hstep.out]; simp, by simp, by simp; omega, by rw [strC_append, List.length_append]; exact HO4.out, (Hbr.out.alloc Hz.out _).grown HG4.out (by rw [World.size_alloc]; exact Nat.le_succ_of_le Hz.out) (fun j hj => (HO9.out.lt j hj).1)⟩
        case measure => simp [intOf]; omega
      · rw [if_neg hc] at hstep
        have hc1 : (((s[i]'hi).toNat : Int) == 32) = false := u8_ne (n := 32) (by omega) hc
        have hx1 := extract_one s i hi
        obtain ⟨c, hcc⟩ : ∃ c, s[i]'hi = c := ⟨_, rfl⟩
        rw [hcc] at hx1 hstep hc1
        have Hstep := hide hstep
        have hcell : wr.cell? ⟨g, D.length, none⟩ = some (.string ⟨q.toArray⟩) := by
          rw [World.ownsRow.cellAt hown D.length (by omega)]
          simp [strC]
        have hfr : wr.frozen? ⟨g, D.length, none⟩ = false := World.ownsRow.frozenAt hown _
        have hcat := fun W => run_cat (P := Tryd.prog) q [c] (by show q.length + 1 ≤ _; omega) W
        have k1 : (i : Int) + 1 ≤ (s.size : Int) := by omega
        clear hstep hc hown
        go_wp2_with fail
        have s1 : IntKind.i64.wrap ((D.length : Int) + 1 - 1) = (D.length : Int) := by rw [show (D.length : Int) + 1 - 1 = D.length by omega]; exact IntWalk.i64_in _ (by omega)
        have s2 : IntKind.i64.wrap ((i : Int) + 1) = (i : Int) + 1 := IntWalk.i64_in _ (by omega)
        have s3 : IntKind.i64.wrap (D.length : Int) = (D.length : Int) := IntWalk.i64_in _ (by omega)
        have s4 : (D.length : Int) < (D.length : Int) + 1 := by omega
        have s5 : ((i : Int) + 1).toNat = i + 1 := by omega
        have s6 : (i : Int) ≤ (i : Int) + 1 := by omega
        refine wp_still_tail 17 (by kernel_rfl) (by kernel_rfl) ?_
        simp only [List.take_succ_cons, List.take_zero, List.drop_succ_cons, List.drop_zero]
        repeat still_step
        refine wpStill_nil ?_
        clear s1 s2 s3
        go_wp2
        have hst := (World.ownsRow.stored Hown.out D.length (.string ⟨(q ++ [c]).toArray⟩)).1
        have hls : (strC (D ++ [q])).set D.length (.string ⟨(q ++ [c]).toArray⟩) = strC (D ++ [q ++ [c]]) := by
          rw [strC_append, strC_append]
          simp [strC]
        rw [hls] at hst
        go_roundw
        case rel => exact ⟨i + 1, D, q ++ [c], by go_num, by omega, Hstep.out, by simp; omega, by omega, hst, (Hbr.out.setCell (p := ⟨g, D.length, none⟩) hg0 _).drew⟩
        case measure => simp [intOf]; omega
    · obtain rfl : i = s.size := Nat.le_antisymm hi0 (Nat.le_of_not_lt hi)
      have hfin : splitL 32 s.data.toList = D ++ [q] := by have := Hsp.out; rwa [take_all] at this
      have hln : (splitB 32 s).length = D.length + 1 := by unfold splitB; rw [List.length_map, hfin]; simp
      have HL := hide hln
      have Hfin := hide hfin
      clear hln hfin hown
      go_wp2
      go_ret
      obtain ⟨A, cap', hv, hsl, hlt⟩ := Sl_own (xs := splitB 32 s) (f := Value.string) (by rw [show (splitB 32 s).map Value.string = strC (D ++ [q]) by unfold splitB strC; rw [Hfin.out, List.map_map]; rfl]; exact Hown.out) HL.out.symm
      cases hv
      refine ⟨some ⟨g, 0, none⟩, cap, ret_sl HL.out.symm, hsl, hlt, ?_, Hbr.out⟩
      rcases Hown.out.2 with ⟨h0, _⟩ | ⟨g', cap', cur, hv, _, _, hle, _⟩
      · cases h0
      · cases hv; rw [HL.out]; exact hle
end Go.Proofs.YtdglaabgeigfnaaDoor
