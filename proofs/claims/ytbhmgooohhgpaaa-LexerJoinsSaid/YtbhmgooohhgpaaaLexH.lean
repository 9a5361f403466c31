/- The reference's Scan. -/
import Derived.Test.YtbhmgooohhgpaaaLexG
namespace Go.Proofs.Ytbhmgooohhgpaaa
open Go.RowKit Go.Shelf

set_option maxHeartbeats 2000000 in
theorem refScan_any (s : ByteArray) (hs : s.size ≤ 16384) (w : World) :
    Calls Try.prog 11 #[.string s] w fun e w' => ∃ v, e = .returned (.tuple #[v, .int .i64 0]) ∧ w'.ownsRow w.heap.size 35 4 v (wordsOf s).length (wcs s (wordsOf s)) ∧ Below w.heap.size w w' := by
  have hs' : (s.size : Int) ≤ 16384 := by omega
  go_enter Try.func11, Try.ntmps11
  go_wp2
  obtain ⟨B, hB⟩ : ∃ B, w.heap.size = B := ⟨_, rfl⟩
  rw [hB]
  go_loopw [4, 5, 6, 7, 8] (fun v ln cl ins i wr => ∃ k : Nat, k ≤ s.size ∧ i = .int .i64 k ∧ ln = .int .i64 (pl s.data.toList k).2.1 ∧ cl = .int .i64 (pl s.data.toList k).2.2 ∧ ins = .bool (scanW s.data.toList k).2 ∧
    wr.ownsRow B 35 4 v (scanW s.data.toList k).1.length (wcs s (scanW s.data.toList k).1) ∧ Below B w wr) (fun _ _ _ _ i _ => s.size - (intOf i).toNat)
  case atStart =>
    exact ⟨0, by omega, rfl, rfl, rfl, rfl, hB ▸ World.ownsRow_made w #[] 0 (Nat.le_refl _) (Nat.zero_le _) rfl, hB ▸ (Below.refl _ _).alloc (Nat.le_refl _) _⟩
  case round =>
    obtain ⟨k, hk, rfl, rfl, rfl, rfl, hS3, hbl⟩ := hrel
    by_cases hlt : k < s.size
    · have hget : s.data.toList.getD k 0 = s[k] := by simp [List.getD, hlt]; rfl
      obtain ⟨_, hp2, hp3, hp4, hp5⟩ := pl_bd s.data.toList k (by simp; omega)
      have hpl := pl_succ s.data.toList k (by simpa using hlt)
      have e2 : (pl s.data.toList (k + 1)).2.1 = nextLine (pl s.data.toList k).2.1 s[k].toNat := by rw [hpl]; rfl
      have e3 : (pl s.data.toList (k + 1)).2.2 = nextCol (pl s.data.toList k).2.2 s[k].toNat := by rw [hpl]; rfl
      have E2 := hide e2
      have E3 := hide e3
      clear hpl e2 e3
      cases hwh : whiteB (s[k].toNat : Int) with
      | true =>
        have hnext := scanW_white s.data.toList k s[k] hget hwh
        have Hn := hide hnext
        clear hnext hget
        by_cases hc : (s[k].toNat : Int) = 10
        · have hc' : ((s[k].toNat : Int) == 10) = true := beq_iff_eq.2 hc
          have Hc := hide hc
          clear hc
          go_wp2_with (go_at_call 26; refine (Space_any _ _).mono ?_; rintro e w' ⟨rfl, rfl⟩)
          go_roundw
          case rel => exact ⟨k + 1, by omega, by go_num, by rw [E2.out, Hc.out]; rfl, by rw [E3.out, Hc.out]; rfl, by rw [Hn.out], by rw [Hn.out]; exact hS3, hbl⟩
          case measure => simp [intOf]; omega
        · have hc' : ((s[k].toNat : Int) == 10) = false := beq_eq_false_iff_ne.2 hc
          have Hc := hide hc
          clear hc
          go_wp2_with (go_at_call 26; refine (Space_any _ _).mono ?_; rintro e w' ⟨rfl, rfl⟩)
          go_roundw
          case rel => exact ⟨k + 1, by omega, by go_num, by rw [E2.out, nextLine, if_neg Hc.out], by rw [E3.out, nextCol, if_neg Hc.out], by rw [Hn.out], by rw [Hn.out]; exact hS3, hbl⟩
          case measure => simp [intOf]; omega
      | false =>
        have hc : ¬ (s[k].toNat : Int) = 10 := fun e => by rw [e] at hwh; cases hwh
        have hc' : ((s[k].toNat : Int) == 10) = false := beq_eq_false_iff_ne.2 hc
        have Hc := hide hc
        clear hc
        cases hin : (scanW s.data.toList k).2 with
        | true =>
          have hnext := scanW_more s.data.toList k s[k] hget hwh hin
          obtain ⟨qs, o, hqs, ho⟩ := scanW_inside s.data.toList k hin
          have hlq : qs.length < k := by have := scanW_len s.data.toList k; rw [hqs] at this; simp at this; omega
          rw [hqs] at hnext hS3
          simp only [List.length_append, List.length_cons, List.length_nil, Nat.zero_add] at hS3
          have Hn := hide hnext
          clear hnext hget hqs
          obtain ⟨g, cap, rfl⟩ := ownsRow_succ hS3
          have hg0 := (hS3.cellAt (qs.length * 4 + 0) (by omega)).trans (wcs_get s qs (o, k) 0 (by omega))
          simp only [wc, List.getElem?_cons_zero, Nat.add_zero] at hg0
          have hgf := hS3.frozenAt (qs.length * 4)
          go_wp2_with (go_at_call 26; refine (Space_any _ _).mono ?_; rintro e w' ⟨rfl, rfl⟩)
          have hwr : IntKind.i64.wrap ((k : Int) + 1) = (k : Int) + 1 := IntWalk.i64_in _ (by omega)
          have hs1 : (k : Int) ≤ (k : Int) + 1 := by omega
          have hs2 : (k : Int) + 1 ≤ (s.size : Int) := by omega
          have hs3 : (0 : Int) ≤ (k : Int) + 1 := by omega
          have hs4 : ((k : Int) + 1).toNat = k + 1 := by omega
          have hs5 : (qs.length : Int) < (qs.length : Int) + 1 := by omega
          have hadd : ∀ W : World, (Op.stringOp .add (s.extract o k) (s.extract k (k + 1))).run Try.prog W = .ok (.string (s.extract o (k + 1))) W := fun W => run_join s o k (k + 1) (by omega) (by omega) (by omega) W
          refine wp_still_tail 15 (by kernel_rfl) (by kernel_rfl) ?_
          simp only [List.take_succ_cons, List.take_zero, List.drop_succ_cons, List.drop_zero]
          repeat still_step
          refine wpStill_nil ?_
          clear hwr hs1 hs2 hs3 hs4 hs5 hadd
          go_wp2_with (go_at_call 26; refine (Space_any _ _).mono ?_; rintro e w' ⟨rfl, rfl⟩)
          go_roundw
          case rel =>
            obtain ⟨hS4, hgb⟩ := hS3.stored (qs.length * 4) (.string (s.extract o (k + 1)))
            have hgB := (hS3.lt g (by simp [Value.ownBlock])).1
            refine ⟨k + 1, by omega, by go_num, by rw [E2.out, nextLine, if_neg Hc.out], by rw [E3.out, nextCol, if_neg Hc.out], by rw [Hn.out], ?_, (hbl.setCell (p := ⟨g, qs.length * 4, none⟩) hgB _).drew⟩
            rw [Hn.out]
            rw [wcs_set] at hS4
            simpa using hS4.drew
          case measure => simp [intOf]; omega
        | false =>
          have hnext := scanW_new s.data.toList k s[k] hget hwh hin
          have hlq := scanW_len s.data.toList k
          have Hn := hide hnext
          clear hnext hget
          obtain ⟨ws, hws⟩ : ∃ ws, (scanW s.data.toList k).1 = ws := ⟨_, rfl⟩
          rw [hws] at hS3 Hn hlq
          clear hws
          obtain ⟨Z, hZ⟩ : ∃ Z, wr.heap.size = Z := ⟨_, rfl⟩
          have hBZ : B ≤ Z := by rw [← hZ]; have := hbl.size; omega
          have hZ' := hide hZ
          rw [show Z = wr.heap.size from hZ.symm] at hBZ
          clear hZ hZ'
          go_wp2_with (first | (go_at_call 26; refine (Space_any _ _).mono ?_; rintro e w' ⟨rfl, rfl⟩) | (at_builtin; refine wpList_append_at _ rfl _ _ 23 rfl B 35 infoWord Try.underlying23 rfl (by decide) u4 ws.length (wcs s ws) rfl (hS3.alloc _) ⟨wr.heap.size, 0, none⟩ 1 1 [.string ⟨#[]⟩, .int .i64 k, .int .i64 (pl s.data.toList k).2.1, .int .i64 (pl s.data.toList k).2.2] rfl rfl (cells_new _ _ rfl) (by intro u hu; simp only [List.mem_cons, List.not_mem_nil, or_false] at hu; rcases hu with rfl | rfl | rfl | rfl <;> rfl) (by unfold maxLen; omega) (by omega) (by rw [World.size_alloc]; omega) ?_; intro v' w1 hown1 hgrow1 _ _; obtain ⟨g, cap, rfl⟩ := ownsRow_succ hown1; have dg0 := (hown1.cellAt (ws.length * 4 + 0) (by omega)).trans (wcs_end s ws _ 0); simp only [List.getElem?_cons_zero, Nat.add_zero] at dg0; have dgf := hown1.frozenAt (ws.length * 4)))
          have hwr : IntKind.i64.wrap ((k : Int) + 1) = (k : Int) + 1 := IntWalk.i64_in _ (by omega)
          have hs1 : (k : Int) ≤ (k : Int) + 1 := by omega
          have hs2 : (k : Int) + 1 ≤ (s.size : Int) := by omega
          have hs3 : (0 : Int) ≤ (k : Int) + 1 := by omega
          have hs4 : ((k : Int) + 1).toNat = k + 1 := by omega
          have hs5 : (ws.length : Int) < (ws.length : Int) + 1 := by omega
          have hadd : ∀ W : World, (Op.stringOp .add ⟨#[]⟩ (s.extract k (k + 1))).run Try.prog W = .ok (.string (s.extract k (k + 1))) W := fun W => run_join_empty _ (by have := extract_size_le s k (k + 1); omega) W
          refine wp_still_tail 15 (by kernel_rfl) (by kernel_rfl) ?_
          simp only [List.take_succ_cons, List.take_zero, List.drop_succ_cons, List.drop_zero]
          repeat still_step
          refine wpStill_nil ?_
          clear hwr hs1 hs2 hs3 hs4 hs5 hadd
          go_wp2_with (go_at_call 26; refine (Space_any _ _).mono ?_; rintro e w' ⟨rfl, rfl⟩)
          go_roundw
          case rel =>
            obtain ⟨hS4, hgb⟩ := hown1.stored (ws.length * 4) (.string (s.extract k (k + 1)))
            have hgB := (hown1.lt g (by simp [Value.ownBlock])).1
            rw [wcs_fresh] at hS4
            refine ⟨k + 1, by omega, by go_num, by rw [E2.out, nextLine, if_neg Hc.out], by rw [E3.out, nextCol, if_neg Hc.out], by rw [Hn.out], ?_, ?_⟩
            · rw [Hn.out]; simpa using hS4.drew
            · exact (((hbl.alloc hBZ _).grown hgrow1 (by rw [World.size_alloc]; omega) (fun j hj => (hS3.lt j hj).1)).setCell (p := ⟨g, ws.length * 4, none⟩) hgB _).drew
          case measure => simp [intOf]; omega
    · obtain rfl : k = s.size := by omega
      go_wp2
      go_ret2
      rw [hB]
      exact ⟨_, rfl, hS3, hbl⟩
end Go.Proofs.Ytbhmgooohhgpaaa
