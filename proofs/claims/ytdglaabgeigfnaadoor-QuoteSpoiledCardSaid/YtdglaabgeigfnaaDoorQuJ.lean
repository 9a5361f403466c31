/- The reference's Join; Words and ValidWords of both; Texts, Few; awake. -/
import Derived.Test.YtdglaabgeigfnaaDoorQuI
set_option linter.unusedVariables false
namespace Go.Proofs.YtdglaabgeigfnaaDoor
open Go.RowKit Go.Shelf

def joinN (L : List ByteArray) (i : Nat) : List UInt8 := Lib.join (lists (L.take i)) [32]
theorem joinN_succ (L : List ByteArray) (i : Nat) (hi : i < L.length) (h0 : 0 < i) : joinN L (i + 1) = joinN L i ++ [32] ++ (L[i]'hi).data.toList := by
  unfold joinN lists
  rw [List.take_succ_eq_append_getElem hi, List.map_append, List.map_cons, List.map_nil, join_snoc _ _ _ (by intro e; have := congrArg List.length e; rw [List.length_map, List.length_take, show (([] : List (List UInt8))).length = 0 from rfl] at this; omega)]
  simp
theorem joinN_one (L : List ByteArray) (hi : 0 < L.length) : joinN L 1 = (L[0]'hi).data.toList := by
  unfold joinN lists
  rw [List.take_succ_eq_append_getElem hi]
  simp [Lib.join_one]
theorem joinN_le (L : List ByteArray) : ∀ i, i ≤ L.length → (joinN L i).length ≤ (Lib.join (lists L) [32]).length := by
  intro i hi
  have key : ∀ k, i + k ≤ L.length → (joinN L i).length ≤ (joinN L (i + k)).length := by
    intro k
    induction k with
    | zero => intro _; exact Nat.le_refl _
    | succ k ih =>
      intro hk
      have h1 := ih (by omega)
      rcases Nat.eq_zero_or_pos (i + k) with h0 | h0
      · have : i = 0 := by omega
        subst this
        simp [joinN, lists, Lib.join_nil]
      · rw [← Nat.add_assoc, joinN_succ L (i + k) (by omega) h0]
        simp; omega
  have := key (L.length - i) (by omega)
  rwa [show i + (L.length - i) = L.length by omega, show joinN L L.length = Lib.join (lists L) [32] by unfold joinN; rw [List.take_length]] at this
theorem run_cat' {P : Program} (a : List UInt8) (t : ByteArray) (h : a.length + t.size ≤ 70368744177664) (w : World) : (Op.stringOp .add ⟨a.toArray⟩ t).run P w = .ok (.string ⟨(a ++ t.data.toList).toArray⟩) w := by
  have := run_cat (P := P) a t.data.toList (by rw [← Lib.size_eq]; exact h) w
  rwa [bytes_of t _ rfl] at this

set_option maxHeartbeats 4000000 in
theorem refJoin_any (A : Option Addr) (n cap : Nat) (L : List ByteArray) (w : World) (hn : n = L.length) (hw : Sl Value.string w A L) (hl : L.length ≤ 1099511627776) (hj : (Lib.join (lists L) [32]).length ≤ 1099511627776) (hz : ∀ s ∈ L, s.size ≤ 1099511627776) :
    Calls Tryd.prog 17 #[.slice A n cap] w fun e w' => e = .returned (.tuple #[.string (joinRes L).1, .int .i64 (joinRes L).2]) ∧ w' = w := by
  subst hn
  have Hw := hide hw
  have Hj := hide hj
  have HZ := hide hz
  clear hw hj hz
  go_enter Tryd.func17, Tryd.ntmps17
  go_wp2
  go_loop [4, 5] (fun o v => ∃ i : Nat, v = .int .i64 i ∧ i ≤ L.length ∧ o = .string ⟨(joinN L i).toArray⟩ ∧ (∀ j, j < i → ∀ hj : j < L.length, wordB (L[j]'hj).data.toList = true)) (fun _ v => L.length - (intOf v).toNat)
  case atStart => exact ⟨0, rfl, Nat.zero_le _, rfl, (fun j h => absurd h (by omega))⟩
  case round =>
    obtain ⟨i, rfl, hi0, rfl, hall⟩ := hrel
    have Hall := hide hall
    clear hall
    have hle := joinN_le L i hi0
    have hjb : (joinN L i).length ≤ 1099511627776 := by have := Hj.out; omega
    clear hle
    by_cases hi : i < L.length
    · obtain ⟨b, off, rfl, hbz, hat⟩ := Hw.out.at hi
      have hc := hat w (Below.refl _ _)
      clear hat
      have hzi := HZ.out _ (List.getElem_mem hi)
      have HW := hide (fun W => refValidWord_any (L[i]'hi) W hzi)
      cases hp : wordB (L[i]'hi).data.toList with
      | true =>
        rw [hp] at HW
        have Hp := hide hp
        clear hp
        rcases Nat.eq_zero_or_pos i with h0 | h0
        · subst h0
          have HS := hide (joinN_one L hi)
          rw [Nat.add_zero] at hc
          generalize L[0]'hi = t at hc HW HS hzi
          have hcat := fun W => run_cat' (P := Tryd.prog) [] t (by show 0 + t.size ≤ _; omega) W
          rw [show joinN L 0 = [] from rfl]
          go_wp2_with fail
          refine (HW.out _).mono ?_
          rintro e w1 ⟨rfl, rfl⟩
          go_wp2
          go_round
          case rel =>
            refine ⟨1, rfl, by omega, by rw [HS.out], fun j hj hj' => ?_⟩
            obtain rfl : j = 0 := by omega
            exact Hp.out
          case measure => simp [intOf]; omega
        · have HS := hide (joinN_succ L i hi h0)
          have hi1 : (0 : Int) < (i : Int) := by omega
          generalize L[i]'hi = t at hc HW HS hzi
          generalize joinN L i = Q at HS hjb ⊢
          have hcat1 := fun W => run_cat (P := Tryd.prog) Q [32] (by show Q.length + 1 ≤ _; omega) W
          have hcat2 := fun W => run_cat' (P := Tryd.prog) (Q ++ [32]) t (by rw [List.length_append]; show Q.length + 1 + t.size ≤ _; omega) W
          go_wp2_with fail
          refine (HW.out _).mono ?_
          rintro e w1 ⟨rfl, rfl⟩
          go_wp2
          go_round
          case rel =>
            refine ⟨i + 1, by go_num, by omega, by rw [HS.out]; simp, fun j hj hj' => ?_⟩
            rcases Nat.lt_or_ge j i with h | h
            · exact Hall.out j h hj'
            · obtain rfl : j = i := by omega
              exact Hp.out
          case measure => simp [intOf]; omega
      | false =>
        rw [hp] at HW
        have Hf := hide (joinRes_no (allW_not L i hi hp))
        clear hp
        generalize L[i]'hi = t at hc HW
        go_wp2_with fail
        refine (HW.out _).mono ?_
        rintro e w1 ⟨rfl, rfl⟩
        go_wp2
        go_ret2
        exact ⟨ret_pair (by rw [Hf.out]) (by rw [Hf.out]), rfl⟩
    · obtain rfl : i = L.length := Nat.le_antisymm hi0 (Nat.le_of_not_lt hi)
      have Hres := hide (joinRes_yes (allW_at L (fun j hj => Hall.out j hj hj)))
      rw [show (⟨(joinN L L.length).toArray⟩ : ByteArray) = joinB L by unfold joinN joinB; rw [List.take_length]]
      have hjz : (joinB L).size ≤ 1099511627776 := by have := Hj.out; show (Lib.join (lists L) [32]).toArray.size ≤ _; simpa using this
      clear hi hjb
      generalize joinB L = J at Hres hjz ⊢
      by_cases hbig : (200 : Int) < (J.size : Int)
      · go_wp2
        go_ret2
        exact ⟨ret_pair (by rw [Hres.out, if_pos (by omega)]) (by rw [Hres.out, if_pos (by omega)]), rfl⟩
      · go_wp2
        go_ret2
        exact ⟨ret_pair (by rw [Hres.out, if_neg (by omega)]) (by rw [Hres.out, if_neg (by omega)]), rfl⟩

theorem split_mem (c : UInt8) : ∀ (l p : List UInt8), p ∈ splitL c l → p.length ≤ l.length := by
  intro l
  induction l with
  | nil => intro p hp; have : p = [] := by simpa [splitL] using hp
           subst this; exact Nat.le_refl _
  | cons x r ih =>
    intro p hp
    rw [splitL] at hp
    by_cases hx : x = c
    · rw [if_pos hx] at hp
      rcases List.mem_cons.1 hp with h | h
      · subst h; simp
      · have := ih p h; simp; omega
    · rw [if_neg hx] at hp
      cases h : splitL c r with
      | nil => exact absurd h (splitL_ne c r)
      | cons q qs =>
        rw [h] at hp ih
        simp only at hp
        rcases List.mem_cons.1 hp with h2 | h2
        · subst h2
          have := ih q (by simp)
          simp; omega
        · have := ih p (by simp [h2]); simp; omega
theorem split_count (s : ByteArray) (hs : s.size ≤ 1099511627775) : (splitB 32 s).length ≤ 1099511627776 := by
  unfold splitB; rw [List.length_map]; have := splitL_bd 32 s.data.toList; rw [← Lib.size_eq] at this; omega
theorem split_join (s : ByteArray) : (Lib.join (lists (splitB 32 s)) [32]).length = s.size := by rw [lists_split, join_split, Lib.size_eq]
theorem StrsPost.nil (w w' : World) (h : Below w.heap.size w w') : StrsPost [] w (.returned (.slice none 0 0)) w' := ⟨none, 0, rfl, Sl.nil _ _ _, (fun a h => by cases h), Nat.le_refl _, h⟩
theorem wordsRes_zero {s : ByteArray} (h : s.size = 0) : wordsRes s = [] := by unfold wordsRes; rw [if_pos h]
theorem wordsRes_no {s : ByteArray} (h0 : ¬ s.size = 0) (h : ¬ (joinRes (splitB 32 s)).2 = 0) : wordsRes s = [] := by unfold wordsRes; rw [if_neg h0, if_neg h]
theorem wordsRes_yes {s : ByteArray} (h0 : ¬ s.size = 0) (h : (joinRes (splitB 32 s)).2 = 0) : wordsRes s = splitB 32 s := by unfold wordsRes; rw [if_neg h0, if_pos h]
theorem joinRes_err (L : List ByteArray) : 0 ≤ (joinRes L).2 ∧ (joinRes L).2 ≤ 9 := by unfold joinRes; split <;> (try split) <;> simp

set_option maxHeartbeats 2000000 in
theorem Words_any (s : ByteArray) (w : World) (hs : s.size ≤ 1099511627775) :
    Calls Tryd.prog 21 #[.string s] w (StrsPost (wordsRes s) w) := by
  by_cases h0 : s.size = 0
  · rw [wordsRes_zero h0]
    obtain rfl := empty_of (s := s) (by omega)
    clear h0
    go_enter Tryd.func21, Tryd.ntmps21
    go_wp2
    go_ret
    exact StrsPost.nil _ _ (Below.refl _ _)
  · obtain ⟨hne, hemp⟩ := toList_ne (s := s) (by omega)
    have HS := hide (Split_any 32 s w (by omega))
    have hcnt := split_count s hs
    have hjn := split_join s
    have hW : wordsRes s = if (joinRes (splitB 32 s)).2 = 0 then splitB 32 s else [] := by unfold wordsRes; rw [if_neg h0]
    generalize splitB 32 s = L at HS hcnt hjn hW
    have HC := hide hcnt
    have HJ := hide hjn
    clear hcnt hjn h0
    by_cases hz : (joinRes L).2 = 0
    · rw [hW, if_pos hz]
      have HZ := hide hz
      clear hW hz
      go_enter Tryd.func21, Tryd.ntmps21
      go_wp2_with fail
      refine HS.out.mono ?_
      rintro e w1 ⟨A, cap, rfl, h1, h2, h3, h4⟩
      have H1 := hide h1
      have H2 := hide h2
      have H3 := hide h3
      have H4 := hide h4
      clear h1 h2 h3 h4
      go_wp2_with fail
      refine (Join_any A _ cap L w1 rfl H1.out H3.out HC.out (by rw [HJ.out]; omega)).mono ?_
      rintro e w2 ⟨rfl, hb2⟩
      have Hb2 := hide hb2
      clear hb2
      rw [HZ.out]
      go_wp2
      go_ret
      exact ⟨A, cap, rfl, H1.out.below Hb2.out, fun a ha => ⟨(H2.out a ha).1, Nat.lt_of_lt_of_le (H2.out a ha).2 Hb2.out.size⟩, H3.out, H4.out.trans (Hb2.out.mono H4.out.size)⟩
    · rw [hW, if_neg hz]
      have HZ := hide hz
      clear hW hz
      go_enter Tryd.func21, Tryd.ntmps21
      go_wp2_with fail
      refine HS.out.mono ?_
      rintro e w1 ⟨A, cap, rfl, h1, h2, h3, h4⟩
      have H1 := hide h1
      have H2 := hide h2
      have H3 := hide h3
      have H4 := hide h4
      clear h1 h2 h3 h4
      go_wp2_with fail
      refine (Join_any A _ cap L w1 rfl H1.out H3.out HC.out (by rw [HJ.out]; omega)).mono ?_
      rintro e w2 ⟨rfl, hb2⟩
      have Hb2 := hide hb2
      clear hb2
      have hz1 : ((joinRes L).2 == 0) = false := beq_eq_false_iff_ne.2 HZ.out
      have hz2 := bne_of hz1
      go_wp2
      go_ret
      exact StrsPost.nil _ _ (H4.out.trans (Hb2.out.mono H4.out.size))

theorem vwB_zero {s : ByteArray} (h : s.size = 0) : vwB s = true := by unfold vwB; rw [decide_eq_true h]; rfl
theorem vwB_pos {s : ByteArray} (h : ¬ s.size = 0) : vwB s = decide (0 < (wordsRes s).length) := by
  unfold vwB; rw [decide_eq_false h, Bool.false_or]
  cases wordsRes s <;> rfl
theorem vwB_int {s : ByteArray} (h : ¬ s.size = 0) : vwB s = decide ((0 : Int) < ((wordsRes s).length : Int)) := by
  rw [vwB_pos h, Bool.eq_iff_iff, decide_eq_true_iff, decide_eq_true_iff]; omega

set_option maxHeartbeats 2000000 in
theorem ValidWords_any (s : ByteArray) (w : World) (hs : s.size ≤ 1099511627775) :
    Calls Tryd.prog 18 #[.string s] w fun e w' => e = .returned (.bool (vwB s)) ∧ Below w.heap.size w w' := by
  by_cases h0 : s.size = 0
  · rw [vwB_zero h0]
    obtain rfl := empty_of (s := s) (by omega)
    clear h0
    go_enter Tryd.func18, Tryd.ntmps18
    go_wp2
    go_ret
    exact ⟨rfl, Below.refl _ _⟩
  · obtain ⟨hne, hemp⟩ := toList_ne (s := s) (by omega)
    have HW := hide (Words_any s w hs)
    have hv := vwB_int h0
    rw [hv]
    generalize wordsRes s = L at HW ⊢
    clear hv h0
    go_enter Tryd.func18, Tryd.ntmps18
    go_wp2_with fail
    refine HW.out.mono ?_
    rintro e w1 ⟨A, cap, rfl, h1, h2, h3, h4⟩
    have H4 := hide h4
    clear h1 h2 h3 h4
    go_wp2
    go_ret
    exact ⟨ret_b (by first | rfl | simp), H4.out⟩

/-- the reference's words -/
theorem refWords_eq (s : ByteArray) (h0 : ¬ s.size = 0) : wordsRes s = if 200 < s.size then [] else if allW (splitB 32 s) then splitB 32 s else [] := by
  unfold wordsRes
  rw [if_neg h0]
  unfold joinRes
  rw [joinB_split]
  by_cases h1 : allW (splitB 32 s) = true
  · rw [if_pos h1, if_pos h1]
    by_cases h2 : 200 < s.size
    · rw [if_pos h2, if_pos h2]; rfl
    · rw [if_neg h2, if_neg h2]; rfl
  · rw [if_neg h1, if_neg h1, ite_self]
    exact if_neg (by decide)

set_option maxHeartbeats 4000000 in
theorem refWords_any (s : ByteArray) (w : World) (hs : s.size ≤ 1099511627775) :
    Calls Tryd.prog 22 #[.string s] w (StrsPost (wordsRes s) w) := by
  by_cases h0 : s.size = 0
  · rw [wordsRes_zero h0]
    obtain rfl := empty_of (s := s) (by omega)
    clear h0
    go_enter Tryd.func22, Tryd.ntmps22
    go_wp2
    go_ret
    exact StrsPost.nil _ _ (Below.refl _ _)
  have hr := refWords_eq s h0
  obtain ⟨hne, hemp⟩ := toList_ne (s := s) (by omega)
  by_cases hbig : 200 < s.size
  · rw [hr, if_pos hbig]
    have hb : (200 : Int) < (s.size : Int) := by omega
    clear hr h0 hbig
    go_enter Tryd.func22, Tryd.ntmps22
    go_wp2
    go_ret
    exact StrsPost.nil _ _ (Below.refl _ _)
  have hb : ¬ (200 : Int) < (s.size : Int) := by omega
  have hzs : ∀ t ∈ splitB 32 s, t.size ≤ 1099511627776 := by
    intro t ht
    unfold splitB at ht
    obtain ⟨l, hl, rfl⟩ := List.mem_map.1 ht
    have : l.length ≤ s.data.toList.length := split_mem 32 _ l hl
    rw [← Lib.size_eq] at this
    show l.toArray.size ≤ _
    simp only [List.size_toArray]; omega
  have HS := hide (refSplit_any s w (by omega))
  have hcnt := split_count s hs
  rw [hr, if_neg hbig]
  generalize splitB 32 s = L at HS hcnt hzs ⊢
  have HZ := hide hzs
  have hcb : (L.length : Int) ≤ 1099511627776 := by omega
  have hpost : ∃ b, allW L = b := ⟨_, rfl⟩
  obtain ⟨b, hbb⟩ := hpost
  rw [hbb]
  have HB := hide hbb
  clear hzs hr hbb h0 hbig hcnt
  obtain ⟨M, hM⟩ : ∃ M, (if b = true then L else []) = M := ⟨_, rfl⟩
  rw [hM]
  have HM := hide hM
  clear hM
  go_enter Tryd.func22, Tryd.ntmps22
  go_wp2_with fail
  refine HS.out.mono ?_
  rintro e w1 ⟨A, cap, rfl, h1, h2, h3, h4⟩
  have H1 := hide h1
  have H2 := hide h2
  have H3 := hide h3
  have H4 := hide h4
  clear h1 h2 h3 h4
  go_wp2
  go_loop [4] (fun v => ∃ i : Nat, v = .int .i64 i ∧ i ≤ L.length ∧ (∀ j, j < i → ∀ hj : j < L.length, wordB (L[j]'hj).data.toList = true)) (fun v => L.length - (intOf v).toNat)
  case atStart => exact ⟨0, rfl, Nat.zero_le _, (fun j h => absurd h (by omega))⟩
  case round =>
    obtain ⟨i, rfl, hi0, hall⟩ := hrel
    have Hall := hide hall
    clear hall
    by_cases hi : i < L.length
    · obtain ⟨b', off, rfl, hbz, hat⟩ := H1.out.at hi
      have hc := hat w1 (Below.refl _ _)
      clear hat
      have hzi := HZ.out _ (List.getElem_mem hi)
      have HW := hide (fun W => refValidWord_any (L[i]'hi) W hzi)
      cases hp : wordB (L[i]'hi).data.toList with
      | true =>
        rw [hp] at HW
        have Hp := hide hp
        clear hp
        generalize L[i]'hi = t at hc HW hzi
        go_wp2_with fail
        refine (HW.out _).mono ?_
        rintro e w2 ⟨rfl, rfl⟩
        go_wp2
        go_round
        case rel =>
          refine ⟨i + 1, by go_num, by omega, fun j hj hj' => ?_⟩
          rcases Nat.lt_or_ge j i with h | h
          · exact Hall.out j h hj'
          · obtain rfl : j = i := by omega
            exact Hp.out
        case measure => simp [intOf]; omega
      | false =>
        rw [hp] at HW
        have Hf := hide (allW_not L i hi hp)
        clear hp
        generalize L[i]'hi = t at hc HW hzi
        go_wp2_with fail
        refine (HW.out _).mono ?_
        rintro e w2 ⟨rfl, rfl⟩
        go_wp2
        go_ret
        have hm := HM.out
        rw [← HB.out, Hf.out, if_neg (by decide)] at hm
        subst hm
        exact StrsPost.nil _ _ H4.out
    · obtain rfl : i = L.length := Nat.le_antisymm hi0 (Nat.le_of_not_lt hi)
      have hm := HM.out
      rw [← HB.out, allW_at L (fun j hj => Hall.out j hj hj), if_pos rfl] at hm
      subst hm
      go_wp2
      go_ret
      exact ⟨A, cap, rfl, H1.out, H2.out, H3.out, H4.out⟩

set_option maxHeartbeats 2000000 in
theorem refValidWords_any (s : ByteArray) (w : World) (hs : s.size ≤ 1099511627775) :
    Calls Tryd.prog 19 #[.string s] w fun e w' => e = .returned (.bool (vwB s)) ∧ Below w.heap.size w w' := by
  by_cases h0 : s.size = 0
  · rw [vwB_zero h0]
    obtain rfl := empty_of (s := s) (by omega)
    clear h0
    go_enter Tryd.func19, Tryd.ntmps19
    go_wp2
    go_ret
    exact ⟨rfl, Below.refl _ _⟩
  · obtain ⟨hne, hemp⟩ := toList_ne (s := s) (by omega)
    have HW := hide (refWords_any s w hs)
    have hv := vwB_int h0
    rw [hv]
    generalize wordsRes s = L at HW ⊢
    clear hv h0
    go_enter Tryd.func19, Tryd.ntmps19
    go_wp2_with fail
    refine HW.out.mono ?_
    rintro e w1 ⟨A, cap, rfl, h1, h2, h3, h4⟩
    have H4 := hide h4
    clear h1 h2 h3 h4
    go_wp2
    go_ret
    exact ⟨ret_b (by first | rfl | simp), H4.out⟩
end Go.Proofs.YtdglaabgeigfnaaDoor
