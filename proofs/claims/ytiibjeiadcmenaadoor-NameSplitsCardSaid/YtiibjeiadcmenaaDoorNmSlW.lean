/- The walk of NameSplits. -/
import Derived.Test.YtiibjeiadcmenaaDoorNmK
import Derived.Test.YtiibjeiadcmenaaDoorNmH
import Derived.Test.YtiibjeiadcmenaaDoorFew
import Derived.Deep.DeepCutAuto
set_option linter.unusedVariables false
set_option linter.unusedSimpArgs false
namespace Go.Proofs.YtiibjeiadcmenaaDoor.nameSplits
open Go.RowKit Go.Shelf Go.Sort

theorem lists_bstr (O : List (List UInt8)) : lists (O.map bstr) = O := by
  unfold lists; rw [List.map_map]
  exact (List.map_congr_left (fun l _ => list_bstr l)).trans (List.map_id O)
theorem bstr_lists (L : List ByteArray) : (lists L).map bstr = L := by
  unfold lists; rw [List.map_map]
  exact (List.map_congr_left (fun s _ => bstr_list s)).trans (List.map_id L)
theorem pathB_cases (L : List ByteArray) : pathB L = ⟨#[]⟩ ∨ (vpB (lists L) = true ∧ pathB L = bstr (pj (lists L)) ∧ spl (splitF 9 (pathB L).data.toList) = (L, 0) ∧ (pathB L).size ≤ 306) := by
  cases h : vpB (lists L) with
  | false => left; unfold pathB pathL; rw [h]; rfl
  | true =>
    right
    have e : pathB L = bstr (pj (lists L)) := by unfold pathB pathL; rw [h]; rfl
    have h2 := h
    unfold vpB at h2
    rw [Bool.and_eq_true, decide_eq_true_eq] at h2
    have hz := pj_len (lists L) h2.2
    refine ⟨rfl, e, ?_, ?_⟩
    · rw [e, list_bstr, splitF_pj 9 (lists L) (fun h0 => by rw [h0] at h2; simp at h2) h2.1.2 h2.2]
      show ((lists L).map bstr, (0 : Int)) = _
      rw [bstr_lists]
    · rw [e, ← size_list, list_bstr]; omega
theorem split_back (path : ByteArray) (O : List (List UInt8)) (h : splitF 9 path.data.toList = some O) : 1 ≤ O.length ∧ O.length ≤ 9 ∧ pathB (O.map bstr) = path ∧ O.all vN = true := by
  obtain ⟨h1, h2, h3, h4⟩ := splitF_inv _ _ _ h
  have hp : 1 ≤ O.length := List.length_pos_iff.2 h2
  refine ⟨hp, h3, ?_, h4⟩
  unfold pathB
  rw [lists_bstr, pathL_ok hp h3 h4, h1]
  rfl

set_option maxRecDepth 20000 in
set_option maxHeartbeats 8000000 in
theorem second (L : List ByteArray) (path : ByteArray) (r : List ByteArray × Int) (hr : r = spl (splitF 9 path.data.toList)) (hz : path.size ≤ 400) :
    (r.2 = 3 ∧ r.1 = []) ∨ (r.2 = 0 ∧ 1 ≤ r.1.length ∧ r.1.length ≤ 9 ∧ pathB r.1 = path ∧ ∀ s ∈ r.1, s.size ≤ 1000000) := by
  cases h : splitF 9 path.data.toList with
  | none => rw [h] at hr; subst hr; exact .inl ⟨rfl, rfl⟩
  | some O =>
    rw [h] at hr; subst hr
    obtain ⟨h1, h2, h3, h4⟩ := split_back path O h
    refine .inr ⟨rfl, by show 1 ≤ (O.map bstr).length; rw [List.length_map]; exact h1, by show (O.map bstr).length ≤ 9; rw [List.length_map]; exact h2, h3, fun s hs => ?_⟩
    obtain ⟨l, hl, rfl⟩ := List.mem_map.1 hs
    have := (vN_len (List.all_eq_true.1 h4 l hl)).2
    rw [← size_list, list_bstr]; omega

set_option maxRecDepth 20000 in
set_option maxHeartbeats 16000000 in
theorem walk (A : Option Addr) (len cap : Nat) (L : List ByteArray) (path : ByteArray) (w : World) (hn : L.length = len) (hl : len ≤ maxLen) (hw : Sl Value.string w A L ∧ (∀ s ∈ L, s.size ≤ maxLen) ∧ len ≤ cap) (hz : path.size ≤ maxLen) (hg : Gl w) :
    Calls Tryd.prog 7 #[.slice A len cap, .string path] w fun e w' => e = .returned (.bool true) ∧ Below w.heap.size w w' := by
  have AW := hide (awake_any w hg)
  have G := hide hg
  clear hg
  subst hn
  obtain ⟨hsl, _, hcap⟩ := hw
  have Hsl := hide hsl
  unfold maxLen at hz
  have FW := hide (fun (W : World) (h : Sl Value.string W A L) => Few_any 12 60 A L.length cap L W rfl hl h)
  have B0 := hide (Below.refl w.heap.size w)
  cases hf : fewB 12 60 L with
  | false =>
    rw [hf] at FW
    clear hf hsl
    go_enter Tryd.func7, Tryd.ntmps7
    go_wp2_with fail
    refine (AW.out).mono ?_
    rintro e w1 ⟨rfl, hb⟩
    have B1 := hide (B0.out.trans (hb.mono B0.out.size))
    clear hb
    go_wp2_with fail
    refine (FW.out _ (Hsl.out.below B1.out)).mono ?_
    rintro e wx ⟨rfl, rfl⟩
    go_wp2
    go_ret
    exact ⟨rfl, B1.out⟩
  | true =>
    rw [hf] at FW
    obtain ⟨f1, f2⟩ := fewB_spec hf
    clear hf hsl
    by_cases hbig : 400 < path.size
    · have h60 : (400 : Int) < (path.size : Int) := by omega
      clear f2
      go_enter Tryd.func7, Tryd.ntmps7
      go_wp2_with fail
      refine (AW.out).mono ?_
      rintro e w1 ⟨rfl, hb⟩
      have B1 := hide (B0.out.trans (hb.mono B0.out.size))
      clear hb
      go_wp2_with fail
      refine (FW.out _ (Hsl.out.below B1.out)).mono ?_
      rintro e wx ⟨rfl, rfl⟩
      go_wp2
      go_ret
      exact ⟨rfl, B1.out⟩
    · have h60 : (path.size : Int) ≤ 400 := by omega
      have P := hide (fun (W : World) (h : Sl Value.string W A L) => Path_any A L.length cap L W rfl (by omega) h (fun t ht => by have := f2 t ht; omega))
      have S2 := hide (fun (W : World) (h : Gl W) => Split_any path W (by omega) h)
      have hs2 := second L path _ rfl (by omega)
      generalize spl (splitF 9 path.data.toList) = r at S2 hs2
      obtain ⟨l2, e2⟩ := r
      simp only at hs2
      have HS2 := hide hs2
      have hpc := pathB_cases L
      have hpe := isEmpty_dec (pathB L)
      have S1 := hide (fun (W : World) (h : Gl W) (hz : (pathB L).size ≤ 306) => Split_any (pathB L) W (by omega) h)
      generalize hpb : pathB L = pb at P hpc hpe S1
      have HPC := hide hpc
      have HPE := hide hpe
      clear f2 hs2 hpb hpc hpe
      go_enter Tryd.func7, Tryd.ntmps7
      go_wp2_with fail
      refine (AW.out).mono ?_
      rintro e w1 ⟨rfl, hb⟩
      have B1 := hide (B0.out.trans (hb.mono B0.out.size))
      clear hb
      go_wp2_with fail
      refine (FW.out _ (Hsl.out.below B1.out)).mono ?_
      rintro e wx ⟨rfl, rfl⟩
      go_wp2_with fail
      refine (P.out _ (Hsl.out.below B1.out)).mono ?_
      rintro e w2 ⟨rfl, hb⟩
      have B2 := hide (B1.out.trans (hb.mono B1.out.size))
      clear hb
      go_upto_if 23 with fail
      go_cut [4] (fun v wx => Below w.heap.size w wx)
      case first =>
        rcases HPC.out with hp0 | ⟨hq1, hq2, hsp, hpz⟩
        rotate_left
        · have hne : pb ≠ ⟨#[]⟩ := fun e => by
            rw [e] at hsp
            have : spl (splitF 9 (⟨#[]⟩ : ByteArray).data.toList) = ([], 3) := by decide +kernel
            rw [this] at hsp; exact absurd (show (3 : Int) = 0 from congrArg Prod.snd hsp) (by decide)
          have hpe := HPE.out
          rw [decide_eq_false hne] at hpe
          have SS0 := (fun (W : World) (h : Gl W) => S1.out W h hpz)
          rw [hsp] at SS0
          have SS := hide (fun (W : World) (h : Gl W) => (show Calls Tryd.prog 23 #[.string pb] W fun e w' => ∃ A cap, e = .returned (.tuple #[.slice A L.length cap, .int .i64 0]) ∧ Sl Value.string w' A L ∧ Below W.heap.size W w' from (SS0 W h).mono fun e w' ⟨A, cap, h1, h2, _, h4⟩ => ⟨A, cap, h1, h2, h4⟩))
          have hpe' : (!pb.toList.isEmpty) = true := by rw [hpe]; rfl
          have hpn : ¬ pb.toList = [] := fun e => by rw [e] at hpe; cases hpe
          clear hsp hpz hne SS0 hq1 hq2
          go_wp2_with fail
          rotate_left
          · exact absurd ‹(!pb.toList.isEmpty) = false› (by rw [hpe']; decide)
          refine (SS.out _ (G.out.below B2.out)).mono ?_
          rintro e w4 ⟨A4, cap4, rfl, hsl4, hb⟩
          have B4 := hide (B2.out.trans (hb.mono B2.out.size))
          have Hs4 := hide hsl4
          clear hb hsl4
          go_wp2_with fail
          with_reducible refine (Texts_eq A4 A L.length L.length cap4 cap L _ rfl rfl (by omega) Hs4.out (Hsl.out.below B4.out)).mono ?_
          rintro e w5 ⟨rfl, hb⟩
          have B5 := hide (B4.out.trans (hb.mono B4.out.size))
          clear hb
          go_wp2_with fail
          go_meet
          exact B5.out
        · subst hp0
          have hE : (⟨#[]⟩ : ByteArray).toList = [] := by rw [Lib.toList_data]
          have hpe0 : (⟨#[]⟩ : ByteArray).toList.isEmpty = true := by rw [hE]; rfl
          have hpe : (!(⟨#[]⟩ : ByteArray).toList.isEmpty) = false := by rw [hE]; rfl
          go_wp2_with fail
          · exact absurd ‹(!(⟨#[]⟩ : ByteArray).toList.isEmpty) = true› (by rw [hpe]; decide)
          go_meet
          exact B2.out
      case rest =>
      have B4 := hide hcut
      clear hcut S1 HPC HPE
      go_wp2_with fail
      refine (S2.out _ (G.out.below B4.out)).mono ?_
      rintro e w5 ⟨A5, cap5, rfl, hsl5, hcap5, hb⟩
      have B5 := hide (B4.out.trans (hb.mono B4.out.size))
      have Hs5 := hide hsl5
      clear hb hsl5
      rcases HS2.out with ⟨h3, hnil⟩ | ⟨h0, hl1, hl9, hpath, hszs⟩
      · simp only at h3 hnil hcap5 ⊢
        subst h3 hnil
        clear HS2 S2
        go_wp2
        go_ret
        exact ⟨rfl, B5.out⟩
      · simp only at h0 hcap5 ⊢
        subst h0
        have P2 := hide (fun (W : World) (h : Sl Value.string W A5 l2) => Path_any A5 l2.length cap5 l2 W rfl (by omega) h hszs)
        rw [hpath] at P2
        have g1 : (1 : Int) ≤ (l2.length : Int) := by omega
        have g2 : (l2.length : Int) ≤ 9 := by omega
        clear HS2 S2 hpath hszs
        go_wp2_with fail
        refine (P2.out _ Hs5.out).mono ?_
        rintro e w6 ⟨rfl, hb⟩
        have B6 := hide (B5.out.trans (hb.mono B5.out.size))
        clear hb
        go_wp2
        go_ret
        exact ⟨rfl, B6.out⟩
end Go.Proofs.YtiibjeiadcmenaaDoor.nameSplits
