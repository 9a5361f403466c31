/- Contracts of decimal's text, Parse, canonical and Valid. -/
import Derived.Test.YtpjikbfeegncbaaGreatDoorVaG
set_option linter.unusedVariables false
set_option linter.unusedSimpArgs false
namespace Go.Proofs.YtpjikbfeegncbaaGreatDoor
open Go.RowKit Go.Shelf Go.Sort

theorem conv_sl {W : World} {A : Option Addr} {l : List UInt8} (cap : Nat) (h : Sl by8 W A l) (hp : 0 < l.length) : (convert 60 9 (.slice A l.length cap)).run Tryz.prog W = .ok (.string (bsV l)) W := by
  obtain ⟨b, off, rfl, hat⟩ := h hp
  refine run_convert_bytes_back W _ _ 5 ⟨b, off, none⟩ cap l (by kernel_rfl) (by kernel_rfl) (by kernel_rfl) (fun j hj => ?_)
  have hadd : (⟨b, off, none⟩ : Addr).add j = ⟨b, off + j, none⟩ := by unfold Addr.add; split <;> simp_all
  rw [hadd]
  exact hat j hj
theorem bs_app (a b : List UInt8) : bsV a ++ bsV b = bsV (a ++ b) := by
  apply Go.WideShapes.bytes_inj
  rw [bsV_app, bsV_list, bsV_list, bsV_list]
set_option maxRecDepth 20000 in
set_option maxHeartbeats 16000000 in
theorem text_any (neg : Bool) (A : Option Addr) (n cap : Nat) (T : List UInt8) (ex : Int) (w : World) (hn : n = T.length) (hz : T.length ≤ 1000000) (hc : n ≤ cap) (hcm : cap ≤ maxLen) (h0 : -1000000000 ≤ ex) (h1 : ex ≤ 1000000000) (hs : Sl by8 w A T) (hg : Gl w) :
    Calls Tryz.prog 114 #[numV neg A n cap ex] w fun e w' => e = .returned (.tuple #[.string (textV neg T (ex + n - 1)).1, .int .i64 (textV neg T (ex + n - 1)).2]) ∧ Below w.heap.size w w' := by
  subst hn
  have FR := hide (fun W : World => numFirst_any neg A T.length cap ex W hz h0 h1)
  have Hs := hide hs
  have G := hide hg
  clear hs hg
  unfold numV at FR ⊢
  obtain ⟨fi, hfi⟩ : ∃ fi, ex + (T.length : Int) - 1 = fi := ⟨_, rfl⟩
  rw [hfi] at FR ⊢
  have hrow := Row.new w 104 #[.bool neg, .slice A T.length cap, .int .i64 ex]
  have hbl := (Below.refl w.heap.size w).alloc (Nat.le_refl _) (.cells #[.bool neg, .slice A T.length cap, .int .i64 ex] 104)
  have R0 := hide hrow
  have B0 := hide hbl
  clear hrow hbl
  by_cases hT : T.length = 0
  · have hT0 : T = [] := List.eq_nil_of_length_eq_zero hT
    have hR : textV neg T fi = (⟨#[48]⟩, 0) := by unfold textV; rw [if_pos hT0]
    rw [hR]
    have hTI : (T.length : Int) = 0 := by omega
    clear hT0 hR
    go_enter Tryz.func114, Tryz.ntmps114
    go_wp2
    go_ret2
    exact ⟨rfl, (Below.refl _ _).alloc (Nat.le_refl _) _⟩
  · have hTne : T ≠ [] := fun e => hT (by rw [e]; rfl)
    have hTI : (T.length : Int) ≠ 0 := by omega
    by_cases h17 : 17 < T.length
    · have hR : textV neg T fi = (⟨#[]⟩, 9) := by unfold textV; rw [if_neg hTne, if_pos (.inl h17)]
      rw [hR]
      have h17I : (17 : Int) < (T.length : Int) := by omega
      clear hR
      go_enter Tryz.func114, Tryz.ntmps114
      go_wp2
      go_ret2
      exact ⟨rfl, B0.out⟩
    · have h17I : ¬ (17 : Int) < (T.length : Int) := by omega
      by_cases hlo : fi < -400
      · have hR : textV neg T fi = (⟨#[]⟩, 9) := by unfold textV; rw [if_neg hTne, if_pos (.inr (.inl hlo))]
        rw [hR]
        clear hR
        go_enter Tryz.func114, Tryz.ntmps114
        go_wp2_with fail
        refine (FR.out _).mono ?_
        rintro e w1 ⟨rfl, hb⟩
        have B1 := hide (B0.out.trans (hb.mono B0.out.size))
        clear hb
        go_wp2
        go_ret2
        exact ⟨rfl, B1.out⟩
      · by_cases hhi : 400 < fi
        · have hR : textV neg T fi = (⟨#[]⟩, 9) := by unfold textV; rw [if_neg hTne, if_pos (.inr (.inr hhi))]
          rw [hR]
          clear hR
          go_enter Tryz.func114, Tryz.ntmps114
          go_wp2_with fail
          refine (FR.out _).mono ?_
          rintro e w1 ⟨rfl, hb⟩
          have B1 := hide (B0.out.trans (hb.mono B0.out.size))
          have R1 := hide (R0.out.below hb R0.out.lt)
          have q0 : w1.cell? ⟨w.heap.size, 0, none⟩ = some (.bool neg) := R1.out.cell 0
          have q1 : w1.cell? ⟨w.heap.size, 1, none⟩ = some (.slice A T.length cap) := R1.out.cell 1
          have q2 : w1.cell? ⟨w.heap.size, 2, none⟩ = some (.int .i64 ex) := R1.out.cell 2
          clear hb
          go_wp2_with fail
          refine (FR.out _).mono ?_
          rintro e w2 ⟨rfl, hb⟩
          have B2 := hide (B1.out.trans (hb.mono B1.out.size))
          clear hb
          go_wp2
          go_ret2
          exact ⟨rfl, B2.out⟩
        · have hR : textV neg T fi = (bsV ((if neg then [45] else []) ++ (T.take 1 ++ (if 1 < T.length then 46 :: T.drop 1 else []))) ++ ⟨#[101]⟩ ++ decB fi, 0) := by
            unfold textV; rw [if_neg hTne, if_neg (by omega)]
          rw [hR]
          have IT := hide (fun (W : World) (h : Gl W) => itoa_any fi W (by omega) (by omega) h)
          have ht1 : (T.take 1).length = 1 := by rw [List.length_take]; omega
          have hdl : (T.drop 1).length = T.length - 1 := List.length_drop
          obtain ⟨t1, ht1'⟩ : ∃ t1, T.take 1 = t1 := ⟨_, rfl⟩
          obtain ⟨td, htd⟩ : ∃ td, T.drop 1 = td := ⟨_, rfl⟩
          rw [ht1'] at ht1 ⊢
          rw [htd] at hdl ⊢
          obtain ⟨Rb, hRb⟩ : ∃ Rb, bsV ((if neg then [45] else []) ++ (t1 ++ (if 1 < T.length then 46 :: td else []))) ++ ⟨#[101]⟩ ++ decB fi = Rb := ⟨_, rfl⟩
          rw [hRb]
          have HRb := hide hRb
          have Ht1 := hide ht1'
          have Htd := hide htd
          have Hdl := hide hdl
          have hzd : (decB fi).size ≤ 21 := by
            have := Lib.itoa_length_le fi (by omega) (by omega)
            show (Lib.itoa fi).toArray.size ≤ 21
            simpa using this
          clear hR ht1' htd hdl hRb
          go_enter Tryz.func114, Tryz.ntmps114
          go_wp2_with fail
          refine (FR.out _).mono ?_
          rintro e w1 ⟨rfl, hb⟩
          have B1 := hide (B0.out.trans (hb.mono B0.out.size))
          have R1 := hide (R0.out.below hb R0.out.lt)
          have q0 : w1.cell? ⟨w.heap.size, 0, none⟩ = some (.bool neg) := R1.out.cell 0
          have q1 : w1.cell? ⟨w.heap.size, 1, none⟩ = some (.slice A T.length cap) := R1.out.cell 1
          have q2 : w1.cell? ⟨w.heap.size, 2, none⟩ = some (.int .i64 ex) := R1.out.cell 2
          clear hb
          go_wp2_with fail
          refine (FR.out _).mono ?_
          rintro e w2 ⟨rfl, hb⟩
          have B2 := hide (B1.out.trans (hb.mono B1.out.size))
          have R2 := hide (R1.out.below hb R1.out.lt)
          clear hb q0 q1 q2
          have q0 : w2.cell? ⟨w.heap.size, 0, none⟩ = some (.bool neg) := R2.out.cell 0
          have q1 : w2.cell? ⟨w.heap.size, 1, none⟩ = some (.slice A T.length cap) := R2.out.cell 1
          have q2 : w2.cell? ⟨w.heap.size, 2, none⟩ = some (.int .i64 ex) := R2.out.cell 2
          have S2 := Hs.out.below B2.out
          have hSt := Sl_take S2 1
          rw [Ht1.out] at hSt
          have hcv1 := conv_sl cap hSt (by omega)
          rw [ht1] at hcv1
          clear hSt
          obtain ⟨b, off, hA, hat⟩ := S2 (by omega)
          subst hA
          have hS1 := Sl_drop hat 1
          rw [Htd.out] at hS1
          obtain ⟨tl, htl⟩ : ∃ tl, (if 1 < T.length then 46 :: td else []) = tl := ⟨_, rfl⟩
          have hcI : (1 : Int) ≤ (cap : Int) := by omega
          have hTc : (T.length : Int) ≤ (cap : Int) := by omega
          have hT1 : (1 : Int) ≤ (T.length : Int) := by omega
          go_upto_if 30 with fail
          go_cut [4] (fun v wx => v = .string (bsV (t1 ++ tl)) ∧ wx = w2)
          case first =>
            by_cases h1T : 1 < T.length
            · have h1I : (1 : Int) < (T.length : Int) := by omega
              have hcap : ¬ cap = 1 := by omega
              have hcv2 := conv_sl (cap - 1) hS1 (by have := Hdl.out; omega)
              rw [Hdl.out] at hcv2
              have hcap1 : ¬ cap - 1 = 0 := by omega
              rw [if_pos h1T] at htl
              have d1 := fun W => cat_run (P := Tryz.prog) ⟨#[46]⟩ (bsV (td)) (by have := Hdl.out; rw [bs_size]; show 1 + _ ≤ 1000; omega) W
              have e1 : (⟨#[46]⟩ : ByteArray) ++ bsV (td) = bsV (46 :: td) := bs_app [46] (td)
              rw [e1, htl] at d1
              have htlz : tl.length ≤ 20 := by have := Hdl.out; rw [← htl, List.length_cons]; omega
              have d2 := fun W => cat_run (P := Tryz.prog) (bsV (t1)) (bsV tl) (by rw [bs_size, bs_size]; omega) W
              rw [bs_app] at d2
              clear e1
              go_wp2_with fail
              go_meet
              exact ⟨rfl, rfl⟩
            · have h1I : ¬ (1 : Int) < (T.length : Int) := by omega
              rw [if_neg h1T] at htl
              subst htl
              go_wp2_with fail
              go_meet
              exact ⟨by rw [List.append_nil], rfl⟩
          case rest =>
          obtain ⟨rfl, rfl⟩ := hcut
          obtain ⟨m, hm⟩ : ∃ m, t1 ++ tl = m := ⟨_, rfl⟩
          have hmz : m.length ≤ 30 := by
            rw [← hm, List.length_append, ← htl]
            have := Hdl.out
            split
            · rw [List.length_cons]; omega
            · show _ + 0 ≤ 30; omega
          rw [hm]
          have Hm := hide hm
          have Htl := hide htl
          clear hcv1 hS1 hat htl hm ht1
          go_upto_if 39 with fail
          go_cut [4] (fun v wx => v = .string (bsV ((if neg then [45] else []) ++ m)) ∧ wx = wc)
          case first =>
            cases neg with
            | true =>
              have d1 := fun W => cat_run (P := Tryz.prog) ⟨#[45]⟩ (bsV m) (by rw [bs_size]; show 1 + _ ≤ 1000; omega) W
              have e1 : (⟨#[45]⟩ : ByteArray) ++ bsV m = bsV (45 :: m) := bs_app [45] m
              rw [e1] at d1
              clear e1
              go_wp2_with fail
              go_meet
              exact ⟨rfl, rfl⟩
            | false =>
              go_wp2_with fail
              go_meet
              exact ⟨rfl, rfl⟩
          case rest =>
          obtain ⟨rfl, hwx⟩ := hcut
          obtain ⟨M, hM⟩ : ∃ M, (if neg then [45] else []) ++ m = M := ⟨_, rfl⟩
          have hMz : M.length ≤ 31 := by
            rw [← hM, List.length_append]
            have : (if neg then [45] else [] : List UInt8).length ≤ 1 := by split <;> simp
            omega
          rw [hM]
          subst hwx
          have d1 := fun W => cat_run (P := Tryz.prog) (bsV M) ⟨#[101]⟩ (by rw [bs_size]; show _ + 1 ≤ 1000; omega) W
          have d2 := fun W => cat_run (P := Tryz.prog) (bsV M ++ ⟨#[101]⟩) (decB fi) (by rw [ByteArray.size_append, bs_size]; show _ + 1 + _ ≤ 1000; omega) W
          have HM := hide hM
          clear hM
          go_wp2_with fail
          refine (FR.out _).mono ?_
          rintro e w3 ⟨rfl, hb⟩
          have B3 := hide (B2.out.trans (hb.mono B2.out.size))
          clear hb
          go_wp2_with fail
          refine (IT.out _ (G.out.below B3.out)).mono ?_
          rintro e w4 ⟨rfl, hb⟩
          have B4 := hide (B3.out.trans (hb.mono B3.out.size))
          clear hb
          have he : bsV M ++ ⟨#[101]⟩ ++ decB fi = Rb := by rw [← HM.out, ← Hm.out, ← Htl.out]; exact HRb.out
          have He := hide he
          clear he
          go_wp2
          go_ret2
          exact ⟨by rw [← He.out]; rfl, B4.out⟩
end Go.Proofs.YtpjikbfeegncbaaGreatDoor
