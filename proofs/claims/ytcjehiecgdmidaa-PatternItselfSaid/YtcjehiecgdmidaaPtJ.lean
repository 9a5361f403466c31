/- Contract of pattern's set. -/
import Derived.Test.YtcjehiecgdmidaaPtI
import Derived.Test.YtcjehiecgdmidaaPtE
set_option linter.unusedVariables false
set_option linter.unusedSimpArgs false
namespace Go.Proofs.Ytcjehiecgdmidaa
open Go.RowKit Go.Shelf

/-- the cell of MaxLen holds a number -/
def Gm (w : World) : Prop := ∃ m, w.cell? ⟨0, 0, none⟩ = some (.int .i64 m)
theorem Gm.lt {w : World} (h : Gm w) : 0 < w.heap.size := by
  obtain ⟨m, hm⟩ := h
  exact World.block_lt_of_cell? w _ hm
theorem Gm.below {w w' : World} (h : Gm w) (hb : Below w.heap.size w w') : Gm w' := by
  obtain ⟨m, hm⟩ := h
  exact ⟨m, (World.cell?_of_block (hb.block _ (World.block_lt_of_cell? w _ hm))).trans hm⟩
theorem Gm.low {w w' : World} (h : Gm w) {B : Nat} (hB : 0 < B) (hb : Below B w w') : Gm w' := by
  obtain ⟨m, hm⟩ := h
  exact ⟨m, (World.cell?_of_block (hb.block _ hB)).trans hm⟩
/-- what set and next hand back -/
def ItPost (R : Option (It × List UInt8)) (B : Nat) (w : World) (e : Ending) (w' : World) : Prop :=
  ∃ (x : It) (t : List UInt8) (ok : Bool), e = .returned (.tuple #[.agg (itL x).toArray, .string (bsP t), .bool ok]) ∧ R = (if ok then some (x, t) else none) ∧ Below B w w'
theorem itL_one (x : It) : (itL x).toArray.all (·.oneCell') = true := by simp [itL, Value.oneCell']

theorem put_pre {w W : World} {B : Nat} {Z Zx : List Value} {t : TypeId} (h0 : Row W B t Z.toArray) (h1 : Row W (B + 1) t Zx.toArray) (hb : Below B w W) (hz : Z.length = 259) (hx : Zx.length = 259) :
    W.rangeAt (B + 1) 0 Zx ∧ W.there B 0 Zx.toArray.size ∧ Below B w (W.setCells B 0 Zx) ∧ (W.setCells B 0 Zx).rangeAt B 0 Zx := by
  have T0 : W.there B 0 Zx.length := fun j hj => by
    rw [Nat.zero_add]
    refine ⟨?_, h0.frozen j⟩
    rw [h0.cell j]
    simp; omega
  exact ⟨fun j v hv => by rw [Nat.zero_add, h1.cell j]; simpa using hv, by simpa using T0, hb.trans (Below.setCells_ge B B (Nat.le_refl _) Zx 0 W), World.rangeAt_setCells_same W B 0 Zx T0⟩
theorem bodyD (b : List UInt8) (hb : b ≠ []) : ∃ (lo hi : UInt8) (n : Nat), b.headD 0 = lo ∧ hiB b = hi ∧ stepB b = n ∧ (∃ h : 0 < b.length, b[0] = lo) ∧
    ((b.length < 3 ∧ n = 1 ∧ hi = lo ∧ rngB b = false) ∨ (∃ h : 3 ≤ b.length, b[1] ≠ 45 ∧ n = 1 ∧ hi = lo ∧ rngB b = false) ∨ (∃ h : 3 ≤ b.length, b[1] = 45 ∧ b[2] = hi ∧ n = 3 ∧ rngB b = true)) := by
  obtain ⟨c, t, rfl⟩ : ∃ c t, b = c :: t := by cases b with | nil => exact absurd rfl hb | cons c t => exact ⟨c, t, rfl⟩
  refine ⟨c, hiB (c :: t), stepB (c :: t), rfl, rfl, rfl, ⟨by simp, rfl⟩, ?_⟩
  by_cases h3 : 3 ≤ (c :: t).length
  · have e1 : (c :: t)[1]? = some ((c :: t)[1]'(by omega)) := List.getElem?_eq_getElem (by omega)
    have e2 : (c :: t)[2]? = some ((c :: t)[2]'(by omega)) := List.getElem?_eq_getElem (by omega)
    by_cases h : (c :: t)[1]'(by omega) = 45
    · have hr : rngB (c :: t) = true := by unfold rngB; rw [e1, h, decide_eq_true h3]; rfl
      refine .inr (.inr ⟨h3, h, ?_, by unfold stepB; rw [if_pos hr], hr⟩)
      unfold hiB; rw [if_pos hr, List.getD_eq_getElem?_getD, e2]; rfl
    · have hr : rngB (c :: t) = false := by unfold rngB; rw [e1, decide_eq_false (fun e => h (Option.some.inj e)), Bool.and_false]
      exact .inr (.inl ⟨h3, h, by unfold stepB; rw [if_neg (by rw [hr]; decide)], by unfold hiB; rw [if_neg (by rw [hr]; decide)]; rfl, hr⟩)
  · have hr : rngB (c :: t) = false := by unfold rngB; rw [decide_eq_false h3, Bool.false_and]
    exact .inl ⟨by omega, by unfold stepB; rw [if_neg (by rw [hr]; decide)], by unfold hiB; rw [if_neg (by rw [hr]; decide)]; rfl, hr⟩
theorem good_iff (b : List UInt8) (lo hi : UInt8) (q : Bool) (h1 : b.headD 0 = lo) (h2 : hiB b = hi) (h3 : rngB b = q) : goodB b = (elB lo && elB hi && decide (lo.toNat ≤ hi.toNat) && !(!q && lo == 45)) := by
  unfold goodB; rw [h1, h2, h3]
theorem toNat_ne {c d : UInt8} (h : c ≠ d) : ((c.toNat : Int) == (d.toNat : Int)) = false := beq_eq_false_iff_ne.2 fun e => h (UInt8.toNat_inj.1 (by omega))
theorem setIt_start (f : UInt8 → Bool) (a : Nat) : (setIt fun c => f c || decide (a ≤ c.toNat ∧ c.toNat < a)) = setIt f := by
  unfold setIt; congr 1; funext c
  rw [decide_eq_false (by omega), Bool.or_false]
theorem setIt_end (f : UInt8 → Bool) (a b : Nat) : (setIt fun c => f c || decide (a ≤ c.toNat ∧ c.toNat < b + 1)) = setIt fun c => f c || decide (a ≤ c.toNat ∧ c.toNat ≤ b) := by
  unfold setIt; congr 1; funext c
  congr 1
  rw [decide_eq_decide]; omega
theorem elE (c : UInt8) (q : Bool) (h : elB c = q) : ∀ W : World, Calls Try.prog 47 #[.int .u8 (c.toNat : Int)] W fun e w' => e = .returned (.bool q) ∧ w' = W := fun W => h ▸ element_any c W

set_option maxRecDepth 100000 in
set_option maxHeartbeats 8000000 in
theorem set_any (l : List UInt8) (w : World) (hl : l.length ≤ 1000) (hg : Gm w) :
    Calls Try.prog 43 #[.string (bsP l)] w (ItPost (setV l) w.heap.size w) := by
  have hz := zero_it
  have G := hide hg
  have CP : ∀ W : World, Calls Try.prog 46 #[.string (bsP l), .string ⟨#[33]⟩] W fun e w' => e = .returned (.tuple #[.string (bsP (Lib.trimPrefix l [33])), .bool (Lib.hasPrefix l [33])]) ∧ w' = W := fun W => Try.strings_CutPrefix (bsP l) ⟨#[33]⟩ W
  have hl1 : (Lib.trimPrefix l [33]).length ≤ 1000 := by unfold Lib.trimPrefix; split; rw [List.length_drop]; omega; omega
  have hR := setV_eq l
  generalize setV l = R at *
  generalize Lib.trimPrefix l [33] = l1 at *
  generalize Lib.hasPrefix l [33] = inv at *
  have CU : ∀ W : World, Gm W → Calls Try.prog 26 #[.string (bsP l1), .string ⟨#[93]⟩] W fun e w' => e = .returned (.tuple #[.string (bsP (Lib.cut l1 [93]).1), .string (bsP (Lib.cut l1 [93]).2.1), .bool (Lib.cut l1 [93]).2.2]) ∧ ∃ n, w' = W.drewN n := fun W hW => by
    obtain ⟨m, hm⟩ := hW
    exact Try.strings_Cut (bsP l1) ⟨#[93]⟩ m W (by rw [bsP_size]; omega) hm
  have hcl : (Lib.cut l1 [93]).1.length ≤ 1000 := by
    unfold Lib.cut; split
    · simp only [List.length_take]; omega
    · exact hl1
  generalize Lib.cut l1 [93] = cc at *
  obtain ⟨body, rest, ok⟩ := cc
  simp only at CU hR hcl
  obtain ⟨Z, hZ⟩ : ∃ Z, itL noIt = Z := ⟨_, rfl⟩
  rw [hZ] at hz
  have HZ := hide hZ
  have HL := hide (show Z.length = 259 by rw [← hZ]; exact itL_len _)
  have HCP := hide CP
  have HCU := hide CU
  have HR := hide hR
  generalize bsP l = s0 at *
  clear hZ CP CU hR hg hl
  go_enter Try.func43, Try.ntmps43
  go_upto_region 2 with fail
  obtain ⟨W2, hW2⟩ : ∃ W2, (w.alloc (.cells Z.toArray 67)).alloc (.cells Z.toArray 67) = W2 := ⟨_, rfl⟩
  have hB : Below w.heap.size w W2 := by
    rw [← hW2]
    exact ((Below.refl _ _).alloc (Nat.le_refl _) _).alloc (by rw [World.size_alloc]; omega) _
  have r0 : Row W2 w.heap.size 67 Z.toArray := by rw [← hW2]; exact (Row.new _ _ _).alloc _
  have r1 : Row W2 (w.heap.size + 1) 67 Z.toArray := by
    rw [← hW2]
    have := Row.new (w.alloc (.cells Z.toArray 67)) 67 Z.toArray
    rwa [World.size_alloc] at this
  have HW := hide (And.intro hB (And.intro r0 r1))
  rw [hW2]
  clear hW2 hB r0 r1 hz
  go_wp2_with fail
  refine (HCP.out _).mono ?_
  rintro e wx ⟨rfl, rfl⟩
  go_wp2_with fail
  refine (HCU.out _ (G.out.below HW.out.1)).mono ?_
  rintro e wx ⟨rfl, k, rfl⟩
  obtain ⟨W3, hW3⟩ : ∃ W3, wx.drewN k = W3 := ⟨_, rfl⟩
  have HW3 := hide (show Below w.heap.size w W3 ∧ Row W3 w.heap.size 67 Z.toArray ∧ Row W3 (w.heap.size + 1) 67 Z.toArray by
    rw [← hW3]; exact ⟨Below_drewN HW.out.1 _, HW.out.2.1.drewN k, HW.out.2.2.drewN k⟩)
  rw [hW3]
  clear hW3 HW
  cases ok with
  | false =>
    have hRn : R = none := by rw [HR.out, if_pos (.inl rfl)]
    have HRn := hide hRn
    clear hRn
    go_upto_region 5 with fail
    obtain ⟨Zx, hZx⟩ : ∃ Zx, itL noIt = Zx := ⟨_, rfl⟩
    have hx : Zx.length = 259 := by rw [← hZx]; exact itL_len _
    have Hone := hide (show Zx.toArray.all (·.oneCell') = true by rw [← hZx]; exact itL_one _)
    have HZx := hide hZx
    obtain ⟨g1, t0, hbf, hr⟩ := put_pre (Zx := Zx) HW3.out.2.1 (by rw [← hZx]; exact (by rw [HZ.out]; exact HW3.out.2.2)) HW3.out.1 HL.out hx
    have HI := hide (show (Try.prog.info? 67).map (·.size) = some Zx.length by rw [hx]; kernel_rfl)
    have HI2 := hide (show (Try.prog.info? 67).map (·.size) = some Zx.toArray.size by rw [List.size_toArray]; exact HI.out)
    have G1 := hide g1
    have T0 := hide t0
    have HB := hide hbf
    have HRf := hide hr
    clear g1 t0 hbf hr hx hZx
    go_wp2_with (first | (refine wpList_load_mid rfl 67 (.tmp 5) rfl (w.heap.size + 1) 0 rfl Zx _ G1.out Try.underlying67 rfl HI.out ?_) | (refine wpList_store_mid rfl 67 (.tmp 2) (.tmp 32) rfl w.heap.size 0 Zx.toArray rfl rfl T0.out HI2.out Hone.out ?_))
    refine bodyPost_ret (v := .tuple #[.agg Zx.toArray, .string ⟨#[]⟩, .bool false]) (results_mid2 rfl _ _ w.heap.size Zx _ _ _ rfl rfl rfl HRf.out Try.underlying67 rfl HI.out) rfl ?_
    exact ⟨noIt, [], false, by rw [HZx.out]; rfl, HRn.out, HB.out⟩
  | true =>
    by_cases hb0 : body = []
    · have hRn : R = none := by rw [HR.out, if_pos (.inr hb0)]
      have HRn := hide hRn
      have hno := bsP_no
      subst hb0
      clear hRn
      go_upto_region 5 with fail
      obtain ⟨Zx, hZx⟩ : ∃ Zx, itL noIt = Zx := ⟨_, rfl⟩
      have hx : Zx.length = 259 := by rw [← hZx]; exact itL_len _
      have Hone := hide (show Zx.toArray.all (·.oneCell') = true by rw [← hZx]; exact itL_one _)
      have HZx := hide hZx
      obtain ⟨g1, t0, hbf, hr⟩ := put_pre (Zx := Zx) HW3.out.2.1 (by rw [← hZx]; exact (by rw [HZ.out]; exact HW3.out.2.2)) HW3.out.1 HL.out hx
      have HI := hide (show (Try.prog.info? 67).map (·.size) = some Zx.length by rw [hx]; kernel_rfl)
      have HI2 := hide (show (Try.prog.info? 67).map (·.size) = some Zx.toArray.size by rw [List.size_toArray]; exact HI.out)
      have G1 := hide g1
      have T0 := hide t0
      have HB := hide hbf
      have HRf := hide hr
      clear g1 t0 hbf hr hx hZx
      go_wp2_with (first | (refine wpList_load_mid rfl 67 (.tmp 5) rfl (w.heap.size + 1) 0 rfl Zx _ G1.out Try.underlying67 rfl HI.out ?_) | (refine wpList_store_mid rfl 67 (.tmp 2) (.tmp 32) rfl w.heap.size 0 Zx.toArray rfl rfl T0.out HI2.out Hone.out ?_))
      refine bodyPost_ret (v := .tuple #[.agg Zx.toArray, .string ⟨#[]⟩, .bool false]) (results_mid2 rfl _ _ w.heap.size Zx _ _ _ rfl rfl rfl HRf.out Try.underlying67 rfl HI.out) rfl ?_
      exact ⟨noIt, [], false, by rw [HZx.out]; rfl, HRn.out, HB.out⟩
    · have hne := bsP_ne hb0
      have hR1 : R = (setF body.length body fun _ => false).map fun f => (setIt (if inv = true then fun c => !f c else f), rest) := by
        rw [HR.out, if_neg (by rintro (h | h); cases h; exact hb0 h)]
      have HR1 := hide hR1
      clear hR1
      go_upto_region 6 with fail
      clear hne
      go_loopg [7] body.length (fun g v7 wr => ∃ (b : List UInt8) (f : UInt8 → Bool), v7 = .string (bsP b) ∧ b.length = g ∧ b.length ≤ 1000 ∧ R = (setF b.length b f).map (fun f => (setIt (if inv = true then fun c => !f c else f), rest)) ∧ Row wr w.heap.size 67 Z.toArray ∧ Row wr (w.heap.size + 1) 67 (itL (setIt f)).toArray ∧ Below w.heap.size w wr)
      case atStart => exact ⟨body, fun _ => false, rfl, rfl, hcl, HR1.out, HW3.out.2.1, by rw [setIt_no, HZ.out]; exact HW3.out.2.2, HW3.out.1⟩
      case round =>
        obtain ⟨b, f, rfl, hgl, hbl, hRb, hr0, hr1, hb⟩ := hrel
        have H0 := hide hr0
        have H1 := hide hr1
        have Hb := hide hb
        have HRb := hide hRb
        clear hr0 hr1 hb hRb
        by_cases hbn : b = []
        · have hRs : R = some (setIt (if inv = true then fun c => !f c else f), rest) := by rw [HRb.out, hbn]; rfl
          have HRs := hide hRs
          have hno := bsP_no
          subst hbn
          clear hRs
          cases inv with
          | false =>
            go_upto_region 25 with fail
            obtain ⟨Zx, hZx⟩ : ∃ Zx, itL (setIt f) = Zx := ⟨_, rfl⟩
            have hx : Zx.length = 259 := by rw [← hZx]; exact itL_len _
            have Hone := hide (show Zx.toArray.all (·.oneCell') = true by rw [← hZx]; exact itL_one _)
            have HZx := hide hZx
            obtain ⟨g1, t0, hbf, hr⟩ := put_pre (Zx := Zx) H0.out (by rw [← hZx]; exact H1.out) Hb.out HL.out hx
            have HI := hide (show (Try.prog.info? 67).map (·.size) = some Zx.length by rw [hx]; kernel_rfl)
            have HI2 := hide (show (Try.prog.info? 67).map (·.size) = some Zx.toArray.size by rw [List.size_toArray]; exact HI.out)
            have G1 := hide g1
            have T0 := hide t0
            have HB := hide hbf
            have HRf := hide hr
            clear g1 t0 hbf hr hx hZx
            go_wp2_with (first | (refine wpList_load_mid rfl 67 (.tmp 5) rfl (w.heap.size + 1) 0 rfl Zx _ G1.out Try.underlying67 rfl HI.out ?_) | (refine wpList_store_mid rfl 67 (.tmp 2) (.tmp 97) rfl w.heap.size 0 Zx.toArray rfl rfl T0.out HI2.out Hone.out ?_))
            refine bodyPost_ret (v := .tuple #[.agg Zx.toArray, .string (bsP rest), .bool true]) (results_mid2 rfl _ _ w.heap.size Zx _ _ _ rfl rfl rfl HRf.out Try.underlying67 rfl HI.out) rfl ?_
            exact ⟨(setIt f), rest, true, by rw [HZx.out], HRs.out, HB.out⟩
          | true =>
            go_upto_region 21 with fail
            clear hno
            go_loopw [85] (fun v wq => ∃ k : Nat, v = .int .i64 (k : Int) ∧ k ≤ 256 ∧ Row wq (w.heap.size + 1) 67 (itL (setIt (turnF f k))).toArray ∧ Row wq w.heap.size 67 Z.toArray ∧ Below w.heap.size w wq) (fun v _ => 256 - (intOf v).toNat)
            case atStart => exact ⟨0, rfl, by omega, by rw [turnF_0]; exact H1.out, H0.out, Hb.out⟩
            case round =>
              obtain ⟨k, rfl, hk, hq1, hq0, hqb⟩ := hrel
              have Q1 := hide hq1
              have Q0 := hide hq0
              have Qb := hide hqb
              clear hq1 hq0 hqb
              by_cases hk2 : k < 256
              · have hk' : (k : Int) < 256 := by omega
                have hk0 : (0 : Int) ≤ (k : Int) := by omega
                have f0 : wr.frozen? ⟨w.heap.size + 1, 1 + k, none⟩ = false := Q1.out.frozen _
                have c0 : wr.cell? ⟨w.heap.size + 1, 1 + k, none⟩ = some (.bool (f (UInt8.ofNat k))) := by
                  rw [Q1.out.cell, List.getElem?_toArray]; exact turn_get f k hk2
                have hwr : IntKind.i64.wrap ((k : Int) + 1) = (k : Int) + 1 := IntWalk.i64_in _ (by omega)
                have HRw := hide (show Row (wr.setCell ⟨w.heap.size + 1, 1 + k, none⟩ (.bool (!f (UInt8.ofNat k)))) (w.heap.size + 1) 67 (itL (setIt (turnF f (k + 1)))).toArray by
                  have := Q1.out.set_ (1 + k) (.bool (!f (UInt8.ofNat k)))
                  rwa [show (itL (setIt (turnF f k))).toArray.setIfInBounds (1 + k) (.bool (!f (UInt8.ofNat k))) = (itL (setIt (turnF f (k + 1)))).toArray by rw [← turn_one f k hk2]; simp] at this)
                generalize f (UInt8.ofNat k) = fv at *
                go_wp2
                go_roundw
                case rel => exact ⟨k + 1, by go_num, by omega, HRw.out, Q0.out.off (by omega) _ _, Qb.out.setCell (p := ⟨w.heap.size + 1, 1 + k, none⟩) (Nat.le_succ _) _⟩
                case measure => simp [intOf]; omega
              · obtain rfl : k = 256 := by omega
                have hk' : ¬ ((256 : Nat) : Int) < 256 := by omega
                rw [turnF_all] at Q1
                go_upto_region 25 with fail
                obtain ⟨Zx, hZx⟩ : ∃ Zx, itL (setIt fun c => !f c) = Zx := ⟨_, rfl⟩
                have hx : Zx.length = 259 := by rw [← hZx]; exact itL_len _
                have Hone := hide (show Zx.toArray.all (·.oneCell') = true by rw [← hZx]; exact itL_one _)
                have HZx := hide hZx
                obtain ⟨g1, t0, hbf, hr⟩ := put_pre (Zx := Zx) Q0.out (by rw [← hZx]; exact Q1.out) Qb.out HL.out hx
                have HI := hide (show (Try.prog.info? 67).map (·.size) = some Zx.length by rw [hx]; kernel_rfl)
                have HI2 := hide (show (Try.prog.info? 67).map (·.size) = some Zx.toArray.size by rw [List.size_toArray]; exact HI.out)
                have G1 := hide g1
                have T0 := hide t0
                have HB := hide hbf
                have HRf := hide hr
                clear g1 t0 hbf hr hx hZx
                go_wp2_with (first | (refine wpList_load_mid rfl 67 (.tmp 5) rfl (w.heap.size + 1) 0 rfl Zx _ G1.out Try.underlying67 rfl HI.out ?_) | (refine wpList_store_mid rfl 67 (.tmp 2) (.tmp 97) rfl w.heap.size 0 Zx.toArray rfl rfl T0.out HI2.out Hone.out ?_))
                refine bodyPost_ret (v := .tuple #[.agg Zx.toArray, .string (bsP rest), .bool true]) (results_mid2 rfl _ _ w.heap.size Zx _ _ _ rfl rfl rfl HRf.out Try.underlying67 rfl HI.out) rfl ?_
                exact ⟨(setIt fun c => !f c), rest, true, by rw [HZx.out], HRs.out, HB.out⟩
        · have hne := bsP_ne hbn
          have hst := setF_step b f hbn
          obtain ⟨lo, hi, n, hlo, hhi, hn, ⟨hpos, hg0⟩, hways⟩ := bodyD b hbn
          rw [hlo, hhi, hn] at hst
          have hbz := bsP_size b
          have p0 : 0 < (bsP b).size := by rw [hbz]; exact hpos
          have p0' : (0 : Int) < ((bsP b).size : Int) := by omega
          have g0 : (bsP b)[0]'p0 = lo := by rw [bsP_get]; exact hg0
          have hdr := bsP_drop b n
          have hlt0 := lo.toNat_lt
          have hlt1 := hi.toNat_lt
          have hdl : (b.drop n).length < b.length := by
            rw [List.length_drop]
            rcases hways with h | ⟨h3, h⟩ | ⟨h3, h⟩ <;> omega
          rcases hways with ⟨h3, rfl, hhl, hrg⟩ | ⟨h3, h45, rfl, hhl, hrg⟩ | ⟨h3, h45, h2, rfl, hrg⟩
          · obtain rfl : lo = hi := hhl.symm
            have q3 : ¬ (3 : Int) ≤ ((bsP b).size : Int) := by omega
            have hgd := good_iff b lo lo false hlo hhi hrg
            have HN := hide (show (1 : Int) ≤ ((bsP b).size : Int) by omega)
            have Hst := hide hst
            have Hdr := hide hdr
            have Hbl := hide (And.intro hgl (And.intro hbl hdl))
            have Hlt := hide (And.intro hlt0 hlt1)
            generalize bsP b = sb at *
            clear hst hdr hgl hbl hdl hlt0 hlt1 hbz hpos hg0 hlo hhi hn hrg h3 hbn
            go_upto_region 12 with fail
            cases el : elB lo with
            | false =>
              have E1 := hide (elE lo false el)
              have HRn := hide (show R = none by rw [HRb.out, Hst.out, hgd, el]; rfl)
              clear hgd el
              go_wp2_with fail
              refine (E1.out _).mono ?_
              rintro e wr ⟨rfl, rfl⟩
              obtain ⟨Zx, hZx⟩ : ∃ Zx, itL (setIt f) = Zx := ⟨_, rfl⟩
              have hx : Zx.length = 259 := by rw [← hZx]; exact itL_len _
              have Hone := hide (show Zx.toArray.all (·.oneCell') = true by rw [← hZx]; exact itL_one _)
              have HZx := hide hZx
              obtain ⟨g1, t0, hbf, hr⟩ := put_pre (Zx := Zx) H0.out (by rw [← hZx]; exact H1.out) Hb.out HL.out hx
              have HI := hide (show (Try.prog.info? 67).map (·.size) = some Zx.length by rw [hx]; kernel_rfl)
              have HI2 := hide (show (Try.prog.info? 67).map (·.size) = some Zx.toArray.size by rw [List.size_toArray]; exact HI.out)
              have G1 := hide g1
              have T0 := hide t0
              have HB := hide hbf
              have HRf := hide hr
              clear g1 t0 hbf hr hx hZx
              go_wp2_with (first | (refine wpList_load_mid rfl 67 (.tmp 5) rfl (w.heap.size + 1) 0 rfl Zx _ G1.out Try.underlying67 rfl HI.out ?_) | (refine wpList_store_mid rfl 67 (.tmp 2) (.tmp 69) rfl w.heap.size 0 Zx.toArray rfl rfl T0.out HI2.out Hone.out ?_))
              refine bodyPost_ret (v := .tuple #[.agg Zx.toArray, .string ⟨#[]⟩, .bool false]) (results_mid2 rfl _ _ w.heap.size Zx _ _ _ rfl rfl rfl HRf.out Try.underlying67 rfl HI.out) rfl ?_
              exact ⟨(setIt f), [], false, by rw [HZx.out]; rfl, HRn.out, HB.out⟩
            | true =>
              have E1 := hide (elE lo true el)
              cases ed : (lo == 45) with
              | true =>
                have e45b : ((lo.toNat : Int) == 45) = true := by rw [beq_iff_eq] at ed; rw [ed]; rfl
                have HRn := hide (show R = none by rw [HRb.out, Hst.out, hgd, el, ed, decide_eq_true (Nat.le_refl _)]; rfl)
                have hlts : ¬ (lo.toNat : Int) < (lo.toNat : Int) := by omega
                clear hgd el ed
                go_wp2_with fail
                refine (E1.out _).mono ?_
                rintro e wr ⟨rfl, rfl⟩
                go_wp2_with fail
                refine (E1.out _).mono ?_
                rintro e wr ⟨rfl, rfl⟩
                obtain ⟨Zx, hZx⟩ : ∃ Zx, itL (setIt f) = Zx := ⟨_, rfl⟩
                have hx : Zx.length = 259 := by rw [← hZx]; exact itL_len _
                have Hone := hide (show Zx.toArray.all (·.oneCell') = true by rw [← hZx]; exact itL_one _)
                have HZx := hide hZx
                obtain ⟨g1, t0, hbf, hr⟩ := put_pre (Zx := Zx) H0.out (by rw [← hZx]; exact H1.out) Hb.out HL.out hx
                have HI := hide (show (Try.prog.info? 67).map (·.size) = some Zx.length by rw [hx]; kernel_rfl)
                have HI2 := hide (show (Try.prog.info? 67).map (·.size) = some Zx.toArray.size by rw [List.size_toArray]; exact HI.out)
                have G1 := hide g1
                have T0 := hide t0
                have HB := hide hbf
                have HRf := hide hr
                clear g1 t0 hbf hr hx hZx
                go_wp2_with (first | (refine wpList_load_mid rfl 67 (.tmp 5) rfl (w.heap.size + 1) 0 rfl Zx _ G1.out Try.underlying67 rfl HI.out ?_) | (refine wpList_store_mid rfl 67 (.tmp 2) (.tmp 69) rfl w.heap.size 0 Zx.toArray rfl rfl T0.out HI2.out Hone.out ?_))
                refine bodyPost_ret (v := .tuple #[.agg Zx.toArray, .string ⟨#[]⟩, .bool false]) (results_mid2 rfl _ _ w.heap.size Zx _ _ _ rfl rfl rfl HRf.out Try.underlying67 rfl HI.out) rfl ?_
                exact ⟨(setIt f), [], false, by rw [HZx.out]; rfl, HRn.out, HB.out⟩
              | false =>
                have e45b : ((lo.toNat : Int) == 45) = false := toNat_ne (d := 45) (by simpa using ed)
                have HRg := hide (show R = (setF (b.drop 1).length (b.drop 1) (fun c => f c || decide (lo.toNat ≤ c.toNat ∧ c.toNat ≤ lo.toNat))).map (fun f => (setIt (if inv = true then fun c => !f c else f), rest)) by rw [HRb.out, Hst.out, hgd, el, ed, decide_eq_true (Nat.le_refl _)]; rfl)
                have hlts : ¬ (lo.toNat : Int) < (lo.toNat : Int) := by omega
                have hle : lo.toNat ≤ lo.toNat := Nat.le_refl _
                clear hgd el ed
                go_wp2_with fail
                refine (E1.out _).mono ?_
                rintro e wr ⟨rfl, rfl⟩
                go_wp2_with fail
                refine (E1.out _).mono ?_
                rintro e wr ⟨rfl, rfl⟩
                clear hlts
                have hwl : wrap64 (lo.toNat : Int) = (lo.toNat : Int) := IntWalk.wrap64_in _ ⟨by have := Hlt.out; omega, by have := Hlt.out; omega⟩
                go_upto_region 15 with fail
                go_loopw [13] (fun v wq => ∃ k : Nat, v = .int .i64 (k : Int) ∧ lo.toNat ≤ k ∧ k ≤ lo.toNat + 1 ∧ Row wq (w.heap.size + 1) 67 (itL (setIt fun c => f c || decide (lo.toNat ≤ c.toNat ∧ c.toNat < k))).toArray ∧ Row wq w.heap.size 67 Z.toArray ∧ Below w.heap.size w wq) (fun v _ => lo.toNat + 1 - (intOf v).toNat)
                case atStart => exact ⟨lo.toNat, congrArg (Value.int .i64) hwl, Nat.le_refl _, by omega, by rw [setIt_start]; exact H1.out, H0.out, Hb.out⟩
                case round =>
                  obtain ⟨k, rfl, hkl, hk, hq1, hq0, hqb⟩ := hrel
                  have Q1 := hide hq1
                  have Q0 := hide hq0
                  have Qb := hide hqb
                  have Hle := hide hle
                  clear hq1 hq0 hqb hle
                  have hlt0 := Hlt.out.1
                  have hlt1 := Hlt.out.2
                  by_cases hk2 : k ≤ lo.toNat
                  · have hk' : (k : Int) < 256 := by omega
                    have hk0 : (0 : Int) ≤ (k : Int) := by omega
                    have hk3 : (k : Int) ≤ (lo.toNat : Int) := by omega
                    have f0 : wr.frozen? ⟨w.heap.size + 1, 1 + k, none⟩ = false := Q1.out.frozen _
                    obtain ⟨v0, hv0⟩ : ∃ v0, wr.cell? ⟨w.heap.size + 1, 1 + k, none⟩ = some v0 := ⟨_, by
                      rw [Q1.out.cell, List.getElem?_toArray, itL_get, if_neg (by omega), if_pos (by omega)]⟩
                    have hwr : IntKind.i64.wrap ((k : Int) + 1) = (k : Int) + 1 := IntWalk.i64_in _ (by omega)
                    have HRw := hide (show Row (wr.setCell ⟨w.heap.size + 1, 1 + k, none⟩ (.bool true)) (w.heap.size + 1) 67 (itL (setIt fun c => f c || decide (lo.toNat ≤ c.toNat ∧ c.toNat < k + 1))).toArray by
                      have := Q1.out.set_ (1 + k) (.bool true)
                      rwa [show (itL (setIt fun c => f c || decide (lo.toNat ≤ c.toNat ∧ c.toNat < k))).toArray.setIfInBounds (1 + k) (.bool true) = (itL (setIt fun c => f c || decide (lo.toNat ≤ c.toNat ∧ c.toNat < k + 1))).toArray by rw [← setIt_one f lo.toNat k (by omega) hkl]; simp] at this)
                    clear hlt0 hlt1
                    go_wp2
                    go_roundw
                    case rel => exact ⟨k + 1, by go_num, by omega, by omega, HRw.out, Q0.out.off (by omega) _ _, Qb.out.setCell (p := ⟨w.heap.size + 1, 1 + k, none⟩) (Nat.le_succ _) _⟩
                    case measure => simp [intOf]; omega
                  · obtain rfl : k = lo.toNat + 1 := by omega
                    have hk3 : ¬ ((lo.toNat + 1 : Nat) : Int) ≤ (lo.toNat : Int) := by omega
                    rw [setIt_end] at Q1
                    have hN := HN.out
                    have Hk := hide hkl
                    clear hlt0 hlt1 hkl hk hk2
                    go_wp2
                    go_roundg (b.drop 1).length
                    case measure => have := Hbl.out; omega
                    case rel => exact ⟨b.drop 1, _, by rw [← Hdr.out], rfl, by have := Hbl.out; omega, HRg.out, Q0.out, Q1.out, Qb.out⟩
          · obtain rfl : lo = hi := hhl.symm
            have q3 : (3 : Int) ≤ ((bsP b).size : Int) := by omega
            have p1 : 1 < (bsP b).size := by omega
            have p1' : (1 : Int) < ((bsP b).size : Int) := by omega
            obtain ⟨c1, hc1⟩ : ∃ c1, b[1]'(Nat.lt_of_lt_of_le (by decide) h3) = c1 := ⟨_, rfl⟩
            have g1 : (bsP b)[1]'p1 = c1 := by rw [bsP_get]; exact hc1
            have e45 : ((c1.toNat : Int) == 45) = false := toNat_ne (d := 45) (by rw [← hc1]; exact h45)
            clear hc1
            have hgd := good_iff b lo lo false hlo hhi hrg
            have HN := hide (show (1 : Int) ≤ ((bsP b).size : Int) by omega)
            have Hst := hide hst
            have Hdr := hide hdr
            have Hbl := hide (And.intro hgl (And.intro hbl hdl))
            have Hlt := hide (And.intro hlt0 hlt1)
            generalize bsP b = sb at *
            clear hst hdr hgl hbl hdl hlt0 hlt1 hbz hpos hg0 hlo hhi hn hrg hbn h45
            go_upto_region 12 with fail
            cases el : elB lo with
            | false =>
              have E1 := hide (elE lo false el)
              have HRn := hide (show R = none by rw [HRb.out, Hst.out, hgd, el]; rfl)
              clear hgd el
              go_wp2_with fail
              refine (E1.out _).mono ?_
              rintro e wr ⟨rfl, rfl⟩
              obtain ⟨Zx, hZx⟩ : ∃ Zx, itL (setIt f) = Zx := ⟨_, rfl⟩
              have hx : Zx.length = 259 := by rw [← hZx]; exact itL_len _
              have Hone := hide (show Zx.toArray.all (·.oneCell') = true by rw [← hZx]; exact itL_one _)
              have HZx := hide hZx
              obtain ⟨g1, t0, hbf, hr⟩ := put_pre (Zx := Zx) H0.out (by rw [← hZx]; exact H1.out) Hb.out HL.out hx
              have HI := hide (show (Try.prog.info? 67).map (·.size) = some Zx.length by rw [hx]; kernel_rfl)
              have HI2 := hide (show (Try.prog.info? 67).map (·.size) = some Zx.toArray.size by rw [List.size_toArray]; exact HI.out)
              have G1 := hide g1
              have T0 := hide t0
              have HB := hide hbf
              have HRf := hide hr
              clear g1 t0 hbf hr hx hZx
              go_wp2_with (first | (refine wpList_load_mid rfl 67 (.tmp 5) rfl (w.heap.size + 1) 0 rfl Zx _ G1.out Try.underlying67 rfl HI.out ?_) | (refine wpList_store_mid rfl 67 (.tmp 2) (.tmp 69) rfl w.heap.size 0 Zx.toArray rfl rfl T0.out HI2.out Hone.out ?_))
              refine bodyPost_ret (v := .tuple #[.agg Zx.toArray, .string ⟨#[]⟩, .bool false]) (results_mid2 rfl _ _ w.heap.size Zx _ _ _ rfl rfl rfl HRf.out Try.underlying67 rfl HI.out) rfl ?_
              exact ⟨(setIt f), [], false, by rw [HZx.out]; rfl, HRn.out, HB.out⟩
            | true =>
              have E1 := hide (elE lo true el)
              cases ed : (lo == 45) with
              | true =>
                have e45b : ((lo.toNat : Int) == 45) = true := by rw [beq_iff_eq] at ed; rw [ed]; rfl
                have HRn := hide (show R = none by rw [HRb.out, Hst.out, hgd, el, ed, decide_eq_true (Nat.le_refl _)]; rfl)
                have hlts : ¬ (lo.toNat : Int) < (lo.toNat : Int) := by omega
                clear hgd el ed
                go_wp2_with fail
                refine (E1.out _).mono ?_
                rintro e wr ⟨rfl, rfl⟩
                go_wp2_with fail
                refine (E1.out _).mono ?_
                rintro e wr ⟨rfl, rfl⟩
                obtain ⟨Zx, hZx⟩ : ∃ Zx, itL (setIt f) = Zx := ⟨_, rfl⟩
                have hx : Zx.length = 259 := by rw [← hZx]; exact itL_len _
                have Hone := hide (show Zx.toArray.all (·.oneCell') = true by rw [← hZx]; exact itL_one _)
                have HZx := hide hZx
                obtain ⟨g1, t0, hbf, hr⟩ := put_pre (Zx := Zx) H0.out (by rw [← hZx]; exact H1.out) Hb.out HL.out hx
                have HI := hide (show (Try.prog.info? 67).map (·.size) = some Zx.length by rw [hx]; kernel_rfl)
                have HI2 := hide (show (Try.prog.info? 67).map (·.size) = some Zx.toArray.size by rw [List.size_toArray]; exact HI.out)
                have G1 := hide g1
                have T0 := hide t0
                have HB := hide hbf
                have HRf := hide hr
                clear g1 t0 hbf hr hx hZx
                go_wp2_with (first | (refine wpList_load_mid rfl 67 (.tmp 5) rfl (w.heap.size + 1) 0 rfl Zx _ G1.out Try.underlying67 rfl HI.out ?_) | (refine wpList_store_mid rfl 67 (.tmp 2) (.tmp 69) rfl w.heap.size 0 Zx.toArray rfl rfl T0.out HI2.out Hone.out ?_))
                refine bodyPost_ret (v := .tuple #[.agg Zx.toArray, .string ⟨#[]⟩, .bool false]) (results_mid2 rfl _ _ w.heap.size Zx _ _ _ rfl rfl rfl HRf.out Try.underlying67 rfl HI.out) rfl ?_
                exact ⟨(setIt f), [], false, by rw [HZx.out]; rfl, HRn.out, HB.out⟩
              | false =>
                have e45b : ((lo.toNat : Int) == 45) = false := toNat_ne (d := 45) (by simpa using ed)
                have HRg := hide (show R = (setF (b.drop 1).length (b.drop 1) (fun c => f c || decide (lo.toNat ≤ c.toNat ∧ c.toNat ≤ lo.toNat))).map (fun f => (setIt (if inv = true then fun c => !f c else f), rest)) by rw [HRb.out, Hst.out, hgd, el, ed, decide_eq_true (Nat.le_refl _)]; rfl)
                have hlts : ¬ (lo.toNat : Int) < (lo.toNat : Int) := by omega
                have hle : lo.toNat ≤ lo.toNat := Nat.le_refl _
                clear hgd el ed
                go_wp2_with fail
                refine (E1.out _).mono ?_
                rintro e wr ⟨rfl, rfl⟩
                go_wp2_with fail
                refine (E1.out _).mono ?_
                rintro e wr ⟨rfl, rfl⟩
                clear hlts
                have hwl : wrap64 (lo.toNat : Int) = (lo.toNat : Int) := IntWalk.wrap64_in _ ⟨by have := Hlt.out; omega, by have := Hlt.out; omega⟩
                go_upto_region 15 with fail
                go_loopw [13] (fun v wq => ∃ k : Nat, v = .int .i64 (k : Int) ∧ lo.toNat ≤ k ∧ k ≤ lo.toNat + 1 ∧ Row wq (w.heap.size + 1) 67 (itL (setIt fun c => f c || decide (lo.toNat ≤ c.toNat ∧ c.toNat < k))).toArray ∧ Row wq w.heap.size 67 Z.toArray ∧ Below w.heap.size w wq) (fun v _ => lo.toNat + 1 - (intOf v).toNat)
                case atStart => exact ⟨lo.toNat, congrArg (Value.int .i64) hwl, Nat.le_refl _, by omega, by rw [setIt_start]; exact H1.out, H0.out, Hb.out⟩
                case round =>
                  obtain ⟨k, rfl, hkl, hk, hq1, hq0, hqb⟩ := hrel
                  have Q1 := hide hq1
                  have Q0 := hide hq0
                  have Qb := hide hqb
                  have Hle := hide hle
                  clear hq1 hq0 hqb hle
                  have hlt0 := Hlt.out.1
                  have hlt1 := Hlt.out.2
                  by_cases hk2 : k ≤ lo.toNat
                  · have hk' : (k : Int) < 256 := by omega
                    have hk0 : (0 : Int) ≤ (k : Int) := by omega
                    have hk3 : (k : Int) ≤ (lo.toNat : Int) := by omega
                    have f0 : wr.frozen? ⟨w.heap.size + 1, 1 + k, none⟩ = false := Q1.out.frozen _
                    obtain ⟨v0, hv0⟩ : ∃ v0, wr.cell? ⟨w.heap.size + 1, 1 + k, none⟩ = some v0 := ⟨_, by
                      rw [Q1.out.cell, List.getElem?_toArray, itL_get, if_neg (by omega), if_pos (by omega)]⟩
                    have hwr : IntKind.i64.wrap ((k : Int) + 1) = (k : Int) + 1 := IntWalk.i64_in _ (by omega)
                    have HRw := hide (show Row (wr.setCell ⟨w.heap.size + 1, 1 + k, none⟩ (.bool true)) (w.heap.size + 1) 67 (itL (setIt fun c => f c || decide (lo.toNat ≤ c.toNat ∧ c.toNat < k + 1))).toArray by
                      have := Q1.out.set_ (1 + k) (.bool true)
                      rwa [show (itL (setIt fun c => f c || decide (lo.toNat ≤ c.toNat ∧ c.toNat < k))).toArray.setIfInBounds (1 + k) (.bool true) = (itL (setIt fun c => f c || decide (lo.toNat ≤ c.toNat ∧ c.toNat < k + 1))).toArray by rw [← setIt_one f lo.toNat k (by omega) hkl]; simp] at this)
                    clear hlt0 hlt1
                    go_wp2
                    go_roundw
                    case rel => exact ⟨k + 1, by go_num, by omega, by omega, HRw.out, Q0.out.off (by omega) _ _, Qb.out.setCell (p := ⟨w.heap.size + 1, 1 + k, none⟩) (Nat.le_succ _) _⟩
                    case measure => simp [intOf]; omega
                  · obtain rfl : k = lo.toNat + 1 := by omega
                    have hk3 : ¬ ((lo.toNat + 1 : Nat) : Int) ≤ (lo.toNat : Int) := by omega
                    rw [setIt_end] at Q1
                    have hN := HN.out
                    have Hk := hide hkl
                    clear hlt0 hlt1 hkl hk hk2
                    go_wp2
                    go_roundg (b.drop 1).length
                    case measure => have := Hbl.out; omega
                    case rel => exact ⟨b.drop 1, _, by rw [← Hdr.out], rfl, by have := Hbl.out; omega, HRg.out, Q0.out, Q1.out, Qb.out⟩
          · have q3 : (3 : Int) ≤ ((bsP b).size : Int) := by omega
            have p1 : 1 < (bsP b).size := by omega
            have p1' : (1 : Int) < ((bsP b).size : Int) := by omega
            have p2 : 2 < (bsP b).size := by omega
            have p2' : (2 : Int) < ((bsP b).size : Int) := by omega
            have g1 : (bsP b)[1]'p1 = 45 := by rw [bsP_get]; exact h45
            have g2 : (bsP b)[2]'p2 = hi := by rw [bsP_get]; exact h2
            have hgd := good_iff b lo hi true hlo hhi hrg
            have HN := hide (show (3 : Int) ≤ ((bsP b).size : Int) by omega)
            have Hst := hide hst
            have Hdr := hide hdr
            have Hbl := hide (And.intro hgl (And.intro hbl hdl))
            have Hlt := hide (And.intro hlt0 hlt1)
            generalize bsP b = sb at *
            clear hst hdr hgl hbl hdl hlt0 hlt1 hbz hpos hg0 hlo hhi hn hrg hbn h45 h2
            go_upto_region 12 with fail
            cases el : elB lo with
            | false =>
              have E1 := hide (elE lo false el)
              have HRn := hide (show R = none by rw [HRb.out, Hst.out, hgd, el]; rfl)
              clear hgd el
              go_wp2_with fail
              refine (E1.out _).mono ?_
              rintro e wr ⟨rfl, rfl⟩
              obtain ⟨Zx, hZx⟩ : ∃ Zx, itL (setIt f) = Zx := ⟨_, rfl⟩
              have hx : Zx.length = 259 := by rw [← hZx]; exact itL_len _
              have Hone := hide (show Zx.toArray.all (·.oneCell') = true by rw [← hZx]; exact itL_one _)
              have HZx := hide hZx
              obtain ⟨g1, t0, hbf, hr⟩ := put_pre (Zx := Zx) H0.out (by rw [← hZx]; exact H1.out) Hb.out HL.out hx
              have HI := hide (show (Try.prog.info? 67).map (·.size) = some Zx.length by rw [hx]; kernel_rfl)
              have HI2 := hide (show (Try.prog.info? 67).map (·.size) = some Zx.toArray.size by rw [List.size_toArray]; exact HI.out)
              have G1 := hide g1
              have T0 := hide t0
              have HB := hide hbf
              have HRf := hide hr
              clear g1 t0 hbf hr hx hZx
              go_wp2_with (first | (refine wpList_load_mid rfl 67 (.tmp 5) rfl (w.heap.size + 1) 0 rfl Zx _ G1.out Try.underlying67 rfl HI.out ?_) | (refine wpList_store_mid rfl 67 (.tmp 2) (.tmp 69) rfl w.heap.size 0 Zx.toArray rfl rfl T0.out HI2.out Hone.out ?_))
              refine bodyPost_ret (v := .tuple #[.agg Zx.toArray, .string ⟨#[]⟩, .bool false]) (results_mid2 rfl _ _ w.heap.size Zx _ _ _ rfl rfl rfl HRf.out Try.underlying67 rfl HI.out) rfl ?_
              exact ⟨(setIt f), [], false, by rw [HZx.out]; rfl, HRn.out, HB.out⟩
            | true =>
              have E1 := hide (elE lo true el)
              cases eh : elB hi with
              | false =>
                have E2 := hide (elE hi false eh)
                have HRn := hide (show R = none by rw [HRb.out, Hst.out, hgd, el, eh]; rfl)
                clear hgd el eh
                go_wp2_with fail
                refine (E1.out _).mono ?_
                rintro e wr ⟨rfl, rfl⟩
                go_wp2_with fail
                refine (E2.out _).mono ?_
                rintro e wr ⟨rfl, rfl⟩
                obtain ⟨Zx, hZx⟩ : ∃ Zx, itL (setIt f) = Zx := ⟨_, rfl⟩
                have hx : Zx.length = 259 := by rw [← hZx]; exact itL_len _
                have Hone := hide (show Zx.toArray.all (·.oneCell') = true by rw [← hZx]; exact itL_one _)
                have HZx := hide hZx
                obtain ⟨g1, t0, hbf, hr⟩ := put_pre (Zx := Zx) H0.out (by rw [← hZx]; exact H1.out) Hb.out HL.out hx
                have HI := hide (show (Try.prog.info? 67).map (·.size) = some Zx.length by rw [hx]; kernel_rfl)
                have HI2 := hide (show (Try.prog.info? 67).map (·.size) = some Zx.toArray.size by rw [List.size_toArray]; exact HI.out)
                have G1 := hide g1
                have T0 := hide t0
                have HB := hide hbf
                have HRf := hide hr
                clear g1 t0 hbf hr hx hZx
                go_wp2_with (first | (refine wpList_load_mid rfl 67 (.tmp 5) rfl (w.heap.size + 1) 0 rfl Zx _ G1.out Try.underlying67 rfl HI.out ?_) | (refine wpList_store_mid rfl 67 (.tmp 2) (.tmp 69) rfl w.heap.size 0 Zx.toArray rfl rfl T0.out HI2.out Hone.out ?_))
                refine bodyPost_ret (v := .tuple #[.agg Zx.toArray, .string ⟨#[]⟩, .bool false]) (results_mid2 rfl _ _ w.heap.size Zx _ _ _ rfl rfl rfl HRf.out Try.underlying67 rfl HI.out) rfl ?_
                exact ⟨(setIt f), [], false, by rw [HZx.out]; rfl, HRn.out, HB.out⟩
              | true =>
                have E2 := hide (elE hi true eh)
                by_cases hle : lo.toNat ≤ hi.toNat
                · have HRg := hide (show R = (setF (b.drop 3).length (b.drop 3) (fun c => f c || decide (lo.toNat ≤ c.toNat ∧ c.toNat ≤ hi.toNat))).map (fun f => (setIt (if inv = true then fun c => !f c else f), rest)) by rw [HRb.out, Hst.out, hgd, el, eh, decide_eq_true hle]; rfl)
                  have hlts : ¬ (hi.toNat : Int) < (lo.toNat : Int) := by omega
                  clear hgd el eh
                  go_wp2_with fail
                  refine (E1.out _).mono ?_
                  rintro e wr ⟨rfl, rfl⟩
                  go_wp2_with fail
                  refine (E2.out _).mono ?_
                  rintro e wr ⟨rfl, rfl⟩
                  clear hlts
                  have hwl : wrap64 (lo.toNat : Int) = (lo.toNat : Int) := IntWalk.wrap64_in _ ⟨by have := Hlt.out; omega, by have := Hlt.out; omega⟩
                  have hwh : wrap64 (hi.toNat : Int) = (hi.toNat : Int) := IntWalk.wrap64_in _ ⟨by have := Hlt.out; omega, by have := Hlt.out; omega⟩
                  go_upto_region 15 with fail
                  go_loopw [13] (fun v wq => ∃ k : Nat, v = .int .i64 (k : Int) ∧ lo.toNat ≤ k ∧ k ≤ hi.toNat + 1 ∧ Row wq (w.heap.size + 1) 67 (itL (setIt fun c => f c || decide (lo.toNat ≤ c.toNat ∧ c.toNat < k))).toArray ∧ Row wq w.heap.size 67 Z.toArray ∧ Below w.heap.size w wq) (fun v _ => hi.toNat + 1 - (intOf v).toNat)
                  case atStart => exact ⟨lo.toNat, congrArg (Value.int .i64) hwl, Nat.le_refl _, by omega, by rw [setIt_start]; exact H1.out, H0.out, Hb.out⟩
                  case round =>
                    obtain ⟨k, rfl, hkl, hk, hq1, hq0, hqb⟩ := hrel
                    have Q1 := hide hq1
                    have Q0 := hide hq0
                    have Qb := hide hqb
                    have Hle := hide hle
                    clear hq1 hq0 hqb hle
                    have hlt0 := Hlt.out.1
                    have hlt1 := Hlt.out.2
                    by_cases hk2 : k ≤ hi.toNat
                    · have hk' : (k : Int) < 256 := by omega
                      have hk0 : (0 : Int) ≤ (k : Int) := by omega
                      have hk3 : (k : Int) ≤ (hi.toNat : Int) := by omega
                      have f0 : wr.frozen? ⟨w.heap.size + 1, 1 + k, none⟩ = false := Q1.out.frozen _
                      obtain ⟨v0, hv0⟩ : ∃ v0, wr.cell? ⟨w.heap.size + 1, 1 + k, none⟩ = some v0 := ⟨_, by
                        rw [Q1.out.cell, List.getElem?_toArray, itL_get, if_neg (by omega), if_pos (by omega)]⟩
                      have hwr : IntKind.i64.wrap ((k : Int) + 1) = (k : Int) + 1 := IntWalk.i64_in _ (by omega)
                      have HRw := hide (show Row (wr.setCell ⟨w.heap.size + 1, 1 + k, none⟩ (.bool true)) (w.heap.size + 1) 67 (itL (setIt fun c => f c || decide (lo.toNat ≤ c.toNat ∧ c.toNat < k + 1))).toArray by
                        have := Q1.out.set_ (1 + k) (.bool true)
                        rwa [show (itL (setIt fun c => f c || decide (lo.toNat ≤ c.toNat ∧ c.toNat < k))).toArray.setIfInBounds (1 + k) (.bool true) = (itL (setIt fun c => f c || decide (lo.toNat ≤ c.toNat ∧ c.toNat < k + 1))).toArray by rw [← setIt_one f lo.toNat k (by omega) hkl]; simp] at this)
                      clear hlt0 hlt1
                      go_wp2
                      go_roundw
                      case rel => exact ⟨k + 1, by go_num, by omega, by omega, HRw.out, Q0.out.off (by omega) _ _, Qb.out.setCell (p := ⟨w.heap.size + 1, 1 + k, none⟩) (Nat.le_succ _) _⟩
                      case measure => simp [intOf]; omega
                    · obtain rfl : k = hi.toNat + 1 := by omega
                      have hk3 : ¬ ((hi.toNat + 1 : Nat) : Int) ≤ (hi.toNat : Int) := by omega
                      rw [setIt_end] at Q1
                      have hN := HN.out
                      have Hk := hide hkl
                      clear hlt0 hlt1 hkl hk hk2
                      go_wp2
                      go_roundg (b.drop 3).length
                      case measure => have := Hbl.out; omega
                      case rel => exact ⟨b.drop 3, _, by rw [← Hdr.out], rfl, by have := Hbl.out; omega, HRg.out, Q0.out, Q1.out, Qb.out⟩
                · have HRn := hide (show R = none by rw [HRb.out, Hst.out, hgd, el, eh, decide_eq_false hle]; rfl)
                  have hlts : (hi.toNat : Int) < (lo.toNat : Int) := by omega
                  clear hgd el eh hle
                  go_wp2_with fail
                  refine (E1.out _).mono ?_
                  rintro e wr ⟨rfl, rfl⟩
                  go_wp2_with fail
                  refine (E2.out _).mono ?_
                  rintro e wr ⟨rfl, rfl⟩
                  obtain ⟨Zx, hZx⟩ : ∃ Zx, itL (setIt f) = Zx := ⟨_, rfl⟩
                  have hx : Zx.length = 259 := by rw [← hZx]; exact itL_len _
                  have Hone := hide (show Zx.toArray.all (·.oneCell') = true by rw [← hZx]; exact itL_one _)
                  have HZx := hide hZx
                  obtain ⟨g1, t0, hbf, hr⟩ := put_pre (Zx := Zx) H0.out (by rw [← hZx]; exact H1.out) Hb.out HL.out hx
                  have HI := hide (show (Try.prog.info? 67).map (·.size) = some Zx.length by rw [hx]; kernel_rfl)
                  have HI2 := hide (show (Try.prog.info? 67).map (·.size) = some Zx.toArray.size by rw [List.size_toArray]; exact HI.out)
                  have G1 := hide g1
                  have T0 := hide t0
                  have HB := hide hbf
                  have HRf := hide hr
                  clear g1 t0 hbf hr hx hZx
                  go_wp2_with (first | (refine wpList_load_mid rfl 67 (.tmp 5) rfl (w.heap.size + 1) 0 rfl Zx _ G1.out Try.underlying67 rfl HI.out ?_) | (refine wpList_store_mid rfl 67 (.tmp 2) (.tmp 69) rfl w.heap.size 0 Zx.toArray rfl rfl T0.out HI2.out Hone.out ?_))
                  refine bodyPost_ret (v := .tuple #[.agg Zx.toArray, .string ⟨#[]⟩, .bool false]) (results_mid2 rfl _ _ w.heap.size Zx _ _ _ rfl rfl rfl HRf.out Try.underlying67 rfl HI.out) rfl ?_
                  exact ⟨(setIt f), [], false, by rw [HZx.out]; rfl, HRn.out, HB.out⟩

end Go.Proofs.Ytcjehiecgdmidaa
