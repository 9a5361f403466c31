/- MgC: the texts PtJ PtG PtH PtK PtL PtM Card Gl Dec NmA NmV in one. -/
import Derived.Test.YtpfiofgchkfkhaaMgB
import Derived.Laws.OwnMore
import Derived.Deep.AppendLies
import Derived.HandedShaped
import Derived.Stop.LaidErr
import Derived.Test.YtpfiofgchkfkhaaProg
import Derived.Lib.LaidTab
import Derived.Lib.ItoaNum
import Derived.Shelf.Vars
import Derived.MakeChecks
import Derived.Below
import Derived.Test.YtpfiofgchkfkhaaMgA
import Derived.Test.YtpfiofgchkfkhaaShelfD
import Derived.Lib.QuietBelow
import Derived.Lib.ItoaLen
import Derived.IntWalk
import Derived.Deep.QuietTactic
import Derived.BigQuiet
import Derived.Lib.IndexAny
/- Contract of pattern's set. -/
set_option linter.unusedVariables false
set_option linter.unusedSimpArgs false
namespace Go.Proofs.Ytpfiofgchkfkhaa
open Go.RowKit Go.Shelf

/-- the cell of MaxLen holds a number -/
def Gm (w : World) : Prop := ∃ m, w.cell? ⟨0, 0, none⟩ = some (.int .i64 m)
theorem Gm.lt {w : World} (h : Gm w) : 0 < w.heap.size := by
  obtain ⟨m, hm⟩ := h
  exact World.block_lt_of_cell? w _ hm
theorem Gm.below {w w' : World} (h : Gm w) (hb : Below w.heap.size w w') : Gm w' := by
  obtain ⟨m, hm⟩ := h
  exact ⟨m, (World.cell?_of_block (hb.block _ (World.block_lt_of_cell? w _ hm))).trans hm⟩
theorem Gm.low {w w' : World} (h : Gm w) {B : Nat} (hB : 0 < B) (hb : Below B w w') : Gm w' := by
  obtain ⟨m, hm⟩ := h
  exact ⟨m, (World.cell?_of_block (hb.block _ hB)).trans hm⟩
/-- what set and next hand back -/
def ItPost (R : Option (It × List UInt8)) (B : Nat) (w : World) (e : Ending) (w' : World) : Prop :=
  ∃ (x : It) (t : List UInt8) (ok : Bool), e = .returned (.tuple #[.agg (itL x).toArray, .string (bsP t), .bool ok]) ∧ R = (if ok then some (x, t) else none) ∧ Below B w w'
theorem itL_one (x : It) : (itL x).toArray.all (·.oneCell') = true := by simp [itL, Value.oneCell']

theorem put_pre {w W : World} {B : Nat} {Z Zx : List Value} {t : TypeId} (h0 : Row W B t Z.toArray) (h1 : Row W (B + 1) t Zx.toArray) (hb : Below B w W) (hz : Z.length = 259) (hx : Zx.length = 259) :
    W.rangeAt (B + 1) 0 Zx ∧ W.there B 0 Zx.toArray.size ∧ Below B w (W.setCells B 0 Zx) ∧ (W.setCells B 0 Zx).rangeAt B 0 Zx := by
  have T0 : W.there B 0 Zx.length := fun j hj => by
    rw [Nat.zero_add]
    refine ⟨?_, h0.frozen j⟩
    rw [h0.cell j]
    simp; omega
  exact ⟨fun j v hv => by rw [Nat.zero_add, h1.cell j]; simpa using hv, by simpa using T0, hb.trans (Below.setCells_ge B B (Nat.le_refl _) Zx 0 W), World.rangeAt_setCells_same W B 0 Zx T0⟩
theorem bodyD (b : List UInt8) (hb : b ≠ []) : ∃ (lo hi : UInt8) (n : Nat), b.headD 0 = lo ∧ hiB b = hi ∧ stepB b = n ∧ (∃ h : 0 < b.length, b[0] = lo) ∧
    ((b.length < 3 ∧ n = 1 ∧ hi = lo ∧ rngB b = false) ∨ (∃ h : 3 ≤ b.length, b[1] ≠ 45 ∧ n = 1 ∧ hi = lo ∧ rngB b = false) ∨ (∃ h : 3 ≤ b.length, b[1] = 45 ∧ b[2] = hi ∧ n = 3 ∧ rngB b = true)) := by
  obtain ⟨c, t, rfl⟩ : ∃ c t, b = c :: t := by cases b with | nil => exact absurd rfl hb | cons c t => exact ⟨c, t, rfl⟩
  refine ⟨c, hiB (c :: t), stepB (c :: t), rfl, rfl, rfl, ⟨by simp, rfl⟩, ?_⟩
  by_cases h3 : 3 ≤ (c :: t).length
  · have e1 : (c :: t)[1]? = some ((c :: t)[1]'(by omega)) := List.getElem?_eq_getElem (by omega)
    have e2 : (c :: t)[2]? = some ((c :: t)[2]'(by omega)) := List.getElem?_eq_getElem (by omega)
    by_cases h : (c :: t)[1]'(by omega) = 45
    · have hr : rngB (c :: t) = true := by unfold rngB; rw [e1, h, decide_eq_true h3]; rfl
      refine .inr (.inr ⟨h3, h, ?_, by unfold stepB; rw [if_pos hr], hr⟩)
      unfold hiB; rw [if_pos hr, List.getD_eq_getElem?_getD, e2]; rfl
    · have hr : rngB (c :: t) = false := by unfold rngB; rw [e1, decide_eq_false (fun e => h (Option.some.inj e)), Bool.and_false]
      exact .inr (.inl ⟨h3, h, by unfold stepB; rw [if_neg (by rw [hr]; decide)], by unfold hiB; rw [if_neg (by rw [hr]; decide)]; rfl, hr⟩)
  · have hr : rngB (c :: t) = false := by unfold rngB; rw [decide_eq_false h3, Bool.false_and]
    exact .inl ⟨by omega, by unfold stepB; rw [if_neg (by rw [hr]; decide)], by unfold hiB; rw [if_neg (by rw [hr]; decide)]; rfl, hr⟩
theorem good_iff (b : List UInt8) (lo hi : UInt8) (q : Bool) (h1 : b.headD 0 = lo) (h2 : hiB b = hi) (h3 : rngB b = q) : goodB b = (elB lo && elB hi && decide (lo.toNat ≤ hi.toNat) && !(!q && lo == 45)) := by
  unfold goodB; rw [h1, h2, h3]
theorem toNat_ne {c d : UInt8} (h : c ≠ d) : ((c.toNat : Int) == (d.toNat : Int)) = false := beq_eq_false_iff_ne.2 fun e => h (UInt8.toNat_inj.1 (by omega))
theorem setIt_start (f : UInt8 → Bool) (a : Nat) : (setIt fun c => f c || decide (a ≤ c.toNat ∧ c.toNat < a)) = setIt f := by
  unfold setIt; congr 1; funext c
  rw [decide_eq_false (by omega), Bool.or_false]
theorem setIt_end (f : UInt8 → Bool) (a b : Nat) : (setIt fun c => f c || decide (a ≤ c.toNat ∧ c.toNat < b + 1)) = setIt fun c => f c || decide (a ≤ c.toNat ∧ c.toNat ≤ b) := by
  unfold setIt; congr 1; funext c
  congr 1
  rw [decide_eq_decide]; omega
theorem elE (c : UInt8) (q : Bool) (h : elB c = q) : ∀ W : World, Calls Try.prog 102 #[.int .u8 (c.toNat : Int)] W fun e w' => e = .returned (.bool q) ∧ w' = W := fun W => h ▸ element_any c W

set_option maxRecDepth 100000 in
set_option maxHeartbeats 8000000 in
theorem set_any (l : List UInt8) (w : World) (hl : l.length ≤ 1000) (hg : Gm w) :
    Calls Try.prog 94 #[.string (bsP l)] w (ItPost (setV l) w.heap.size w) := by
  have hz := zero_it
  have G := hide hg
  have CP : ∀ W : World, Calls Try.prog 101 #[.string (bsP l), .string ⟨#[33]⟩] W fun e w' => e = .returned (.tuple #[.string (bsP (Lib.trimPrefix l [33])), .bool (Lib.hasPrefix l [33])]) ∧ w' = W := fun W => Try.strings_CutPrefix (bsP l) ⟨#[33]⟩ W
  have hl1 : (Lib.trimPrefix l [33]).length ≤ 1000 := by unfold Lib.trimPrefix; split; rw [List.length_drop]; omega; omega
  have hR := setV_eq l
  generalize setV l = R at *
  generalize Lib.trimPrefix l [33] = l1 at *
  generalize Lib.hasPrefix l [33] = inv at *
  have CU : ∀ W : World, Gm W → Calls Try.prog 80 #[.string (bsP l1), .string ⟨#[93]⟩] W fun e w' => e = .returned (.tuple #[.string (bsP (Lib.cut l1 [93]).1), .string (bsP (Lib.cut l1 [93]).2.1), .bool (Lib.cut l1 [93]).2.2]) ∧ ∃ n, w' = W.drewN n := fun W hW => by
    obtain ⟨m, hm⟩ := hW
    exact Try.strings_Cut (bsP l1) ⟨#[93]⟩ m W (by rw [bsP_size]; omega) hm
  have hcl : (Lib.cut l1 [93]).1.length ≤ 1000 := by
    unfold Lib.cut; split
    · simp only [List.length_take]; omega
    · exact hl1
  generalize Lib.cut l1 [93] = cc at *
  obtain ⟨body, rest, ok⟩ := cc
  simp only at CU hR hcl
  obtain ⟨Z, hZ⟩ : ∃ Z, itL noIt = Z := ⟨_, rfl⟩
  rw [hZ] at hz
  have HZ := hide hZ
  have HL := hide (show Z.length = 259 by rw [← hZ]; exact itL_len _)
  have HCP := hide CP
  have HCU := hide CU
  have HR := hide hR
  generalize bsP l = s0 at *
  clear hZ CP CU hR hg hl
  go_enter Try.func94, Try.ntmps94
  go_upto_region 2 with fail
  obtain ⟨W2, hW2⟩ : ∃ W2, (w.alloc (.cells Z.toArray 119)).alloc (.cells Z.toArray 119) = W2 := ⟨_, rfl⟩
  have hB : Below w.heap.size w W2 := by
    rw [← hW2]
    exact ((Below.refl _ _).alloc (Nat.le_refl _) _).alloc (by rw [World.size_alloc]; omega) _
  have r0 : Row W2 w.heap.size 119 Z.toArray := by rw [← hW2]; exact (Row.new _ _ _).alloc _
  have r1 : Row W2 (w.heap.size + 1) 119 Z.toArray := by
    rw [← hW2]
    have := Row.new (w.alloc (.cells Z.toArray 119)) 119 Z.toArray
    rwa [World.size_alloc] at this
  have HW := hide (And.intro hB (And.intro r0 r1))
  rw [hW2]
  clear hW2 hB r0 r1 hz
  go_wp2_with fail
  refine (HCP.out _).mono ?_
  rintro e wx ⟨rfl, rfl⟩
  go_wp2_with fail
  refine (HCU.out _ (G.out.below HW.out.1)).mono ?_
  rintro e wx ⟨rfl, k, rfl⟩
  obtain ⟨W3, hW3⟩ : ∃ W3, wx.drewN k = W3 := ⟨_, rfl⟩
  have HW3 := hide (show Below w.heap.size w W3 ∧ Row W3 w.heap.size 119 Z.toArray ∧ Row W3 (w.heap.size + 1) 119 Z.toArray by
    rw [← hW3]; exact ⟨Below_drewN HW.out.1 _, HW.out.2.1.drewN k, HW.out.2.2.drewN k⟩)
  rw [hW3]
  clear hW3 HW
  cases ok with
  | false =>
    have hRn : R = none := by rw [HR.out, if_pos (.inl rfl)]
    have HRn := hide hRn
    clear hRn
    go_upto_region 5 with fail
    obtain ⟨Zx, hZx⟩ : ∃ Zx, itL noIt = Zx := ⟨_, rfl⟩
    have hx : Zx.length = 259 := by rw [← hZx]; exact itL_len _
    have Hone := hide (show Zx.toArray.all (·.oneCell') = true by rw [← hZx]; exact itL_one _)
    have HZx := hide hZx
    obtain ⟨g1, t0, hbf, hr⟩ := put_pre (Zx := Zx) HW3.out.2.1 (by rw [← hZx]; exact (by rw [HZ.out]; exact HW3.out.2.2)) HW3.out.1 HL.out hx
    have HI := hide (show (Try.prog.info? 119).map (·.size) = some Zx.length by rw [hx]; kernel_rfl)
    have HI2 := hide (show (Try.prog.info? 119).map (·.size) = some Zx.toArray.size by rw [List.size_toArray]; exact HI.out)
    have G1 := hide g1
    have T0 := hide t0
    have HB := hide hbf
    have HRf := hide hr
    clear g1 t0 hbf hr hx hZx
    go_wp2_with (first | (refine wpList_load_mid rfl 119 (.tmp 5) rfl (w.heap.size + 1) 0 rfl Zx _ G1.out Try.underlying119 rfl HI.out ?_) | (refine wpList_store_mid rfl 119 (.tmp 2) (.tmp 32) rfl w.heap.size 0 Zx.toArray rfl rfl T0.out HI2.out Hone.out ?_))
    refine bodyPost_ret (v := .tuple #[.agg Zx.toArray, .string ⟨#[]⟩, .bool false]) (results_mid2 rfl _ _ w.heap.size Zx _ _ _ rfl rfl rfl HRf.out Try.underlying119 rfl HI.out) rfl ?_
    exact ⟨noIt, [], false, by rw [HZx.out]; rfl, HRn.out, HB.out⟩
  | true =>
    by_cases hb0 : body = []
    · have hRn : R = none := by rw [HR.out, if_pos (.inr hb0)]
      have HRn := hide hRn
      have hno := bsP_no
      subst hb0
      clear hRn
      go_upto_region 5 with fail
      obtain ⟨Zx, hZx⟩ : ∃ Zx, itL noIt = Zx := ⟨_, rfl⟩
      have hx : Zx.length = 259 := by rw [← hZx]; exact itL_len _
      have Hone := hide (show Zx.toArray.all (·.oneCell') = true by rw [← hZx]; exact itL_one _)
      have HZx := hide hZx
      obtain ⟨g1, t0, hbf, hr⟩ := put_pre (Zx := Zx) HW3.out.2.1 (by rw [← hZx]; exact (by rw [HZ.out]; exact HW3.out.2.2)) HW3.out.1 HL.out hx
      have HI := hide (show (Try.prog.info? 119).map (·.size) = some Zx.length by rw [hx]; kernel_rfl)
      have HI2 := hide (show (Try.prog.info? 119).map (·.size) = some Zx.toArray.size by rw [List.size_toArray]; exact HI.out)
      have G1 := hide g1
      have T0 := hide t0
      have HB := hide hbf
      have HRf := hide hr
      clear g1 t0 hbf hr hx hZx
      go_wp2_with (first | (refine wpList_load_mid rfl 119 (.tmp 5) rfl (w.heap.size + 1) 0 rfl Zx _ G1.out Try.underlying119 rfl HI.out ?_) | (refine wpList_store_mid rfl 119 (.tmp 2) (.tmp 32) rfl w.heap.size 0 Zx.toArray rfl rfl T0.out HI2.out Hone.out ?_))
      refine bodyPost_ret (v := .tuple #[.agg Zx.toArray, .string ⟨#[]⟩, .bool false]) (results_mid2 rfl _ _ w.heap.size Zx _ _ _ rfl rfl rfl HRf.out Try.underlying119 rfl HI.out) rfl ?_
      exact ⟨noIt, [], false, by rw [HZx.out]; rfl, HRn.out, HB.out⟩
    · have hne := bsP_ne hb0
      have hR1 : R = (setF body.length body fun _ => false).map fun f => (setIt (if inv = true then fun c => !f c else f), rest) := by
        rw [HR.out, if_neg (by rintro (h | h); cases h; exact hb0 h)]
      have HR1 := hide hR1
      clear hR1
      go_upto_region 6 with fail
      clear hne
      go_loopg [7] body.length (fun g v7 wr => ∃ (b : List UInt8) (f : UInt8 → Bool), v7 = .string (bsP b) ∧ b.length = g ∧ b.length ≤ 1000 ∧ R = (setF b.length b f).map (fun f => (setIt (if inv = true then fun c => !f c else f), rest)) ∧ Row wr w.heap.size 119 Z.toArray ∧ Row wr (w.heap.size + 1) 119 (itL (setIt f)).toArray ∧ Below w.heap.size w wr)
      case atStart => exact ⟨body, fun _ => false, rfl, rfl, hcl, HR1.out, HW3.out.2.1, by rw [setIt_no, HZ.out]; exact HW3.out.2.2, HW3.out.1⟩
      case round =>
        obtain ⟨b, f, rfl, hgl, hbl, hRb, hr0, hr1, hb⟩ := hrel
        have H0 := hide hr0
        have H1 := hide hr1
        have Hb := hide hb
        have HRb := hide hRb
        clear hr0 hr1 hb hRb
        by_cases hbn : b = []
        · have hRs : R = some (setIt (if inv = true then fun c => !f c else f), rest) := by rw [HRb.out, hbn]; rfl
          have HRs := hide hRs
          have hno := bsP_no
          subst hbn
          clear hRs
          cases inv with
          | false =>
            go_upto_region 25 with fail
            obtain ⟨Zx, hZx⟩ : ∃ Zx, itL (setIt f) = Zx := ⟨_, rfl⟩
            have hx : Zx.length = 259 := by rw [← hZx]; exact itL_len _
            have Hone := hide (show Zx.toArray.all (·.oneCell') = true by rw [← hZx]; exact itL_one _)
            have HZx := hide hZx
            obtain ⟨g1, t0, hbf, hr⟩ := put_pre (Zx := Zx) H0.out (by rw [← hZx]; exact H1.out) Hb.out HL.out hx
            have HI := hide (show (Try.prog.info? 119).map (·.size) = some Zx.length by rw [hx]; kernel_rfl)
            have HI2 := hide (show (Try.prog.info? 119).map (·.size) = some Zx.toArray.size by rw [List.size_toArray]; exact HI.out)
            have G1 := hide g1
            have T0 := hide t0
            have HB := hide hbf
            have HRf := hide hr
            clear g1 t0 hbf hr hx hZx
            go_wp2_with (first | (refine wpList_load_mid rfl 119 (.tmp 5) rfl (w.heap.size + 1) 0 rfl Zx _ G1.out Try.underlying119 rfl HI.out ?_) | (refine wpList_store_mid rfl 119 (.tmp 2) (.tmp 97) rfl w.heap.size 0 Zx.toArray rfl rfl T0.out HI2.out Hone.out ?_))
            refine bodyPost_ret (v := .tuple #[.agg Zx.toArray, .string (bsP rest), .bool true]) (results_mid2 rfl _ _ w.heap.size Zx _ _ _ rfl rfl rfl HRf.out Try.underlying119 rfl HI.out) rfl ?_
            exact ⟨(setIt f), rest, true, by rw [HZx.out], HRs.out, HB.out⟩
          | true =>
            go_upto_region 21 with fail
            clear hno
            go_loopw [85] (fun v wq => ∃ k : Nat, v = .int .i64 (k : Int) ∧ k ≤ 256 ∧ Row wq (w.heap.size + 1) 119 (itL (setIt (turnF f k))).toArray ∧ Row wq w.heap.size 119 Z.toArray ∧ Below w.heap.size w wq) (fun v _ => 256 - (intOf v).toNat)
            case atStart => exact ⟨0, rfl, by omega, by rw [turnF_0]; exact H1.out, H0.out, Hb.out⟩
            case round =>
              obtain ⟨k, rfl, hk, hq1, hq0, hqb⟩ := hrel
              have Q1 := hide hq1
              have Q0 := hide hq0
              have Qb := hide hqb
              clear hq1 hq0 hqb
              by_cases hk2 : k < 256
              · have hk' : (k : Int) < 256 := by omega
                have hk0 : (0 : Int) ≤ (k : Int) := by omega
                have f0 : wr.frozen? ⟨w.heap.size + 1, 1 + k, none⟩ = false := Q1.out.frozen _
                have c0 : wr.cell? ⟨w.heap.size + 1, 1 + k, none⟩ = some (.bool (f (UInt8.ofNat k))) := by
                  rw [Q1.out.cell, List.getElem?_toArray]; exact turn_get f k hk2
                have hwr : IntKind.i64.wrap ((k : Int) + 1) = (k : Int) + 1 := IntWalk.i64_in _ (by omega)
                have HRw := hide (show Row (wr.setCell ⟨w.heap.size + 1, 1 + k, none⟩ (.bool (!f (UInt8.ofNat k)))) (w.heap.size + 1) 119 (itL (setIt (turnF f (k + 1)))).toArray by
                  have := Q1.out.set_ (1 + k) (.bool (!f (UInt8.ofNat k)))
                  rwa [show (itL (setIt (turnF f k))).toArray.setIfInBounds (1 + k) (.bool (!f (UInt8.ofNat k))) = (itL (setIt (turnF f (k + 1)))).toArray by rw [← turn_one f k hk2]; simp] at this)
                generalize f (UInt8.ofNat k) = fv at *
                go_wp2
                go_roundw
                case rel => exact ⟨k + 1, by go_num, by omega, HRw.out, Q0.out.off (by omega) _ _, Qb.out.setCell (p := ⟨w.heap.size + 1, 1 + k, none⟩) (Nat.le_succ _) _⟩
                case measure => simp [intOf]; omega
              · obtain rfl : k = 256 := by omega
                have hk' : ¬ ((256 : Nat) : Int) < 256 := by omega
                rw [turnF_all] at Q1
                go_upto_region 25 with fail
                obtain ⟨Zx, hZx⟩ : ∃ Zx, itL (setIt fun c => !f c) = Zx := ⟨_, rfl⟩
                have hx : Zx.length = 259 := by rw [← hZx]; exact itL_len _
                have Hone := hide (show Zx.toArray.all (·.oneCell') = true by rw [← hZx]; exact itL_one _)
                have HZx := hide hZx
                obtain ⟨g1, t0, hbf, hr⟩ := put_pre (Zx := Zx) Q0.out (by rw [← hZx]; exact Q1.out) Qb.out HL.out hx
                have HI := hide (show (Try.prog.info? 119).map (·.size) = some Zx.length by rw [hx]; kernel_rfl)
                have HI2 := hide (show (Try.prog.info? 119).map (·.size) = some Zx.toArray.size by rw [List.size_toArray]; exact HI.out)
                have G1 := hide g1
                have T0 := hide t0
                have HB := hide hbf
                have HRf := hide hr
                clear g1 t0 hbf hr hx hZx
                go_wp2_with (first | (refine wpList_load_mid rfl 119 (.tmp 5) rfl (w.heap.size + 1) 0 rfl Zx _ G1.out Try.underlying119 rfl HI.out ?_) | (refine wpList_store_mid rfl 119 (.tmp 2) (.tmp 97) rfl w.heap.size 0 Zx.toArray rfl rfl T0.out HI2.out Hone.out ?_))
                refine bodyPost_ret (v := .tuple #[.agg Zx.toArray, .string (bsP rest), .bool true]) (results_mid2 rfl _ _ w.heap.size Zx _ _ _ rfl rfl rfl HRf.out Try.underlying119 rfl HI.out) rfl ?_
                exact ⟨(setIt fun c => !f c), rest, true, by rw [HZx.out], HRs.out, HB.out⟩
        · have hne := bsP_ne hbn
          have hst := setF_step b f hbn
          obtain ⟨lo, hi, n, hlo, hhi, hn, ⟨hpos, hg0⟩, hways⟩ := bodyD b hbn
          rw [hlo, hhi, hn] at hst
          have hbz := bsP_size b
          have p0 : 0 < (bsP b).size := by rw [hbz]; exact hpos
          have p0' : (0 : Int) < ((bsP b).size : Int) := by omega
          have g0 : (bsP b)[0]'p0 = lo := by rw [bsP_get]; exact hg0
          have hdr := bsP_drop b n
          have hlt0 := lo.toNat_lt
          have hlt1 := hi.toNat_lt
          have hdl : (b.drop n).length < b.length := by
            rw [List.length_drop]
            rcases hways with h | ⟨h3, h⟩ | ⟨h3, h⟩ <;> omega
          rcases hways with ⟨h3, rfl, hhl, hrg⟩ | ⟨h3, h45, rfl, hhl, hrg⟩ | ⟨h3, h45, h2, rfl, hrg⟩
          · obtain rfl : lo = hi := hhl.symm
            have q3 : ¬ (3 : Int) ≤ ((bsP b).size : Int) := by omega
            have hgd := good_iff b lo lo false hlo hhi hrg
            have HN := hide (show (1 : Int) ≤ ((bsP b).size : Int) by omega)
            have Hst := hide hst
            have Hdr := hide hdr
            have Hbl := hide (And.intro hgl (And.intro hbl hdl))
            have Hlt := hide (And.intro hlt0 hlt1)
            generalize bsP b = sb at *
            clear hst hdr hgl hbl hdl hlt0 hlt1 hbz hpos hg0 hlo hhi hn hrg h3 hbn
            go_upto_region 12 with fail
            cases el : elB lo with
            | false =>
              have E1 := hide (elE lo false el)
              have HRn := hide (show R = none by rw [HRb.out, Hst.out, hgd, el]; rfl)
              clear hgd el
              go_wp2_with fail
              refine (E1.out _).mono ?_
              rintro e wr ⟨rfl, rfl⟩
              obtain ⟨Zx, hZx⟩ : ∃ Zx, itL (setIt f) = Zx := ⟨_, rfl⟩
              have hx : Zx.length = 259 := by rw [← hZx]; exact itL_len _
              have Hone := hide (show Zx.toArray.all (·.oneCell') = true by rw [← hZx]; exact itL_one _)
              have HZx := hide hZx
              obtain ⟨g1, t0, hbf, hr⟩ := put_pre (Zx := Zx) H0.out (by rw [← hZx]; exact H1.out) Hb.out HL.out hx
              have HI := hide (show (Try.prog.info? 119).map (·.size) = some Zx.length by rw [hx]; kernel_rfl)
              have HI2 := hide (show (Try.prog.info? 119).map (·.size) = some Zx.toArray.size by rw [List.size_toArray]; exact HI.out)
              have G1 := hide g1
              have T0 := hide t0
              have HB := hide hbf
              have HRf := hide hr
              clear g1 t0 hbf hr hx hZx
              go_wp2_with (first | (refine wpList_load_mid rfl 119 (.tmp 5) rfl (w.heap.size + 1) 0 rfl Zx _ G1.out Try.underlying119 rfl HI.out ?_) | (refine wpList_store_mid rfl 119 (.tmp 2) (.tmp 69) rfl w.heap.size 0 Zx.toArray rfl rfl T0.out HI2.out Hone.out ?_))
              refine bodyPost_ret (v := .tuple #[.agg Zx.toArray, .string ⟨#[]⟩, .bool false]) (results_mid2 rfl _ _ w.heap.size Zx _ _ _ rfl rfl rfl HRf.out Try.underlying119 rfl HI.out) rfl ?_
              exact ⟨(setIt f), [], false, by rw [HZx.out]; rfl, HRn.out, HB.out⟩
            | true =>
              have E1 := hide (elE lo true el)
              cases ed : (lo == 45) with
              | true =>
                have e45b : ((lo.toNat : Int) == 45) = true := by rw [beq_iff_eq] at ed; rw [ed]; rfl
                have HRn := hide (show R = none by rw [HRb.out, Hst.out, hgd, el, ed, decide_eq_true (Nat.le_refl _)]; rfl)
                have hlts : ¬ (lo.toNat : Int) < (lo.toNat : Int) := by omega
                clear hgd el ed
                go_wp2_with fail
                refine (E1.out _).mono ?_
                rintro e wr ⟨rfl, rfl⟩
                go_wp2_with fail
                refine (E1.out _).mono ?_
                rintro e wr ⟨rfl, rfl⟩
                obtain ⟨Zx, hZx⟩ : ∃ Zx, itL (setIt f) = Zx := ⟨_, rfl⟩
                have hx : Zx.length = 259 := by rw [← hZx]; exact itL_len _
                have Hone := hide (show Zx.toArray.all (·.oneCell') = true by rw [← hZx]; exact itL_one _)
                have HZx := hide hZx
                obtain ⟨g1, t0, hbf, hr⟩ := put_pre (Zx := Zx) H0.out (by rw [← hZx]; exact H1.out) Hb.out HL.out hx
                have HI := hide (show (Try.prog.info? 119).map (·.size) = some Zx.length by rw [hx]; kernel_rfl)
                have HI2 := hide (show (Try.prog.info? 119).map (·.size) = some Zx.toArray.size by rw [List.size_toArray]; exact HI.out)
                have G1 := hide g1
                have T0 := hide t0
                have HB := hide hbf
                have HRf := hide hr
                clear g1 t0 hbf hr hx hZx
                go_wp2_with (first | (refine wpList_load_mid rfl 119 (.tmp 5) rfl (w.heap.size + 1) 0 rfl Zx _ G1.out Try.underlying119 rfl HI.out ?_) | (refine wpList_store_mid rfl 119 (.tmp 2) (.tmp 69) rfl w.heap.size 0 Zx.toArray rfl rfl T0.out HI2.out Hone.out ?_))
                refine bodyPost_ret (v := .tuple #[.agg Zx.toArray, .string ⟨#[]⟩, .bool false]) (results_mid2 rfl _ _ w.heap.size Zx _ _ _ rfl rfl rfl HRf.out Try.underlying119 rfl HI.out) rfl ?_
                exact ⟨(setIt f), [], false, by rw [HZx.out]; rfl, HRn.out, HB.out⟩
              | false =>
                have e45b : ((lo.toNat : Int) == 45) = false := toNat_ne (d := 45) (by simpa using ed)
                have HRg := hide (show R = (setF (b.drop 1).length (b.drop 1) (fun c => f c || decide (lo.toNat ≤ c.toNat ∧ c.toNat ≤ lo.toNat))).map (fun f => (setIt (if inv = true then fun c => !f c else f), rest)) by rw [HRb.out, Hst.out, hgd, el, ed, decide_eq_true (Nat.le_refl _)]; rfl)
                have hlts : ¬ (lo.toNat : Int) < (lo.toNat : Int) := by omega
                have hle : lo.toNat ≤ lo.toNat := Nat.le_refl _
                clear hgd el ed
                go_wp2_with fail
                refine (E1.out _).mono ?_
                rintro e wr ⟨rfl, rfl⟩
                go_wp2_with fail
                refine (E1.out _).mono ?_
                rintro e wr ⟨rfl, rfl⟩
                clear hlts
                have hwl : wrap64 (lo.toNat : Int) = (lo.toNat : Int) := IntWalk.wrap64_in _ ⟨by have := Hlt.out; omega, by have := Hlt.out; omega⟩
                go_upto_region 15 with fail
                go_loopw [13] (fun v wq => ∃ k : Nat, v = .int .i64 (k : Int) ∧ lo.toNat ≤ k ∧ k ≤ lo.toNat + 1 ∧ Row wq (w.heap.size + 1) 119 (itL (setIt fun c => f c || decide (lo.toNat ≤ c.toNat ∧ c.toNat < k))).toArray ∧ Row wq w.heap.size 119 Z.toArray ∧ Below w.heap.size w wq) (fun v _ => lo.toNat + 1 - (intOf v).toNat)
                case atStart => exact ⟨lo.toNat, congrArg (Value.int .i64) hwl, Nat.le_refl _, by omega, by rw [setIt_start]; exact H1.out, H0.out, Hb.out⟩
                case round =>
                  obtain ⟨k, rfl, hkl, hk, hq1, hq0, hqb⟩ := hrel
                  have Q1 := hide hq1
                  have Q0 := hide hq0
                  have Qb := hide hqb
                  have Hle := hide hle
                  clear hq1 hq0 hqb hle
                  have hlt0 := Hlt.out.1
                  have hlt1 := Hlt.out.2
                  by_cases hk2 : k ≤ lo.toNat
                  · have hk' : (k : Int) < 256 := by omega
                    have hk0 : (0 : Int) ≤ (k : Int) := by omega
                    have hk3 : (k : Int) ≤ (lo.toNat : Int) := by omega
                    have f0 : wr.frozen? ⟨w.heap.size + 1, 1 + k, none⟩ = false := Q1.out.frozen _
                    obtain ⟨v0, hv0⟩ : ∃ v0, wr.cell? ⟨w.heap.size + 1, 1 + k, none⟩ = some v0 := ⟨_, by
                      rw [Q1.out.cell, List.getElem?_toArray, itL_get, if_neg (by omega), if_pos (by omega)]⟩
                    have hwr : IntKind.i64.wrap ((k : Int) + 1) = (k : Int) + 1 := IntWalk.i64_in _ (by omega)
                    have HRw := hide (show Row (wr.setCell ⟨w.heap.size + 1, 1 + k, none⟩ (.bool true)) (w.heap.size + 1) 119 (itL (setIt fun c => f c || decide (lo.toNat ≤ c.toNat ∧ c.toNat < k + 1))).toArray by
                      have := Q1.out.set_ (1 + k) (.bool true)
                      rwa [show (itL (setIt fun c => f c || decide (lo.toNat ≤ c.toNat ∧ c.toNat < k))).toArray.setIfInBounds (1 + k) (.bool true) = (itL (setIt fun c => f c || decide (lo.toNat ≤ c.toNat ∧ c.toNat < k + 1))).toArray by rw [← setIt_one f lo.toNat k (by omega) hkl]; simp] at this)
                    clear hlt0 hlt1
                    go_wp2
                    go_roundw
                    case rel => exact ⟨k + 1, by go_num, by omega, by omega, HRw.out, Q0.out.off (by omega) _ _, Qb.out.setCell (p := ⟨w.heap.size + 1, 1 + k, none⟩) (Nat.le_succ _) _⟩
                    case measure => simp [intOf]; omega
                  · obtain rfl : k = lo.toNat + 1 := by omega
                    have hk3 : ¬ ((lo.toNat + 1 : Nat) : Int) ≤ (lo.toNat : Int) := by omega
                    rw [setIt_end] at Q1
                    have hN := HN.out
                    have Hk := hide hkl
                    clear hlt0 hlt1 hkl hk hk2
                    go_wp2
                    go_roundg (b.drop 1).length
                    case measure => have := Hbl.out; omega
                    case rel => exact ⟨b.drop 1, _, by rw [← Hdr.out], rfl, by have := Hbl.out; omega, HRg.out, Q0.out, Q1.out, Qb.out⟩
          · obtain rfl : lo = hi := hhl.symm
            have q3 : (3 : Int) ≤ ((bsP b).size : Int) := by omega
            have p1 : 1 < (bsP b).size := by omega
            have p1' : (1 : Int) < ((bsP b).size : Int) := by omega
            obtain ⟨c1, hc1⟩ : ∃ c1, b[1]'(Nat.lt_of_lt_of_le (by decide) h3) = c1 := ⟨_, rfl⟩
            have g1 : (bsP b)[1]'p1 = c1 := by rw [bsP_get]; exact hc1
            have e45 : ((c1.toNat : Int) == 45) = false := toNat_ne (d := 45) (by rw [← hc1]; exact h45)
            clear hc1
            have hgd := good_iff b lo lo false hlo hhi hrg
            have HN := hide (show (1 : Int) ≤ ((bsP b).size : Int) by omega)
            have Hst := hide hst
            have Hdr := hide hdr
            have Hbl := hide (And.intro hgl (And.intro hbl hdl))
            have Hlt := hide (And.intro hlt0 hlt1)
            generalize bsP b = sb at *
            clear hst hdr hgl hbl hdl hlt0 hlt1 hbz hpos hg0 hlo hhi hn hrg hbn h45
            go_upto_region 12 with fail
            cases el : elB lo with
            | false =>
              have E1 := hide (elE lo false el)
              have HRn := hide (show R = none by rw [HRb.out, Hst.out, hgd, el]; rfl)
              clear hgd el
              go_wp2_with fail
              refine (E1.out _).mono ?_
              rintro e wr ⟨rfl, rfl⟩
              obtain ⟨Zx, hZx⟩ : ∃ Zx, itL (setIt f) = Zx := ⟨_, rfl⟩
              have hx : Zx.length = 259 := by rw [← hZx]; exact itL_len _
              have Hone := hide (show Zx.toArray.all (·.oneCell') = true by rw [← hZx]; exact itL_one _)
              have HZx := hide hZx
              obtain ⟨g1, t0, hbf, hr⟩ := put_pre (Zx := Zx) H0.out (by rw [← hZx]; exact H1.out) Hb.out HL.out hx
              have HI := hide (show (Try.prog.info? 119).map (·.size) = some Zx.length by rw [hx]; kernel_rfl)
              have HI2 := hide (show (Try.prog.info? 119).map (·.size) = some Zx.toArray.size by rw [List.size_toArray]; exact HI.out)
              have G1 := hide g1
              have T0 := hide t0
              have HB := hide hbf
              have HRf := hide hr
              clear g1 t0 hbf hr hx hZx
              go_wp2_with (first | (refine wpList_load_mid rfl 119 (.tmp 5) rfl (w.heap.size + 1) 0 rfl Zx _ G1.out Try.underlying119 rfl HI.out ?_) | (refine wpList_store_mid rfl 119 (.tmp 2) (.tmp 69) rfl w.heap.size 0 Zx.toArray rfl rfl T0.out HI2.out Hone.out ?_))
              refine bodyPost_ret (v := .tuple #[.agg Zx.toArray, .string ⟨#[]⟩, .bool false]) (results_mid2 rfl _ _ w.heap.size Zx _ _ _ rfl rfl rfl HRf.out Try.underlying119 rfl HI.out) rfl ?_
              exact ⟨(setIt f), [], false, by rw [HZx.out]; rfl, HRn.out, HB.out⟩
            | true =>
              have E1 := hide (elE lo true el)
              cases ed : (lo == 45) with
              | true =>
                have e45b : ((lo.toNat : Int) == 45) = true := by rw [beq_iff_eq] at ed; rw [ed]; rfl
                have HRn := hide (show R = none by rw [HRb.out, Hst.out, hgd, el, ed, decide_eq_true (Nat.le_refl _)]; rfl)
                have hlts : ¬ (lo.toNat : Int) < (lo.toNat : Int) := by omega
                clear hgd el ed
                go_wp2_with fail
                refine (E1.out _).mono ?_
                rintro e wr ⟨rfl, rfl⟩
                go_wp2_with fail
                refine (E1.out _).mono ?_
                rintro e wr ⟨rfl, rfl⟩
                obtain ⟨Zx, hZx⟩ : ∃ Zx, itL (setIt f) = Zx := ⟨_, rfl⟩
                have hx : Zx.length = 259 := by rw [← hZx]; exact itL_len _
                have Hone := hide (show Zx.toArray.all (·.oneCell') = true by rw [← hZx]; exact itL_one _)
                have HZx := hide hZx
                obtain ⟨g1, t0, hbf, hr⟩ := put_pre (Zx := Zx) H0.out (by rw [← hZx]; exact H1.out) Hb.out HL.out hx
                have HI := hide (show (Try.prog.info? 119).map (·.size) = some Zx.length by rw [hx]; kernel_rfl)
                have HI2 := hide (show (Try.prog.info? 119).map (·.size) = some Zx.toArray.size by rw [List.size_toArray]; exact HI.out)
                have G1 := hide g1
                have T0 := hide t0
                have HB := hide hbf
                have HRf := hide hr
                clear g1 t0 hbf hr hx hZx
                go_wp2_with (first | (refine wpList_load_mid rfl 119 (.tmp 5) rfl (w.heap.size + 1) 0 rfl Zx _ G1.out Try.underlying119 rfl HI.out ?_) | (refine wpList_store_mid rfl 119 (.tmp 2) (.tmp 69) rfl w.heap.size 0 Zx.toArray rfl rfl T0.out HI2.out Hone.out ?_))
                refine bodyPost_ret (v := .tuple #[.agg Zx.toArray, .string ⟨#[]⟩, .bool false]) (results_mid2 rfl _ _ w.heap.size Zx _ _ _ rfl rfl rfl HRf.out Try.underlying119 rfl HI.out) rfl ?_
                exact ⟨(setIt f), [], false, by rw [HZx.out]; rfl, HRn.out, HB.out⟩
              | false =>
                have e45b : ((lo.toNat : Int) == 45) = false := toNat_ne (d := 45) (by simpa using ed)
                have HRg := hide (show R = (setF (b.drop 1).length (b.drop 1) (fun c => f c || decide (lo.toNat ≤ c.toNat ∧ c.toNat ≤ lo.toNat))).map (fun f => (setIt (if inv = true then fun c => !f c else f), rest)) by rw [HRb.out, Hst.out, hgd, el, ed, decide_eq_true (Nat.le_refl _)]; rfl)
                have hlts : ¬ (lo.toNat : Int) < (lo.toNat : Int) := by omega
                have hle : lo.toNat ≤ lo.toNat := Nat.le_refl _
                clear hgd el ed
                go_wp2_with fail
                refine (E1.out _).mono ?_
                rintro e wr ⟨rfl, rfl⟩
                go_wp2_with fail
                refine (E1.out _).mono ?_
                rintro e wr ⟨rfl, rfl⟩
                clear hlts
                have hwl : wrap64 (lo.toNat : Int) = (lo.toNat : Int) := IntWalk.wrap64_in _ ⟨by have := Hlt.out; omega, by have := Hlt.out; omega⟩
                go_upto_region 15 with fail
                go_loopw [13] (fun v wq => ∃ k : Nat, v = .int .i64 (k : Int) ∧ lo.toNat ≤ k ∧ k ≤ lo.toNat + 1 ∧ Row wq (w.heap.size + 1) 119 (itL (setIt fun c => f c || decide (lo.toNat ≤ c.toNat ∧ c.toNat < k))).toArray ∧ Row wq w.heap.size 119 Z.toArray ∧ Below w.heap.size w wq) (fun v _ => lo.toNat + 1 - (intOf v).toNat)
                case atStart => exact ⟨lo.toNat, congrArg (Value.int .i64) hwl, Nat.le_refl _, by omega, by rw [setIt_start]; exact H1.out, H0.out, Hb.out⟩
                case round =>
                  obtain ⟨k, rfl, hkl, hk, hq1, hq0, hqb⟩ := hrel
                  have Q1 := hide hq1
                  have Q0 := hide hq0
                  have Qb := hide hqb
                  have Hle := hide hle
                  clear hq1 hq0 hqb hle
                  have hlt0 := Hlt.out.1
                  have hlt1 := Hlt.out.2
                  by_cases hk2 : k ≤ lo.toNat
                  · have hk' : (k : Int) < 256 := by omega
                    have hk0 : (0 : Int) ≤ (k : Int) := by omega
                    have hk3 : (k : Int) ≤ (lo.toNat : Int) := by omega
                    have f0 : wr.frozen? ⟨w.heap.size + 1, 1 + k, none⟩ = false := Q1.out.frozen _
                    obtain ⟨v0, hv0⟩ : ∃ v0, wr.cell? ⟨w.heap.size + 1, 1 + k, none⟩ = some v0 := ⟨_, by
                      rw [Q1.out.cell, List.getElem?_toArray, itL_get, if_neg (by omega), if_pos (by omega)]⟩
                    have hwr : IntKind.i64.wrap ((k : Int) + 1) = (k : Int) + 1 := IntWalk.i64_in _ (by omega)
                    have HRw := hide (show Row (wr.setCell ⟨w.heap.size + 1, 1 + k, none⟩ (.bool true)) (w.heap.size + 1) 119 (itL (setIt fun c => f c || decide (lo.toNat ≤ c.toNat ∧ c.toNat < k + 1))).toArray by
                      have := Q1.out.set_ (1 + k) (.bool true)
                      rwa [show (itL (setIt fun c => f c || decide (lo.toNat ≤ c.toNat ∧ c.toNat < k))).toArray.setIfInBounds (1 + k) (.bool true) = (itL (setIt fun c => f c || decide (lo.toNat ≤ c.toNat ∧ c.toNat < k + 1))).toArray by rw [← setIt_one f lo.toNat k (by omega) hkl]; simp] at this)
                    clear hlt0 hlt1
                    go_wp2
                    go_roundw
                    case rel => exact ⟨k + 1, by go_num, by omega, by omega, HRw.out, Q0.out.off (by omega) _ _, Qb.out.setCell (p := ⟨w.heap.size + 1, 1 + k, none⟩) (Nat.le_succ _) _⟩
                    case measure => simp [intOf]; omega
                  · obtain rfl : k = lo.toNat + 1 := by omega
                    have hk3 : ¬ ((lo.toNat + 1 : Nat) : Int) ≤ (lo.toNat : Int) := by omega
                    rw [setIt_end] at Q1
                    have hN := HN.out
                    have Hk := hide hkl
                    clear hlt0 hlt1 hkl hk hk2
                    go_wp2
                    go_roundg (b.drop 1).length
                    case measure => have := Hbl.out; omega
                    case rel => exact ⟨b.drop 1, _, by rw [← Hdr.out], rfl, by have := Hbl.out; omega, HRg.out, Q0.out, Q1.out, Qb.out⟩
          · have q3 : (3 : Int) ≤ ((bsP b).size : Int) := by omega
            have p1 : 1 < (bsP b).size := by omega
            have p1' : (1 : Int) < ((bsP b).size : Int) := by omega
            have p2 : 2 < (bsP b).size := by omega
            have p2' : (2 : Int) < ((bsP b).size : Int) := by omega
            have g1 : (bsP b)[1]'p1 = 45 := by rw [bsP_get]; exact h45
            have g2 : (bsP b)[2]'p2 = hi := by rw [bsP_get]; exact h2
            have hgd := good_iff b lo hi true hlo hhi hrg
            have HN := hide (show (3 : Int) ≤ ((bsP b).size : Int) by omega)
            have Hst := hide hst
            have Hdr := hide hdr
            have Hbl := hide (And.intro hgl (And.intro hbl hdl))
            have Hlt := hide (And.intro hlt0 hlt1)
            generalize bsP b = sb at *
            clear hst hdr hgl hbl hdl hlt0 hlt1 hbz hpos hg0 hlo hhi hn hrg hbn h45 h2
            go_upto_region 12 with fail
            cases el : elB lo with
            | false =>
              have E1 := hide (elE lo false el)
              have HRn := hide (show R = none by rw [HRb.out, Hst.out, hgd, el]; rfl)
              clear hgd el
              go_wp2_with fail
              refine (E1.out _).mono ?_
              rintro e wr ⟨rfl, rfl⟩
              obtain ⟨Zx, hZx⟩ : ∃ Zx, itL (setIt f) = Zx := ⟨_, rfl⟩
              have hx : Zx.length = 259 := by rw [← hZx]; exact itL_len _
              have Hone := hide (show Zx.toArray.all (·.oneCell') = true by rw [← hZx]; exact itL_one _)
              have HZx := hide hZx
              obtain ⟨g1, t0, hbf, hr⟩ := put_pre (Zx := Zx) H0.out (by rw [← hZx]; exact H1.out) Hb.out HL.out hx
              have HI := hide (show (Try.prog.info? 119).map (·.size) = some Zx.length by rw [hx]; kernel_rfl)
              have HI2 := hide (show (Try.prog.info? 119).map (·.size) = some Zx.toArray.size by rw [List.size_toArray]; exact HI.out)
              have G1 := hide g1
              have T0 := hide t0
              have HB := hide hbf
              have HRf := hide hr
              clear g1 t0 hbf hr hx hZx
              go_wp2_with (first | (refine wpList_load_mid rfl 119 (.tmp 5) rfl (w.heap.size + 1) 0 rfl Zx _ G1.out Try.underlying119 rfl HI.out ?_) | (refine wpList_store_mid rfl 119 (.tmp 2) (.tmp 69) rfl w.heap.size 0 Zx.toArray rfl rfl T0.out HI2.out Hone.out ?_))
              refine bodyPost_ret (v := .tuple #[.agg Zx.toArray, .string ⟨#[]⟩, .bool false]) (results_mid2 rfl _ _ w.heap.size Zx _ _ _ rfl rfl rfl HRf.out Try.underlying119 rfl HI.out) rfl ?_
              exact ⟨(setIt f), [], false, by rw [HZx.out]; rfl, HRn.out, HB.out⟩
            | true =>
              have E1 := hide (elE lo true el)
              cases eh : elB hi with
              | false =>
                have E2 := hide (elE hi false eh)
                have HRn := hide (show R = none by rw [HRb.out, Hst.out, hgd, el, eh]; rfl)
                clear hgd el eh
                go_wp2_with fail
                refine (E1.out _).mono ?_
                rintro e wr ⟨rfl, rfl⟩
                go_wp2_with fail
                refine (E2.out _).mono ?_
                rintro e wr ⟨rfl, rfl⟩
                obtain ⟨Zx, hZx⟩ : ∃ Zx, itL (setIt f) = Zx := ⟨_, rfl⟩
                have hx : Zx.length = 259 := by rw [← hZx]; exact itL_len _
                have Hone := hide (show Zx.toArray.all (·.oneCell') = true by rw [← hZx]; exact itL_one _)
                have HZx := hide hZx
                obtain ⟨g1, t0, hbf, hr⟩ := put_pre (Zx := Zx) H0.out (by rw [← hZx]; exact H1.out) Hb.out HL.out hx
                have HI := hide (show (Try.prog.info? 119).map (·.size) = some Zx.length by rw [hx]; kernel_rfl)
                have HI2 := hide (show (Try.prog.info? 119).map (·.size) = some Zx.toArray.size by rw [List.size_toArray]; exact HI.out)
                have G1 := hide g1
                have T0 := hide t0
                have HB := hide hbf
                have HRf := hide hr
                clear g1 t0 hbf hr hx hZx
                go_wp2_with (first | (refine wpList_load_mid rfl 119 (.tmp 5) rfl (w.heap.size + 1) 0 rfl Zx _ G1.out Try.underlying119 rfl HI.out ?_) | (refine wpList_store_mid rfl 119 (.tmp 2) (.tmp 69) rfl w.heap.size 0 Zx.toArray rfl rfl T0.out HI2.out Hone.out ?_))
                refine bodyPost_ret (v := .tuple #[.agg Zx.toArray, .string ⟨#[]⟩, .bool false]) (results_mid2 rfl _ _ w.heap.size Zx _ _ _ rfl rfl rfl HRf.out Try.underlying119 rfl HI.out) rfl ?_
                exact ⟨(setIt f), [], false, by rw [HZx.out]; rfl, HRn.out, HB.out⟩
              | true =>
                have E2 := hide (elE hi true eh)
                by_cases hle : lo.toNat ≤ hi.toNat
                · have HRg := hide (show R = (setF (b.drop 3).length (b.drop 3) (fun c => f c || decide (lo.toNat ≤ c.toNat ∧ c.toNat ≤ hi.toNat))).map (fun f => (setIt (if inv = true then fun c => !f c else f), rest)) by rw [HRb.out, Hst.out, hgd, el, eh, decide_eq_true hle]; rfl)
                  have hlts : ¬ (hi.toNat : Int) < (lo.toNat : Int) := by omega
                  clear hgd el eh
                  go_wp2_with fail
                  refine (E1.out _).mono ?_
                  rintro e wr ⟨rfl, rfl⟩
                  go_wp2_with fail
                  refine (E2.out _).mono ?_
                  rintro e wr ⟨rfl, rfl⟩
                  clear hlts
                  have hwl : wrap64 (lo.toNat : Int) = (lo.toNat : Int) := IntWalk.wrap64_in _ ⟨by have := Hlt.out; omega, by have := Hlt.out; omega⟩
                  have hwh : wrap64 (hi.toNat : Int) = (hi.toNat : Int) := IntWalk.wrap64_in _ ⟨by have := Hlt.out; omega, by have := Hlt.out; omega⟩
                  go_upto_region 15 with fail
                  go_loopw [13] (fun v wq => ∃ k : Nat, v = .int .i64 (k : Int) ∧ lo.toNat ≤ k ∧ k ≤ hi.toNat + 1 ∧ Row wq (w.heap.size + 1) 119 (itL (setIt fun c => f c || decide (lo.toNat ≤ c.toNat ∧ c.toNat < k))).toArray ∧ Row wq w.heap.size 119 Z.toArray ∧ Below w.heap.size w wq) (fun v _ => hi.toNat + 1 - (intOf v).toNat)
                  case atStart => exact ⟨lo.toNat, congrArg (Value.int .i64) hwl, Nat.le_refl _, by omega, by rw [setIt_start]; exact H1.out, H0.out, Hb.out⟩
                  case round =>
                    obtain ⟨k, rfl, hkl, hk, hq1, hq0, hqb⟩ := hrel
                    have Q1 := hide hq1
                    have Q0 := hide hq0
                    have Qb := hide hqb
                    have Hle := hide hle
                    clear hq1 hq0 hqb hle
                    have hlt0 := Hlt.out.1
                    have hlt1 := Hlt.out.2
                    by_cases hk2 : k ≤ hi.toNat
                    · have hk' : (k : Int) < 256 := by omega
                      have hk0 : (0 : Int) ≤ (k : Int) := by omega
                      have hk3 : (k : Int) ≤ (hi.toNat : Int) := by omega
                      have f0 : wr.frozen? ⟨w.heap.size + 1, 1 + k, none⟩ = false := Q1.out.frozen _
                      obtain ⟨v0, hv0⟩ : ∃ v0, wr.cell? ⟨w.heap.size + 1, 1 + k, none⟩ = some v0 := ⟨_, by
                        rw [Q1.out.cell, List.getElem?_toArray, itL_get, if_neg (by omega), if_pos (by omega)]⟩
                      have hwr : IntKind.i64.wrap ((k : Int) + 1) = (k : Int) + 1 := IntWalk.i64_in _ (by omega)
                      have HRw := hide (show Row (wr.setCell ⟨w.heap.size + 1, 1 + k, none⟩ (.bool true)) (w.heap.size + 1) 119 (itL (setIt fun c => f c || decide (lo.toNat ≤ c.toNat ∧ c.toNat < k + 1))).toArray by
                        have := Q1.out.set_ (1 + k) (.bool true)
                        rwa [show (itL (setIt fun c => f c || decide (lo.toNat ≤ c.toNat ∧ c.toNat < k))).toArray.setIfInBounds (1 + k) (.bool true) = (itL (setIt fun c => f c || decide (lo.toNat ≤ c.toNat ∧ c.toNat < k + 1))).toArray by rw [← setIt_one f lo.toNat k (by omega) hkl]; simp] at this)
                      clear hlt0 hlt1
                      go_wp2
                      go_roundw
                      case rel => exact ⟨k + 1, by go_num, by omega, by omega, HRw.out, Q0.out.off (by omega) _ _, Qb.out.setCell (p := ⟨w.heap.size + 1, 1 + k, none⟩) (Nat.le_succ _) _⟩
                      case measure => simp [intOf]; omega
                    · obtain rfl : k = hi.toNat + 1 := by omega
                      have hk3 : ¬ ((hi.toNat + 1 : Nat) : Int) ≤ (hi.toNat : Int) := by omega
                      rw [setIt_end] at Q1
                      have hN := HN.out
                      have Hk := hide hkl
                      clear hlt0 hlt1 hkl hk hk2
                      go_wp2
                      go_roundg (b.drop 3).length
                      case measure => have := Hbl.out; omega
                      case rel => exact ⟨b.drop 3, _, by rw [← Hdr.out], rfl, by have := Hbl.out; omega, HRg.out, Q0.out, Q1.out, Qb.out⟩
                · have HRn := hide (show R = none by rw [HRb.out, Hst.out, hgd, el, eh, decide_eq_false hle]; rfl)
                  have hlts : (hi.toNat : Int) < (lo.toNat : Int) := by omega
                  clear hgd el eh hle
                  go_wp2_with fail
                  refine (E1.out _).mono ?_
                  rintro e wr ⟨rfl, rfl⟩
                  go_wp2_with fail
                  refine (E2.out _).mono ?_
                  rintro e wr ⟨rfl, rfl⟩
                  obtain ⟨Zx, hZx⟩ : ∃ Zx, itL (setIt f) = Zx := ⟨_, rfl⟩
                  have hx : Zx.length = 259 := by rw [← hZx]; exact itL_len _
                  have Hone := hide (show Zx.toArray.all (·.oneCell') = true by rw [← hZx]; exact itL_one _)
                  have HZx := hide hZx
                  obtain ⟨g1, t0, hbf, hr⟩ := put_pre (Zx := Zx) H0.out (by rw [← hZx]; exact H1.out) Hb.out HL.out hx
                  have HI := hide (show (Try.prog.info? 119).map (·.size) = some Zx.length by rw [hx]; kernel_rfl)
                  have HI2 := hide (show (Try.prog.info? 119).map (·.size) = some Zx.toArray.size by rw [List.size_toArray]; exact HI.out)
                  have G1 := hide g1
                  have T0 := hide t0
                  have HB := hide hbf
                  have HRf := hide hr
                  clear g1 t0 hbf hr hx hZx
                  go_wp2_with (first | (refine wpList_load_mid rfl 119 (.tmp 5) rfl (w.heap.size + 1) 0 rfl Zx _ G1.out Try.underlying119 rfl HI.out ?_) | (refine wpList_store_mid rfl 119 (.tmp 2) (.tmp 69) rfl w.heap.size 0 Zx.toArray rfl rfl T0.out HI2.out Hone.out ?_))
                  refine bodyPost_ret (v := .tuple #[.agg Zx.toArray, .string ⟨#[]⟩, .bool false]) (results_mid2 rfl _ _ w.heap.size Zx _ _ _ rfl rfl rfl HRf.out Try.underlying119 rfl HI.out) rfl ?_
                  exact ⟨(setIt f), [], false, by rw [HZx.out]; rfl, HRn.out, HB.out⟩

end Go.Proofs.Ytpfiofgchkfkhaa

/- Contract of pattern's next at a byte that matches itself (under way). -/
set_option linter.unusedVariables false
set_option linter.unusedSimpArgs false
namespace Go.Proofs.Ytpfiofgchkfkhaa
open Go.RowKit Go.Shelf

set_option maxRecDepth 100000 in
set_option maxHeartbeats 8000000 in
theorem next_byte (c : UInt8) (s : ByteArray) (w : World) (h : 0 < s.size) (hc : s[0]'h = c) (h1 : 33 ≤ c.toNat) (h2 : c.toNat ≤ 126) (n46 : c ≠ 46) (n92 : c ≠ 92) (n93 : c ≠ 93) (n91 : c ≠ 91) (n42 : c ≠ 42) (n63 : c ≠ 63) :
    Calls Try.prog 87 #[.string s] w fun e w' => e = .returned (.tuple #[.agg (itL (byteIt c)).toArray, .string (s.extract 1 s.size), .bool true]) ∧ Below w.heap.size w w' := by
  have h0 : (0 : Int) < (s.size : Int) := by omega
  have hlt := c.toNat_lt
  have q1 : ¬ (c.toNat : Int) < 33 := by omega
  have q2 : ¬ (126 : Int) < (c.toNat : Int) := by omega
  have q3 : (c.toNat : Int) < 256 := by omega
  have e46 : ((c.toNat : Int) == 46) = false := beq_eq_false_iff_ne.2 fun e => n46 (UInt8.toNat_inj.1 (by have : ((46 : UInt8).toNat : Int) = 46 := rfl; omega))
  have e92 : ((c.toNat : Int) == 92) = false := beq_eq_false_iff_ne.2 fun e => n92 (UInt8.toNat_inj.1 (by have : ((92 : UInt8).toNat : Int) = 92 := rfl; omega))
  have e93 : ((c.toNat : Int) == 93) = false := beq_eq_false_iff_ne.2 fun e => n93 (UInt8.toNat_inj.1 (by have : ((93 : UInt8).toNat : Int) = 93 := rfl; omega))
  have e91 : ((c.toNat : Int) == 91) = false := beq_eq_false_iff_ne.2 fun e => n91 (UInt8.toNat_inj.1 (by have : ((91 : UInt8).toNat : Int) = 91 := rfl; omega))
  have e42 : ((c.toNat : Int) == 42) = false := beq_eq_false_iff_ne.2 fun e => n42 (UInt8.toNat_inj.1 (by have : ((42 : UInt8).toNat : Int) = 42 := rfl; omega))
  have e63 : ((c.toNat : Int) == 63) = false := beq_eq_false_iff_ne.2 fun e => n63 (UInt8.toNat_inj.1 (by have : ((63 : UInt8).toNat : Int) = 63 := rfl; omega))
  clear n46 n92 n93 n91 n42 n63
  have hz := zero_it
  have hlen : (itL noIt).length = 259 := by simp [itL]
  have hs0 : (itL noIt)[1 + c.toNat]? = some (.bool false) := by rw [itL_get, if_neg (by omega), if_pos (by omega)]; rfl
  have hs1 : (itL noIt)[257]? = some (.bool false) := rfl
  have hs2 : (itL noIt)[258]? = some (.int .u8 0) := rfl
  have hset := itL_byte c
  have hone : (itL (byteIt c)).toArray.all (·.oneCell') = true := by simp [itL, Value.oneCell']
  obtain ⟨Z, hZ⟩ : ∃ Z, itL noIt = Z := ⟨_, rfl⟩
  obtain ⟨Z2, hZ2⟩ : ∃ Z, itL (byteIt c) = Z := ⟨_, rfl⟩
  rw [hZ] at hz hlen hset hs0 hs1 hs2
  rw [hZ2] at hone hset ⊢
  clear hZ hZ2
  have hlen2 : Z2.length = 259 := by rw [← hset, List.length_set, List.length_set, List.length_set, hlen]
  go_enter Try.func87, Try.ntmps87
  go_upto_region 3 with fail
  obtain ⟨W2, hW2⟩ : ∃ W2, (w.alloc (.cells Z.toArray 119)).alloc (.cells Z.toArray 119) = W2 := ⟨_, rfl⟩
  have hB : Below w.heap.size w W2 := by
    rw [← hW2]
    exact ((Below.refl _ _).alloc (Nat.le_refl _) _).alloc (by rw [World.size_alloc]; omega) _
  have r0 : Row W2 w.heap.size 119 Z.toArray := by rw [← hW2]; exact (Row.new _ _ _).alloc _
  have r1 : Row W2 (w.heap.size + 1) 119 Z.toArray := by
    rw [← hW2]
    have := Row.new (w.alloc (.cells Z.toArray 119)) 119 Z.toArray
    rwa [World.size_alloc] at this
  have c0 : W2.cell? ⟨w.heap.size + 1, 1 + c.toNat, none⟩ = some (.bool false) := by rw [r1.cell]; simpa using hs0
  have c1 : W2.cell? ⟨w.heap.size + 1, 257, none⟩ = some (.bool false) := by rw [r1.cell]; simpa using hs1
  have c2 : W2.cell? ⟨w.heap.size + 1, 258, none⟩ = some (.int .u8 0) := by rw [r1.cell]; simpa using hs2
  have f0 : W2.frozen? ⟨w.heap.size + 1, 1 + c.toNat, none⟩ = false := r1.frozen _
  have f1 : W2.frozen? ⟨w.heap.size + 1, 257, none⟩ = false := r1.frozen 257
  have f2 : W2.frozen? ⟨w.heap.size + 1, 258, none⟩ = false := r1.frozen 258
  have r2 : Row (((W2.setCell ⟨w.heap.size + 1, 1 + c.toNat, none⟩ (.bool true)).setCell ⟨w.heap.size + 1, 257, none⟩ (.bool true)).setCell ⟨w.heap.size + 1, 258, none⟩ (.int .u8 (c.toNat : Int))) (w.heap.size + 1) 119 Z2.toArray := by
    have := ((r1.set_ (1 + c.toNat) (.bool true)).set_ 257 (.bool true)).set_ 258 (.int .u8 (c.toNat : Int))
    rwa [show ((Z.toArray.setIfInBounds (1 + c.toNat) (.bool true)).setIfInBounds 257 (.bool true)).setIfInBounds 258 (.int .u8 (c.toNat : Int)) = Z2.toArray by rw [← hset]; simp] at this
  have r3 : Row (((W2.setCell ⟨w.heap.size + 1, 1 + c.toNat, none⟩ (.bool true)).setCell ⟨w.heap.size + 1, 257, none⟩ (.bool true)).setCell ⟨w.heap.size + 1, 258, none⟩ (.int .u8 (c.toNat : Int))) w.heap.size 119 Z.toArray := ((r0.off (by omega) _ _).off (by omega) _ _).off (by omega) _ _
  have HB := hide (((hB.setCell (p := ⟨w.heap.size + 1, 1 + c.toNat, none⟩) (Nat.le_succ _) (.bool true)).setCell (p := ⟨w.heap.size + 1, 257, none⟩) (Nat.le_succ _) (.bool true)).setCell (p := ⟨w.heap.size + 1, 258, none⟩) (Nat.le_succ _) (.int .u8 (c.toNat : Int)))
  have hne1 : ¬ 1 + c.toNat = 257 := by omega
  have hne2 : ¬ 1 + c.toNat = 258 := by omega
  have HR2 := hide r2
  have HR3 := hide r3
  have Hone := hide hone
  have HL := hide (And.intro hlen hlen2)
  rw [hW2]
  clear hW2 hB r0 r1 r2 r3 hz hone hset hs0 hs1 hs2 hlen hlen2
  go_upto_region 16 with fail
  obtain ⟨W4, hW4⟩ : ∃ W4, ((W2.setCell ⟨w.heap.size + 1, 1 + c.toNat, none⟩ (.bool true)).setCell ⟨w.heap.size + 1, 257, none⟩ (.bool true)).setCell ⟨w.heap.size + 1, 258, none⟩ (.int .u8 (c.toNat : Int)) = W4 := ⟨_, rfl⟩
  rw [hW4] at HB HR2 HR3 ⊢
  clear hW4 c0 f0 c1 f1 c2 f2
  have g1 : W4.rangeAt (w.heap.size + 1) 0 Z2 := fun j v hv => by rw [Nat.zero_add, HR2.out.cell j]; simpa using hv
  have t0 : W4.there w.heap.size 0 259 := fun j hj => by
    rw [Nat.zero_add]
    refine ⟨?_, HR3.out.frozen j⟩
    rw [HR3.out.cell j]
    have := HL.out.1
    simp; omega
  have hu := Try.underlying119
  have hi : (Try.prog.info? 119).map (·.size) = some Z2.length := by rw [HL.out.2]; kernel_rfl
  have hl2 := HL.out.2
  have h1c : ∀ v ∈ Z2, v.oneCell' = true := fun v hv => (Array.all_eq_true_iff_forall_mem.1 Hone.out) v (by simpa using hv)
  have hsz1 : (1 : Int) ≤ (s.size : Int) := by omega
  have T0 := hide t0
  have hne : w.heap.size + 1 ≠ w.heap.size := by omega
  have hthere : ∀ W : World, W.there w.heap.size 0 259 → W.there w.heap.size 0 Z2.toArray.size := fun W h => by simpa [hl2] using h
  have hi2 : (Try.prog.info? 119).map (·.size) = some Z2.toArray.size := by simpa using hi
  refine wp_region_held_drew (S := fun w' => w'.rangeAt (w.heap.size + 1) 0 Z2 ∧ w'.there w.heap.size 0 259) (by kernel_rfl) ?_ (fun hHeld => ?_)
  · exact ⟨g1, T0.out⟩
  refine wpAnyH_take (i := 0) (oi := ?oi0) (v := .agg Z2.toArray) ?h00 ?h10 ?h20 ?h30 ?h40 ?hy0 (by assumption) ?rest0
  case h00 => (simp only [List.getElem?_toArray, List.getElem?_cons_zero, List.getElem?_cons_succ]; rfl)
  case h10 => kernel_rfl
  case h20 => kernel_rfl
  case h30 => kernel_rfl
  case h40 => exact fun _ _ _ h => h
  case hy0 => exact yieldsIf_load_mid (by rfl) _ _ rfl _ _ rfl Z2 _ (fun w' hw' => hw'.1) hu rfl hi
  try simp only [Act.put, List.setIfInBounds_toArray, List.set_cons_zero, List.set_cons_succ]
  have HHt := hide hthere
  have HHi := hide hi2
  have HHu := hide (And.intro hu hi)
  clear hthere hi2 hu hi
  refine wpAnyH_take (i := 1) (oi := ?oi1) (v := ?v1) ?h01 ?h11 ?h21 ?h31 ?h41 (Or.inl ⟨?hw1, ?hy1⟩) (by assumption) ?rest1
  case h01 => (simp only [List.getElem?_toArray, List.getElem?_cons_zero, List.getElem?_cons_succ]; rfl)
  case h11 => kernel_rfl
  case h21 => kernel_rfl
  case h31 => kernel_rfl
  case h41 => exact fun _ _ _ h => h
  case hw1 => rfl
  case hy1 => ((intro w hSw; go_simp); (try (with_reducible rfl)))
  try simp only [Act.put, List.setIfInBounds_toArray, List.set_cons_zero, List.set_cons_succ]
  refine wpAnyH_take (i := 2) (oi := ?oi2) (v := ?v2) ?h02 ?h12 ?h22 ?h32 ?h42 (Or.inl ⟨?hw2, ?hy2⟩) (by assumption) ?rest2
  case h02 => (simp only [List.getElem?_toArray, List.getElem?_cons_zero, List.getElem?_cons_succ]; rfl)
  case h12 => kernel_rfl
  case h22 => kernel_rfl
  case h32 => kernel_rfl
  case h42 => exact fun _ _ _ h => h
  case hw2 => rfl
  case hy2 => ((intro w hSw; go_simp); (try (with_reducible rfl)))
  try simp only [Act.put, List.setIfInBounds_toArray, List.set_cons_zero, List.set_cons_succ]
  refine wpAnyH_ready (rs := [3]) (by kernel_rfl) (by simp) ?_
  refine AllReadyH.cons (o := ?oi3) ?h03 (fun K hK => ?_) AllReadyH.nil
  case h03 => (simp only [List.getElem?_toArray, List.getElem?_cons_zero, List.getElem?_cons_succ]; rfl)
  rw [if_pos (by rfl)]
  refine wp_store_mid _ _ _ rfl _ _ Z2.toArray rfl rfl (HHt.out _ hHeld.2) HHi.out Hone.out ?_
  refine hK.out _ _ ?_ (fun hHeld2 => ?_)
  · exact ⟨World.rangeAt_setCells_apart hHeld.1 _ _ _ (.inl hne), World.there_setCells hHeld.2 _ _ _⟩
  clear hK K
  try simp only [Act.put, List.setIfInBounds_toArray, List.set_cons_zero, List.set_cons_succ]
  refine wpAnyH_take (i := 4) (oi := ?oi4) (v := ?v4) ?h04 ?h14 ?h24 ?h34 ?h44 (Or.inl ⟨?hw4, ?hy4⟩) (by assumption) ?rest4
  case h04 => (simp only [List.getElem?_toArray, List.getElem?_cons_zero, List.getElem?_cons_succ]; rfl)
  case h14 => kernel_rfl
  case h24 => kernel_rfl
  case h34 => kernel_rfl
  case h44 => exact fun _ _ _ h => h
  case hw4 => rfl
  case hy4 => ((intro w hSw; go_simp); (try (with_reducible rfl)))
  try simp only [Act.put, List.setIfInBounds_toArray, List.set_cons_zero, List.set_cons_succ]
  refine wpAnyH_take (i := 5) (oi := ?oi5) (v := ?v5) ?h05 ?h15 ?h25 ?h35 ?h45 (Or.inl ⟨?hw5, ?hy5⟩) (by assumption) ?rest5
  case h05 => (simp only [List.getElem?_toArray, List.getElem?_cons_zero, List.getElem?_cons_succ]; rfl)
  case h15 => kernel_rfl
  case h25 => kernel_rfl
  case h35 => kernel_rfl
  case h45 => exact fun _ _ _ h => h
  case hw5 => rfl
  case hy5 => ((intro w hSw; go_simp); (try (with_reducible rfl)))
  try simp only [Act.put, List.setIfInBounds_toArray, List.set_cons_zero, List.set_cons_succ]
  refine wpAnyH_done (by kernel_rfl) ?_ _
  have hr := hide (World.rangeAt_setCells_same W4.drew w.heap.size 0 Z2 (by rw [hl2]; exact hHeld.2))
  have HBf := hide (HB.out.drew.trans (Below.setCells_ge w.heap.size w.heap.size (Nat.le_refl _) Z2 0 W4.drew))
  obtain ⟨W5, hW5⟩ : ∃ W5, W4.drew.setCells w.heap.size 0 Z2 = W5 := ⟨_, rfl⟩
  rw [hW5] at hr HBf ⊢
  clear hW5 hHeld2 hHeld g1 t0 h1c hl2
  go_wp2
  exact bodyPost_ret (v := .tuple #[.agg Z2.toArray, .string (s.extract 1 s.size), .bool true]) (results_mid2 rfl _ _ w.heap.size Z2 _ _ _ rfl rfl rfl hr.out HHu.out.1 rfl HHu.out.2) rfl ⟨rfl, HBf.out⟩
end Go.Proofs.Ytpfiofgchkfkhaa

/- Contract of pattern's next at '?' (under way). -/
set_option linter.unusedVariables false
set_option linter.unusedSimpArgs false
namespace Go.Proofs.Ytpfiofgchkfkhaa
open Go.RowKit Go.Shelf

def preIt (k : Nat) : It := ⟨false, fun x => decide (x.toNat < k), false, 0⟩
def allIt : It := ⟨false, fun _ => true, false, 0⟩
theorem preIt_0 : preIt 0 = noIt := by
  unfold preIt noIt
  congr 1
theorem preIt_all : preIt 256 = allIt := by
  unfold preIt allIt
  congr 1
  funext x
  exact decide_eq_true x.toNat_lt
theorem itL_pre (k : Nat) (hk : k < 256) : (itL (preIt k)).set (1 + k) (.bool true) = itL (preIt (k + 1)) := by
  apply List.ext_getElem?
  intro j
  rw [List.getElem?_set, itL_get, itL_get, itL_len]
  by_cases h2 : 1 + k = j
  · subst h2
    rw [if_pos rfl, if_pos (by omega), if_neg (by omega), if_pos (by omega)]
    show _ = some (Value.bool (decide ((UInt8.ofNat (1 + k - 1)).toNat < k + 1)))
    rw [UInt8.toNat_ofNat', Nat.mod_eq_of_lt (by omega), decide_eq_true (by omega)]
  · rw [if_neg h2]
    by_cases h3 : j = 0
    · rw [if_pos h3, if_pos h3]; rfl
    · rw [if_neg h3, if_neg h3]
      by_cases h4 : j < 257
      · rw [if_pos h4, if_pos h4]
        show some (Value.bool (decide ((UInt8.ofNat (j - 1)).toNat < k))) = some (Value.bool (decide ((UInt8.ofNat (j - 1)).toNat < k + 1)))
        rw [UInt8.toNat_ofNat', Nat.mod_eq_of_lt (by omega)]
        congr 2
        rw [decide_eq_decide]; omega
      · rw [if_neg h4, if_neg h4]; rfl

set_option maxRecDepth 100000 in
set_option maxHeartbeats 8000000 in
theorem next_quest (s : ByteArray) (w : World) (h : 0 < s.size) (hc : s[0]'h = 63) :
    Calls Try.prog 87 #[.string s] w fun e w' => e = .returned (.tuple #[.agg (itL allIt).toArray, .string (s.extract 1 s.size), .bool true]) ∧ Below w.heap.size w w' := by
  have h0 : (0 : Int) < (s.size : Int) := by omega
  have hz := zero_it
  have HP0 := hide preIt_0
  have HPA := hide preIt_all
  have hone : (itL allIt).toArray.all (·.oneCell') = true := by kernel_rfl
  have HSet := hide itL_pre
  obtain ⟨Z, hZ⟩ : ∃ Z, itL noIt = Z := ⟨_, rfl⟩
  obtain ⟨Z2, hZ2⟩ : ∃ Z, itL allIt = Z := ⟨_, rfl⟩
  have HL := hide (And.intro (show Z.length = 259 by rw [← hZ]; exact itL_len _) (show Z2.length = 259 by rw [← hZ2]; exact itL_len _))
  rw [hZ] at hz
  rw [hZ2] at hone ⊢
  have HZ := hide hZ
  have HZ2 := hide hZ2
  have Hone := hide hone
  clear hZ hZ2 hone
  go_enter Try.func87, Try.ntmps87
  go_upto_region 11 with fail
  obtain ⟨W2, hW2⟩ : ∃ W2, (w.alloc (.cells Z.toArray 119)).alloc (.cells Z.toArray 119) = W2 := ⟨_, rfl⟩
  have hB : Below w.heap.size w W2 := by
    rw [← hW2]
    exact ((Below.refl _ _).alloc (Nat.le_refl _) _).alloc (by rw [World.size_alloc]; omega) _
  have r0 : Row W2 w.heap.size 119 Z.toArray := by rw [← hW2]; exact (Row.new _ _ _).alloc _
  have r1 : Row W2 (w.heap.size + 1) 119 Z.toArray := by
    rw [← hW2]
    have := Row.new (w.alloc (.cells Z.toArray 119)) 119 Z.toArray
    rwa [World.size_alloc] at this
  have HW := hide (And.intro hB (And.intro r0 r1))
  rw [hW2]
  clear hW2 hB r0 r1 hz
  go_wp2
  go_loopw [52] (fun v wr => ∃ k : Nat, v = .int .i64 (k : Int) ∧ k ≤ 256 ∧ Row wr (w.heap.size + 1) 119 (itL (preIt k)).toArray ∧ Row wr w.heap.size 119 Z.toArray ∧ Below w.heap.size w wr) (fun v _ => 256 - (intOf v).toNat)
  case atStart => exact ⟨0, rfl, by omega, by rw [HP0.out, HZ.out]; exact HW.out.2.2, HW.out.2.1, HW.out.1⟩
  case round =>
    obtain ⟨k, rfl, hk, hr1, hr0, hb⟩ := hrel
    have H1 := hide hr1
    have H0 := hide hr0
    have Hb := hide hb
    clear hr1 hr0 hb
    by_cases hk2 : k < 256
    · have hk' : (k : Int) < 256 := by omega
      have hk0 : (0 : Int) ≤ (k : Int) := by omega
      have f0 : wr.frozen? ⟨w.heap.size + 1, 1 + k, none⟩ = false := H1.out.frozen _
      obtain ⟨v0, hv0⟩ : ∃ v0, wr.cell? ⟨w.heap.size + 1, 1 + k, none⟩ = some v0 := ⟨.bool ((preIt k).set (UInt8.ofNat k)), by
        rw [H1.out.cell]
        rw [List.getElem?_toArray, itL_get, if_neg (by omega), if_pos (by omega), show 1 + k - 1 = k by omega]⟩
      have hwr : IntKind.i64.wrap ((k : Int) + 1) = (k : Int) + 1 := IntWalk.i64_in _ (by omega)
      have HR := hide (show Row (wr.setCell ⟨w.heap.size + 1, 1 + k, none⟩ (.bool true)) (w.heap.size + 1) 119 (itL (preIt (k + 1))).toArray by
        have := H1.out.set_ (1 + k) (.bool true)
        rwa [show (itL (preIt k)).toArray.setIfInBounds (1 + k) (.bool true) = (itL (preIt (k + 1))).toArray by rw [← HSet.out k hk2]; simp] at this)
      go_wp2
      go_roundw
      case rel => exact ⟨k + 1, by go_num, by omega, HR.out, H0.out.off (by omega) _ _, Hb.out.setCell (p := ⟨w.heap.size + 1, 1 + k, none⟩) (Nat.le_succ _) _⟩
      case measure => simp [intOf]; omega
    · obtain rfl : k = 256 := by omega
      rw [HPA.out, HZ2.out] at H1
      have hk' : ¬ ((256 : Nat) : Int) < 256 := by omega
      go_upto_region 16 with fail
      have g1 : wr.rangeAt (w.heap.size + 1) 0 Z2 := fun j v hv => by rw [Nat.zero_add, H1.out.cell j]; simpa using hv
      have t0 : wr.there w.heap.size 0 259 := fun j hj => by
        rw [Nat.zero_add]
        refine ⟨?_, H0.out.frozen j⟩
        rw [H0.out.cell j]
        have := HL.out.1
        simp; omega
      have hu := Try.underlying119
      have hi : (Try.prog.info? 119).map (·.size) = some Z2.length := by rw [HL.out.2]; kernel_rfl
      have hl2 := HL.out.2
      have h1c : ∀ v ∈ Z2, v.oneCell' = true := fun v hv => (Array.all_eq_true_iff_forall_mem.1 Hone.out) v (by simpa using hv)
      have hs1 : (1 : Int) ≤ (s.size : Int) := by omega
      have T0 := hide t0
      have hne : w.heap.size + 1 ≠ w.heap.size := by omega
      have hthere : ∀ W : World, W.there w.heap.size 0 259 → W.there w.heap.size 0 Z2.toArray.size := fun W h => by simpa [hl2] using h
      have hi2 : (Try.prog.info? 119).map (·.size) = some Z2.toArray.size := by simpa using hi
      refine wp_region_held_drew (S := fun w' => w'.rangeAt (w.heap.size + 1) 0 Z2 ∧ w'.there w.heap.size 0 259) (by kernel_rfl) ?_ (fun hHeld => ?_)
      · exact ⟨g1, T0.out⟩
      refine wpAnyH_take (i := 0) (oi := ?oi0) (v := .agg Z2.toArray) ?h00 ?h10 ?h20 ?h30 ?h40 ?hy0 (by assumption) ?rest0
      case h00 => (simp only [List.getElem?_toArray, List.getElem?_cons_zero, List.getElem?_cons_succ]; rfl)
      case h10 => kernel_rfl
      case h20 => kernel_rfl
      case h30 => kernel_rfl
      case h40 => exact fun _ _ _ h => h
      case hy0 => exact yieldsIf_load_mid (by rfl) _ _ rfl _ _ rfl Z2 _ (fun w' hw' => hw'.1) hu rfl hi
      try simp only [Act.put, List.setIfInBounds_toArray, List.set_cons_zero, List.set_cons_succ]
      have HHt := hide hthere
      have HHi := hide hi2
      have HHu := hide (And.intro hu hi)
      clear hthere hi2 hu hi
      refine wpAnyH_take (i := 1) (oi := ?oi1) (v := ?v1) ?h01 ?h11 ?h21 ?h31 ?h41 (Or.inl ⟨?hw1, ?hy1⟩) (by assumption) ?rest1
      case h01 => (simp only [List.getElem?_toArray, List.getElem?_cons_zero, List.getElem?_cons_succ]; rfl)
      case h11 => kernel_rfl
      case h21 => kernel_rfl
      case h31 => kernel_rfl
      case h41 => exact fun _ _ _ h => h
      case hw1 => rfl
      case hy1 => ((intro w hSw; go_simp); (try (with_reducible rfl)))
      try simp only [Act.put, List.setIfInBounds_toArray, List.set_cons_zero, List.set_cons_succ]
      refine wpAnyH_take (i := 2) (oi := ?oi2) (v := ?v2) ?h02 ?h12 ?h22 ?h32 ?h42 (Or.inl ⟨?hw2, ?hy2⟩) (by assumption) ?rest2
      case h02 => (simp only [List.getElem?_toArray, List.getElem?_cons_zero, List.getElem?_cons_succ]; rfl)
      case h12 => kernel_rfl
      case h22 => kernel_rfl
      case h32 => kernel_rfl
      case h42 => exact fun _ _ _ h => h
      case hw2 => rfl
      case hy2 => ((intro w hSw; go_simp); (try (with_reducible rfl)))
      try simp only [Act.put, List.setIfInBounds_toArray, List.set_cons_zero, List.set_cons_succ]
      refine wpAnyH_ready (rs := [3]) (by kernel_rfl) (by simp) ?_
      refine AllReadyH.cons (o := ?oi3) ?h03 (fun K hK => ?_) AllReadyH.nil
      case h03 => (simp only [List.getElem?_toArray, List.getElem?_cons_zero, List.getElem?_cons_succ]; rfl)
      rw [if_pos (by rfl)]
      refine wp_store_mid _ _ _ rfl _ _ Z2.toArray rfl rfl (HHt.out _ hHeld.2) HHi.out Hone.out ?_
      refine hK.out _ _ ?_ (fun hHeld2 => ?_)
      · exact ⟨World.rangeAt_setCells_apart hHeld.1 _ _ _ (.inl hne), World.there_setCells hHeld.2 _ _ _⟩
      clear hK K
      try simp only [Act.put, List.setIfInBounds_toArray, List.set_cons_zero, List.set_cons_succ]
      refine wpAnyH_take (i := 4) (oi := ?oi4) (v := ?v4) ?h04 ?h14 ?h24 ?h34 ?h44 (Or.inl ⟨?hw4, ?hy4⟩) (by assumption) ?rest4
      case h04 => (simp only [List.getElem?_toArray, List.getElem?_cons_zero, List.getElem?_cons_succ]; rfl)
      case h14 => kernel_rfl
      case h24 => kernel_rfl
      case h34 => kernel_rfl
      case h44 => exact fun _ _ _ h => h
      case hw4 => rfl
      case hy4 => ((intro w hSw; go_simp); (try (with_reducible rfl)))
      try simp only [Act.put, List.setIfInBounds_toArray, List.set_cons_zero, List.set_cons_succ]
      refine wpAnyH_take (i := 5) (oi := ?oi5) (v := ?v5) ?h05 ?h15 ?h25 ?h35 ?h45 (Or.inl ⟨?hw5, ?hy5⟩) (by assumption) ?rest5
      case h05 => (simp only [List.getElem?_toArray, List.getElem?_cons_zero, List.getElem?_cons_succ]; rfl)
      case h15 => kernel_rfl
      case h25 => kernel_rfl
      case h35 => kernel_rfl
      case h45 => exact fun _ _ _ h => h
      case hw5 => rfl
      case hy5 => ((intro w hSw; go_simp); (try (with_reducible rfl)))
      try simp only [Act.put, List.setIfInBounds_toArray, List.set_cons_zero, List.set_cons_succ]
      refine wpAnyH_done (by kernel_rfl) ?_ _
      have hr := hide (World.rangeAt_setCells_same wr.drew w.heap.size 0 Z2 (by rw [hl2]; exact hHeld.2))
      have HBf := hide (Hb.out.drew.trans (Below.setCells_ge w.heap.size w.heap.size (Nat.le_refl _) Z2 0 wr.drew))
      obtain ⟨W5, hW5⟩ : ∃ W5, wr.drew.setCells w.heap.size 0 Z2 = W5 := ⟨_, rfl⟩
      rw [hW5] at hr HBf ⊢
      clear hW5 hHeld2 hHeld g1 t0 h1c hl2
      go_wp2
      exact bodyPost_ret (v := .tuple #[.agg Z2.toArray, .string (s.extract 1 s.size), .bool true]) (results_mid2 rfl _ _ w.heap.size Z2 _ _ _ rfl rfl rfl hr.out HHu.out.1 rfl HHu.out.2) rfl ⟨rfl, HBf.out⟩
end Go.Proofs.Ytpfiofgchkfkhaa

/- Contract of pattern's next: all ways joined. -/
set_option linter.unusedVariables false
set_option linter.unusedSimpArgs false
namespace Go.Proofs.Ytpfiofgchkfkhaa
open Go.RowKit Go.Shelf

set_option maxRecDepth 100000 in
set_option maxHeartbeats 8000000 in
theorem next_set (l : List UInt8) (w : World) (hl : l.length ≤ 1000) (hg : Gm w) :
    Calls Try.prog 87 #[.string (bsP (91 :: l))] w (ItPost (setV l) w.heap.size w) := by
  have S := hide (fun W (hW : Gm W) => set_any l W hl hW)
  have hd : (bsP (91 :: l)).extract 1 (bsP (91 :: l)).size = bsP l := bsP_drop (91 :: l) 1
  have hbz : (bsP (91 :: l)).size = l.length + 1 := bsP_size (91 :: l)
  have p0 : 0 < (bsP (91 :: l)).size := by omega
  have p0' : (0 : Int) < ((bsP (91 :: l)).size : Int) := by omega
  have p1' : (1 : Int) ≤ ((bsP (91 :: l)).size : Int) := by omega
  have hc : (bsP (91 :: l))[0]'p0 = 91 := bsP_get _ 0 p0
  have G := hide hg
  have hz := zero_it
  obtain ⟨Z, hZ⟩ : ∃ Z, itL noIt = Z := ⟨_, rfl⟩
  rw [hZ] at hz
  have HL := hide (show Z.length = 259 by rw [← hZ]; exact itL_len _)
  generalize bsP (91 :: l) = s at *
  clear hZ hg hl hbz
  go_enter Try.func87, Try.ntmps87
  go_upto_region 7 with fail
  obtain ⟨W2, hW2⟩ : ∃ W2, (w.alloc (.cells Z.toArray 119)).alloc (.cells Z.toArray 119) = W2 := ⟨_, rfl⟩
  have hB : Below w.heap.size w W2 := by
    rw [← hW2]
    exact ((Below.refl _ _).alloc (Nat.le_refl _) _).alloc (by rw [World.size_alloc]; omega) _
  have r0 : Row W2 w.heap.size 119 Z.toArray := by rw [← hW2]; exact (Row.new _ _ _).alloc _
  have HW := hide (And.intro hB r0)
  rw [hW2]
  clear hW2 hB r0 hz
  go_wp2_with fail
  refine (S.out _ (G.out.below HW.out.1)).mono ?_
  rintro e w1 ⟨x, t, ok, rfl, hR, hb⟩
  have hB1 : Below w.heap.size w w1 := HW.out.1.trans (hb.mono HW.out.1.size)
  have r1 : Row w1 w.heap.size 119 Z.toArray := HW.out.2.below hb HW.out.2.lt
  have HR := hide hR
  obtain ⟨Zx, hZx⟩ : ∃ Zx, itL x = Zx := ⟨_, rfl⟩
  have hx : Zx.length = 259 := by rw [← hZx]; exact itL_len _
  have Hone := hide (show Zx.toArray.all (·.oneCell') = true by rw [← hZx]; exact itL_one _)
  have HI := hide (show (Try.prog.info? 119).map (·.size) = some Zx.length by rw [hx]; kernel_rfl)
  have HI2 := hide (show (Try.prog.info? 119).map (·.size) = some Zx.toArray.size by rw [List.size_toArray]; exact HI.out)
  have t0 : w1.there w.heap.size 0 Zx.length := fun j hj => by
    rw [Nat.zero_add]
    refine ⟨?_, r1.frozen j⟩
    rw [r1.cell j]
    have := HL.out
    simp; omega
  have T0 := hide (show w1.there w.heap.size 0 Zx.toArray.size by rw [List.size_toArray]; exact t0)
  have HB := hide (hB1.trans (Below.setCells_ge w.heap.size w.heap.size (Nat.le_refl _) Zx 0 w1))
  have HRf := hide (World.rangeAt_setCells_same w1 w.heap.size 0 Zx t0)
  have HZx := hide hZx
  rw [hZx]
  clear hZx hx t0 r1 hB1 hb hR
  go_wp2_with (refine wpList_store_mid rfl 119 (.tmp 2) (.tmp 42) rfl w.heap.size 0 Zx.toArray rfl rfl T0.out HI2.out Hone.out ?_)
  refine bodyPost_ret (v := .tuple #[.agg Zx.toArray, .string (bsP t), .bool ok]) (results_mid2 rfl _ _ w.heap.size Zx _ _ _ rfl rfl rfl HRf.out Try.underlying119 rfl HI.out) rfl ?_
  exact ⟨x, t, ok, by rw [HZx.out], HR.out, HB.out⟩
theorem next_any (l : List UInt8) (w : World) (hn : l ≠ []) (hl : l.length ≤ 1000) (hg : Gm w) :
    Calls Try.prog 87 #[.string (bsP l)] w (ItPost (nextV l) w.heap.size w) := by
  obtain ⟨c, t, rfl⟩ : ∃ c t, l = c :: t := by cases l with | nil => exact absurd rfl hn | cons c t => exact ⟨c, t, rfl⟩
  have p0 : 0 < (bsP (c :: t)).size := by rw [bsP_size]; simp
  have hc : (bsP (c :: t))[0]'p0 = c := bsP_get _ 0 p0
  have hd : (bsP (c :: t)).extract 1 (bsP (c :: t)).size = bsP t := bsP_drop (c :: t) 1
  by_cases h1 : c.toNat < 33 ∨ 126 < c.toNat ∨ c = 46 ∨ c = 92 ∨ c = 93
  · have hR : nextV (c :: t) = none := by rw [nextV, if_pos h1]
    refine (next_bad c _ w p0 hc h1).mono ?_
    rintro e w' ⟨rfl, hb⟩
    exact ⟨noIt, [], false, rfl, hR, hb⟩
  · by_cases h2 : c = 91
    · subst h2
      have hR : nextV (91 :: t) = setV t := by rw [nextV, if_neg h1, if_pos rfl]
      rw [hR]
      exact next_set t w (by rw [List.length_cons] at hl; omega) hg
    · by_cases h3 : c = 42
      · subst h3
        have hR : nextV (42 :: t) = some (⟨true, fun _ => false, false, 0⟩, t) := by rw [nextV, if_neg h1, if_neg h2, if_pos rfl]
        refine (next_star _ w p0 hc).mono ?_
        rintro e w' ⟨rfl, hb⟩
        rw [hd]
        exact ⟨_, t, true, rfl, hR, hb⟩
      · by_cases h4 : c = 63
        · subst h4
          have hR : nextV (63 :: t) = some (allIt, t) := by rw [nextV, if_neg h1, if_neg h2, if_neg h3, if_pos rfl]; rfl
          refine (next_quest _ w p0 hc).mono ?_
          rintro e w' ⟨rfl, hb⟩
          rw [hd]
          exact ⟨_, t, true, rfl, hR, hb⟩
        · have hR : nextV (c :: t) = some (byteIt c, t) := by rw [nextV, if_neg h1, if_neg h2, if_neg h3, if_neg h4]; rfl
          refine (next_byte c _ w p0 hc (by omega) (by omega) (fun e => h1 (by simp [e])) (fun e => h1 (by simp [e])) (fun e => h1 (by simp [e])) h2 h3 h4).mono ?_
          rintro e w' ⟨rfl, hb⟩
          rw [hd]
          exact ⟨_, t, true, rfl, hR, hb⟩
end Go.Proofs.Ytpfiofgchkfkhaa

/- A slice of one long struct built; plain laws of wild parts. -/
set_option linter.unusedVariables false
set_option linter.unusedSimpArgs false
namespace Go.Proofs.Ytpfiofgchkfkhaa
open Go.RowKit Go.Shelf

theorem foldl_cells : ∀ (l : List Value) (k : Nat) (arr : Array Value), k + l.length ≤ arr.size → ∀ j : Nat, ((l.zipIdx k).foldl (fun (cs : Array Value) (p : Value × Nat) => cs.setIfInBounds (0 + p.2) p.1) arr)[j]? = if k ≤ j ∧ j < k + l.length then l[j - k]? else arr[j]?
  | [], k, arr, _, j => by
    rw [if_neg (by simp only [List.length_nil]; omega)]; rfl
  | v :: r, k, arr, h, j => by
    rw [List.zipIdx_cons, List.foldl_cons]
    rw [foldl_cells r (k + 1) _ (by simp only [Array.size_setIfInBounds]; simp only [List.length_cons] at h; omega) j]
    simp only [List.length_cons]
    by_cases h1 : j = k
    · subst h1
      rw [if_neg (by omega), if_pos (by omega), Nat.sub_self]
      simp only [Nat.zero_add, List.getElem?_cons_zero]
      rw [Array.getElem?_setIfInBounds_self_of_lt (by simp only [List.length_cons] at h; omega)]
    · by_cases h2 : k ≤ j ∧ j < k + (r.length + 1)
      · rw [if_pos (by omega), if_pos h2]
        obtain ⟨i, hi⟩ : ∃ i, j - k = i + 1 := ⟨j - k - 1, by omega⟩
        rw [hi, List.getElem?_cons_succ]
        congr 1; omega
      · rw [if_neg (by omega), if_neg h2]
        simp only [Nat.zero_add]
        rw [Array.getElem?_setIfInBounds_ne (by omega)]
theorem fill_one (cs : List Value) (arr : Array Value) (h : arr.size = cs.length) : Instr.fill (fun i => some (i * cs.length, cs.length)) arr [(0, .agg cs.toArray)] = some cs.toArray := by
  unfold Instr.fill
  simp only [Value.cells, Nat.zero_mul]
  rw [if_neg (by simp; omega)]
  unfold Instr.fill
  congr 1
  rw [← Array.foldl_toList, Array.toList_zipIdx]
  apply Array.ext_getElem?
  intro j
  rw [foldl_cells cs 0 arr (by omega) j]
  by_cases hj : j < cs.length
  · rw [if_pos ⟨Nat.zero_le _, by omega⟩]; simp
  · rw [if_neg (by omega), Array.getElem?_eq_none (by omega), Array.getElem?_eq_none (by simpa using Nat.le_of_not_lt hj)]
theorem run_build1 {P : Program} (t e : TypeId) (cs Z : List Value) (w : World) (ht : P.underlying t = some (.slice e)) (hz : (zeroValue e).run P w = .ok (.agg Z.toArray) w) (hi : (P.info? e).map (·.size) = some cs.length) (hp : 0 < cs.length) (hl : cs.length ≤ 1000) :
    (Instr.buildSlice t 1 #[(0, .agg cs.toArray)]).run P w = .ok (.slice (some ⟨w.heap.size, 0, none⟩) 1 1) (w.alloc (.cells cs.toArray e)) := by
  cases hq : P.info? e with
  | none => rw [hq] at hi; cases hi
  | some i =>
    have hs : i.size = cs.length := by simpa [hq] using hi
    have h1 : ¬ (1 * cs.length > 2 ^ 24) := by omega
    have h2 : ¬ (1 * cs.length = 0) := by omega
    unfold Instr.buildSlice
    simp only [Sem.run_bind, run_underlying ht, Result.andThen_ok]
    simp only [sizeOf, typeInfo, Sem.run_bind, Sem.run_pure, hq, hs, Result.andThen_ok]
    simp [h1, h2, hz, Sem.run_bind, Result.andThen, hq, hs]
    rw [if_neg (by omega), if_neg (by intro e; rw [e] at hp; exact absurd hp (by decide))]
    rw [fill_one cs _ (by simp)]
    rfl
/-- the operation at the list of a plain region -/
theorem wpList_build1 {P : Program} {ops : Array Oper} {rest : List Oper} {op : Oper} {a : Act} {w : World} {Q : Exit → Act → World → Prop} (hgd : op.guard = none) (t e : TypeId) (x : Operand) (ho : op.op = .buildSlice t 1 #[(0, x)])
    (cs Z : List Value) (hx : a.eval x = .agg cs.toArray) (ht : P.underlying t = some (.slice e)) (hz : ∀ w, (zeroValue e).run P w = .ok (.agg Z.toArray) w) (hi : (P.info? e).map (·.size) = some cs.length) (hp : 0 < cs.length) (hl : cs.length ≤ 1000)
    (h : wpList P ops Q rest (a.put op.dst (.slice (some ⟨w.heap.size, 0, none⟩) 1 1)) (w.alloc (.cells cs.toArray e))) : wpList P ops Q (op :: rest) a w :=
  wpList_plain hgd fun _ hK => by
    unfold Oper.wp execOp
    simp only [ho, List.map_toArray, List.map_cons, List.map_nil, hx, Sem.run_bind, run_build1 t e cs Z w ht (hz w) hi hp hl, Result.andThen_ok, Sem.run_pure]
    exact hK _ _ h
end Go.Proofs.Ytpfiofgchkfkhaa

/- Contract of pattern's readWild. -/
set_option linter.unusedVariables false
set_option linter.unusedSimpArgs false
namespace Go.Proofs.Ytpfiofgchkfkhaa
open Go.RowKit Go.Shelf

theorem setV_len {s t : List UInt8} {x : It} (h : setV s = some (x, t)) : t.length ≤ s.length := by
  unfold setV at h
  simp only at h
  have h0 : (if decide (s.head? = some 33) = true then s.tail else s).length ≤ s.length := by
    split
    · rw [List.length_tail]; omega
    · exact Nat.le_refl _
  generalize (if decide (s.head? = some 33) = true then s.tail else s) = s1 at h h0
  unfold cutB at h
  by_cases hm : (93 : UInt8) ∈ s1
  · rw [if_pos hm] at h
    simp only [Option.bind_some] at h
    split at h
    · cases h
    · cases hs : setF (s1.takeWhile (· != 93)).length (s1.takeWhile (· != 93)) fun _ => false with
      | none => rw [hs] at h; cases h
      | some f =>
        rw [hs] at h
        simp only [Option.map_some, Option.some.injEq, Prod.mk.injEq] at h
        rw [← h.2, List.length_drop]; omega
  · rw [if_neg hm] at h; cases h
theorem nextV_len {s t : List UInt8} {x : It} (h : nextV s = some (x, t)) : t.length < s.length := by
  cases s with
  | nil => cases h
  | cons c r =>
    rw [nextV] at h
    have e : (c :: r).length = r.length + 1 := rfl
    split at h
    · cases h
    · split at h
      · have := setV_len h; omega
      · split at h
        · simp only [Option.some.injEq, Prod.mk.injEq] at h; rw [← h.2]; omega
        · split at h
          · simp only [Option.some.injEq, Prod.mk.injEq] at h; rw [← h.2]; omega
          · simp only [Option.some.injEq, Prod.mk.injEq] at h; rw [← h.2]; omega
theorem wildF_fuel : ∀ (n m : Nat) (s : List UInt8), s.length ≤ n → s.length ≤ m → wildF n s = wildF m s
  | 0, m, s, hn, _ => by
    have hs : s = [] := List.length_eq_zero_iff.1 (by omega)
    subst hs
    cases m <;> rfl
  | n + 1, 0, s, _, hm => by
    have hs : s = [] := List.length_eq_zero_iff.1 (by omega)
    subst hs; rfl
  | n + 1, m + 1, s, hn, hm => by
    unfold wildF
    by_cases hs : s = []
    · rw [if_pos hs, if_pos hs]
    · rw [if_neg hs, if_neg hs]
      cases h : nextV s with
      | none => rfl
      | some p =>
        have := nextV_len (x := p.1) (t := p.2) h
        simp only [Option.bind_some]
        rw [wildF_fuel n m p.2 (by omega) (by omega)]
theorem wildF_step (s : List UInt8) (hs : s ≠ []) : wildF s.length s = (nextV s).bind fun p => (wildF p.2.length p.2).map (p.1 :: ·) := by
  obtain ⟨n, hn⟩ : ∃ n, s.length = n + 1 := ⟨s.length - 1, by have := List.length_pos_iff.2 hs; omega⟩
  rw [hn]
  conv => lhs; unfold wildF
  rw [if_neg hs]
  cases h : nextV s with
  | none => rfl
  | some p =>
    have := nextV_len (x := p.1) (t := p.2) h
    simp only [Option.bind_some]
    rw [wildF_fuel n p.2.length p.2 (by omega) (Nat.le_refl _)]
/-- the cells of items -/
def itsL (O : List It) : List Value := O.flatMap itL
theorem itsL_len : ∀ O : List It, (itsL O).length = O.length * 259
  | [] => rfl
  | x :: O => by
    show (itL x ++ itsL O).length = _
    rw [List.length_append, itL_len, itsL_len O, List.length_cons]; omega
theorem itsL_snoc (O : List It) (x : It) : itsL O ++ itL x = itsL (O ++ [x]) := by
  unfold itsL
  rw [List.flatMap_append]; simp
theorem itsL_get : ∀ (O : List It) (i : Nat) (hi : i < O.length) (j : Nat), j < 259 → (itsL O)[i * 259 + j]? = (itL O[i])[j]?
  | x :: O, 0, _, j, hj => by
    show (itL x ++ itsL O)[0 * 259 + j]? = _
    rw [List.getElem?_append_left (by rw [itL_len]; omega)]
    simp
  | x :: O, i + 1, hi, j, hj => by
    show (itL x ++ itsL O)[(i + 1) * 259 + j]? = _
    rw [List.getElem?_append_right (by rw [itL_len]; omega), itL_len, show (i + 1) * 259 + j - 259 = i * 259 + j by omega]
    exact itsL_get O i (by simpa using hi) j hj
/-- items lie in a block from its beginning on -/
def WIt (W : World) (g : Nat) (O : List It) : Prop := ∀ i, ∀ hi : i < O.length, ∀ j v, (itL O[i])[j]? = some v → W.cell? ⟨g, i * 259 + j, none⟩ = some v
theorem WIt.items {W : World} {g : Nat} {O : List It} (h : WIt W g O) : Items W g 0 O := items_of W g 0 O fun i hi j v hv => by
  rw [Nat.zero_add]; exact h i hi j v hv
theorem WIt.below {W W' : World} {g B : Nat} {O : List It} (h : WIt W g O) (hb : Below B W W') (hg : g < B) : WIt W' g O := fun i hi j v hv => by
  rw [← h i hi j v hv]
  exact World.cell?_of_block (hb.block g hg)
theorem WIt.own {W : World} {base g n cap : Nat} {e : TypeId} {O : List It} (h : W.ownsRow base e 259 (.slice (some ⟨g, 0, none⟩) n cap) n (itsL O)) (hn : n = O.length) : WIt W g O := fun i hi j v hv => by
  have hj : j < 259 := by
    have := (List.getElem?_eq_some_iff.1 hv).1
    rwa [itL_len] at this
  rw [World.ownsRow.cellAt h (i * 259 + j) (by subst hn; have := Nat.mul_le_mul_right 259 hi; rw [Nat.succ_mul] at this; omega), itsL_get O i hi j hj]
  exact hv
def WildPost (R : Option (List It)) (B : Nat) (w : World) (e : Ending) (w' : World) : Prop :=
  match R with
  | none => e = .returned (.tuple #[.nilIface, .bool false]) ∧ Below B w w'
  | some O => ∃ g cap, e = .returned (.tuple #[.iface 116 (.slice (some ⟨g, 0, none⟩) O.length cap), .bool true]) ∧ WIt w' g O ∧ 1 ≤ O.length ∧ O.length ≤ cap ∧ O.length ≤ 64 ∧ B ≤ g ∧ g < w'.heap.size ∧ Below B w w'
theorem infoIt : (Try.prog.info? 119).map (fun i => (i.zero, i.size, i.bytes)) = some (some (.agg (itL noIt).toArray), 259, 259) := by kernel_rfl

set_option maxRecDepth 100000 in
set_option maxHeartbeats 8000000 in
theorem readWild_any (l : List UInt8) (w : World) (hl : l.length ≤ 1000) (hg : Gm w) :
    Calls Try.prog 82 #[.string (bsP l)] w (WildPost (wildV l) w.heap.size w) := by
  by_cases h1 : l = []
  · subst h1
    have hno := bsP_no
    have hR := hide (show wildV [] = none from rfl)
    generalize wildV [] = R at *
    go_enter Try.func82, Try.ntmps82
    go_wp2
    go_ret2
    rw [hR.out]
    exact ⟨rfl, Below.refl _ _⟩
  · by_cases h2 : 64 < l.length
    · have hne := bsP_ne h1
      have hs : (64 : Int) < ((bsP l).size : Int) := by rw [bsP_size]; omega
      have hR := hide (show wildV l = none by unfold wildV; rw [if_pos (.inr h2)])
      generalize wildV l = R at *
      generalize bsP l = s at *
      go_enter Try.func82, Try.ntmps82
      go_wp2
      go_ret2
      rw [hR.out]
      exact ⟨rfl, Below.refl _ _⟩
    · have hne := bsP_ne h1
      have hs : ¬ (64 : Int) < ((bsP l).size : Int) := by rw [bsP_size]; omega
      have hR : wildV l = wildF l.length l := by unfold wildV; rw [if_neg (by rintro (h | h); exact h1 h; exact h2 h)]
      have G := hide hg
      have HR := hide hR
      generalize wildV l = R at *
      clear hR hg
      go_enter Try.func82, Try.ntmps82
      go_upto_region 4 with fail
      clear hne hs
      go_loopg [0, 4] l.length (fun g v0 v4 wx => ∃ (r : List UInt8) (O : List It), v0 = .string (bsP r) ∧ g = r.length ∧ R = (wildF r.length r).map (O ++ ·) ∧ wx.ownsRow w.heap.size 119 259 v4 O.length (itsL O) ∧ Below w.heap.size w wx ∧ O.length + r.length ≤ 64 ∧ (O = [] → r ≠ []))
      case atStart =>
        refine ⟨l, [], rfl, rfl, ?_, World.ownsRow_nil _ _ _ _, Below.refl _ _, by simp; omega, fun _ => h1⟩
        rw [HR.out]
        cases wildF l.length l <;> rfl
      case round =>
        obtain ⟨r, O, rfl, rfl, hRr, hown, hb, hO, hO0⟩ := hrel
        have Hown := hide hown
        have Hb := hide hb
        have HRr := hide hRr
        clear hown hb hRr
        by_cases hr : r = []
        · subst hr
          have hno := bsP_no
          have hRs : R = some O := by rw [HRr.out]; show some (O ++ []) = _; rw [List.append_nil]
          have hOp : 0 < O.length := List.length_pos_iff.2 fun e => hO0 e rfl
          obtain ⟨g, cap, rfl, hg0, _⟩ := World.ownsRow.form Hown.out hOp
          have hlt := World.ownsRow.lt Hown.out g rfl
          have hcap : O.length ≤ cap := by
            rcases Hown.out.2 with ⟨h0, h1⟩ | ⟨g', cap', cur, hv, _, _, hle, _⟩
            · cases h0
            · cases hv; exact hle
          have HF := hide (show WildPost (some O) w.heap.size w (.returned (.tuple #[.iface 116 (.slice (some ⟨g, 0, none⟩) O.length cap), .bool true])) wr from ⟨g, cap, rfl, WIt.own Hown.out rfl, hOp, hcap, by simpa using hO, hlt.1, hlt.2, Hb.out⟩)
          have HRs := hide hRs
          clear hRs hOp hlt hcap hg0 hO hO0
          go_wp2
          go_ret2
          rw [HRs.out]
          exact HF.out
        · have hne := bsP_ne hr
          have hrz : r.length ≤ 64 := by omega
          have N := hide (next_any r wr hr (by omega) (G.out.below Hb.out))
          have hstep := wildF_step r hr
          have HStep := hide hstep
          have hrl := hide hO
          clear hstep hO hO0
          have hz := zero_it
          obtain ⟨Z, hZ⟩ : ∃ Z, itL noIt = Z := ⟨_, rfl⟩
          rw [hZ] at hz
          have HL := hide (show Z.length = 259 by rw [← hZ]; exact itL_len _)
          have Hz := hide hz
          clear hZ
          go_wp2_with fail
          refine N.out.mono ?_
          rintro e w1 ⟨x, t, ok, rfl, hN, hb1⟩
          obtain ⟨Zx, hZx⟩ : ∃ Zx, itL x = Zx := ⟨_, rfl⟩
          have hx : Zx.length = 259 := by rw [← hZx]; exact itL_len _
          have Hone := hide (show Zx.toArray.all (·.oneCell') = true by rw [← hZx]; exact itL_one _)
          have HI := hide (show (Try.prog.info? 119).map (·.size) = some Zx.length by rw [hx]; kernel_rfl)
          have HI2 := hide (show (Try.prog.info? 119).map (·.size) = some Zx.toArray.size by rw [List.size_toArray]; exact HI.out)
          have r1 : Row (w1.alloc (.cells Z.toArray 119)) w1.heap.size 119 Z.toArray := Row.new _ _ _
          have t0 : (w1.alloc (.cells Z.toArray 119)).there w1.heap.size 0 Zx.length := fun j hj => by
            rw [Nat.zero_add]
            refine ⟨?_, r1.frozen j⟩
            rw [r1.cell j]
            have := HL.out
            simp; omega
          have T0 := hide (show (w1.alloc (.cells Z.toArray 119)).there w1.heap.size 0 Zx.toArray.size by rw [List.size_toArray]; exact t0)
          have HRg := hide (World.rangeAt_setCells_same (w1.alloc (.cells Z.toArray 119)) w1.heap.size 0 Zx t0)
          have hb2 : Below w1.heap.size w1 ((w1.alloc (.cells Z.toArray 119)).setCells w1.heap.size 0 Zx) := ((Below.refl _ _).alloc (Nat.le_refl _) _).trans (Below.setCells_ge w1.heap.size w1.heap.size (Nat.le_refl _) Zx 0 _)
          have HB2 := hide ((Hb.out.trans (hb1.mono Hb.out.size)).trans (hb2.mono (Nat.le_trans Hb.out.size hb1.size)))
          have HOwn2 := hide (ownsRow_below (ownsRow_below Hown.out hb1) hb2)
          have HZx := hide hZx
          have HN := hide hN
          rw [hZx]
          clear hZx r1 t0 hb1 hb2 hN
          cases ok with
          | false =>
            have hRn : R = none := by rw [HRr.out, HStep.out, HN.out]; rfl
            have HRn := hide hRn
            clear hRn
            go_wp2_with (refine wpList_store_mid rfl 119 (.tmp 5) (.tmp 20) rfl w1.heap.size 0 Zx.toArray rfl rfl T0.out HI2.out Hone.out ?_)
            go_ret2
            rw [HRn.out]
            exact ⟨rfl, HB2.out⟩
          | true =>
            have hRs : R = (wildF t.length t).map ((O ++ [x]) ++ ·) := by
              rw [HRr.out, HStep.out, HN.out]
              simp only [if_pos, Option.bind_some]
              cases wildF t.length t with
              | none => rfl
              | some M => show some (O ++ (x :: M)) = some ((O ++ [x]) ++ M); rw [List.append_assoc]; rfl
            have HRs := hide hRs
            have Hx := hide (show 0 < Zx.length ∧ Zx.length ≤ 1000 by rw [hx]; omega)
            have htl : t.length < r.length := nextV_len (x := x) (by rw [HN.out]; rfl)
            clear hRs
            go_upto_region 8 with (refine wpList_store_mid rfl 119 (.tmp 5) (.tmp 20) rfl w1.heap.size 0 Zx.toArray rfl rfl T0.out HI2.out Hone.out ?_)
            obtain ⟨W4, hW4⟩ : ∃ W4, (w1.alloc (.cells Z.toArray 119)).setCells w1.heap.size 0 Zx.toArray.toList = W4 := ⟨_, rfl⟩
            have HRg4 := hide (show W4.rangeAt w1.heap.size 0 Zx by rw [← hW4]; exact HRg.out)
            have HB4 := hide (show Below w.heap.size w W4 by rw [← hW4]; exact HB2.out)
            have HOwn4 := hide (show W4.ownsRow w.heap.size 119 259 u4 O.length (itsL O) by rw [← hW4]; exact HOwn2.out)
            rw [hW4]
            clear hW4 HRg HB2 HOwn2
            go_step
            go_step
            go_step
            go_step
            refine wpList_load_mid rfl 119 (.tmp 5) rfl w1.heap.size 0 rfl Zx _ HRg4.out Try.underlying119 rfl HI.out ?_
            refine wpList_build1 rfl 116 119 (.tmp 26) rfl Zx Z rfl Try.underlying116 Hz.out HI.out Hx.out.1 Hx.out.2 ?_
            refine wpList_append_at _ rfl _ _ 116 rfl w.heap.size 119 infoIt Try.underlying116 (by simp [Value.cells, itL_len]) (by decide) u4 O.length (itsL O) rfl (HOwn4.out.alloc (.cells Zx.toArray 119)) ⟨W4.heap.size, 0, none⟩ 1 1 Zx rfl (by rw [hx]) ?hc ?h1c ?b1 ?b2 ?b3 ?_
            case hc =>
              intro j u hu
              have : (W4.alloc (.cells Zx.toArray 119)).cell? ⟨W4.heap.size, j, none⟩ = Zx.toArray[j]? := (Row.new W4 119 Zx.toArray).cell j
              rw [Addr.add_mid, Nat.zero_add, this]; simpa using hu
            case h1c => exact fun u hu => (Array.all_eq_true_iff_forall_mem.1 Hone.out) u (by simpa using hu)
            case b1 => unfold maxLen; have := hrl.out; omega
            case b2 => have := hrl.out; omega
            case b3 => rw [World.size_alloc]; have := HB4.out.size; omega
            intro v' w5 hown5 hgrow5 _ _
            have Hown5 := hide (show w5.ownsRow w.heap.size 119 259 v' (O ++ [x]).length (itsL (O ++ [x])) by
              rw [← itsL_snoc, HZx.out, List.length_append]; exact hown5)
            have HB5 := hide ((HB4.out.alloc HB4.out.size (.cells Zx.toArray 119)).grown hgrow5 (by rw [World.size_alloc]; have := HB4.out.size; omega) (fun j hj => (World.ownsRow.lt (HOwn4.out.alloc (.cells Zx.toArray 119)) j hj).1))
            clear hown5 hgrow5
            go_wp2
            go_roundg t.length
            case measure => exact htl
            case rel => exact ⟨t, O ++ [x], rfl, rfl, HRs.out, Hown5.out, HB5.out, by have := hrl.out; rw [List.length_append, List.length_singleton]; omega, fun e => by simp at e⟩
end Go.Proofs.Ytpfiofgchkfkhaa

/- From a contract to the row of a tied card whose walk reads what is laid: the list of what is laid and the world's shape are handed to the contract. -/
set_option linter.unusedVariables false
namespace Go.Proofs.Ytpfiofgchkfkhaa
open Go
variable {H : Type} {enc : TypeId × Value → H}

theorem returns_laid {a : Assume} {C : Checked} {os : Os} {f : FuncId} {fn : Func} {s : ChangeSpec} {conds : List PathCond} {apart fresh handsOn again : Bool} {X : World → Array Value → Prop}
    (hX : ∀ (w w' : World) (args : Array Value), w.heap = w'.heap → X w args → X w' args)
    (own : ownKnob C.prog.godebug = none) (started : os.Started) (noInit : C.prog.inits.idxOf? f = none) (hfn : C.prog.funcs[f]? = some fn)
    (witness : ∃ (w : World) (tape : Tape) (i : Input), w.os = os ∧ (w.forCall tape i).Shaped C.prog ∧ i.vars = [] ∧ Input.okWide C.prog (w.forCall tape i) .any w.heap.size f i ∧
      ((s.pre enc C.prog fn conds apart (w.forCall tape i).memory i.args ∧ X (w.forCall tape i).memory i.args) ∧ sizedMet enc C.prog fn (OpenSpec.ofChange s) apart (w.forCall tape i).memory i.args) ∧ a.holds C.prog (lone (Frame.enter C.prog f i.args .normal) [] (w.forCall tape i)))
    (contract : ∀ (W : World) (base : Nat) (args : Array Value) (ds gs : List (DataW H)) (before : List MemPlace),
      (∀ (j : Nat) t v, fn.params[j]? = some t → args[j]? = some v → Value.okWide C.prog W .any base t v) →
      DataW.Whole enc C.prog fn.params.toList s.vars apart W args.toList ds gs before → X W args → W.ShapedOpen C.prog →
      Calls C.prog f args W fun e W' => ∃ v, e = .returned v ∧ s.post enc C.prog fn apart fresh handsOn again W args v W') :
    ReturnsInHanded a C os f .any (fun w args => (s.pre enc C.prog fn conds apart w args ∧ X w args) ∧ sizedMet enc C.prog fn (OpenSpec.ofChange s) apart w args) (s.post enc C.prog fn apart fresh handsOn again) := by
  refine returnsInHanded_of_calls own started noInit witness ?_
  intro w tape i _ hsh _ hok hpre hholds
  obtain ⟨_, _, _, fn', hfn', _, _, _, _, hval⟩ := hok
  have e : fn' = fn := Option.some.inj (hfn'.symm.trans hfn)
  subst e
  obtain ⟨⟨⟨ds, gs, before, hw, hc⟩, hx⟩, hz⟩ := hpre
  have hw' := DataW.Whole.of_heap (w' := w.forCall tape i) (by rfl) hw
  refine (contract (w.forCall tape i) w.heap.size i.args ds gs before hval hw' (hX _ _ _ (by rfl) hx) hsh).mono fun e W' ⟨v, he, hp⟩ => ?_
  subst he
  exact ChangeSpec.post_blind hp
end Go.Proofs.Ytpfiofgchkfkhaa

/- What the texts of numbers and the searches lean on: Go's table of powers; that the cell of MaxLen holds a number. -/
set_option linter.unusedVariables false
namespace Go.Proofs.Ytpfiofgchkfkhaa
open Go.RowKit

structure Gl (w : World) : Prop where
  tab : Lib.TabIs Try.prog w "internal/strconv.uint64pow10" .u64 Lib.pow10Tab
  maxLen : ∃ m, w.cell? ⟨0, 0, none⟩ = some (.int .i64 m)
end Go.Proofs.Ytpfiofgchkfkhaa

/- Numbers in decimal: the plain laws, strconv.Itoa, the reference's Decimal. -/
set_option linter.unusedVariables false
namespace Go.Proofs.Ytpfiofgchkfkhaa
open Go.RowKit Go.Shelf Go.Sort

theorem ret_s {a b : ByteArray} (h : a = b) : Ending.returned (.string b) = .returned (.string a) := by rw [h]

theorem Below_grown {w : World} (k : Nat) (os : Array Obj) : Below w.heap.size w (grow (w.drewN k) os) :=
  ⟨rfl, rfl, rfl, by simp [grow, World.drewN], fun j hj => by simp [grow, World.drewN, Array.getElem?_append, hj]⟩

theorem dec_all (n : Nat) : (∀ c ∈ Lib.decDigits n, isD c = true) ∧ dv (Lib.decDigits n) = n ∧ 1 ≤ (Lib.decDigits n).length ∧ ∀ k, 1 ≤ k → n < 10 ^ k → (Lib.decDigits n).length ≤ k := by
  induction n using Nat.strongRecOn with
  | _ n ih =>
  by_cases hs : n < 10
  · have e : Lib.decDigits n = [UInt8.ofNat (48 + n)] := by rw [Lib.decDigits, dif_pos hs]
    have hc : (UInt8.ofNat (48 + n)).toNat = 48 + n := by rw [UInt8.toNat_ofNat', Nat.mod_eq_of_lt (by omega)]
    rw [e]
    refine ⟨fun c h => ?_, ?_, by simp, fun k h1 h2 => by simpa using h1⟩
    · obtain rfl : c = UInt8.ofNat (48 + n) := by simpa using h
      unfold isD; rw [decide_eq_true_eq, hc]; omega
    · show 10 * 0 + ((UInt8.ofNat (48 + n)).toNat - 48) = n
      rw [hc]; omega
  · have e : Lib.decDigits n = Lib.decDigits (n / 10) ++ [UInt8.ofNat (48 + n % 10)] := by rw [Lib.decDigits, dif_neg hs]
    have hc : (UInt8.ofNat (48 + n % 10)).toNat = 48 + n % 10 := by rw [UInt8.toNat_ofNat', Nat.mod_eq_of_lt (by omega)]
    obtain ⟨i1, i2, i3, i4⟩ := ih (n / 10) (by omega)
    rw [e]
    refine ⟨fun c h => ?_, ?_, by simp, fun k h1 h2 => ?_⟩
    · rcases List.mem_append.1 h with h | h
      · exact i1 c h
      · obtain rfl : c = UInt8.ofNat (48 + n % 10) := by simpa using h
        unfold isD; rw [decide_eq_true_eq, hc]; omega
    · rw [dv_snoc, i2, hc]; omega
    · obtain ⟨k', rfl⟩ : ∃ k', k = k' + 1 := ⟨k - 1, by omega⟩
      rw [List.length_append]
      show _ + 1 ≤ _
      have h3 : n / 10 < 10 ^ k' := by rw [Nat.pow_succ] at h2; omega
      have hk' : 1 ≤ k' := by
        rcases Nat.eq_zero_or_pos k' with h | h
        · subst h; simp at h2; omega
        · exact h
      have := i4 k' hk' h3
      omega
theorem nd_app (l r : List UInt8) (h : ∀ c ∈ l, isD c = true) (hr : ∀ c, r.head? = some c → isD c = false) : nd (l ++ r) = l.length := by
  unfold nd
  induction l with
  | nil =>
    rcases r with _ | ⟨c, r⟩
    · rfl
    · have := hr c rfl
      simp [this]
  | cons a l ih =>
    have h1 := h a (by simp)
    have h2 := ih (fun c hc => h c (by simp [hc]))
    rw [List.cons_append, List.takeWhile_cons, h1]
    simpa using h2
theorem _root_.Go.Below_of_drew {B : Nat} {w w' : World} (h : Below B w.drew w') : Below B w w' := ⟨h.os, h.tape, h.output, h.size, h.block⟩
/-- a number in decimal -/
def decB (n : Int) : ByteArray := ⟨(Lib.itoa n).toArray⟩
theorem decB_size (n : Int) (h0 : 0 ≤ n) (h1 : n ≤ 999999999999999) : (decB n).size ≤ 21 := by
  have := Lib.itoa_length_le n (by omega) (by omega)
  show (Lib.itoa n).toArray.size ≤ 21
  simpa using this
theorem cat_run {P : Program} (a b : ByteArray) (h : a.size + b.size ≤ 1000) (w : World) : (Op.stringOp .add a b).run P w = .ok (.string (a ++ b)) w := run_string_add_sum w _ _ (by omega)
theorem dec_small (n : Nat) (h : n < 10) : decB n = ⟨#[UInt8.ofNat (48 + n % 10)]⟩ := by
  unfold decB
  rw [Lib.itoa_nonneg, Lib.decDigits, dif_pos h, Nat.mod_eq_of_lt h]
theorem dec_big (n : Nat) (h : ¬ n < 10) : decB n = decB ((n / 10 : Nat) : Int) ++ ⟨#[UInt8.ofNat (48 + n % 10)]⟩ := by
  unfold decB
  rw [Lib.itoa_nonneg, Lib.itoa_nonneg, Lib.decDigits, dif_neg h]
  apply ByteArray.ext
  simp
theorem conv1 (w : World) (c : UInt8) : (convert 24 9 (.slice (some ⟨w.heap.size, 0, none⟩) 1 1)).run Try.prog (w.alloc (.cells #[.int .u8 (c.toNat : Int)] 5)) = .ok (.string ⟨#[c]⟩) (w.alloc (.cells #[.int .u8 (c.toNat : Int)] 5)) := by
  refine run_convert_bytes_back _ _ _ 5 ⟨w.heap.size, 0, none⟩ 1 [c] (by kernel_rfl) (by kernel_rfl) (by kernel_rfl) ?_
  intro j hj
  obtain rfl : j = 0 := by simpa using hj
  exact (Row.new w 5 #[.int .u8 (c.toNat : Int)]).cell 0
end Go.Proofs.Ytpfiofgchkfkhaa

/- Contracts of both packages: printable, index, Escaped, Valid, bound, Width. -/
set_option linter.unusedVariables false
namespace Go.Proofs.Ytpfiofgchkfkhaa
open Go.RowKit Go.Shelf Go.Sort

theorem size_list (s : ByteArray) : s.data.toList.length = s.size := (Lib.size_eq s).symm
theorem hd_at (s : ByteArray) (h : 0 < s.size) : s.data.toList.head? = some (s[0]'h) := by
  rw [List.head?_eq_getElem?]; exact Lib.data_getElem? s 0 h
theorem empty_of {s : ByteArray} (h : ¬ 0 < s.size) : s = ⟨#[]⟩ := ByteArray.ext (Array.eq_empty_of_size_eq_zero (by have : s.data.size = s.size := rfl; omega))
theorem toList_pos {s : ByteArray} (h : 0 < s.size) : ¬ s.toList = [] ∧ s.toList.isEmpty = false := by
  have h0 : ¬ s.toList = [] := by
    rw [Lib.toList_data]; intro e; rw [Lib.size_eq, e] at h; exact absurd h (by simp)
  refine ⟨h0, ?_⟩
  cases hh : s.toList with
  | nil => exact absurd hh h0
  | cons => rfl
theorem u8_eq (c : UInt8) (n : Nat) (hn : n < 256) : c = UInt8.ofNat n ↔ (c.toNat : Int) = n := by
  constructor
  · intro h; rw [h, UInt8.toNat_ofNat', Nat.mod_eq_of_lt (by omega)]
  · intro h; apply UInt8.toNat_inj.1; rw [UInt8.toNat_ofNat', Nat.mod_eq_of_lt (by omega)]; omega
theorem allPr_of (s : ByteArray) (h : ∀ j, ∀ hj : j < s.size, prB (s[j]'hj) = true) : allPr s.data.toList = true := by
  unfold allPr
  rw [List.all_eq_true]
  intro c hc
  obtain ⟨j, hj, rfl⟩ := List.mem_iff_getElem.1 hc
  exact h j (by simpa using hj)
theorem allPr_not (s : ByteArray) (j : Nat) (hj : j < s.size) (h : prB (s[j]'hj) = false) : allPr s.data.toList = false := by
  unfold allPr
  rw [List.all_eq_false]
  exact ⟨s[j]'hj, List.mem_of_getElem? (Lib.data_getElem? s j hj), by rw [h]; decide⟩
theorem prB_true {c : UInt8} (h : prB c = true) : (33 : Int) ≤ (c.toNat : Int) ∧ (c.toNat : Int) ≤ 126 := by have := of_decide_eq_true h; omega
theorem prB_false {c : UInt8} (h : prB c = false) : (c.toNat : Int) < 33 ∨ (33 ≤ (c.toNat : Int) ∧ 126 < (c.toNat : Int)) := by have := of_decide_eq_false h; omega
/-- the first place of a byte, or -1 -/
def idxI (x : Int) (l : List UInt8) : Int := match l.findIdx? (fun c => (c.toNat : Int) == x) with | some k => (k : Int) | none => -1
theorem idxI_found (s : ByteArray) (x : Int) (k : Nat) (hk : k < s.size) (hno : ∀ j, j < k → ∀ hj : j < s.size, ((s[j]'hj).toNat : Int) ≠ x) (he : ((s[k]'hk).toNat : Int) = x) : idxI x s.data.toList = k := by
  unfold idxI
  rw [show s.data.toList.findIdx? (fun c => (c.toNat : Int) == x) = some k from by
    rw [List.findIdx?_eq_some_iff_getElem]
    refine ⟨by rw [size_list]; exact hk, ?_, fun j hj => ?_⟩
    · rw [Array.getElem_toList]; exact beq_iff_eq.2 he
    · rw [Array.getElem_toList]
      intro h; exact hno j hj (by omega) (beq_iff_eq.1 h)]
theorem idxI_none (s : ByteArray) (x : Int) (hno : ∀ j, ∀ hj : j < s.size, ((s[j]'hj).toNat : Int) ≠ x) : idxI x s.data.toList = -1 := by
  unfold idxI
  rw [show s.data.toList.findIdx? (fun c => (c.toNat : Int) == x) = none from by
    rw [List.findIdx?_eq_none_iff]
    intro c hc
    obtain ⟨j, hj, rfl⟩ := List.mem_iff_getElem.1 hc
    rw [size_list] at hj
    exact beq_eq_false_iff_ne.2 (hno j hj)]
theorem idxI_cases (x : Int) (l : List UInt8) : (idxI x l = -1 ∧ ∀ c ∈ l, (c.toNat : Int) ≠ x) ∨ ∃ k : Nat, idxI x l = k ∧ ∃ h : k < l.length, ((l[k]'h).toNat : Int) = x ∧ ∀ j (hj : j < k), ((l[j]'(by omega)).toNat : Int) ≠ x := by
  unfold idxI
  cases h : l.findIdx? (fun c => (c.toNat : Int) == x) with
  | none =>
    left
    rw [List.findIdx?_eq_none_iff] at h
    exact ⟨rfl, fun c hc => by have := h c hc; simpa using this⟩
  | some k =>
    right
    rw [List.findIdx?_eq_some_iff_getElem] at h
    obtain ⟨h1, h2, h3⟩ := h
    exact ⟨k, rfl, h1, by simpa using h2, fun j hj => by have := h3 j hj; simpa using this⟩
theorem idxI_lt (x : Int) (l : List UInt8) : idxI x l < 0 ↔ ∀ c ∈ l, (c.toNat : Int) ≠ x := by
  rcases idxI_cases x l with ⟨h, hn⟩ | ⟨k, h, hk, he, _⟩
  · rw [h]; exact ⟨fun _ => hn, fun _ => by decide⟩
  · rw [h]
    exact ⟨fun h => by omega, fun h => absurd he (h _ (List.getElem_mem hk))⟩
theorem vN_idx {l : List UInt8} (h : l.head? ≠ some 92) : vN l = (decide (1 ≤ l.length ∧ l.length ≤ 32) && (allPr l && (decide (l.head? ≠ some 36) && decide (idxI 92 l < 0 ∧ idxI 46 l < 0 ∧ idxI 91 l < 0 ∧ idxI 93 l < 0)))) := by
  rw [vN_plain h]
  congr 3
  rw [Bool.eq_iff_iff, decide_eq_true_eq, List.all_eq_true, idxI_lt, idxI_lt, idxI_lt, idxI_lt]
  constructor
  · intro hh
    have key : ∀ n : Nat, n = 92 ∨ n = 46 ∨ n = 91 ∨ n = 93 → ∀ c ∈ l, ((c.toNat : Nat) : Int) ≠ n := fun n hn c hc e => by
      have := hh c hc
      have hc' := (u8_eq c n (by omega)).2 e
      rw [hc'] at this
      rcases hn with rfl | rfl | rfl | rfl <;> exact absurd this (by decide)
    exact ⟨key 92 (by simp), key 46 (by simp), key 91 (by simp), key 93 (by simp)⟩
  · rintro ⟨h1, h2, h3, h4⟩ c hc
    have g := fun (n : Nat) (hn : n < 256) (h : ∀ c ∈ l, (c.toNat : Int) ≠ n) => show (c == UInt8.ofNat n) = false from beq_eq_false_iff_ne.2 fun e => h c hc ((u8_eq c n hn).1 e)
    have g1 := g 92 (by decide) h1
    have g2 := g 46 (by decide) h2
    have g3 := g 91 (by decide) h3
    have g4 := g 93 (by decide) h4
    unfold okC
    rw [show (92 : UInt8) = UInt8.ofNat 92 from rfl, show (46 : UInt8) = UInt8.ofNat 46 from rfl, show (91 : UInt8) = UInt8.ofNat 91 from rfl, show (93 : UInt8) = UInt8.ofNat 93 from rfl, g1, g2, g3, g4]; rfl

set_option maxHeartbeats 2000000 in
theorem printable_any (s : ByteArray) (w : World) (hs : s.size ≤ 1099511627776) :
    Calls Try.prog 72 #[.string s] w fun e w' => e = .returned (.bool (allPr s.data.toList)) ∧ w' = w := by
  go_enter Try.func72, Try.ntmps72
  go_wp2
  go_loop [6] (fun v => ∃ i : Nat, v = .int .i64 i ∧ i ≤ s.size ∧ ∀ j, j < i → ∀ hj : j < s.size, prB (s[j]'hj) = true) (fun v => s.size - (intOf v).toNat)
  case atStart => exact ⟨0, rfl, Nat.zero_le _, fun j h => absurd h (by omega)⟩
  case round =>
    obtain ⟨i, rfl, hi0, hpr⟩ := hrel
    have Hpr := hide hpr
    clear hpr
    by_cases hi : i < s.size
    · cases hp : prB (s[i]'hi) with
      | true =>
        obtain ⟨p1, p2⟩ := prB_true hp
        have Hp := hide hp
        clear hp
        go_wp2
        go_round
        case rel =>
          refine ⟨i + 1, by go_num, by omega, fun j hj hj' => ?_⟩
          rcases Nat.lt_or_ge j i with h | h
          · exact Hpr.out j h hj'
          · obtain rfl : j = i := by omega
            exact Hp.out
        case measure => simp [intOf]; omega
      | false =>
        have p := prB_false hp
        have Hf := hide (allPr_not s i hi hp)
        clear hp
        rcases p with p | ⟨p, p'⟩
        all_goals
          go_wp2
          go_ret
          exact ⟨ret_b Hf.out, rfl⟩
    · obtain rfl : i = s.size := Nat.le_antisymm hi0 (Nat.le_of_not_lt hi)
      have Hall := hide (allPr_of s fun j hj => Hpr.out j hj hj)
      go_wp2
      go_ret
      exact ⟨ret_b Hall.out, rfl⟩

/-- the tests of the first byte and of the length, as a walk reads them -/
structure Front (s : ByteArray) (esc : Bool) : Prop where
  pos : 0 < s.size
  e : ((s[0]'pos).toNat : Int) = 92 ∧ esc = true ∨ (((s[0]'pos).toNat : Int) == 92) = false ∧ esc = false
theorem front (s : ByteArray) (h : 0 < s.size) : ∃ b, Front s b ∧ (b = true ↔ s.data.toList.head? = some 92) := by
  by_cases hc : ((s[0]'h).toNat : Int) = 92
  · exact ⟨true, ⟨h, .inl ⟨hc, rfl⟩⟩, fun _ => by rw [hd_at s h]; congr 1; exact (u8_eq _ 92 (by decide)).2 hc, fun _ => rfl⟩
  · refine ⟨false, ⟨h, .inr ⟨beq_eq_false_iff_ne.2 hc, rfl⟩⟩, (fun e => by cases e), fun e => ?_⟩
    rw [hd_at s h] at e
    exact absurd ((u8_eq _ 92 (by decide)).1 (Option.some.inj e)) hc
theorem dollar (s : ByteArray) (h : 0 < s.size) : (((s[0]'h).toNat : Int) == 36) = decide (s.data.toList.head? = some 36) := by
  rw [Bool.eq_iff_iff, beq_iff_eq, decide_eq_true_eq, hd_at s h]
  constructor
  · intro e; congr 1; exact (u8_eq _ 36 (by decide)).2 e
  · intro e; exact (u8_eq _ 36 (by decide)).1 (Option.some.inj e)

theorem bound_any (n : Int) (w : World) :
    Calls Try.prog 74 #[.int .i64 n] w fun e w' => e = .returned (.bool (bdB n)) ∧ w' = w := by
  go_enter Try.func74, Try.ntmps74
  go_wp2
  all_goals go_ret
  all_goals refine ⟨ret_b ?_, rfl⟩
  all_goals (rw [Bool.eq_iff_iff]; simp [bdB]; omega)
end Go.Proofs.Ytpfiofgchkfkhaa

/- Contracts of name.Valid, Escaped, Width, FormatRange and of the reference's. -/
set_option linter.unusedVariables false
set_option linter.unusedSimpArgs false
namespace Go.Proofs.Ytpfiofgchkfkhaa
open Go.RowKit Go.Shelf Go.Sort

theorem indexAny_ge0 (ch : List UInt8) (l : List UInt8) : 0 ≤ Lib.indexAny l ch ↔ ∃ c ∈ l, ch.contains c = true := by
  induction l with
  | nil => exact ⟨fun h => absurd h (by show ¬ (0 : Int) ≤ -1; decide), fun ⟨c, hc, _⟩ => by cases hc⟩
  | cons b l ih =>
    have e : Lib.indexAny (b :: l) ch = if ch.contains b then 0 else if Lib.indexAny l ch == -1 then -1 else Lib.indexAny l ch + 1 := rfl
    have hg := Lib.indexAny_ge ch l
    rw [e]
    by_cases hb : ch.contains b = true
    · rw [if_pos hb]; exact ⟨fun _ => ⟨b, by simp, hb⟩, fun _ => by decide⟩
    · rw [if_neg hb]
      by_cases hm : Lib.indexAny l ch = -1
      · rw [if_pos (beq_iff_eq.2 hm)]
        refine ⟨fun h => absurd h (by decide), ?_⟩
        rintro ⟨c, hc, hcc⟩
        rcases List.mem_cons.1 hc with rfl | hc
        · exact absurd hcc hb
        · have := ih.2 ⟨c, hc, hcc⟩; omega
      · rw [if_neg (fun h => hm (beq_iff_eq.1 h))]
        constructor
        · intro _
          obtain ⟨c, hc, hcc⟩ := ih.1 (by omega)
          exact ⟨c, by simp [hc], hcc⟩
        · rintro ⟨c, hc, hcc⟩
          omega
theorem containsAny_ok (l : List UInt8) : Lib.containsAny l [92, 46, 91, 93] = !l.all okC := by
  unfold Lib.containsAny
  rw [Bool.eq_iff_iff, decide_eq_true_eq, indexAny_ge0, Bool.not_eq_true', List.all_eq_false]
  constructor
  · rintro ⟨c, hc, h⟩
    refine ⟨c, hc, ?_⟩
    simp at h
    rcases h with rfl | rfl | rfl | rfl <;> decide
  · rintro ⟨c, hc, h⟩
    refine ⟨c, hc, ?_⟩
    unfold okC at h
    simp at h
    simp
    by_cases h1 : c = 92
    · exact .inl h1
    · by_cases h2 : c = 46
      · exact .inr (.inl h2)
      · by_cases h3 : c = 91
        · exact .inr (.inr (.inl h3))
        · exact .inr (.inr (.inr (h h1 h2 h3)))
theorem pr_ascii {l : List UInt8} (h : allPr l = true) : ∀ (j : Nat) b, l[j]? = some b → b.toNat < 128 := fun j b hb => by
  have := List.all_eq_true.1 h b (List.mem_of_getElem? hb)
  have := of_decide_eq_true this
  omega

set_option maxHeartbeats 4000000 in
theorem Valid_any (s : ByteArray) (w : World) (hs : s.size ≤ 1099511627776) :
    Calls Try.prog 49 #[.string s] w fun e w' => e = .returned (.bool (vN s.data.toList)) ∧ Below w.heap.size w w' := by
  have P := hide (fun W : World => printable_any s W hs)
  have hl := size_list s
  by_cases h0 : 0 < s.size
  · obtain ⟨hn, hne⟩ := toList_pos h0
    by_cases h3 : s.size ≤ 32
    · have h3' : (s.size : Int) ≤ 32 := by omega
      cases hp : allPr s.data.toList with
      | false =>
        rw [hp] at P
        have hV : vN s.data.toList = false := by unfold vN; rw [hp, Bool.false_and, Bool.and_false]
        rw [hV]
        clear hV hp hl
        go_enter Try.func49, Try.ntmps49
        go_wp2_with fail
        refine (P.out _).mono ?_
        rintro e wx ⟨rfl, rfl⟩
        go_wp2
        go_ret
        exact ⟨rfl, Below.refl _ _⟩
      | true =>
        rw [hp] at P
        obtain ⟨b, ⟨hz, he⟩, hb⟩ := front s h0
        rcases he with ⟨he, rfl⟩ | ⟨he, rfl⟩
        · have hV : vN s.data.toList = decide (2 ≤ (s.size : Int)) := by
            rw [vN_esc (hb.1 rfl), hp, hl, Bool.and_true, Bool.eq_iff_iff, decide_eq_true_eq, decide_eq_true_eq]; omega
          rw [hV]
          clear hV hp hl hb
          go_enter Try.func49, Try.ntmps49
          go_wp2_with fail
          refine (P.out _).mono ?_
          rintro e wx ⟨rfl, rfl⟩
          go_wp2
          go_ret
          exact ⟨rfl, Below.refl _ _⟩
        · have hh : s.data.toList.head? ≠ some 92 := fun h => by have := hb.2 h; cases this
          have hV : vN s.data.toList = (decide (s.data.toList.head? ≠ some 36) && s.data.toList.all okC) := by
            rw [vN_plain hh, hp, hl, decide_eq_true ⟨h0, h3⟩]; rfl
          have hd := dollar s h0
          have C := hide (fun W : World => Try.strings_ContainsAny (zero_of_info (n := 256) (by kernel_rfl)).1 s ⟨#[92, 46, 91, 93]⟩ W (by omega) (by decide) (pr_ascii hp) (by
            intro j b hj
            have : b ∈ ([92, 46, 91, 93] : List UInt8) := List.mem_of_getElem? hj
            simp at this
            rcases this with rfl | rfl | rfl | rfl <;> decide))
          rw [show (⟨#[92, 46, 91, 93]⟩ : ByteArray).data.toList = [92, 46, 91, 93] from rfl, containsAny_ok] at C
          rw [hV]
          generalize s.data.toList.all okC = ok at C ⊢
          clear hV hp hl hb hh
          cases h36 : decide (s.data.toList.head? = some 36) with
          | true =>
            rw [h36] at hd
            have hr : (decide (s.data.toList.head? ≠ some 36)) = false := by
              rw [decide_eq_false_iff_not]; exact fun h => h (of_decide_eq_true h36)
            rw [hr, Bool.false_and]
            clear hr h36
            have hd2 : (((s[0]'h0).toNat : Int) != 36) = false := by simp only [bne, hd, Bool.not_true]
            go_enter Try.func49, Try.ntmps49
            go_wp2_with fail
            refine (P.out _).mono ?_
            rintro e wx ⟨rfl, rfl⟩
            go_wp2
            go_ret
            exact ⟨rfl, Below.refl _ _⟩
          | false =>
            rw [h36] at hd
            have hr : (decide (s.data.toList.head? ≠ some 36)) = true := decide_eq_true (of_decide_eq_false h36)
            rw [hr, Bool.true_and]
            clear hr h36
            have hd2 : (((s[0]'h0).toNat : Int) != 36) = true := by simp only [bne, hd, Bool.not_false]
            have B0 := hide (Below.refl w.heap.size w)
            go_enter Try.func49, Try.ntmps49
            go_wp2_with fail
            refine (P.out _).mono ?_
            rintro e wx ⟨rfl, rfl⟩
            go_wp2_with fail
            refine (C.out _).mono ?_
            rintro e w1 ⟨rfl, hb⟩
            have B1 := hide (B0.out.trans (hb.mono B0.out.size))
            clear hb
            go_wp2
            go_ret
            exact ⟨by cases ok <;> rfl, B1.out⟩
    · have h3' : ¬ (s.size : Int) ≤ 32 := by omega
      have h3'' : (32 : Int) < (s.size : Int) := by omega
      have hV : vN s.data.toList = false := by unfold vN; rw [decide_eq_false (by omega), Bool.false_and]
      rw [hV]
      clear hV hl
      go_enter Try.func49, Try.ntmps49
      go_wp2
      go_ret
      exact ⟨rfl, Below.refl _ _⟩
  · obtain rfl := empty_of h0
    clear h0 hl hs
    go_enter Try.func49, Try.ntmps49
    go_wp2
    go_ret
    exact ⟨rfl, Below.refl _ _⟩

set_option maxHeartbeats 4000000 in
theorem Escaped_any (s : ByteArray) (w : World) (hs : s.size ≤ 1099511627776) :
    Calls Try.prog 81 #[.string s] w fun e w' => e = .returned (.bool (escN s.data.toList)) ∧ Below w.heap.size w w' := by
  have V := hide (fun W : World => Valid_any s W hs)
  have hl := size_list s
  by_cases h2 : 2 ≤ s.size
  · obtain ⟨b, ⟨h0, he⟩, hb⟩ := front s (by omega)
    rcases he with ⟨he, rfl⟩ | ⟨he, rfl⟩
    · have hE : escN s.data.toList = vN s.data.toList := by
        unfold escN
        rw [decide_eq_true (hb.1 rfl), hl, decide_eq_true h2]; rfl
      rw [hE]
      generalize vN s.data.toList = v at V ⊢
      clear hE hb hl
      have B0 := hide (Below.refl w.heap.size w)
      go_enter Try.func81, Try.ntmps81
      go_wp2_with fail
      refine (V.out _).mono ?_
      rintro e w1 ⟨rfl, hb⟩
      have B1 := hide (B0.out.trans (hb.mono B0.out.size))
      clear hb
      go_wp2
      go_ret
      exact ⟨rfl, B1.out⟩
    · have hE : escN s.data.toList = false := by
        unfold escN
        rw [decide_eq_false (p := s.data.toList.head? = some 92) (fun h => by have := hb.2 h; cases this), Bool.false_and, Bool.and_false]
      rw [hE]
      clear hE hb hl
      go_enter Try.func81, Try.ntmps81
      go_wp2
      go_ret
      exact ⟨rfl, Below.refl _ _⟩
  · have h2' : ¬ (2 : Int) ≤ (s.size : Int) := by omega
    have hE : escN s.data.toList = false := by
      unfold escN; rw [decide_eq_false (by omega), Bool.false_and]
    rw [hE]
    clear hE hl
    go_enter Try.func81, Try.ntmps81
    go_wp2
    go_ret
    exact ⟨rfl, Below.refl _ _⟩

theorem ret_i {a b : Int} (h : a = b) : Ending.returned (.int .i64 a) = .returned (.int .i64 b) := by rw [h]
theorem bdB_bd {n : Int} (h : bdB n = true) : -32768 ≤ n ∧ n ≤ 32768 := of_decide_eq_true h
theorem bdB_no {n : Int} (h : bdB n = false) : n < -32768 ∨ 32768 < n := by have := of_decide_eq_false h; omega
set_option maxHeartbeats 2000000 in
theorem Width_any (m n : Int) (w : World) :
    Calls Try.prog 52 #[.int .i64 m, .int .i64 n] w fun e w' => e = .returned (.int .i64 (widthS m n)) ∧ w' = w := by
  have M := hide (fun W : World => bound_any m W)
  have N := hide (fun W : World => bound_any n W)
  unfold widthS
  cases hm : bdB m with
  | false =>
    rw [hm] at M
    rw [Bool.false_and, if_neg Bool.false_ne_true]
    clear hm
    go_enter Try.func52, Try.ntmps52
    go_wp2_with fail
    refine (M.out _).mono ?_
    rintro e wx ⟨rfl, rfl⟩
    go_wp2
    go_ret
    exact ⟨rfl, rfl⟩
  | true =>
    rw [hm] at M
    cases hn : bdB n with
    | false =>
      rw [hn] at N
      rw [Bool.and_false, if_neg Bool.false_ne_true]
      clear hm hn
      go_enter Try.func52, Try.ntmps52
      go_wp2_with fail
      refine (M.out _).mono ?_
      rintro e wx ⟨rfl, rfl⟩
      go_wp2_with fail
      refine (N.out _).mono ?_
      rintro e wx ⟨rfl, rfl⟩
      go_wp2
      go_ret
      exact ⟨rfl, rfl⟩
    | true =>
      rw [hn] at N
      obtain ⟨m1, m2⟩ := bdB_bd hm
      obtain ⟨n1, n2⟩ := bdB_bd hn
      rw [Bool.and_true, if_pos rfl]
      clear hm hn
      by_cases h : m < n
      · rw [if_pos h]
        go_enter Try.func52, Try.ntmps52
        go_wp2_with fail
        refine (M.out _).mono ?_
        rintro e wx ⟨rfl, rfl⟩
        go_wp2_with fail
        refine (N.out _).mono ?_
        rintro e wx ⟨rfl, rfl⟩
        go_wp2
        go_ret
        exact ⟨ret_i (by omega), rfl⟩
      · rw [if_neg h]
        go_enter Try.func52, Try.ntmps52
        go_wp2_with fail
        refine (M.out _).mono ?_
        rintro e wx ⟨rfl, rfl⟩
        go_wp2_with fail
        refine (N.out _).mono ?_
        rintro e wx ⟨rfl, rfl⟩
        go_wp2
        go_ret
        exact ⟨ret_i (by omega), rfl⟩

/-- the text of a bit range -/
def fmtR (m n : Int) : ByteArray := if bdB m && bdB n then (if m = n then ⟨#[91]⟩ ++ decB m ++ ⟨#[93]⟩ else ⟨#[91]⟩ ++ decB m ++ ⟨#[58]⟩ ++ decB n ++ ⟨#[93]⟩) else ⟨#[]⟩
theorem decB_len (n : Int) (h : bdB n = true) : (decB n).size ≤ 21 := by
  obtain ⟨h1, h2⟩ := bdB_bd h
  have := Lib.itoa_length_le n (by omega) (by omega)
  show (Lib.itoa n).toArray.size ≤ 21
  simpa using this
theorem fmtR_cats (m n : Int) (hm : (decB m).size ≤ 21) (hn : (decB n).size ≤ 21) (W : World) :
    (Op.stringOp .add ⟨#[91]⟩ (decB m)).run Try.prog W = .ok (.string (⟨#[91]⟩ ++ decB m)) W ∧
    (Op.stringOp .add (⟨#[91]⟩ ++ decB m) ⟨#[93]⟩).run Try.prog W = .ok (.string (⟨#[91]⟩ ++ decB m ++ ⟨#[93]⟩)) W ∧
    (Op.stringOp .add (⟨#[91]⟩ ++ decB m) ⟨#[58]⟩).run Try.prog W = .ok (.string (⟨#[91]⟩ ++ decB m ++ ⟨#[58]⟩)) W ∧
    (Op.stringOp .add (⟨#[91]⟩ ++ decB m ++ ⟨#[58]⟩) (decB n)).run Try.prog W = .ok (.string (⟨#[91]⟩ ++ decB m ++ ⟨#[58]⟩ ++ decB n)) W ∧
    (Op.stringOp .add (⟨#[91]⟩ ++ decB m ++ ⟨#[58]⟩ ++ decB n) ⟨#[93]⟩).run Try.prog W = .ok (.string (⟨#[91]⟩ ++ decB m ++ ⟨#[58]⟩ ++ decB n ++ ⟨#[93]⟩)) W := by
  have z : ∀ c : UInt8, (⟨#[c]⟩ : ByteArray).size = 1 := fun _ => rfl
  refine ⟨cat_run _ _ ?_ W, cat_run _ _ ?_ W, cat_run _ _ ?_ W, cat_run _ _ ?_ W, cat_run _ _ ?_ W⟩ <;> simp only [ByteArray.size_append, z] <;> omega

theorem decB_neg (n : Int) (h : n < 0) : decB n = ⟨#[45]⟩ ++ decB (-n) := by
  obtain ⟨u, hu⟩ : ∃ u : Nat, n = -(u : Int) := ⟨(-n).toNat, by omega⟩
  subst hu
  apply Go.WideShapes.bytes_inj
  unfold decB
  rw [Int.neg_neg, Lib.itoa_neg u (by omega), Lib.itoa_nonneg]
  simp
end Go.Proofs.Ytpfiofgchkfkhaa
