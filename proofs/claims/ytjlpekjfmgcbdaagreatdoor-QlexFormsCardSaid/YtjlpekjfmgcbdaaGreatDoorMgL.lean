/- MgL: the texts VaY VaZ in one. -/
import Derived.Test.YtjlpekjfmgcbdaaGreatDoorMgK
import Derived.Deep.DeepCutAuto
import Derived.Deep.CutBlock
/- Contract of the reference's Read. -/
set_option linter.unusedVariables false
set_option linter.unusedSimpArgs false
namespace Go.Proofs.YtjlpekjfmgcbdaaGreatDoor
open Go.RowKit Go.Shelf Go.Sort

def ReadPost (o : Option (Bool × List UInt8 × List UInt8 × Bool × List UInt8)) (B : Nat) (w : World) (e : Ending) (w' : World) : Prop :=
  ∃ (ng : Bool) (dg : ByteArray) (ex : Int) (ok : Bool), e = .returned (.tuple #[.agg #[.bool ng, .string dg, .int .i64 ex], .bool ok]) ∧
    (∀ p, o = some p → ok = true ∧ ng = p.1 ∧ dg = bsV (p.2.1 ++ p.2.2.1) ∧ ex = (p.2.1.length : Int) - 1 + sgnV p.2.2.2.1 (esat 100000 p.2.2.2.2)) ∧ (o = none → ok = false) ∧ Below B w w'
/-- the cells of Read: the result, and the parts that are read so far -/
structure RdSt (w wr : World) (ng : Bool) (dg : ByteArray) (ex : Int) : Prop where
  res : Row wr w.heap.size 104 #[.bool false, .string ⟨#[]⟩, .int .i64 0]
  cur : Row wr (w.heap.size + 1) 104 #[.bool ng, .string dg, .int .i64 ex]
  bel : Below w.heap.size w wr
theorem RdSt.new (w : World) : RdSt w ((w.alloc (.cells #[.bool false, .string ⟨#[]⟩, .int .i64 0] 104)).alloc (.cells #[.bool false, .string ⟨#[]⟩, .int .i64 0] 104)) false ⟨#[]⟩ 0 where
  res := (Row.new _ _ _).alloc _
  cur := by
    have := Row.new (w.alloc (.cells #[.bool false, .string ⟨#[]⟩, .int .i64 0] 104)) 104 #[.bool false, .string ⟨#[]⟩, .int .i64 0]
    rw [World.size_alloc] at this
    exact this
  bel := ((Below.refl w.heap.size w).alloc (Nat.le_refl _) _).alloc (by rw [World.size_alloc]; omega) _
theorem RdSt.set0 {w wr : World} {ng : Bool} {dg : ByteArray} {ex : Int} (h : RdSt w wr ng dg ex) (b : Bool) : RdSt w (wr.setCell ⟨w.heap.size + 1, 0, none⟩ (.bool b)) b dg ex :=
  ⟨h.res.off (by omega) _ _, h.cur.set_ 0 (.bool b), h.bel.setCell (p := ⟨w.heap.size + 1, 0, none⟩) (Nat.le_succ _) _⟩
theorem RdSt.set1 {w wr : World} {ng : Bool} {dg : ByteArray} {ex : Int} (h : RdSt w wr ng dg ex) (b : ByteArray) : RdSt w (wr.setCell ⟨w.heap.size + 1, 1, none⟩ (.string b)) ng b ex :=
  ⟨h.res.off (by omega) _ _, h.cur.set_ 1 (.string b), h.bel.setCell (p := ⟨w.heap.size + 1, 1, none⟩) (Nat.le_succ _) _⟩
theorem RdSt.set2 {w wr : World} {ng : Bool} {dg : ByteArray} {ex : Int} (h : RdSt w wr ng dg ex) (b : Int) : RdSt w (wr.setCell ⟨w.heap.size + 1, 2, none⟩ (.int .i64 b)) ng dg b :=
  ⟨h.res.off (by omega) _ _, h.cur.set_ 2 (.int .i64 b), h.bel.setCell (p := ⟨w.heap.size + 1, 2, none⟩) (Nat.le_succ _) _⟩
theorem RdSt.drew {w wr : World} {ng : Bool} {dg : ByteArray} {ex : Int} (h : RdSt w wr ng dg ex) : RdSt w wr.drew ng dg ex := ⟨h.res.drew, h.cur.drew, h.bel.drew⟩
/-- the three shapes of a text's beginning -/
theorem sign_cases (l : List UInt8) : (∃ t, l = 45 :: t ∧ signV l = (true, l.drop 1)) ∨ (∃ t, l = 43 :: t ∧ signV l = (false, l.drop 1)) ∨
    (signV l = (false, l.drop 0) ∧ (l = [] ∨ ∃ c t, l = c :: t ∧ c ≠ 45 ∧ c ≠ 43)) := by
  cases l with
  | nil => exact .inr (.inr ⟨rfl, .inl rfl⟩)
  | cons c t =>
    by_cases h45 : c = 45
    · subst h45; exact .inl ⟨t, rfl, rfl⟩
    · by_cases h43 : c = 43
      · subst h43; exact .inr (.inl ⟨t, rfl, rfl⟩)
      · refine .inr (.inr ⟨?_, .inr ⟨c, t, rfl, h45, h43⟩⟩)
        unfold signV
        rw [if_neg (by simpa using h45), if_neg (by simpa using h43)]; rfl

theorem scan_stage {l : List UInt8} {ng : Bool} {a : Nat} (hs : signV l = (ng, l.drop a)) : scanV l = if 64 < l.length ∨ nd (l.drop a) = 0 then none
    else (fracV (l.drop (a + nd (l.drop a)))).bind fun f => (expV f.2).bind fun x => if x.2.2 = [] then some (ng, (l.drop a).take (nd (l.drop a)), f.1, x.1, x.2.1) else none := by
  unfold scanV; rw [hs]; simp only [List.drop_drop]
theorem bs_sub (l : List UInt8) (a n : Nat) : (bsV l).extract a (a + n) = bsV ((l.drop a).take n) := by
  apply ByteArray.ext
  apply Array.toList_inj.1
  rw [Lib.extract_data, show a + n - a = n by omega]
  rfl
theorem head_drop {l : List UInt8} {a : Nat} : (l.drop a).head? = l[a]? := List.head?_drop ..
theorem ReadPost.no {o : Option (Bool × List UInt8 × List UInt8 × Bool × List UInt8)} {B : Nat} {w w' : World} {ng : Bool} {dg : ByteArray} {ex : Int} (ho : o = none) (hb : Below B w w') :
    ReadPost o B w (.returned (.tuple #[.agg #[.bool ng, .string dg, .int .i64 ex], .bool false])) w' :=
  ⟨ng, dg, ex, false, rfl, (fun p hp => by rw [ho] at hp; cases hp), (fun _ => rfl), hb⟩
theorem RdSt.newN (w : World) (ng : Bool) : RdSt w ((w.alloc (.cells #[.bool false, .string ⟨#[]⟩, .int .i64 0] 104)).alloc (.cells #[.bool ng, .string ⟨#[]⟩, .int .i64 0] 104)) ng ⟨#[]⟩ 0 where
  res := (Row.new _ _ _).alloc _
  cur := by
    have := Row.new (w.alloc (.cells #[.bool false, .string ⟨#[]⟩, .int .i64 0] 104)) 104 #[.bool ng, .string ⟨#[]⟩, .int .i64 0]
    rw [World.size_alloc] at this
    exact this
  bel := ((Below.refl w.heap.size w).alloc (Nat.le_refl _) _).alloc (by rw [World.size_alloc]; omega) _
theorem esat_snoc (L : Nat) (ds : List UInt8) (c : UInt8) : esat L (ds ++ [c]) = min L (10 * esat L ds + (c.toNat - 48)) := by
  unfold esat; rw [List.foldl_append]; rfl
theorem esat_le (ds : List UInt8) : esat 100000 ds ≤ 100000 := by
  rw [esat_eq]; exact Nat.min_le_left _ _
set_option maxRecDepth 100000 in
set_option maxHeartbeats 16000000 in
theorem refRead_any (l : List UInt8) (w : World) (hz : l.length ≤ 1000000) :
    Calls Tryz.prog 108 #[.string (bsV l)] w (ReadPost (scanV l) w.heap.size w) := by
  have hsz := bs_size l
  have DG := hide (fun (a : Nat) (W : World) (h : a ≤ l.length) => refDigits_any l a W h hz)
  have S0 := hide (RdSt.new w)
  have Hsc := hide (sign_cases l)
  obtain ⟨sc, hsc⟩ : ∃ sc, scanV l = sc := ⟨_, rfl⟩
  have HSC := hide hsc
  rw [hsc]
  clear hsc
  go_enter Tryz.func108, Tryz.ntmps108
  go_upto_region 3 with fail
  obtain ⟨sgn, hsgn⟩ : ∃ sgn, decide (l.head? = some 43 ∨ l.head? = some 45) = sgn := ⟨_, rfl⟩
  have Hsgn := hide hsgn
  clear hsgn
  go_cut [23] (fun v wx => v = .bool sgn ∧ wx = (w.alloc (.cells #[.bool false, .string ⟨#[]⟩, .int .i64 0] 104)).alloc (.cells #[.bool false, .string ⟨#[]⟩, .int .i64 0] 104))
  case first =>
    as_aux_lemma =>
      rcases Hsc.out with ⟨t, hl, _⟩ | ⟨t, hl, _⟩ | ⟨_, hl | ⟨c, t, hl, h45, h43⟩⟩
      · have hp : (0 : Int) < (l.length : Int) := by rw [hl]; simp only [List.length_cons]; omega
        have hi2 : 0 < (bsV l).size := by rw [hsz, hl]; simp
        have hget : (bsV l)[0]'hi2 = 45 := by rw [bs_get]; simp only [hl]; rfl
        have hv := hide (show sgn = true by rw [← Hsgn.out, hl]; rfl)
        clear hl
        go_wp2_with fail
        go_meet
        exact ⟨by rw [hv.out], rfl⟩
      · have hp : (0 : Int) < (l.length : Int) := by rw [hl]; simp only [List.length_cons]; omega
        have hi2 : 0 < (bsV l).size := by rw [hsz, hl]; simp
        have hget : (bsV l)[0]'hi2 = 43 := by rw [bs_get]; simp only [hl]; rfl
        have hv := hide (show sgn = true by rw [← Hsgn.out, hl]; rfl)
        clear hl
        go_wp2_with fail
        go_meet
        exact ⟨by rw [hv.out], rfl⟩
      · have hp : (l.length : Int) = 0 := by rw [hl]; rfl
        have hv := hide (show sgn = false by rw [← Hsgn.out, hl]; rfl)
        clear hl
        go_wp2_with fail
        go_meet
        exact ⟨by rw [hv.out], rfl⟩
      · have hp : (0 : Int) < (l.length : Int) := by rw [hl]; simp only [List.length_cons]; omega
        have hi2 : 0 < (bsV l).size := by rw [hsz, hl]; simp
        have hget : (bsV l)[0]'hi2 = c := by rw [bs_get]; simp only [hl]; rfl
        have hv := hide (show sgn = false by rw [← Hsgn.out, hl]; exact decide_eq_false (by rintro (h | h); exact h43 (Option.some.inj h); exact h45 (Option.some.inj h)))
        have e1 : ((c.toNat : Int) == 43) = false := beq_eq_false_iff_ne.2 fun e => h43 ((u8i c 43).1 e)
        have e2 : ((c.toNat : Int) == 45) = false := beq_eq_false_iff_ne.2 fun e => h45 ((u8i c 45).1 e)
        clear hl h45 h43
        go_wp2_with fail
        go_meet
        exact ⟨by rw [hv.out], rfl⟩
  case rest =>
  obtain ⟨rfl, rfl⟩ := hcut
  go_upto_if 23 with fail
  go_cut [5] (fun v5 wx => ∃ (a : Nat) (ng : Bool), v5 = .int .i64 (a : Int) ∧ signV l = (ng, l.drop a) ∧ a ≤ l.length ∧ RdSt w wx ng ⟨#[]⟩ 0)
  case first =>
    as_aux_lemma =>
      rcases Hsc.out with ⟨t, hl, hs⟩ | ⟨t, hl, hs⟩ | ⟨hs, hl⟩
      · have hp : (0 : Int) < (l.length : Int) := by rw [hl]; simp only [List.length_cons]; omega
        have hi2 : 0 < (bsV l).size := by rw [hsz, hl]; simp
        have hget : (bsV l)[0]'hi2 = 45 := by rw [bs_get]; simp only [hl]; rfl
        have hv : sgn = true := by rw [← Hsgn.out, hl]; rfl
        subst hv
        have HS := hide (And.intro hs hi2)
        clear hl hs
        go_wp2_with fail
        go_meet
        exact ⟨1, true, rfl, HS.out.1, by have := HS.out.2; omega, RdSt.newN w true⟩
      · have hp : (0 : Int) < (l.length : Int) := by rw [hl]; simp only [List.length_cons]; omega
        have hi2 : 0 < (bsV l).size := by rw [hsz, hl]; simp
        have hget : (bsV l)[0]'hi2 = 43 := by rw [bs_get]; simp only [hl]; rfl
        have hv : sgn = true := by rw [← Hsgn.out, hl]; rfl
        subst hv
        have HS := hide (And.intro hs hi2)
        clear hl hs
        go_wp2_with fail
        go_meet
        exact ⟨1, false, rfl, HS.out.1, by have := HS.out.2; omega, RdSt.newN w false⟩
      · have hv : sgn = false := by
          rw [← Hsgn.out]
          rcases hl with hl | ⟨c, t, hl, h45, h43⟩
          · rw [hl]; rfl
          · rw [hl]; exact decide_eq_false (by rintro (h | h); exact h43 (Option.some.inj h); exact h45 (Option.some.inj h))
        subst hv
        have HS := hide hs
        clear hl hs
        go_wp2_with fail
        go_meet
        exact ⟨0, false, rfl, HS.out, Nat.zero_le _, S0.out⟩
  case rest =>
  obtain ⟨a, ng, rfl, hsg, ha, hS⟩ := hcut
  have HS := hide hS
  have hst := scan_stage hsg
  rw [HSC.out] at hst
  have HQ := hide hst
  clear hS hsg Hsc Hsgn S0 hst
  go_wp2_with fail
  refine (DG.out a _ ha).mono ?_
  rintro e wx ⟨rfl, rfl⟩
  obtain ⟨n0, hn0⟩ : ∃ n, nd (l.drop a) = n := ⟨_, rfl⟩
  have hst := HQ.out
  rw [hn0] at hst ⊢
  clear HQ
  have hnl : a + n0 ≤ l.length := by have := nd_le (l.drop a); rw [List.length_drop] at this; omega
  have HN0 := hide hn0
  clear hn0
  have c0 : wx.cell? ⟨w.heap.size + 1, 0, none⟩ = some (.bool ng) := HS.out.cur.cell 0
  have c1 : wx.cell? ⟨w.heap.size + 1, 1, none⟩ = some (.string ⟨#[]⟩) := HS.out.cur.cell 1
  have c2 : wx.cell? ⟨w.heap.size + 1, 2, none⟩ = some (.int .i64 0) := HS.out.cur.cell 2
  have f1 : wx.frozen? ⟨w.heap.size + 1, 1, none⟩ = false := HS.out.cur.frozen 1
  have f2 : wx.frozen? ⟨w.heap.size + 1, 2, none⟩ = false := HS.out.cur.frozen 2
  have z0 : wx.cell? ⟨w.heap.size, 0, none⟩ = some (.bool false) := HS.out.res.cell 0
  have z1 : wx.cell? ⟨w.heap.size, 1, none⟩ = some (.string ⟨#[]⟩) := HS.out.res.cell 1
  have z2 : wx.cell? ⟨w.heap.size, 2, none⟩ = some (.int .i64 0) := HS.out.res.cell 2
  have g0 : wx.frozen? ⟨w.heap.size, 0, none⟩ = false := HS.out.res.frozen 0
  have g1 : wx.frozen? ⟨w.heap.size, 1, none⟩ = false := HS.out.res.frozen 1
  have g2 : wx.frozen? ⟨w.heap.size, 2, none⟩ = false := HS.out.res.frozen 2
  by_cases hn1 : n0 = 0
  · have Hno := hide (show sc = none by rw [hst, if_pos (.inr hn1)])
    have hn1' : ((n0 : Int) == 0) = true := by rw [hn1]; rfl
    clear hn1 hst
    have Hrow := hide (show Row (((wx.setCell ⟨w.heap.size, 0, none⟩ (.bool false)).setCell ⟨w.heap.size, 1, none⟩ (.string ⟨#[]⟩)).setCell ⟨w.heap.size, 2, none⟩ (.int .i64 0)) w.heap.size 104 #[.bool false, .string ⟨#[]⟩, .int .i64 0] from ((HS.out.res.set_ 0 (.bool false)).set_ 1 (.string ⟨#[]⟩)).set_ 2 (.int .i64 0))
    have HBl := hide (((HS.out.bel.setCell (p := ⟨w.heap.size, 0, none⟩) (Nat.le_refl _) (.bool false)).setCell (p := ⟨w.heap.size, 1, none⟩) (Nat.le_refl _) (.string ⟨#[]⟩)).setCell (p := ⟨w.heap.size, 2, none⟩) (Nat.le_refl _) (.int .i64 0))
    go_wp2
    exact bodyPost_ret (v := .tuple #[.agg #[.bool false, .string ⟨#[]⟩, .int .i64 0], .bool false]) (results_row_tmp rfl _ _ w.heap.size 104 _ _ _ (.bool false) rfl rfl Hrow.out Tryz.underlying104 rfl (by kernel_rfl)) rfl (ReadPost.no Hno.out HBl.out)
  have hn1' : ((n0 : Int) == 0) = false := beq_eq_false_iff_ne.2 (by omega)
  by_cases h64 : 64 < l.length
  · have Hno := hide (show sc = none by rw [hst, if_pos (.inl h64)])
    have h64' : (64 : Int) < (l.length : Int) := by omega
    clear hn1 hst
    have Hrow := hide (show Row (((wx.setCell ⟨w.heap.size, 0, none⟩ (.bool false)).setCell ⟨w.heap.size, 1, none⟩ (.string ⟨#[]⟩)).setCell ⟨w.heap.size, 2, none⟩ (.int .i64 0)) w.heap.size 104 #[.bool false, .string ⟨#[]⟩, .int .i64 0] from ((HS.out.res.set_ 0 (.bool false)).set_ 1 (.string ⟨#[]⟩)).set_ 2 (.int .i64 0))
    have HBl := hide (((HS.out.bel.setCell (p := ⟨w.heap.size, 0, none⟩) (Nat.le_refl _) (.bool false)).setCell (p := ⟨w.heap.size, 1, none⟩) (Nat.le_refl _) (.string ⟨#[]⟩)).setCell (p := ⟨w.heap.size, 2, none⟩) (Nat.le_refl _) (.int .i64 0))
    go_wp2
    exact bodyPost_ret (v := .tuple #[.agg #[.bool false, .string ⟨#[]⟩, .int .i64 0], .bool false]) (results_row_tmp rfl _ _ w.heap.size 104 _ _ _ (.bool false) rfl rfl Hrow.out Tryz.underlying104 rfl (by kernel_rfl)) rfl (ReadPost.no Hno.out HBl.out)
  have h64' : ¬ (64 : Int) < (l.length : Int) := by omega
  rw [if_neg (by omega)] at hst
  have HST := hide hst
  clear hst
  obtain ⟨a1, ha1⟩ : ∃ a1, a + n0 = a1 := ⟨_, rfl⟩
  have hn0l : n0 ≤ 1000000 := by omega
  have hw1 : IntKind.i64.wrap ((a : Int) + (n0 : Int)) = (a1 : Int) := by rw [IntWalk.i64_in _ (by omega)]; omega
  have hw2 : IntKind.i64.wrap ((n0 : Int) - 1) = (n0 : Int) - 1 := IntWalk.i64_in _ (by omega)
  have hb1 : (a : Int) ≤ (a1 : Int) := by omega
  have hb2 : (a1 : Int) ≤ (l.length : Int) := by omega
  have hb3 : (0 : Int) ≤ (a : Int) := by omega
  have hex := bs_sub l a n0
  rw [ha1] at hex HST hnl
  obtain ⟨D1, hD1⟩ : ∃ D1, (l.drop a).take n0 = D1 := ⟨_, rfl⟩
  have HD1 := hide (show D1.length = n0 by rw [← hD1, List.length_take, List.length_drop]; omega)
  rw [hD1] at hex HST
  have HS1 := hide ((HS.out.set1 (bsV D1)).set2 ((n0 : Int) - 1))
  have HA1 := hide ha1
  clear ha1 hD1
  obtain ⟨pt, hpt⟩ : ∃ pt, decide (l[a1]? = some 46) = pt := ⟨_, rfl⟩
  have Hpt := hide hpt
  clear hpt
  go_upto_region 9 with fail
  clear c0 c1 c2 f1 f2 z0 z1 z2 g0 g1 g2
  go_cut [61] (fun v wx => v = .bool pt ∧ RdSt w wx ng (bsV D1) ((n0 : Int) - 1))
  case first =>
    as_aux_lemma =>
      by_cases hlt : a1 < l.length
      · have hlt' : (a1 : Int) < (l.length : Int) := by omega
        have hi2 : a1 < (bsV l).size := by rw [hsz]; exact hlt
        obtain ⟨c, hc⟩ : ∃ c, (bsV l)[a1]'hi2 = c := ⟨_, rfl⟩
        have hc2 : l[a1]? = some c := by rw [List.getElem?_eq_getElem hlt, ← hc, bs_get]
        by_cases h46 : c = 46
        · have e1 : ((c.toNat : Int) == 46) = true := by rw [h46]; rfl
          have hv := hide (show pt = true by rw [← Hpt.out, hc2, h46]; rfl)
          clear h46 hc2
          go_wp2_with fail
          go_meet
          exact ⟨by rw [hv.out], HS1.out⟩
        · have e1 : ((c.toNat : Int) == 46) = false := beq_eq_false_iff_ne.2 fun e => h46 ((u8i c 46).1 e)
          have hv := hide (show pt = false by rw [← Hpt.out, hc2]; exact decide_eq_false fun h => h46 (Option.some.inj h))
          clear h46 hc2
          go_wp2_with fail
          go_meet
          exact ⟨by rw [hv.out], HS1.out⟩
      · have hlt' : ¬ (a1 : Int) < (l.length : Int) := by omega
        have hv := hide (show pt = false by rw [← Hpt.out, List.getElem?_eq_none (by omega)]; rfl)
        go_wp2_with fail
        go_meet
        exact ⟨by rw [hv.out], HS1.out⟩
  case rest =>
  obtain ⟨rfl, hS⟩ := hcut
  have HS2 := hide hS
  clear hS HS1 HS hw1 hw2 hb1 hex
  go_upto_if 61 with fail
  go_cut [5, 6] (fun v5 _ wx => ∃ (a2 : Nat) (X : List UInt8), v5 = .int .i64 (a2 : Int) ∧ fracV (l.drop a1) = some (X, l.drop a2) ∧ a2 ≤ l.length ∧ RdSt w wx ng (bsV (D1 ++ X)) ((n0 : Int) - 1))
  case first =>
    as_aux_lemma =>
      cases hptc : pt with
      | false =>
        subst hptc
        have Hfr := hide (show fracV (l.drop a1) = some ([], l.drop a1) by unfold fracV; rw [head_drop, if_neg (of_decide_eq_false Hpt.out)])
        go_wp2_with fail
        go_meet
        exact ⟨a1, [], rfl, Hfr.out, hnl, by rw [List.append_nil]; exact HS2.out⟩
      | true =>
        subst hptc
        have h46 : l[a1]? = some 46 := of_decide_eq_true Hpt.out
        have hlt : a1 < l.length := by
          rcases Nat.lt_or_ge a1 l.length with h | h
          · exact h
          · rw [List.getElem?_eq_none h] at h46; cases h46
        have hfr : fracV (l.drop a1) = if nd (l.drop (a1 + 1)) = 0 then none else some ((l.drop (a1 + 1)).take (nd (l.drop (a1 + 1))), l.drop (a1 + 1 + nd (l.drop (a1 + 1)))) := by
          unfold fracV
          rw [head_drop, if_pos h46, List.tail_drop, List.drop_drop]
        have hw1 : IntKind.i64.wrap ((a1 : Int) + 1) = ((a1 + 1 : Nat) : Int) := by rw [IntWalk.i64_in _ (by omega)]; omega
        have Hfr := hide hfr
        clear hfr h46
        have hle : a1 + 1 ≤ l.length := hlt
        obtain ⟨b, hb⟩ : ∃ b, a1 + 1 = b := ⟨_, rfl⟩
        rw [hb] at hw1 Hfr hle
        have HBq := hide hb
        clear hb
        go_wp2_with fail
        refine (DG.out b _ hle).mono ?_
        rintro e wy ⟨rfl, rfl⟩
        obtain ⟨n1, hn1⟩ : ∃ n, nd (l.drop b) = n := ⟨_, rfl⟩
        rw [hn1] at Hfr ⊢
        have hnl1 : b + n1 ≤ l.length := by have := nd_le (l.drop b); rw [List.length_drop] at this; omega
        clear hn1
        have c0 : wy.cell? ⟨w.heap.size + 1, 0, none⟩ = some (.bool ng) := HS2.out.cur.cell 0
        have c1 : wy.cell? ⟨w.heap.size + 1, 1, none⟩ = some (.string (bsV D1)) := HS2.out.cur.cell 1
        have c2 : wy.cell? ⟨w.heap.size + 1, 2, none⟩ = some (.int .i64 ((n0 : Int) - 1)) := HS2.out.cur.cell 2
        have f1 : wy.frozen? ⟨w.heap.size + 1, 1, none⟩ = false := HS2.out.cur.frozen 1
        have f2 : wy.frozen? ⟨w.heap.size + 1, 2, none⟩ = false := HS2.out.cur.frozen 2
        have z0 : wy.cell? ⟨w.heap.size, 0, none⟩ = some (.bool false) := HS2.out.res.cell 0
        have z1 : wy.cell? ⟨w.heap.size, 1, none⟩ = some (.string ⟨#[]⟩) := HS2.out.res.cell 1
        have z2 : wy.cell? ⟨w.heap.size, 2, none⟩ = some (.int .i64 0) := HS2.out.res.cell 2
        have g0 : wy.frozen? ⟨w.heap.size, 0, none⟩ = false := HS2.out.res.frozen 0
        have g1 : wy.frozen? ⟨w.heap.size, 1, none⟩ = false := HS2.out.res.frozen 1
        have g2 : wy.frozen? ⟨w.heap.size, 2, none⟩ = false := HS2.out.res.frozen 2
        by_cases hz1 : n1 = 0
        · have Hno := hide (show sc = none by rw [HST.out, Hfr.out, if_pos hz1]; rfl)
          have hz1' : ((n1 : Int) == 0) = true := by rw [hz1]; rfl
          clear hz1
          have Hrow := hide (show Row (((wy.setCell ⟨w.heap.size, 0, none⟩ (.bool false)).setCell ⟨w.heap.size, 1, none⟩ (.string ⟨#[]⟩)).setCell ⟨w.heap.size, 2, none⟩ (.int .i64 0)) w.heap.size 104 #[.bool false, .string ⟨#[]⟩, .int .i64 0] from ((HS2.out.res.set_ 0 (.bool false)).set_ 1 (.string ⟨#[]⟩)).set_ 2 (.int .i64 0))
          have HBl := hide (((HS2.out.bel.setCell (p := ⟨w.heap.size, 0, none⟩) (Nat.le_refl _) (.bool false)).setCell (p := ⟨w.heap.size, 1, none⟩) (Nat.le_refl _) (.string ⟨#[]⟩)).setCell (p := ⟨w.heap.size, 2, none⟩) (Nat.le_refl _) (.int .i64 0))
          go_wp2
          exact bodyPost_ret (v := .tuple #[.agg #[.bool false, .string ⟨#[]⟩, .int .i64 0], .bool false]) (results_row_tmp rfl _ _ w.heap.size 104 _ _ _ (.bool false) rfl rfl Hrow.out Tryz.underlying104 rfl (by kernel_rfl)) rfl (ReadPost.no Hno.out HBl.out)
        · have hz1' : ((n1 : Int) == 0) = false := beq_eq_false_iff_ne.2 (by omega)
          obtain ⟨a2, ha2⟩ : ∃ a2, b + n1 = a2 := ⟨_, rfl⟩
          have hw2 : IntKind.i64.wrap ((b : Int) + (n1 : Int)) = (a2 : Int) := by rw [IntWalk.i64_in _ (by omega)]; omega
          have hb1 : (b : Int) ≤ (a2 : Int) := by omega
          have hb2 : (a2 : Int) ≤ (l.length : Int) := by omega
          have hb3 : (0 : Int) ≤ (b : Int) := by omega
          have hex := bs_sub l b n1
          obtain ⟨X, hX⟩ : ∃ X, (l.drop b).take n1 = X := ⟨_, rfl⟩
          have hXl : X.length ≤ 1000000 := by rw [← hX, List.length_take, List.length_drop]; omega
          rw [hX, ha2] at hex
          have Hfr2 := hide (show fracV (l.drop a1) = some (X, l.drop a2) by rw [Hfr.out, if_neg hz1, hX, ha2])
          have hadd := run_add D1 X (by rw [HD1.out]; omega) (by omega)
          have HS3 := hide (HS2.out.set1 (bsV (D1 ++ X)))
          have hnl2 : a2 ≤ l.length := by omega
          clear hz1 ha2 hX Hfr
          go_wp2_with fail
          go_region
          all_goals
            go_wp2_with fail
            go_meet
            exact ⟨a2, X, rfl, Hfr2.out, hnl2, HS3.out.drew⟩
  case rest =>
  obtain ⟨a2, X, rfl, hfr, ha2, hS⟩ := hcut
  have HS4 := hide hS
  have hst : sc = (expV (l.drop a2)).bind fun x => if x.2.2 = [] then some (ng, D1, X, x.1, x.2.1) else none := by rw [HST.out, hfr]; rfl
  have HST2 := hide hst
  clear hS hfr hst HS2 HST Hpt hnl
  obtain ⟨ex, hex⟩ : ∃ ex, decide (l[a2]? = some 101 ∨ l[a2]? = some 69) = ex := ⟨_, rfl⟩
  have Hex := hide hex
  clear hex
  go_upto_region 14 with fail
  go_cut [100] (fun v wx => v = .bool ex ∧ RdSt w wx ng (bsV (D1 ++ X)) ((n0 : Int) - 1))
  case first =>
    as_aux_lemma =>
      by_cases hlt : a2 < l.length
      · have hlt' : (a2 : Int) < (l.length : Int) := by omega
        have hi2 : a2 < (bsV l).size := by rw [hsz]; exact hlt
        obtain ⟨c, hc⟩ : ∃ c, (bsV l)[a2]'hi2 = c := ⟨_, rfl⟩
        have hc2 : l[a2]? = some c := by rw [List.getElem?_eq_getElem hlt, ← hc, bs_get]
        by_cases h101 : c = 101
        · have e1 : ((c.toNat : Int) == 101) = true := by rw [h101]; rfl
          have hv := hide (show ex = true by rw [← Hex.out, hc2, h101]; rfl)
          clear h101 hc2
          go_wp2_with fail
          go_meet
          exact ⟨by rw [hv.out], HS4.out⟩
        · have e1 : ((c.toNat : Int) == 101) = false := beq_eq_false_iff_ne.2 fun e => h101 ((u8i c 101).1 e)
          by_cases h69 : c = 69
          · have e2 : ((c.toNat : Int) == 69) = true := by rw [h69]; rfl
            have hv := hide (show ex = true by rw [← Hex.out, hc2, h69]; rfl)
            clear h101 h69 hc2
            go_wp2_with fail
            go_meet
            exact ⟨by rw [hv.out], HS4.out⟩
          · have e2 : ((c.toNat : Int) == 69) = false := beq_eq_false_iff_ne.2 fun e => h69 ((u8i c 69).1 e)
            have hv := hide (show ex = false by rw [← Hex.out, hc2]; exact decide_eq_false (by rintro (h | h); exact h101 (Option.some.inj h); exact h69 (Option.some.inj h)))
            clear h101 h69 hc2
            go_wp2_with fail
            go_meet
            exact ⟨by rw [hv.out], HS4.out⟩
      · have hlt' : ¬ (a2 : Int) < (l.length : Int) := by omega
        have hv := hide (show ex = false by rw [← Hex.out, List.getElem?_eq_none (by omega)]; rfl)
        go_wp2_with fail
        go_meet
        exact ⟨by rw [hv.out], HS4.out⟩
  case rest =>
  obtain ⟨rfl, hS⟩ := hcut
  have HS5 := hide hS
  clear hS HS4
  go_upto_if 100 with fail
  go_cut [5] (fun v5 wx => ∃ (a3 : Nat) (xn : Bool) (Y : List UInt8), v5 = .int .i64 (a3 : Int) ∧ expV (l.drop a2) = some (xn, Y, l.drop a3) ∧ a3 ≤ l.length ∧ RdSt w wx ng (bsV (D1 ++ X)) ((n0 : Int) - 1 + sgnV xn (esat 100000 Y)))
  case first =>
    as_aux_lemma =>
      cases hexc : ex with
      | false =>
        subst hexc
        have Hxp := hide (show expV (l.drop a2) = some (false, [], l.drop a2) by unfold expV; rw [head_drop, if_neg (of_decide_eq_false Hex.out)])
        go_wp2_with fail
        go_meet
        exact ⟨a2, false, [], rfl, Hxp.out, ha2, by rw [show (n0 : Int) - 1 + sgnV false (esat 100000 []) = (n0 : Int) - 1 from by show (n0 : Int) - 1 + ((0 : Nat) : Int) = _; omega]; exact HS5.out⟩
      | true =>
        subst hexc
        have hor : l[a2]? = some 101 ∨ l[a2]? = some 69 := of_decide_eq_true Hex.out
        have hlt : a2 < l.length := by
          rcases Nat.lt_or_ge a2 l.length with h | h
          · exact h
          · rw [List.getElem?_eq_none h] at hor; rcases hor with h | h <;> cases h
        have hxp : expV (l.drop a2) = if nd (signV (l.drop (a2 + 1))).2 = 0 then none else some ((signV (l.drop (a2 + 1))).1, (signV (l.drop (a2 + 1))).2.take (nd (signV (l.drop (a2 + 1))).2), (signV (l.drop (a2 + 1))).2.drop (nd (signV (l.drop (a2 + 1))).2)) := by
          unfold expV
          rw [head_drop, if_pos hor, List.tail_drop]
        have Hxp := hide hxp
        have hw0 : IntKind.i64.wrap ((a2 : Int) + 1) = ((a2 + 1 : Nat) : Int) := by rw [IntWalk.i64_in _ (by omega)]; omega
        have hle : a2 + 1 ≤ l.length := hlt
        obtain ⟨b, hb⟩ : ∃ b, a2 + 1 = b := ⟨_, rfl⟩
        rw [hb] at hw0 Hxp hle
        clear hxp hor hb
        rcases sign_cases (l.drop b) with ⟨t, hl, hs⟩ | ⟨t, hl, hs⟩ | ⟨hs, hl | ⟨c, t, hl, h45, h43⟩⟩
        · as_aux_lemma =>
            have hlb : b < l.length := by
              rcases Nat.lt_or_ge b l.length with h | h
              · exact h
              · rw [List.drop_eq_nil_of_le h] at hl; cases hl
            have hi2 : b < (bsV l).size := by rw [hsz]; exact hlb
            have hlt1 : (b : Int) < (l.length : Int) := by omega
            have hget : (bsV l)[b]'hi2 = 45 := by
              rw [bs_get]
              have h0 := congrArg (fun x : List UInt8 => x[0]?) hl
              simp only [List.getElem?_drop, Nat.add_zero, List.getElem?_cons_zero] at h0
              rw [List.getElem?_eq_getElem hlb] at h0
              exact Option.some.inj h0
            rw [List.drop_drop] at hs
            have Hxp2 : Hid (expV (l.drop a2) = if nd (l.drop (b + 1)) = 0 then none else some (true, (l.drop (b + 1)).take (nd (l.drop (b + 1))), (l.drop (b + 1)).drop (nd (l.drop (b + 1))))) := hide (by rw [Hxp.out, hs])
            have hw4 : IntKind.i64.wrap ((b : Int) + 1) = ((b + 1 : Nat) : Int) := by rw [IntWalk.i64_in _ (by omega)]; omega
            have hle2 : b + 1 ≤ l.length := hlb
            obtain ⟨b2, hb2⟩ : ∃ b2, b + 1 = b2 := ⟨_, rfl⟩
            rw [hb2] at Hxp2 hw4 hle2
            clear hl hs Hxp hb2
            go_wp2_with fail
            refine (DG.out b2 _ hle2).mono ?_
            rintro e wy ⟨rfl, rfl⟩
            obtain ⟨n2, hn2⟩ : ∃ n, nd (l.drop b2) = n := ⟨_, rfl⟩
            rw [hn2] at Hxp2 ⊢
            have hnl2 : b2 + n2 ≤ l.length := by have := nd_le (l.drop b2); rw [List.length_drop] at this; omega
            have hdig : ∀ i, ∀ h : b2 + i < l.length, i < n2 → isD (l[b2 + i]'h) = true := fun i h hi => by
              have := nd_in (l.drop b2) i (by rw [List.length_drop]; omega) (by rw [hn2]; exact hi)
              rwa [List.getElem_drop] at this
            have Hdig := hide hdig
            clear hn2 hdig
            have c0 : wy.cell? ⟨w.heap.size + 1, 0, none⟩ = some (.bool ng) := HS5.out.cur.cell 0
            have c1 : wy.cell? ⟨w.heap.size + 1, 1, none⟩ = some (.string (bsV (D1 ++ X))) := HS5.out.cur.cell 1
            have c2 : wy.cell? ⟨w.heap.size + 1, 2, none⟩ = some (.int .i64 ((n0 : Int) - 1)) := HS5.out.cur.cell 2
            have f1 : wy.frozen? ⟨w.heap.size + 1, 1, none⟩ = false := HS5.out.cur.frozen 1
            have f2 : wy.frozen? ⟨w.heap.size + 1, 2, none⟩ = false := HS5.out.cur.frozen 2
            have z0 : wy.cell? ⟨w.heap.size, 0, none⟩ = some (.bool false) := HS5.out.res.cell 0
            have z1 : wy.cell? ⟨w.heap.size, 1, none⟩ = some (.string ⟨#[]⟩) := HS5.out.res.cell 1
            have z2 : wy.cell? ⟨w.heap.size, 2, none⟩ = some (.int .i64 0) := HS5.out.res.cell 2
            have g0 : wy.frozen? ⟨w.heap.size, 0, none⟩ = false := HS5.out.res.frozen 0
            have g1 : wy.frozen? ⟨w.heap.size, 1, none⟩ = false := HS5.out.res.frozen 1
            have g2 : wy.frozen? ⟨w.heap.size, 2, none⟩ = false := HS5.out.res.frozen 2
            by_cases hz2 : n2 = 0
            · have Hno := hide (show sc = none by rw [HST2.out, Hxp2.out, if_pos hz2]; rfl)
              have hz2' : ((n2 : Int) == 0) = true := by rw [hz2]; rfl
              clear hz2
              have Hrow := hide (show Row (((wy.setCell ⟨w.heap.size, 0, none⟩ (.bool false)).setCell ⟨w.heap.size, 1, none⟩ (.string ⟨#[]⟩)).setCell ⟨w.heap.size, 2, none⟩ (.int .i64 0)) w.heap.size 104 #[.bool false, .string ⟨#[]⟩, .int .i64 0] from ((HS5.out.res.set_ 0 (.bool false)).set_ 1 (.string ⟨#[]⟩)).set_ 2 (.int .i64 0))
              have HBl := hide (((HS5.out.bel.setCell (p := ⟨w.heap.size, 0, none⟩) (Nat.le_refl _) (.bool false)).setCell (p := ⟨w.heap.size, 1, none⟩) (Nat.le_refl _) (.string ⟨#[]⟩)).setCell (p := ⟨w.heap.size, 2, none⟩) (Nat.le_refl _) (.int .i64 0))
              go_wp2
              exact bodyPost_ret (v := .tuple #[.agg #[.bool false, .string ⟨#[]⟩, .int .i64 0], .bool false]) (results_row_tmp rfl _ _ w.heap.size 104 _ _ _ (.bool false) rfl rfl Hrow.out Tryz.underlying104 rfl (by kernel_rfl)) rfl (ReadPost.no Hno.out HBl.out)
            · have hz2' : ((n2 : Int) == 0) = false := beq_eq_false_iff_ne.2 (by omega)
              obtain ⟨Y, hY⟩ : ∃ Y, (l.drop b2).take n2 = Y := ⟨_, rfl⟩
              have Hxp3 := hide (show expV (l.drop a2) = some (true, Y, l.drop (b2 + n2)) by rw [Hxp2.out, if_neg hz2, hY, List.drop_drop])
              have HY := hide hY
              have hYl : Y.length = n2 := by rw [← hY, List.length_take, List.length_drop]; omega
              have HYl := hide hYl
              clear hz2 hY hYl Hxp2
              go_wp2
              go_loopw [8, 9] (fun v8 v9 wl => ∃ i : Nat, v9 = .int .i64 (i : Int) ∧ v8 = .int .i64 ((esat 100000 (Y.take i) : Nat) : Int) ∧ i ≤ n2 ∧ wl = wy) (fun _ v9 _ => n2 - (intOf v9).toNat)
              case atStart => exact ⟨0, rfl, rfl, Nat.zero_le _, rfl⟩
              case round =>
                obtain ⟨i, rfl, rfl, hi, rfl⟩ := hrel
                have hEl := esat_le (Y.take i)
                by_cases hin : i < n2
                · have hin' : (i : Int) < (n2 : Int) := by omega
                  have hbi : b2 + i < l.length := by omega
                  have hd := Hdig.out i hbi hin
                  have hi2 : b2 + i < (bsV l).size := by rw [hsz]; exact hbi
                  obtain ⟨c, hc⟩ : ∃ c, (bsV l)[b2 + i]'hi2 = c := ⟨_, rfl⟩
                  have hcl : l[b2 + i]'hbi = c := by rw [← hc, bs_get]
                  rw [hcl] at hd
                  have hd2 := of_decide_eq_true (show decide (48 ≤ c.toNat ∧ c.toNat ≤ 57) = true from hd)
                  have hYi : Y.take (i + 1) = Y.take i ++ [c] := by
                    rw [List.take_add_one, ← HY.out, List.getElem?_take, if_pos hin, List.getElem?_drop, List.getElem?_eq_getElem hbi, hcl]; rfl
                  have hes : esat 100000 (Y.take (i + 1)) = min 100000 (10 * esat 100000 (Y.take i) + (c.toNat - 48)) := by rw [hYi, esat_snoc]
                  obtain ⟨E, hE⟩ : ∃ E, esat 100000 (Y.take i) = E := ⟨_, rfl⟩
                  rw [hE] at hes hEl ⊢
                  have Hes := hide hes
                  have k1 : IntKind.i64.wrap (10 * (E : Int)) = 10 * (E : Int) := IntWalk.i64_in _ (by omega)
                  have k2 : IntKind.i64.wrap ((b2 : Int) + (i : Int)) = (b2 : Int) + (i : Int) := IntWalk.i64_in _ (by omega)
                  have k3 : IntKind.u8.wrap ((c.toNat : Int) - 48) = (c.toNat : Int) - 48 := by rw [IntKind.wrap_u8]; omega
                  have k4 : IntKind.i64.wrap ((c.toNat : Int) - 48) = (c.toNat : Int) - 48 := IntWalk.i64_in _ (by omega)
                  have k5 : IntKind.i64.wrap (10 * (E : Int) + ((c.toNat : Int) - 48)) = 10 * (E : Int) + ((c.toNat : Int) - 48) := IntWalk.i64_in _ (by omega)
                  have k6 : ((b2 : Int) + (i : Int)).toNat = b2 + i := by omega
                  have k7 : (b2 : Int) + (i : Int) < (l.length : Int) := by omega
                  have k8 : (0 : Int) ≤ (b2 : Int) + (i : Int) := by omega
                  have HC := hide hd2
                  clear hd hd2 hcl hYi hes hE
                  go_wp2
                  go_roundw
                  case rel =>
                    refine ⟨i + 1, by go_num, ?_, by omega, by trivial⟩
                    have h1 := HC.out
                    congr 1
                    rw [Hes.out]
                    omega
                  case measure => simp [intOf]; omega
                · obtain rfl : i = n2 := by omega
                  have hin' : ¬ (i : Int) < (i : Int) := by omega
                  have hYt : Y.take i = Y := by rw [← HYl.out, List.take_length]
                  rw [hYt] at hEl ⊢
                  obtain ⟨E, hE⟩ : ∃ E, esat 100000 Y = E := ⟨_, rfl⟩
                  rw [hE] at hEl ⊢
                  have k1 : IntKind.i64.wrap (-(E : Int)) = -(E : Int) := IntWalk.i64_in _ (by omega)
                  have k2 : IntKind.i64.wrap ((n0 : Int) - 1 + -(E : Int)) = (n0 : Int) - 1 + -(E : Int) := IntWalk.i64_in _ (by omega)
                  have k3 : IntKind.i64.wrap ((b2 : Int) + (i : Int)) = ((b2 + i : Nat) : Int) := by rw [IntWalk.i64_in _ (by omega)]; omega
                  have HS7 := hide (HS5.out.set2 ((n0 : Int) - 1 + -(E : Int)))
                  have HE2 := hide (show sgnV true (esat 100000 Y) = -(E : Int) by rw [hE]; rfl)
                  clear hE hYt
                  go_wp2_with fail
                  go_meet
                  exact ⟨b2 + i, true, Y, rfl, Hxp3.out, hnl2, by rw [HE2.out]; exact HS7.out⟩
        · as_aux_lemma =>
            have hlb : b < l.length := by
              rcases Nat.lt_or_ge b l.length with h | h
              · exact h
              · rw [List.drop_eq_nil_of_le h] at hl; cases hl
            have hi2 : b < (bsV l).size := by rw [hsz]; exact hlb
            have hlt1 : (b : Int) < (l.length : Int) := by omega
            have hget : (bsV l)[b]'hi2 = 43 := by
              rw [bs_get]
              have h0 := congrArg (fun x : List UInt8 => x[0]?) hl
              simp only [List.getElem?_drop, Nat.add_zero, List.getElem?_cons_zero] at h0
              rw [List.getElem?_eq_getElem hlb] at h0
              exact Option.some.inj h0
            rw [List.drop_drop] at hs
            have Hxp2 : Hid (expV (l.drop a2) = if nd (l.drop (b + 1)) = 0 then none else some (false, (l.drop (b + 1)).take (nd (l.drop (b + 1))), (l.drop (b + 1)).drop (nd (l.drop (b + 1))))) := hide (by rw [Hxp.out, hs])
            have hw4 : IntKind.i64.wrap ((b : Int) + 1) = ((b + 1 : Nat) : Int) := by rw [IntWalk.i64_in _ (by omega)]; omega
            have hle2 : b + 1 ≤ l.length := hlb
            obtain ⟨b2, hb2⟩ : ∃ b2, b + 1 = b2 := ⟨_, rfl⟩
            rw [hb2] at Hxp2 hw4 hle2
            clear hl hs Hxp hb2
            go_wp2_with fail
            refine (DG.out b2 _ hle2).mono ?_
            rintro e wy ⟨rfl, rfl⟩
            obtain ⟨n2, hn2⟩ : ∃ n, nd (l.drop b2) = n := ⟨_, rfl⟩
            rw [hn2] at Hxp2 ⊢
            have hnl2 : b2 + n2 ≤ l.length := by have := nd_le (l.drop b2); rw [List.length_drop] at this; omega
            have hdig : ∀ i, ∀ h : b2 + i < l.length, i < n2 → isD (l[b2 + i]'h) = true := fun i h hi => by
              have := nd_in (l.drop b2) i (by rw [List.length_drop]; omega) (by rw [hn2]; exact hi)
              rwa [List.getElem_drop] at this
            have Hdig := hide hdig
            clear hn2 hdig
            have c0 : wy.cell? ⟨w.heap.size + 1, 0, none⟩ = some (.bool ng) := HS5.out.cur.cell 0
            have c1 : wy.cell? ⟨w.heap.size + 1, 1, none⟩ = some (.string (bsV (D1 ++ X))) := HS5.out.cur.cell 1
            have c2 : wy.cell? ⟨w.heap.size + 1, 2, none⟩ = some (.int .i64 ((n0 : Int) - 1)) := HS5.out.cur.cell 2
            have f1 : wy.frozen? ⟨w.heap.size + 1, 1, none⟩ = false := HS5.out.cur.frozen 1
            have f2 : wy.frozen? ⟨w.heap.size + 1, 2, none⟩ = false := HS5.out.cur.frozen 2
            have z0 : wy.cell? ⟨w.heap.size, 0, none⟩ = some (.bool false) := HS5.out.res.cell 0
            have z1 : wy.cell? ⟨w.heap.size, 1, none⟩ = some (.string ⟨#[]⟩) := HS5.out.res.cell 1
            have z2 : wy.cell? ⟨w.heap.size, 2, none⟩ = some (.int .i64 0) := HS5.out.res.cell 2
            have g0 : wy.frozen? ⟨w.heap.size, 0, none⟩ = false := HS5.out.res.frozen 0
            have g1 : wy.frozen? ⟨w.heap.size, 1, none⟩ = false := HS5.out.res.frozen 1
            have g2 : wy.frozen? ⟨w.heap.size, 2, none⟩ = false := HS5.out.res.frozen 2
            by_cases hz2 : n2 = 0
            · have Hno := hide (show sc = none by rw [HST2.out, Hxp2.out, if_pos hz2]; rfl)
              have hz2' : ((n2 : Int) == 0) = true := by rw [hz2]; rfl
              clear hz2
              have Hrow := hide (show Row (((wy.setCell ⟨w.heap.size, 0, none⟩ (.bool false)).setCell ⟨w.heap.size, 1, none⟩ (.string ⟨#[]⟩)).setCell ⟨w.heap.size, 2, none⟩ (.int .i64 0)) w.heap.size 104 #[.bool false, .string ⟨#[]⟩, .int .i64 0] from ((HS5.out.res.set_ 0 (.bool false)).set_ 1 (.string ⟨#[]⟩)).set_ 2 (.int .i64 0))
              have HBl := hide (((HS5.out.bel.setCell (p := ⟨w.heap.size, 0, none⟩) (Nat.le_refl _) (.bool false)).setCell (p := ⟨w.heap.size, 1, none⟩) (Nat.le_refl _) (.string ⟨#[]⟩)).setCell (p := ⟨w.heap.size, 2, none⟩) (Nat.le_refl _) (.int .i64 0))
              go_wp2
              exact bodyPost_ret (v := .tuple #[.agg #[.bool false, .string ⟨#[]⟩, .int .i64 0], .bool false]) (results_row_tmp rfl _ _ w.heap.size 104 _ _ _ (.bool false) rfl rfl Hrow.out Tryz.underlying104 rfl (by kernel_rfl)) rfl (ReadPost.no Hno.out HBl.out)
            · have hz2' : ((n2 : Int) == 0) = false := beq_eq_false_iff_ne.2 (by omega)
              obtain ⟨Y, hY⟩ : ∃ Y, (l.drop b2).take n2 = Y := ⟨_, rfl⟩
              have Hxp3 := hide (show expV (l.drop a2) = some (false, Y, l.drop (b2 + n2)) by rw [Hxp2.out, if_neg hz2, hY, List.drop_drop])
              have HY := hide hY
              have hYl : Y.length = n2 := by rw [← hY, List.length_take, List.length_drop]; omega
              have HYl := hide hYl
              clear hz2 hY hYl Hxp2
              go_wp2
              go_loopw [8, 9] (fun v8 v9 wl => ∃ i : Nat, v9 = .int .i64 (i : Int) ∧ v8 = .int .i64 ((esat 100000 (Y.take i) : Nat) : Int) ∧ i ≤ n2 ∧ wl = wy) (fun _ v9 _ => n2 - (intOf v9).toNat)
              case atStart => exact ⟨0, rfl, rfl, Nat.zero_le _, rfl⟩
              case round =>
                obtain ⟨i, rfl, rfl, hi, rfl⟩ := hrel
                have hEl := esat_le (Y.take i)
                by_cases hin : i < n2
                · have hin' : (i : Int) < (n2 : Int) := by omega
                  have hbi : b2 + i < l.length := by omega
                  have hd := Hdig.out i hbi hin
                  have hi2 : b2 + i < (bsV l).size := by rw [hsz]; exact hbi
                  obtain ⟨c, hc⟩ : ∃ c, (bsV l)[b2 + i]'hi2 = c := ⟨_, rfl⟩
                  have hcl : l[b2 + i]'hbi = c := by rw [← hc, bs_get]
                  rw [hcl] at hd
                  have hd2 := of_decide_eq_true (show decide (48 ≤ c.toNat ∧ c.toNat ≤ 57) = true from hd)
                  have hYi : Y.take (i + 1) = Y.take i ++ [c] := by
                    rw [List.take_add_one, ← HY.out, List.getElem?_take, if_pos hin, List.getElem?_drop, List.getElem?_eq_getElem hbi, hcl]; rfl
                  have hes : esat 100000 (Y.take (i + 1)) = min 100000 (10 * esat 100000 (Y.take i) + (c.toNat - 48)) := by rw [hYi, esat_snoc]
                  obtain ⟨E, hE⟩ : ∃ E, esat 100000 (Y.take i) = E := ⟨_, rfl⟩
                  rw [hE] at hes hEl ⊢
                  have Hes := hide hes
                  have k1 : IntKind.i64.wrap (10 * (E : Int)) = 10 * (E : Int) := IntWalk.i64_in _ (by omega)
                  have k2 : IntKind.i64.wrap ((b2 : Int) + (i : Int)) = (b2 : Int) + (i : Int) := IntWalk.i64_in _ (by omega)
                  have k3 : IntKind.u8.wrap ((c.toNat : Int) - 48) = (c.toNat : Int) - 48 := by rw [IntKind.wrap_u8]; omega
                  have k4 : IntKind.i64.wrap ((c.toNat : Int) - 48) = (c.toNat : Int) - 48 := IntWalk.i64_in _ (by omega)
                  have k5 : IntKind.i64.wrap (10 * (E : Int) + ((c.toNat : Int) - 48)) = 10 * (E : Int) + ((c.toNat : Int) - 48) := IntWalk.i64_in _ (by omega)
                  have k6 : ((b2 : Int) + (i : Int)).toNat = b2 + i := by omega
                  have k7 : (b2 : Int) + (i : Int) < (l.length : Int) := by omega
                  have k8 : (0 : Int) ≤ (b2 : Int) + (i : Int) := by omega
                  have HC := hide hd2
                  clear hd hd2 hcl hYi hes hE
                  go_wp2
                  go_roundw
                  case rel =>
                    refine ⟨i + 1, by go_num, ?_, by omega, by trivial⟩
                    have h1 := HC.out
                    congr 1
                    rw [Hes.out]
                    omega
                  case measure => simp [intOf]; omega
                · obtain rfl : i = n2 := by omega
                  have hin' : ¬ (i : Int) < (i : Int) := by omega
                  have hYt : Y.take i = Y := by rw [← HYl.out, List.take_length]
                  rw [hYt] at hEl ⊢
                  obtain ⟨E, hE⟩ : ∃ E, esat 100000 Y = E := ⟨_, rfl⟩
                  rw [hE] at hEl ⊢
                  have k1 : IntKind.i64.wrap (-(E : Int)) = -(E : Int) := IntWalk.i64_in _ (by omega)
                  have k2 : IntKind.i64.wrap ((n0 : Int) - 1 + (E : Int)) = (n0 : Int) - 1 + (E : Int) := IntWalk.i64_in _ (by omega)
                  have k3 : IntKind.i64.wrap ((b2 : Int) + (i : Int)) = ((b2 + i : Nat) : Int) := by rw [IntWalk.i64_in _ (by omega)]; omega
                  have HS7 := hide (HS5.out.set2 ((n0 : Int) - 1 + (E : Int)))
                  have HE2 := hide (show sgnV false (esat 100000 Y) = (E : Int) by rw [hE]; rfl)
                  clear hE hYt
                  go_wp2_with fail
                  go_meet
                  exact ⟨b2 + i, false, Y, rfl, Hxp3.out, hnl2, by rw [HE2.out]; exact HS7.out⟩
        · as_aux_lemma =>
            have hlb : l.length ≤ b := List.drop_eq_nil_iff.1 hl
            have hlt1 : ¬ (b : Int) < (l.length : Int) := by omega
            rw [List.drop_drop, Nat.add_zero] at hs
            have Hxp2 : Hid (expV (l.drop a2) = if nd (l.drop b) = 0 then none else some (false, (l.drop b).take (nd (l.drop b)), (l.drop b).drop (nd (l.drop b)))) := hide (by rw [Hxp.out, hs])
            have Hno := hide (show sc = none by rw [HST2.out, Hxp2.out, hl]; rfl)
            have Hn2 := hide (show nd (l.drop b) = 0 by rw [hl]; rfl)
            clear hl hs Hxp
            go_wp2_with fail
            refine (DG.out b _ hle).mono ?_
            rintro e wy ⟨rfl, rfl⟩
            rw [Hn2.out]
            have c0 : wy.cell? ⟨w.heap.size + 1, 0, none⟩ = some (.bool ng) := HS5.out.cur.cell 0
            have c1 : wy.cell? ⟨w.heap.size + 1, 1, none⟩ = some (.string (bsV (D1 ++ X))) := HS5.out.cur.cell 1
            have c2 : wy.cell? ⟨w.heap.size + 1, 2, none⟩ = some (.int .i64 ((n0 : Int) - 1)) := HS5.out.cur.cell 2
            have f1 : wy.frozen? ⟨w.heap.size + 1, 1, none⟩ = false := HS5.out.cur.frozen 1
            have f2 : wy.frozen? ⟨w.heap.size + 1, 2, none⟩ = false := HS5.out.cur.frozen 2
            have z0 : wy.cell? ⟨w.heap.size, 0, none⟩ = some (.bool false) := HS5.out.res.cell 0
            have z1 : wy.cell? ⟨w.heap.size, 1, none⟩ = some (.string ⟨#[]⟩) := HS5.out.res.cell 1
            have z2 : wy.cell? ⟨w.heap.size, 2, none⟩ = some (.int .i64 0) := HS5.out.res.cell 2
            have g0 : wy.frozen? ⟨w.heap.size, 0, none⟩ = false := HS5.out.res.frozen 0
            have g1 : wy.frozen? ⟨w.heap.size, 1, none⟩ = false := HS5.out.res.frozen 1
            have g2 : wy.frozen? ⟨w.heap.size, 2, none⟩ = false := HS5.out.res.frozen 2
            have Hrow := hide (show Row (((wy.setCell ⟨w.heap.size, 0, none⟩ (.bool false)).setCell ⟨w.heap.size, 1, none⟩ (.string ⟨#[]⟩)).setCell ⟨w.heap.size, 2, none⟩ (.int .i64 0)) w.heap.size 104 #[.bool false, .string ⟨#[]⟩, .int .i64 0] from ((HS5.out.res.set_ 0 (.bool false)).set_ 1 (.string ⟨#[]⟩)).set_ 2 (.int .i64 0))
            have HBl := hide (((HS5.out.bel.setCell (p := ⟨w.heap.size, 0, none⟩) (Nat.le_refl _) (.bool false)).setCell (p := ⟨w.heap.size, 1, none⟩) (Nat.le_refl _) (.string ⟨#[]⟩)).setCell (p := ⟨w.heap.size, 2, none⟩) (Nat.le_refl _) (.int .i64 0))
            go_wp2
            exact bodyPost_ret (v := .tuple #[.agg #[.bool false, .string ⟨#[]⟩, .int .i64 0], .bool false]) (results_row_tmp rfl _ _ w.heap.size 104 _ _ _ (.bool false) rfl rfl Hrow.out Tryz.underlying104 rfl (by kernel_rfl)) rfl (ReadPost.no Hno.out HBl.out)
        · as_aux_lemma =>
            have hlb : b < l.length := by
              rcases Nat.lt_or_ge b l.length with h | h
              · exact h
              · rw [List.drop_eq_nil_of_le h] at hl; cases hl
            have hi2 : b < (bsV l).size := by rw [hsz]; exact hlb
            have hlt1 : (b : Int) < (l.length : Int) := by omega
            have hget : (bsV l)[b]'hi2 = c := by
              rw [bs_get]
              have h0 := congrArg (fun x : List UInt8 => x[0]?) hl
              simp only [List.getElem?_drop, Nat.add_zero, List.getElem?_cons_zero] at h0
              rw [List.getElem?_eq_getElem hlb] at h0
              exact Option.some.inj h0
            have e1 : ((c.toNat : Int) == 43) = false := beq_eq_false_iff_ne.2 fun e => h43 ((u8i c 43).1 e)
            have e2 : ((c.toNat : Int) == 45) = false := beq_eq_false_iff_ne.2 fun e => h45 ((u8i c 45).1 e)
            rw [List.drop_drop, Nat.add_zero] at hs
            have Hxp2 : Hid (expV (l.drop a2) = if nd (l.drop b) = 0 then none else some (false, (l.drop b).take (nd (l.drop b)), (l.drop b).drop (nd (l.drop b)))) := hide (by rw [Hxp.out, hs])
            clear hl hs Hxp h45 h43
            go_wp2_with fail
            refine (DG.out b _ hle).mono ?_
            rintro e wy ⟨rfl, rfl⟩
            obtain ⟨n2, hn2⟩ : ∃ n, nd (l.drop b) = n := ⟨_, rfl⟩
            rw [hn2] at Hxp2 ⊢
            have hnl2 : b + n2 ≤ l.length := by have := nd_le (l.drop b); rw [List.length_drop] at this; omega
            have hdig : ∀ i, ∀ h : b + i < l.length, i < n2 → isD (l[b + i]'h) = true := fun i h hi => by
              have := nd_in (l.drop b) i (by rw [List.length_drop]; omega) (by rw [hn2]; exact hi)
              rwa [List.getElem_drop] at this
            have Hdig := hide hdig
            clear hn2 hdig
            have c0 : wy.cell? ⟨w.heap.size + 1, 0, none⟩ = some (.bool ng) := HS5.out.cur.cell 0
            have c1 : wy.cell? ⟨w.heap.size + 1, 1, none⟩ = some (.string (bsV (D1 ++ X))) := HS5.out.cur.cell 1
            have c2 : wy.cell? ⟨w.heap.size + 1, 2, none⟩ = some (.int .i64 ((n0 : Int) - 1)) := HS5.out.cur.cell 2
            have f1 : wy.frozen? ⟨w.heap.size + 1, 1, none⟩ = false := HS5.out.cur.frozen 1
            have f2 : wy.frozen? ⟨w.heap.size + 1, 2, none⟩ = false := HS5.out.cur.frozen 2
            have z0 : wy.cell? ⟨w.heap.size, 0, none⟩ = some (.bool false) := HS5.out.res.cell 0
            have z1 : wy.cell? ⟨w.heap.size, 1, none⟩ = some (.string ⟨#[]⟩) := HS5.out.res.cell 1
            have z2 : wy.cell? ⟨w.heap.size, 2, none⟩ = some (.int .i64 0) := HS5.out.res.cell 2
            have g0 : wy.frozen? ⟨w.heap.size, 0, none⟩ = false := HS5.out.res.frozen 0
            have g1 : wy.frozen? ⟨w.heap.size, 1, none⟩ = false := HS5.out.res.frozen 1
            have g2 : wy.frozen? ⟨w.heap.size, 2, none⟩ = false := HS5.out.res.frozen 2
            by_cases hz2 : n2 = 0
            · have Hno := hide (show sc = none by rw [HST2.out, Hxp2.out, if_pos hz2]; rfl)
              have hz2' : ((n2 : Int) == 0) = true := by rw [hz2]; rfl
              clear hz2
              have Hrow := hide (show Row (((wy.setCell ⟨w.heap.size, 0, none⟩ (.bool false)).setCell ⟨w.heap.size, 1, none⟩ (.string ⟨#[]⟩)).setCell ⟨w.heap.size, 2, none⟩ (.int .i64 0)) w.heap.size 104 #[.bool false, .string ⟨#[]⟩, .int .i64 0] from ((HS5.out.res.set_ 0 (.bool false)).set_ 1 (.string ⟨#[]⟩)).set_ 2 (.int .i64 0))
              have HBl := hide (((HS5.out.bel.setCell (p := ⟨w.heap.size, 0, none⟩) (Nat.le_refl _) (.bool false)).setCell (p := ⟨w.heap.size, 1, none⟩) (Nat.le_refl _) (.string ⟨#[]⟩)).setCell (p := ⟨w.heap.size, 2, none⟩) (Nat.le_refl _) (.int .i64 0))
              go_wp2
              exact bodyPost_ret (v := .tuple #[.agg #[.bool false, .string ⟨#[]⟩, .int .i64 0], .bool false]) (results_row_tmp rfl _ _ w.heap.size 104 _ _ _ (.bool false) rfl rfl Hrow.out Tryz.underlying104 rfl (by kernel_rfl)) rfl (ReadPost.no Hno.out HBl.out)
            · have hz2' : ((n2 : Int) == 0) = false := beq_eq_false_iff_ne.2 (by omega)
              obtain ⟨Y, hY⟩ : ∃ Y, (l.drop b).take n2 = Y := ⟨_, rfl⟩
              have Hxp3 := hide (show expV (l.drop a2) = some (false, Y, l.drop (b + n2)) by rw [Hxp2.out, if_neg hz2, hY, List.drop_drop])
              have HY := hide hY
              have hYl : Y.length = n2 := by rw [← hY, List.length_take, List.length_drop]; omega
              have HYl := hide hYl
              clear hz2 hY hYl Hxp2
              go_wp2
              go_loopw [8, 9] (fun v8 v9 wl => ∃ i : Nat, v9 = .int .i64 (i : Int) ∧ v8 = .int .i64 ((esat 100000 (Y.take i) : Nat) : Int) ∧ i ≤ n2 ∧ wl = wy) (fun _ v9 _ => n2 - (intOf v9).toNat)
              case atStart => exact ⟨0, rfl, rfl, Nat.zero_le _, rfl⟩
              case round =>
                obtain ⟨i, rfl, rfl, hi, rfl⟩ := hrel
                have hEl := esat_le (Y.take i)
                by_cases hin : i < n2
                · have hin' : (i : Int) < (n2 : Int) := by omega
                  have hbi : b + i < l.length := by omega
                  have hd := Hdig.out i hbi hin
                  have hi2 : b + i < (bsV l).size := by rw [hsz]; exact hbi
                  obtain ⟨c, hc⟩ : ∃ c, (bsV l)[b + i]'hi2 = c := ⟨_, rfl⟩
                  have hcl : l[b + i]'hbi = c := by rw [← hc, bs_get]
                  rw [hcl] at hd
                  have hd2 := of_decide_eq_true (show decide (48 ≤ c.toNat ∧ c.toNat ≤ 57) = true from hd)
                  have hYi : Y.take (i + 1) = Y.take i ++ [c] := by
                    rw [List.take_add_one, ← HY.out, List.getElem?_take, if_pos hin, List.getElem?_drop, List.getElem?_eq_getElem hbi, hcl]; rfl
                  have hes : esat 100000 (Y.take (i + 1)) = min 100000 (10 * esat 100000 (Y.take i) + (c.toNat - 48)) := by rw [hYi, esat_snoc]
                  obtain ⟨E, hE⟩ : ∃ E, esat 100000 (Y.take i) = E := ⟨_, rfl⟩
                  rw [hE] at hes hEl ⊢
                  have Hes := hide hes
                  have k1 : IntKind.i64.wrap (10 * (E : Int)) = 10 * (E : Int) := IntWalk.i64_in _ (by omega)
                  have k2 : IntKind.i64.wrap ((b : Int) + (i : Int)) = (b : Int) + (i : Int) := IntWalk.i64_in _ (by omega)
                  have k3 : IntKind.u8.wrap ((c.toNat : Int) - 48) = (c.toNat : Int) - 48 := by rw [IntKind.wrap_u8]; omega
                  have k4 : IntKind.i64.wrap ((c.toNat : Int) - 48) = (c.toNat : Int) - 48 := IntWalk.i64_in _ (by omega)
                  have k5 : IntKind.i64.wrap (10 * (E : Int) + ((c.toNat : Int) - 48)) = 10 * (E : Int) + ((c.toNat : Int) - 48) := IntWalk.i64_in _ (by omega)
                  have k6 : ((b : Int) + (i : Int)).toNat = b + i := by omega
                  have k7 : (b : Int) + (i : Int) < (l.length : Int) := by omega
                  have k8 : (0 : Int) ≤ (b : Int) + (i : Int) := by omega
                  have HC := hide hd2
                  clear hd hd2 hcl hYi hes hE
                  go_wp2
                  go_roundw
                  case rel =>
                    refine ⟨i + 1, by go_num, ?_, by omega, by trivial⟩
                    have h1 := HC.out
                    congr 1
                    rw [Hes.out]
                    omega
                  case measure => simp [intOf]; omega
                · obtain rfl : i = n2 := by omega
                  have hin' : ¬ (i : Int) < (i : Int) := by omega
                  have hYt : Y.take i = Y := by rw [← HYl.out, List.take_length]
                  rw [hYt] at hEl ⊢
                  obtain ⟨E, hE⟩ : ∃ E, esat 100000 Y = E := ⟨_, rfl⟩
                  rw [hE] at hEl ⊢
                  have k1 : IntKind.i64.wrap (-(E : Int)) = -(E : Int) := IntWalk.i64_in _ (by omega)
                  have k2 : IntKind.i64.wrap ((n0 : Int) - 1 + (E : Int)) = (n0 : Int) - 1 + (E : Int) := IntWalk.i64_in _ (by omega)
                  have k3 : IntKind.i64.wrap ((b : Int) + (i : Int)) = ((b + i : Nat) : Int) := by rw [IntWalk.i64_in _ (by omega)]; omega
                  have HS7 := hide (HS5.out.set2 ((n0 : Int) - 1 + (E : Int)))
                  have HE2 := hide (show sgnV false (esat 100000 Y) = (E : Int) by rw [hE]; rfl)
                  clear hE hYt
                  go_wp2_with fail
                  go_meet
                  exact ⟨b + i, false, Y, rfl, Hxp3.out, hnl2, by rw [HE2.out]; exact HS7.out⟩
  case rest =>
  obtain ⟨a3, xn, Y, rfl, hxp, ha3, hS⟩ := hcut
  have HS6 := hide hS
  have hst : sc = if l.drop a3 = [] then some (ng, D1, X, xn, Y) else none := by rw [HST2.out, hxp]; rfl
  have HST3 := hide hst
  clear hS hxp hst HS5 Hex
  obtain ⟨E, hE⟩ : ∃ E, (n0 : Int) - 1 + sgnV xn (esat 100000 Y) = E := ⟨_, rfl⟩
  rw [hE] at HS6
  have HE := hide hE
  clear hE
  go_upto_region 30 with fail
  have c0 : wc.cell? ⟨w.heap.size + 1, 0, none⟩ = some (.bool ng) := HS6.out.cur.cell 0
  have c1 : wc.cell? ⟨w.heap.size + 1, 1, none⟩ = some (.string (bsV (D1 ++ X))) := HS6.out.cur.cell 1
  have c2 : wc.cell? ⟨w.heap.size + 1, 2, none⟩ = some (.int .i64 E) := HS6.out.cur.cell 2
  have f1 : wc.frozen? ⟨w.heap.size + 1, 1, none⟩ = false := HS6.out.cur.frozen 1
  have f2 : wc.frozen? ⟨w.heap.size + 1, 2, none⟩ = false := HS6.out.cur.frozen 2
  have z0 : wc.cell? ⟨w.heap.size, 0, none⟩ = some (.bool false) := HS6.out.res.cell 0
  have z1 : wc.cell? ⟨w.heap.size, 1, none⟩ = some (.string ⟨#[]⟩) := HS6.out.res.cell 1
  have z2 : wc.cell? ⟨w.heap.size, 2, none⟩ = some (.int .i64 0) := HS6.out.res.cell 2
  have g0 : wc.frozen? ⟨w.heap.size, 0, none⟩ = false := HS6.out.res.frozen 0
  have g1 : wc.frozen? ⟨w.heap.size, 1, none⟩ = false := HS6.out.res.frozen 1
  have g2 : wc.frozen? ⟨w.heap.size, 2, none⟩ = false := HS6.out.res.frozen 2
  by_cases h3 : a3 = l.length
  · have h3' : ((a3 : Int) == (l.length : Int)) = true := by rw [beq_iff_eq]; omega
    have Hsc2 := hide (show sc = some (ng, D1, X, xn, Y) by rw [HST3.out, if_pos (List.drop_eq_nil_of_le (by omega))])
    clear h3
    have Hrow := hide (show Row (((wc.setCell ⟨w.heap.size, 0, none⟩ (.bool ng)).setCell ⟨w.heap.size, 1, none⟩ (.string (bsV (D1 ++ X)))).setCell ⟨w.heap.size, 2, none⟩ (.int .i64 E)) w.heap.size 104 #[.bool ng, .string (bsV (D1 ++ X)), .int .i64 E] from ((HS6.out.res.set_ 0 (.bool ng)).set_ 1 (.string (bsV (D1 ++ X)))).set_ 2 (.int .i64 E))
    have HBl := hide (((HS6.out.bel.setCell (p := ⟨w.heap.size, 0, none⟩) (Nat.le_refl _) (.bool ng)).setCell (p := ⟨w.heap.size, 1, none⟩) (Nat.le_refl _) (.string (bsV (D1 ++ X)))).setCell (p := ⟨w.heap.size, 2, none⟩) (Nat.le_refl _) (.int .i64 E))
    go_wp2
    exact bodyPost_ret (v := .tuple #[.agg #[.bool ng, .string (bsV (D1 ++ X)), .int .i64 E], .bool true]) (results_row_tmp rfl _ _ w.heap.size 104 _ _ _ (.bool true) rfl rfl Hrow.out Tryz.underlying104 rfl (by kernel_rfl)) rfl (⟨ng, _, E, true, rfl, (fun p hp => by rw [Hsc2.out] at hp; cases hp; exact ⟨rfl, rfl, rfl, by rw [HD1.out]; exact HE.out.symm⟩), (fun hn => by rw [Hsc2.out] at hn; cases hn), HBl.out⟩)
  · have h3' : ((a3 : Int) == (l.length : Int)) = false := beq_eq_false_iff_ne.2 (by omega)
    have Hno := hide (show sc = none by
      rw [HST3.out, if_neg]
      intro h
      have := congrArg List.length h
      rw [List.length_drop] at this
      simp at this; omega)
    clear h3
    have Hrow := hide (show Row (((wc.setCell ⟨w.heap.size, 0, none⟩ (.bool ng)).setCell ⟨w.heap.size, 1, none⟩ (.string (bsV (D1 ++ X)))).setCell ⟨w.heap.size, 2, none⟩ (.int .i64 E)) w.heap.size 104 #[.bool ng, .string (bsV (D1 ++ X)), .int .i64 E] from ((HS6.out.res.set_ 0 (.bool ng)).set_ 1 (.string (bsV (D1 ++ X)))).set_ 2 (.int .i64 E))
    have HBl := hide (((HS6.out.bel.setCell (p := ⟨w.heap.size, 0, none⟩) (Nat.le_refl _) (.bool ng)).setCell (p := ⟨w.heap.size, 1, none⟩) (Nat.le_refl _) (.string (bsV (D1 ++ X)))).setCell (p := ⟨w.heap.size, 2, none⟩) (Nat.le_refl _) (.int .i64 E))
    go_wp2
    exact bodyPost_ret (v := .tuple #[.agg #[.bool ng, .string (bsV (D1 ++ X)), .int .i64 E], .bool false]) (results_row_tmp rfl _ _ w.heap.size 104 _ _ _ (.bool false) rfl rfl Hrow.out Tryz.underlying104 rfl (by kernel_rfl)) rfl (ReadPost.no Hno.out HBl.out)
end Go.Proofs.YtjlpekjfmgcbdaaGreatDoor

/- Contracts of the reference's Parse and Valid of decimals, and of package 17's reference. -/
set_option linter.unusedVariables false
set_option linter.unusedSimpArgs false
namespace Go.Proofs.YtjlpekjfmgcbdaaGreatDoor
open Go.RowKit Go.Shelf Go.Sort

theorem scan_ex {l : List UInt8} {p : Bool × List UInt8 × List UInt8 × Bool × List UInt8} (h : scanV l = some p) : (p.2.1 ++ p.2.2.1).length ≤ 128 ∧ -1000000000 ≤ (p.2.1.length : Int) - 1 + sgnV p.2.2.2.1 (esat 100000 p.2.2.2.2) ∧ (p.2.1.length : Int) - 1 + sgnV p.2.2.2.1 (esat 100000 p.2.2.2.2) ≤ 1000000000 := by
  have h1 := scanV_len h
  have h2 := esat_le p.2.2.2.2
  rw [List.length_append]
  refine ⟨by omega, ?_, ?_⟩
  all_goals
    unfold sgnV
    split <;> omega

set_option maxRecDepth 20000 in
set_option maxHeartbeats 8000000 in
theorem refParse3_any (l : List UInt8) (w : World) (hz : l.length ≤ 1000000) :
    Calls Tryz.prog 89 #[.string (bsV l)] w fun e w' => e = .returned (.tuple #[.string (parseV 100000 l).1, .int .i64 (parseV 100000 l).2]) ∧ Below w.heap.size w w' := by
  have R := hide (refRead_any l w hz)
  have TX := hide (fun (neg : Bool) (d : List UInt8) (e : Int) (W : World) (h : d.length ≤ 1000000) (h0 : -1000000000 ≤ e) (h1 : e ≤ 1000000000) => refText_any neg d e W h h0 h1)
  cases hs : scanV l with
  | none =>
    have hp : parseV 100000 l = (⟨#[]⟩, 3) := by unfold parseV; rw [hs]
    rw [hp]
    rw [hs] at R
    clear hp hs
    go_enter Tryz.func89, Tryz.ntmps89
    go_wp2_with fail
    refine R.out.mono ?_
    rintro e w1 ⟨ng, dg, ex, ok, rfl, _, hno, hb⟩
    obtain rfl := hno rfl
    have Hb := hide (fun o => hb.alloc hb.size o)
    clear hb hno
    go_wp2
    go_ret2
    exact ⟨rfl, Hb.out _⟩
  | some p =>
    have hp : parseV 100000 l = textV p.1 (stripV (p.2.1 ++ p.2.2.1)) ((p.2.1.length : Int) - 1 + sgnV p.2.2.2.1 (esat 100000 p.2.2.2.2) - leadV (p.2.1 ++ p.2.2.1)) := by
      unfold parseV; rw [hs]
      show resV 100000 p = _
      unfold resV
      congr 1
      omega
    obtain ⟨b1, b2, b3⟩ := scan_ex hs
    have T := hide (fun W : World => TX.out p.1 (p.2.1 ++ p.2.2.1) ((p.2.1.length : Int) - 1 + sgnV p.2.2.2.1 (esat 100000 p.2.2.2.2)) W (by omega) b2 b3)
    rw [← hp] at T
    rw [hs] at R
    obtain ⟨⟨r1, r2⟩, hr⟩ : ∃ r, parseV 100000 l = r := ⟨_, rfl⟩
    rw [hr] at T ⊢
    clear hp hs b1 b2 b3 TX hr
    go_enter Tryz.func89, Tryz.ntmps89
    go_wp2_with fail
    refine R.out.mono ?_
    rintro e w1 ⟨ng, dg, ex, ok, rfl, hyes, _, hb⟩
    obtain ⟨rfl, rfl, rfl, rfl⟩ := hyes p rfl
    have Hb := hide (fun o => hb.alloc hb.size o)
    clear hb hyes
    generalize (p.2.1.length : Int) - 1 + sgnV p.2.2.2.1 (esat 100000 p.2.2.2.2) = ex at *
    generalize bsV (p.2.1 ++ p.2.2.1) = dg at *
    go_wp2_with fail
    refine (T.out _).mono ?_
    rintro e w2 ⟨rfl, hb⟩
    have Hb2 := hide ((Hb.out _).trans (hb.mono (Hb.out _).size))
    clear hb
    go_wp2
    go_ret2
    exact ⟨rfl, Hb2.out⟩
theorem inK_iff (n wd : Int) : inK n wd = decide ((n = 0 ∧ 1 ≤ wd ∧ wd ≤ 128) ∨ (0 < n ∧ n ≤ 3 ∧ wd = 0)) := by
  unfold inK okW
  by_cases h : 0 ≤ n ∧ n < 4
  · rw [decide_eq_true h, Bool.true_and]
    by_cases h0 : n = 0
    · subst h0
      rw [if_pos (show (0 : Int).toNat = 0 from rfl), decide_eq_decide]; omega
    · rw [if_neg (by omega), decide_eq_decide]; omega
  · rw [decide_eq_false h, Bool.false_and]; symm; apply decide_eq_false; omega
theorem ev_is (l : List UInt8) : valV 1 (l.map lowC) = decide (l.length = 1 ∧ l.all dgB = true) := by
  unfold valV isV
  rw [List.length_map, all_low]
  by_cases h : l.length = 1 ∧ l.all dgB = true
  · rw [decide_eq_true h, h.1, h.2]; rfl
  · rw [decide_eq_false h]
    by_cases h1 : l.length = 1
    · have : l.all dgB = false := by
        cases hq : l.all dgB with
        | false => rfl
        | true => exact absurd ⟨h1, hq⟩ h
      rw [this, Bool.and_false, Bool.false_and]
    · rw [decide_eq_false (show ¬ ((l.length : Int) = 1) by omega), Bool.and_false]
theorem emp_is (l : List UInt8) : decide (l = []) = (bsV l).toList.isEmpty := by
  cases l with
  | nil => exact (show true = (⟨#[]⟩ : ByteArray).toList.isEmpty by decide +kernel)
  | cons c t => rw [(toList_ne (s := bsV (c :: t)) (by rw [bs_size]; simp)).2]; rfl
end Go.Proofs.YtjlpekjfmgcbdaaGreatDoor
