/- Contract of pattern's match. -/
import Derived.Test.YtcjehiecgdmidaaPtO
import Derived.Test.YtcjehiecgdmidaaPtD
import Derived.Deep.RegionHeld3
import Derived.Deep.QuietTactic
set_option linter.unusedVariables false
set_option linter.unusedSimpArgs false
namespace Go.Proofs.Ytcjehiecgdmidaa
open Go.RowKit Go.Shelf

def bl (L : List ByteArray) : List (List UInt8) := L.map fun s => s.data.toList
theorem bl_len (L : List ByteArray) : (bl L).length = L.length := List.length_map _
theorem bl_get (L : List ByteArray) (i : Nat) (h : i < L.length) : (bl L)[i]'(by rw [bl_len]; exact h) = L[i].data.toList := List.getElem_map _
set_option maxRecDepth 100000 in
set_option maxHeartbeats 16000000 in
theorem match_any (A : Option Addr) (cap capp : Nat) (Ap : Option Addr) (ps : List Pt) (xs : List Value) (L : List ByteArray) (w : World) (hsl : Sl id w A xs) (hP : PartsIs w none ps xs) (hAp : Sl Value.string w Ap L)
    (hps : ps.length ≤ 1000) (hL : L.length ≤ 1000000) (hz : ∀ s ∈ L, s.size ≤ 1000000) :
    Calls Try.prog 20 #[.slice A ps.length cap, .slice Ap L.length capp] w fun e w' => e = .returned (.bool (mP ps (bl L))) ∧ Below w.heap.size w w' := by
  have hmk := run_make_bools L.length (by omega)
  have hw1 : IntKind.i64.wrap ((L.length : Int) + 1) = (L.length : Int) + 1 := IntWalk.i64_in _ (by omega)
  obtain ⟨F, hF⟩ : ∃ F, List.replicate (L.length + 1) (Value.bool false) = F := ⟨_, rfl⟩
  rw [hF] at hmk
  have HF := hide hF
  clear hF
  have HSl := hide hsl
  have HP := hide hP
  have HAp := hide hAp
  have HLn := hide (show (bl L).length = L.length from bl_len L)
  have HZ := hide hz
  clear hsl hP hAp hz
  go_enter Try.func20, Try.ntmps20
  go_upto_region 2 with fail
  obtain ⟨W2, hW2⟩ : ∃ W2, w.alloc (.cells F.toArray 4) = W2 := ⟨_, rfl⟩
  have r0 : Row W2 w.heap.size 4 F.toArray := by rw [← hW2]; exact Row.new _ _ _
  have hB : Below w.heap.size w W2 := by rw [← hW2]; exact (Below.refl _ _).alloc (Nat.le_refl _) _
  have hc0 : W2.cell? ⟨w.heap.size, 0, none⟩ = some (.bool false) := by rw [r0.cell, ← HF.out]; simp
  have hf0 : W2.frozen? ⟨w.heap.size, 0, none⟩ = false := r0.frozen 0
  have HR1 := hide (show Row (W2.setCell ⟨w.heap.size, 0, none⟩ (.bool true)) w.heap.size 4 (boolsL (bl L) []).toArray by
    have := r0.set_ 0 (.bool true)
    rwa [show F.toArray.setIfInBounds 0 (.bool true) = (boolsL (bl L) []).toArray by rw [← bools_start, HLn.out, HF.out, List.setIfInBounds_toArray]] at this)
  have HB1 := hide (hB.setCell (p := ⟨w.heap.size, 0, none⟩) (Nat.le_refl _) (.bool true))
  have hlpos : (0 : Int) < (L.length : Int) + 1 := by omega
  rw [hW2]
  clear hW2 r0 hB
  go_upto_region 4 with fail
  clear hc0 hf0
  go_loopw [5, 20] (fun v5 v20 wr => ∃ (i g : Nat), v20 = .int .i64 (i : Int) ∧ i ≤ ps.length ∧ v5 = .slice (some ⟨g, 0, none⟩) (L.length + 1) (L.length + 1) ∧ Row wr g 4 (boolsL (bl L) (ps.take i)).toArray ∧ w.heap.size ≤ g ∧ Below w.heap.size w wr) (fun _ v _ => ps.length - (intOf v).toNat)
  case atStart => exact ⟨0, w.heap.size, rfl, Nat.zero_le _, rfl, HR1.out, Nat.le_refl _, HB1.out⟩
  case round =>
    obtain ⟨i, g, rfl, hi, rfl, hrow, hg, hb⟩ := hrel
    have Hrow := hide hrow
    have Hb := hide hb
    clear hrow hb
    by_cases hlt : i < ps.length
    · obtain ⟨v, hv, hpi⟩ := HP.out.2 i hlt
      have hxi : i < xs.length := by rw [HP.out.1]; exact hlt
      have hv2 : xs[i]'hxi = v := by rw [List.getElem?_eq_getElem hxi] at hv; exact Option.some.inj hv
      obtain ⟨b, off, rfl, hbl, hcell⟩ := HSl.out.at hxi
      have hc := hcell wr (Hb.out.mono (Nat.le_refl _))
      rw [hv2] at hc
      have hc' : wr.cell? ⟨b, off + i, none⟩ = some v := hc
      have htk : ps.take (i + 1) = ps.take i ++ [ps[i]] := by rw [List.take_add_one, List.getElem?_eq_getElem hlt]; rfl
      have hi' : (i : Int) < (ps.length : Int) := by omega
      have hwi : IntKind.i64.wrap ((i : Int) + 1) = (i : Int) + 1 := IntWalk.i64_in _ (by omega)
      have HTk := hide htk
      have Hpi := hide hpi
      clear hv hv2 hcell hpi hc htk hxi
      obtain ⟨x, hx⟩ : ∃ x, ps[i] = x := ⟨_, rfl⟩
      rw [hx] at HTk Hpi
      clear hx
      cases x with
      | any =>
        have hv3 := Hpi.out
        have hv4 : v = .iface 51 (.agg #[]) := hv3
        subst hv4
        clear hv3
        have hta := assert_any
        have hzp := zero_anyP
        go_upto_region 9 with fail
        obtain ⟨W3, hW3⟩ : ∃ W3, (wr.alloc (.cells F.toArray 4)).alloc (.cells #[] 51) = W3 := ⟨_, rfl⟩
        have HW3 := hide (show Row W3 wr.heap.size 4 F.toArray ∧ Row W3 g 4 (boolsL (bl L) (ps.take i)).toArray ∧ Below w.heap.size w W3 ∧ w.heap.size ≤ wr.heap.size from by
          rw [← hW3]; exact ⟨(Row.new _ _ _).alloc _, (Hrow.out.alloc _).alloc _, (Hb.out.alloc Hb.out.size _).alloc (by rw [World.size_alloc]; have := Hb.out.size; omega) _, Hb.out.size⟩)
        have Hgl := hide Hrow.out.lt
        obtain ⟨g2, hg2⟩ : ∃ g2, wr.heap.size = g2 := ⟨_, rfl⟩
        rw [hg2] at HW3 Hgl
        rw [hW3, hg2]
        clear hW3 hg2 hc' hta hzp hmk
        go_loopw [35] (fun v wq => ∃ k : Nat, v = .int .i64 (k : Int) ∧ k ≤ L.length + 1 ∧ Row wq g2 4 (partL (bl L) (ps.take (i + 1)) k).toArray ∧ Row wq g 4 (boolsL (bl L) (ps.take i)).toArray ∧ Below w.heap.size w wq) (fun v _ => L.length + 1 - (intOf v).toNat)
        case atStart => exact ⟨0, rfl, Nat.zero_le _, by rw [partL_0, HLn.out, HF.out]; exact HW3.out.1, HW3.out.2.1, HW3.out.2.2.1⟩
        case round =>
          obtain ⟨k, rfl, hk, hq2, hqg, hqb⟩ := hrel
          have Q2 := hide hq2
          have Qg := hide hqg
          have Qb := hide hqb
          clear hq2 hqg hqb
          by_cases hkl : k < L.length + 1
          · have hk' : (k : Int) < (L.length : Int) + 1 := by omega
            have hk0 : (0 : Int) ≤ (k : Int) := by omega
            have hwk : IntKind.i64.wrap ((k : Int) + 1) = (k : Int) + 1 := IntWalk.i64_in _ (by omega)
            have f0 : wr.frozen? ⟨g2, k, none⟩ = false := Q2.out.frozen _
            have hkP : k ≤ (bl L).length := by rw [HLn.out]; omega
            obtain ⟨v0, c0⟩ : ∃ v0, wr.cell? ⟨g2, k, none⟩ = some v0 := ⟨_, by rw [Q2.out.cell, List.getElem?_toArray]; exact partL_get _ _ _ _ hkP⟩
            have HkP := hide hkP
            have hne : g ≠ g2 := by have := Hgl.out; omega
            have Hne := hide hne
            clear hkP hne
            have HRow := hide (fun (u : Bool) (hu : mP (ps.take (i + 1)) ((bl L).take k) = u) => row_part Q2.out HkP.out u hu)
            have hdp := dp_any (ps.take i) .any rfl (bl L) k HkP.out
            rw [← HTk.out] at hdp
            have ca : wr.cell? ⟨g, k, none⟩ = some (.bool (mP (ps.take i) ((bl L).take k))) := by rw [Qg.out.cell, List.getElem?_toArray]; exact boolsL_get _ _ _ HkP.out
            cases ha : mP (ps.take i) ((bl L).take k) with
            | true =>
              rw [ha] at ca hdp
              have HVal := hide (show mP (ps.take (i + 1)) ((bl L).take k) = true by rw [hdp]; rfl)
              clear hdp ha
              go_wp2
              go_roundw
              case rel => exact ⟨k + 1, by go_num, by omega, HRow.out _ HVal.out, Qg.out.off Hne.out _ _, Qb.out.setCell (p := ⟨g2, k, none⟩) (by have := HW3.out.2.2.2; omega) _⟩
              case measure => simp [intOf]; omega
            | false =>
              rw [ha] at ca hdp
              by_cases hkz : k = 0
              · have hkz' : ¬ (0 : Int) < (k : Int) := by omega
                have HVal := hide (show mP (ps.take (i + 1)) ((bl L).take k) = false by rw [hdp, hkz]; rfl)
                clear hdp ha hkz
                go_wp2
                go_roundw
                case rel => exact ⟨k + 1, by go_num, by omega, HRow.out _ HVal.out, Qg.out.off Hne.out _ _, Qb.out.setCell (p := ⟨g2, k, none⟩) (by have := HW3.out.2.2.2; omega) _⟩
                case measure => simp [intOf]; omega
              · have hkz' : (0 : Int) < (k : Int) := by omega
                obtain ⟨k', hkk⟩ : ∃ k', k = k' + 1 := ⟨k - 1, by omega⟩
                have hsub : IntKind.i64.wrap ((k : Int) - 1) = (k' : Int) := by rw [IntWalk.i64_in _ (by omega)]; omega
                have hk1 : (k' : Int) < (L.length : Int) + 1 := by omega
                have cb : wr.cell? ⟨g2, k', none⟩ = some (.bool (mP (ps.take (i + 1)) ((bl L).take (k - 1)))) := by
                  rw [Q2.out.cell, List.getElem?_toArray, partL_get _ _ _ _ (by have := HkP.out; omega), decide_eq_true (by omega), Bool.true_and, show k - 1 = k' by omega]
                have HVal := hide (show mP (ps.take (i + 1)) ((bl L).take k) = mP (ps.take (i + 1)) ((bl L).take (k - 1)) by rw [hdp, Bool.false_or, decide_eq_true (by omega), Bool.true_and])
                generalize mP (ps.take (i + 1)) ((bl L).take (k - 1)) = vb at *
                clear hdp ha hkz hkk
                go_wp2
                go_roundw
                case rel => exact ⟨k + 1, by go_num, by omega, HRow.out _ HVal.out, Qg.out.off Hne.out _ _, Qb.out.setCell (p := ⟨g2, k, none⟩) (by have := HW3.out.2.2.2; omega) _⟩
                case measure => simp [intOf]; omega
          · obtain rfl : k = L.length + 1 := by omega
            have hnk : ¬ ((L.length + 1 : Nat) : Int) < (L.length : Int) + 1 := by omega
            have Hrow2 := hide (show Row wr g2 4 (boolsL (bl L) (ps.take (i + 1))).toArray by have := Q2.out; rw [← HLn.out, partL_all] at this; exact this)
            clear hkl hk
            go_wp2
            go_roundw
            case rel => exact ⟨i + 1, g2, by go_num, by omega, rfl, Hrow2.out, by have := HW3.out.2.2.2; omega, Qb.out⟩
            case measure => simp [intOf]; omega
      | lit nm =>
        obtain ⟨hv3, _⟩ := Hpi.out
        subst hv3
        have hta := (assert_lit (.string (bsP nm)))
        have hzp := zero_anyP
        go_upto_region 9 with fail
        obtain ⟨W3, hW3⟩ : ∃ W3, (wr.alloc (.cells F.toArray 4)).alloc (.cells #[] 51) = W3 := ⟨_, rfl⟩
        have HW3 := hide (show Row W3 wr.heap.size 4 F.toArray ∧ Row W3 g 4 (boolsL (bl L) (ps.take i)).toArray ∧ Below w.heap.size w W3 ∧ w.heap.size ≤ wr.heap.size from by
          rw [← hW3]; exact ⟨(Row.new _ _ _).alloc _, (Hrow.out.alloc _).alloc _, (Hb.out.alloc Hb.out.size _).alloc (by rw [World.size_alloc]; have := Hb.out.size; omega) _, Hb.out.size⟩)
        have Hgl := hide Hrow.out.lt
        obtain ⟨g2, hg2⟩ : ∃ g2, wr.heap.size = g2 := ⟨_, rfl⟩
        rw [hg2] at HW3 Hgl
        rw [hW3, hg2]
        clear hW3 hg2 hc' hta hzp hmk
        go_loopw [35] (fun v wq => ∃ k : Nat, v = .int .i64 (k : Int) ∧ k ≤ L.length + 1 ∧ Row wq g2 4 (partL (bl L) (ps.take (i + 1)) k).toArray ∧ Row wq g 4 (boolsL (bl L) (ps.take i)).toArray ∧ Below w.heap.size w wq) (fun v _ => L.length + 1 - (intOf v).toNat)
        case atStart => exact ⟨0, rfl, Nat.zero_le _, by rw [partL_0, HLn.out, HF.out]; exact HW3.out.1, HW3.out.2.1, HW3.out.2.2.1⟩
        case round =>
          obtain ⟨k, rfl, hk, hq2, hqg, hqb⟩ := hrel
          have Q2 := hide hq2
          have Qg := hide hqg
          have Qb := hide hqb
          clear hq2 hqg hqb
          by_cases hkl : k < L.length + 1
          · have hk' : (k : Int) < (L.length : Int) + 1 := by omega
            have hk0 : (0 : Int) ≤ (k : Int) := by omega
            have hwk : IntKind.i64.wrap ((k : Int) + 1) = (k : Int) + 1 := IntWalk.i64_in _ (by omega)
            have f0 : wr.frozen? ⟨g2, k, none⟩ = false := Q2.out.frozen _
            have hkP : k ≤ (bl L).length := by rw [HLn.out]; omega
            obtain ⟨v0, c0⟩ : ∃ v0, wr.cell? ⟨g2, k, none⟩ = some v0 := ⟨_, by rw [Q2.out.cell, List.getElem?_toArray]; exact partL_get _ _ _ _ hkP⟩
            have HkP := hide hkP
            have hne : g ≠ g2 := by have := Hgl.out; omega
            have Hne := hide hne
            clear hkP hne
            have HRow := hide (fun (u : Bool) (hu : mP (ps.take (i + 1)) ((bl L).take k) = u) => row_part Q2.out HkP.out u hu)
            by_cases hkz : k = 0
            · have hkz' : ¬ (0 : Int) < (k : Int) := by omega
              have hf : mP (ps.take (i + 1)) ((bl L).take k) = false := by rw [HTk.out, hkz]; exact dp_zero _ _ rfl _
              have HQ := hide (show Row wr g2 4 (partL (bl L) (ps.take (i + 1)) (k + 1)).toArray by rw [← partL_keep _ _ _ hf]; exact Q2.out)
              clear hf hkz
              go_wp2
              go_roundw
              case rel => exact ⟨k + 1, by go_num, by omega, HQ.out, Qg.out, Qb.out⟩
              case measure => simp [intOf]; omega
            · have hkz' : (0 : Int) < (k : Int) := by omega
              obtain ⟨k', hkk⟩ : ∃ k', k = k' + 1 := ⟨k - 1, by omega⟩
              have hsub : IntKind.i64.wrap ((k : Int) - 1) = (k' : Int) := by rw [IntWalk.i64_in _ (by omega)]; omega
              have hk1 : (k' : Int) < (L.length : Int) + 1 := by omega
              have hkL : k' < L.length := by omega
              have hkL' : (k' : Int) < (L.length : Int) := by omega
              have hk10 : (0 : Int) ≤ (k' : Int) := by omega
              have ca : wr.cell? ⟨g, k', none⟩ = some (.bool (mP (ps.take i) ((bl L).take k'))) := by rw [Qg.out.cell, List.getElem?_toArray]; exact boolsL_get _ _ _ (by have := HkP.out; omega)
              have hdp := dp_one (ps.take i) (Pt.lit nm) rfl (bl L) k' (by rw [HLn.out]; exact hkL)
              rw [← HTk.out, ← hkk, bl_get L k' hkL] at hdp
              cases ha : mP (ps.take i) ((bl L).take k') with
              | false =>
                rw [ha] at ca hdp
                have HQ := hide (show Row wr g2 4 (partL (bl L) (ps.take (i + 1)) (k + 1)).toArray by rw [← partL_keep _ _ _ hdp]; exact Q2.out)
                clear hdp ha hkz hkk
                go_wp2
                go_roundw
                case rel => exact ⟨k + 1, by go_num, by omega, HQ.out, Qg.out, Qb.out⟩
                case measure => simp [intOf]; omega
              | true =>
                rw [ha, Bool.true_and] at hdp
                rw [ha] at ca
                obtain ⟨bp, op, hApe, hbp, hcp⟩ := HAp.out.at hkL
                have hcp' := hcp wr (Qb.out.mono (Nat.le_refl _))
                obtain ⟨s, hs⟩ : ∃ s, L[k'] = s := ⟨_, rfl⟩
                have hsz : s.size ≤ 1000000 := by rw [← hs]; exact HZ.out _ (List.getElem_mem hkL)
                rw [hs] at hcp' hdp
                subst hApe
                have hM : ∀ W : World, Below w.heap.size w W → Calls Try.prog 68 #[(.string (bsP nm)), .string s] W fun e w' => e = .returned (.bool ((Pt.lit nm).ok s.data.toList)) ∧ Below W.heap.size W w' := fun W _ => (literalMatches_any (bsP nm) s W).mono (by rintro e w9 ⟨rfl, rfl⟩; exact ⟨rfl, Below.refl _ _⟩)
                have HA := hide (show ∀ w : World, (nilAhead 196 52 (.string (bsP nm)) "wavestore/pattern.matches").run Try.prog w = .ok (some false) w from fun w => ahead_of (f := 68) (by kernel_rfl) Try.underlying52 (by intro x h; cases h) 195 (.string (bsP nm)) w)
                have hmeth : ∀ w : World, (method 196 52 (.string (bsP nm)) "wavestore/pattern.matches").run Try.prog w = .ok (68, (.string (bsP nm))) w := fun w => method_of (f := 68) (by kernel_rfl) Try.underlying52 (by intro x h; cases h) 195 (.string (bsP nm)) w
                have HVal := hide hdp
                have HM := hide hM
                generalize (Pt.lit nm).ok s.data.toList = res at *
                have Hc0 := hide c0
                have HCP := hide (show ∀ W', Below w.heap.size w W' → W'.cell? ⟨bp, op + k', none⟩ = some (.string s) from fun W' hW' => by rw [hcp W' hW', hs])
                clear hdp ha hkz hkk hs hcp hM
                go_upto_region 14 with fail
                have hcs : wr.cell? ⟨bp, op + k', none⟩ = some (.string s) := hcp'
                refine wp_region_held_drew (S := fun w' => w'.cell? ⟨bp, op + k', none⟩ = some (.string s) ∧ (∃ v, w'.cell? ⟨g2, k, none⟩ = some v) ∧ w'.frozen? ⟨g2, k, none⟩ = false) (by kernel_rfl) ⟨hcs, ⟨v0, c0⟩, f0⟩ (fun hHeld => ?_)
                refine wpAnyH_take (i := 0) (oi := ?oi0L) (v := ?v0L) ?h00L ?h10L ?h20L ?h30L ?h40L (Or.inl ⟨?hw0L, ?hy0L⟩) (by assumption) ?rest0L
                case h00L => (simp only [List.getElem?_toArray, List.getElem?_cons_zero, List.getElem?_cons_succ]; rfl)
                case h10L => kernel_rfl
                case h20L => kernel_rfl
                case h30L => kernel_rfl
                case h40L => exact fun _ _ _ h => h
                case hw0L => rfl
                case hy0L => ((intro w hSw; go_simp); (try (with_reducible rfl)))
                try simp only [Act.put, List.setIfInBounds_toArray, List.set_cons_zero, List.set_cons_succ]
                refine wpAnyH_take (i := 1) (oi := ?oi1L) (v := ?v1L) ?h01L ?h11L ?h21L ?h31L ?h41L (Or.inl ⟨?hw1L, ?hy1L⟩) (by assumption) ?rest1L
                case h01L => (simp only [List.getElem?_toArray, List.getElem?_cons_zero, List.getElem?_cons_succ]; rfl)
                case h11L => kernel_rfl
                case h21L => kernel_rfl
                case h31L => kernel_rfl
                case h41L => exact fun _ _ _ h => h
                case hw1L => rfl
                case hy1L => ((intro w hSw; go_simp); (try (with_reducible rfl)))
                try simp only [Act.put, List.setIfInBounds_toArray, List.set_cons_zero, List.set_cons_succ]
                refine wpAnyH_take (i := 2) (oi := ?oi2L) (v := ?v2L) ?h02L ?h12L ?h22L ?h32L ?h42L (Or.inl ⟨?hw2L, ?hy2L⟩) (by assumption) ?rest2L
                case h02L => (simp only [List.getElem?_toArray, List.getElem?_cons_zero, List.getElem?_cons_succ]; rfl)
                case h12L => kernel_rfl
                case h22L => kernel_rfl
                case h32L => kernel_rfl
                case h42L => exact fun _ _ _ h => h
                case hw2L => rfl
                case hy2L => ((intro w hSw; go_simp); (try (with_reducible rfl)))
                try simp only [Act.put, List.setIfInBounds_toArray, List.set_cons_zero, List.set_cons_succ]
                refine wpAnyH_take (i := 3) (oi := ?oi3L) (v := ?v3L) ?h03L ?h13L ?h23L ?h33L ?h43L (Or.inl ⟨?hw3L, ?hy3L⟩) (by assumption) ?rest3L
                case h03L => (simp only [List.getElem?_toArray, List.getElem?_cons_zero, List.getElem?_cons_succ]; rfl)
                case h13L => kernel_rfl
                case h23L => kernel_rfl
                case h33L => kernel_rfl
                case h43L => exact fun _ _ _ h => h
                case hw3L => rfl
                case hy3L => ((intro w hSw; go_simp); (try (with_reducible rfl)))
                try simp only [Act.put, List.setIfInBounds_toArray, List.set_cons_zero, List.set_cons_succ]
                refine wpAnyH_take (i := 4) (oi := ?oi4L) (v := ?v4L) ?h04L ?h14L ?h24L ?h34L ?h44L (Or.inl ⟨?hw4L, ?hy4L⟩) (by assumption) ?rest4L
                case h04L => (simp only [List.getElem?_toArray, List.getElem?_cons_zero, List.getElem?_cons_succ]; rfl)
                case h14L => kernel_rfl
                case h24L => kernel_rfl
                case h34L => kernel_rfl
                case h44L => exact fun _ _ _ h => h
                case hw4L => rfl
                case hy4L => ((intro w hSw; go_simp); (try (with_reducible rfl)))
                try simp only [Act.put, List.setIfInBounds_toArray, List.set_cons_zero, List.set_cons_succ]
                refine wpAnyH_take (i := 5) (oi := ?oi5L) (v := ?v5L) ?h05L ?h15L ?h25L ?h35L ?h45L (Or.inl ⟨?hw5L, ?hy5L⟩) (by assumption) ?rest5L
                case h05L => (simp only [List.getElem?_toArray, List.getElem?_cons_zero, List.getElem?_cons_succ]; rfl)
                case h15L => kernel_rfl
                case h25L => kernel_rfl
                case h35L => kernel_rfl
                case h45L => exact fun _ _ _ h => h
                case hw5L => rfl
                case hy5L => ((intro w hSw; go_simp); (try (with_reducible rfl)))
                try simp only [Act.put, List.setIfInBounds_toArray, List.set_cons_zero, List.set_cons_succ]
                refine wpAnyH_take (i := 6) (oi := ?oi6L) (v := ?v6L) ?h06L ?h16L ?h26L ?h36L ?h46L (Or.inl ⟨?hw6L, ?hy6L⟩) (by assumption) ?rest6L
                case h06L => (simp only [List.getElem?_toArray, List.getElem?_cons_zero, List.getElem?_cons_succ]; rfl)
                case h16L => kernel_rfl
                case h26L => kernel_rfl
                case h36L => kernel_rfl
                case h46L => exact fun _ _ _ h => h
                case hw6L => rfl
                case hy6L => ((intro w hSw; go_simp); (try (with_reducible rfl)))
                try simp only [Act.put, List.setIfInBounds_toArray, List.set_cons_zero, List.set_cons_succ]
                refine wpAnyH_take (i := 7) (oi := ?oi7L) (v := ?v7L) ?h07L ?h17L ?h27L ?h37L ?h47L (Or.inl ⟨?hw7L, ?hy7L⟩) (by assumption) ?rest7L
                case h07L => (simp only [List.getElem?_toArray, List.getElem?_cons_zero, List.getElem?_cons_succ]; rfl)
                case h17L => kernel_rfl
                case h27L => kernel_rfl
                case h37L => kernel_rfl
                case h47L => exact fun _ _ _ h => h
                case hw7L => rfl
                case hy7L => ((intro w hSw; have h7 := hSw.1; go_simp); (try (with_reducible rfl)))
                try simp only [Act.put, List.setIfInBounds_toArray, List.set_cons_zero, List.set_cons_succ]
                refine wpAnyH_take (i := 8) (oi := ?oi8L) (v := ?v8L) ?h08L ?h18L ?h28L ?h38L ?h48L (Or.inl ⟨?hw8L, ?hy8L⟩) (by assumption) ?rest8L
                case h08L => (simp only [List.getElem?_toArray, List.getElem?_cons_zero, List.getElem?_cons_succ]; rfl)
                case h18L => kernel_rfl
                case h28L => kernel_rfl
                case h38L => kernel_rfl
                case h48L => exact fun _ _ _ h => h
                case hw8L => rfl
                case hy8L => ((intro w hSw; go_simp); (try (with_reducible rfl)))
                try simp only [Act.put, List.setIfInBounds_toArray, List.set_cons_zero, List.set_cons_succ]
                refine wpAnyH_take (i := 9) (oi := ?oi9L) (v := ?v9L) ?h09L ?h19L ?h29L ?h39L ?h49L (Or.inl ⟨?hw9L, ?hy9L⟩) (by assumption) ?rest9L
                case h09L => (simp only [List.getElem?_toArray, List.getElem?_cons_zero, List.getElem?_cons_succ]; rfl)
                case h19L => kernel_rfl
                case h29L => kernel_rfl
                case h39L => kernel_rfl
                case h49L => exact fun _ _ _ h => h
                case hw9L => rfl
                case hy9L => ((intro w hSw; have h9 := HA.out w; go_simp); (try (with_reducible rfl)))
                try simp only [Act.put, List.setIfInBounds_toArray, List.set_cons_zero, List.set_cons_succ]
                refine wpAnyH_take (i := 10) (oi := ?oi10L) (v := ?v10L) ?h010L ?h110L ?h210L ?h310L ?h410L (Or.inl ⟨?hw10L, ?hy10L⟩) (by assumption) ?rest10L
                case h010L => (simp only [List.getElem?_toArray, List.getElem?_cons_zero, List.getElem?_cons_succ]; rfl)
                case h110L => kernel_rfl
                case h210L => kernel_rfl
                case h310L => kernel_rfl
                case h410L => exact fun _ _ _ h => h
                case hw10L => rfl
                case hy10L => ((intro w hSw; go_simp); (try (with_reducible rfl)))
                try simp only [Act.put, List.setIfInBounds_toArray, List.set_cons_zero, List.set_cons_succ]
                refine wpAnyH_ready (rs := [11]) (by kernel_rfl) (by simp) ?_
                refine AllReadyH.cons (o := ?oi11L) ?h011L (fun K hK => ?_) AllReadyH.nil
                case h011L => (simp only [List.getElem?_toArray, List.getElem?_cons_zero, List.getElem?_cons_succ]; rfl)
                rw [if_pos (by rfl)]
                go_wp2_with fail
                refine (HM.out _ Qb.out.drew).mono ?_
                rintro e wM ⟨rfl, hbM⟩
                have hB9 : Below w.heap.size w wM := Qb.out.drew.trans (hbM.mono Qb.out.size)
                have R9 : Row wM g2 4 (partL (bl L) (ps.take (i + 1)) k).toArray := Q2.out.drew.below hbM Q2.out.lt
                have Rg9 : Row wM g 4 (boolsL (bl L) (ps.take i)).toArray := Qg.out.drew.below hbM Qg.out.lt
                have c9 : wM.cell? ⟨g2, k, none⟩ = some v0 := by rw [R9.cell, ← Q2.out.cell]; exact Hc0.out
                have f9 : wM.frozen? ⟨g2, k, none⟩ = false := R9.frozen _
                have H9 := hide (And.intro hB9 (And.intro R9 Rg9))
                clear hbM hB9 R9 Rg9 hmeth c0 f0
                refine hK.out _ _ ⟨HCP.out _ H9.out.1, ⟨v0, c9⟩, f9⟩ (fun hHeld2 => ?_)
                clear hK K
                try simp only [Act.put, List.setIfInBounds_toArray, List.set_cons_zero, List.set_cons_succ]
                refine wpAnyH_take (i := 12) (oi := ?oi12L) (v := ?v12L) ?h012L ?h112L ?h212L ?h312L ?h412L (Or.inl ⟨?hw12L, ?hy12L⟩) (by assumption) ?rest12L
                case h012L => (simp only [List.getElem?_toArray, List.getElem?_cons_zero, List.getElem?_cons_succ]; rfl)
                case h112L => kernel_rfl
                case h212L => kernel_rfl
                case h312L => kernel_rfl
                case h412L => exact fun _ _ _ h => h
                case hw12L => rfl
                case hy12L => ((intro w hSw; go_simp); (try (with_reducible rfl)))
                try simp only [Act.put, List.setIfInBounds_toArray, List.set_cons_zero, List.set_cons_succ]
                refine wpAnyH_ready (rs := [13]) (by kernel_rfl) (by simp) ?_
                refine AllReadyH.cons (o := ?oi13L) ?h013L (fun K hK => ?_) AllReadyH.nil
                case h013L => (simp only [List.getElem?_toArray, List.getElem?_cons_zero, List.getElem?_cons_succ]; rfl)
                rw [if_pos (by rfl)]
                go_wp2_with fail
                have R10 := row_part H9.out.2.1 HkP.out res HVal.out
                have HB10 := hide (H9.out.1.setCell (p := ⟨g2, k, none⟩) (by have := HW3.out.2.2.2; omega) (.bool res))
                have HR10 := hide R10
                refine hK.out _ _ ⟨HCP.out _ HB10.out, ⟨_, by rw [R10.cell, List.getElem?_toArray]; exact partL_get _ _ _ _ HkP.out⟩, R10.frozen _⟩ (fun hHeld3 => ?_)
                clear hK K R10
                try simp only [Act.put, List.setIfInBounds_toArray, List.set_cons_zero, List.set_cons_succ]
                refine wpAnyH_done (by kernel_rfl) ?_ _
                clear c9 f9 hHeld3 hHeld2
                go_wp2
                go_roundw
                case rel => exact ⟨k + 1, by go_num, by omega, HR10.out, H9.out.2.2.off Hne.out _ _, HB10.out⟩
                case measure => simp [intOf]; omega
          · obtain rfl : k = L.length + 1 := by omega
            have hnk : ¬ ((L.length + 1 : Nat) : Int) < (L.length : Int) + 1 := by omega
            have Hrow2 := hide (show Row wr g2 4 (boolsL (bl L) (ps.take (i + 1))).toArray by have := Q2.out; rw [← HLn.out, partL_all] at this; exact this)
            clear hkl hk
            go_wp2
            go_roundw
            case rel => exact ⟨i + 1, g2, by go_num, by omega, rfl, Hrow2.out, by have := HW3.out.2.2.2; omega, Qb.out⟩
            case measure => simp [intOf]; omega
      | wild O =>
        obtain ⟨gO, capO, hv3, hW0, hO1, hO2, hO3, hgO, _⟩ := Hpi.out
        subst hv3
        have HW0 := hide hW0
        clear hW0
        have hta := (assert_wild (.slice (some ⟨gO, 0, none⟩) O.length capO))
        have hzp := zero_anyP
        go_upto_region 9 with fail
        obtain ⟨W3, hW3⟩ : ∃ W3, (wr.alloc (.cells F.toArray 4)).alloc (.cells #[] 51) = W3 := ⟨_, rfl⟩
        have HW3 := hide (show Row W3 wr.heap.size 4 F.toArray ∧ Row W3 g 4 (boolsL (bl L) (ps.take i)).toArray ∧ Below w.heap.size w W3 ∧ w.heap.size ≤ wr.heap.size from by
          rw [← hW3]; exact ⟨(Row.new _ _ _).alloc _, (Hrow.out.alloc _).alloc _, (Hb.out.alloc Hb.out.size _).alloc (by rw [World.size_alloc]; have := Hb.out.size; omega) _, Hb.out.size⟩)
        have Hgl := hide Hrow.out.lt
        obtain ⟨g2, hg2⟩ : ∃ g2, wr.heap.size = g2 := ⟨_, rfl⟩
        rw [hg2] at HW3 Hgl
        rw [hW3, hg2]
        clear hW3 hg2 hc' hta hzp hmk
        go_loopw [35] (fun v wq => ∃ k : Nat, v = .int .i64 (k : Int) ∧ k ≤ L.length + 1 ∧ Row wq g2 4 (partL (bl L) (ps.take (i + 1)) k).toArray ∧ Row wq g 4 (boolsL (bl L) (ps.take i)).toArray ∧ Below w.heap.size w wq) (fun v _ => L.length + 1 - (intOf v).toNat)
        case atStart => exact ⟨0, rfl, Nat.zero_le _, by rw [partL_0, HLn.out, HF.out]; exact HW3.out.1, HW3.out.2.1, HW3.out.2.2.1⟩
        case round =>
          obtain ⟨k, rfl, hk, hq2, hqg, hqb⟩ := hrel
          have Q2 := hide hq2
          have Qg := hide hqg
          have Qb := hide hqb
          clear hq2 hqg hqb
          by_cases hkl : k < L.length + 1
          · have hk' : (k : Int) < (L.length : Int) + 1 := by omega
            have hk0 : (0 : Int) ≤ (k : Int) := by omega
            have hwk : IntKind.i64.wrap ((k : Int) + 1) = (k : Int) + 1 := IntWalk.i64_in _ (by omega)
            have f0 : wr.frozen? ⟨g2, k, none⟩ = false := Q2.out.frozen _
            have hkP : k ≤ (bl L).length := by rw [HLn.out]; omega
            obtain ⟨v0, c0⟩ : ∃ v0, wr.cell? ⟨g2, k, none⟩ = some v0 := ⟨_, by rw [Q2.out.cell, List.getElem?_toArray]; exact partL_get _ _ _ _ hkP⟩
            have HkP := hide hkP
            have hne : g ≠ g2 := by have := Hgl.out; omega
            have Hne := hide hne
            clear hkP hne
            have HRow := hide (fun (u : Bool) (hu : mP (ps.take (i + 1)) ((bl L).take k) = u) => row_part Q2.out HkP.out u hu)
            by_cases hkz : k = 0
            · have hkz' : ¬ (0 : Int) < (k : Int) := by omega
              have hf : mP (ps.take (i + 1)) ((bl L).take k) = false := by rw [HTk.out, hkz]; exact dp_zero _ _ rfl _
              have HQ := hide (show Row wr g2 4 (partL (bl L) (ps.take (i + 1)) (k + 1)).toArray by rw [← partL_keep _ _ _ hf]; exact Q2.out)
              clear hf hkz
              go_wp2
              go_roundw
              case rel => exact ⟨k + 1, by go_num, by omega, HQ.out, Qg.out, Qb.out⟩
              case measure => simp [intOf]; omega
            · have hkz' : (0 : Int) < (k : Int) := by omega
              obtain ⟨k', hkk⟩ : ∃ k', k = k' + 1 := ⟨k - 1, by omega⟩
              have hsub : IntKind.i64.wrap ((k : Int) - 1) = (k' : Int) := by rw [IntWalk.i64_in _ (by omega)]; omega
              have hk1 : (k' : Int) < (L.length : Int) + 1 := by omega
              have hkL : k' < L.length := by omega
              have hkL' : (k' : Int) < (L.length : Int) := by omega
              have hk10 : (0 : Int) ≤ (k' : Int) := by omega
              have ca : wr.cell? ⟨g, k', none⟩ = some (.bool (mP (ps.take i) ((bl L).take k'))) := by rw [Qg.out.cell, List.getElem?_toArray]; exact boolsL_get _ _ _ (by have := HkP.out; omega)
              have hdp := dp_one (ps.take i) (Pt.wild O) rfl (bl L) k' (by rw [HLn.out]; exact hkL)
              rw [← HTk.out, ← hkk, bl_get L k' hkL] at hdp
              cases ha : mP (ps.take i) ((bl L).take k') with
              | false =>
                rw [ha] at ca hdp
                have HQ := hide (show Row wr g2 4 (partL (bl L) (ps.take (i + 1)) (k + 1)).toArray by rw [← partL_keep _ _ _ hdp]; exact Q2.out)
                clear hdp ha hkz hkk
                go_wp2
                go_roundw
                case rel => exact ⟨k + 1, by go_num, by omega, HQ.out, Qg.out, Qb.out⟩
                case measure => simp [intOf]; omega
              | true =>
                rw [ha, Bool.true_and] at hdp
                rw [ha] at ca
                obtain ⟨bp, op, hApe, hbp, hcp⟩ := HAp.out.at hkL
                have hcp' := hcp wr (Qb.out.mono (Nat.le_refl _))
                obtain ⟨s, hs⟩ : ∃ s, L[k'] = s := ⟨_, rfl⟩
                have hsz : s.size ≤ 1000000 := by rw [← hs]; exact HZ.out _ (List.getElem_mem hkL)
                rw [hs] at hcp' hdp
                subst hApe
                have hM : ∀ W : World, Below w.heap.size w W → Calls Try.prog 70 #[(.slice (some ⟨gO, 0, none⟩) O.length capO), .string s] W fun e w' => e = .returned (.bool ((Pt.wild O).ok s.data.toList)) ∧ Below W.heap.size W w' := fun W hW => (wildMatches_any W gO 0 capO O s (HW0.out.below hW hgO).items (by omega) hsz hO2).mono (by rintro e w9 ⟨rfl, n, rfl⟩; exact ⟨rfl, Below_drewN (Below.refl _ _) n⟩)
                have HA := hide (show ∀ w : World, (nilAhead 196 65 (.slice (some ⟨gO, 0, none⟩) O.length capO) "wavestore/pattern.matches").run Try.prog w = .ok (some false) w from fun w => ahead_of (f := 70) (by kernel_rfl) Try.underlying65 (by intro x h; cases h) 195 (.slice (some ⟨gO, 0, none⟩) O.length capO) w)
                have hmeth : ∀ w : World, (method 196 65 (.slice (some ⟨gO, 0, none⟩) O.length capO) "wavestore/pattern.matches").run Try.prog w = .ok (70, (.slice (some ⟨gO, 0, none⟩) O.length capO)) w := fun w => method_of (f := 70) (by kernel_rfl) Try.underlying65 (by intro x h; cases h) 195 (.slice (some ⟨gO, 0, none⟩) O.length capO) w
                have HVal := hide hdp
                have HM := hide hM
                generalize (Pt.wild O).ok s.data.toList = res at *
                have Hc0 := hide c0
                have HCP := hide (show ∀ W', Below w.heap.size w W' → W'.cell? ⟨bp, op + k', none⟩ = some (.string s) from fun W' hW' => by rw [hcp W' hW', hs])
                clear hdp ha hkz hkk hs hcp hM
                go_upto_region 14 with fail
                have hcs : wr.cell? ⟨bp, op + k', none⟩ = some (.string s) := hcp'
                refine wp_region_held_drew (S := fun w' => w'.cell? ⟨bp, op + k', none⟩ = some (.string s) ∧ (∃ v, w'.cell? ⟨g2, k, none⟩ = some v) ∧ w'.frozen? ⟨g2, k, none⟩ = false) (by kernel_rfl) ⟨hcs, ⟨v0, c0⟩, f0⟩ (fun hHeld => ?_)
                refine wpAnyH_take (i := 0) (oi := ?oi0W) (v := ?v0W) ?h00W ?h10W ?h20W ?h30W ?h40W (Or.inl ⟨?hw0W, ?hy0W⟩) (by assumption) ?rest0W
                case h00W => (simp only [List.getElem?_toArray, List.getElem?_cons_zero, List.getElem?_cons_succ]; rfl)
                case h10W => kernel_rfl
                case h20W => kernel_rfl
                case h30W => kernel_rfl
                case h40W => exact fun _ _ _ h => h
                case hw0W => rfl
                case hy0W => ((intro w hSw; go_simp); (try (with_reducible rfl)))
                try simp only [Act.put, List.setIfInBounds_toArray, List.set_cons_zero, List.set_cons_succ]
                refine wpAnyH_take (i := 1) (oi := ?oi1W) (v := ?v1W) ?h01W ?h11W ?h21W ?h31W ?h41W (Or.inl ⟨?hw1W, ?hy1W⟩) (by assumption) ?rest1W
                case h01W => (simp only [List.getElem?_toArray, List.getElem?_cons_zero, List.getElem?_cons_succ]; rfl)
                case h11W => kernel_rfl
                case h21W => kernel_rfl
                case h31W => kernel_rfl
                case h41W => exact fun _ _ _ h => h
                case hw1W => rfl
                case hy1W => ((intro w hSw; go_simp); (try (with_reducible rfl)))
                try simp only [Act.put, List.setIfInBounds_toArray, List.set_cons_zero, List.set_cons_succ]
                refine wpAnyH_take (i := 2) (oi := ?oi2W) (v := ?v2W) ?h02W ?h12W ?h22W ?h32W ?h42W (Or.inl ⟨?hw2W, ?hy2W⟩) (by assumption) ?rest2W
                case h02W => (simp only [List.getElem?_toArray, List.getElem?_cons_zero, List.getElem?_cons_succ]; rfl)
                case h12W => kernel_rfl
                case h22W => kernel_rfl
                case h32W => kernel_rfl
                case h42W => exact fun _ _ _ h => h
                case hw2W => rfl
                case hy2W => ((intro w hSw; go_simp); (try (with_reducible rfl)))
                try simp only [Act.put, List.setIfInBounds_toArray, List.set_cons_zero, List.set_cons_succ]
                refine wpAnyH_take (i := 3) (oi := ?oi3W) (v := ?v3W) ?h03W ?h13W ?h23W ?h33W ?h43W (Or.inl ⟨?hw3W, ?hy3W⟩) (by assumption) ?rest3W
                case h03W => (simp only [List.getElem?_toArray, List.getElem?_cons_zero, List.getElem?_cons_succ]; rfl)
                case h13W => kernel_rfl
                case h23W => kernel_rfl
                case h33W => kernel_rfl
                case h43W => exact fun _ _ _ h => h
                case hw3W => rfl
                case hy3W => ((intro w hSw; go_simp); (try (with_reducible rfl)))
                try simp only [Act.put, List.setIfInBounds_toArray, List.set_cons_zero, List.set_cons_succ]
                refine wpAnyH_take (i := 4) (oi := ?oi4W) (v := ?v4W) ?h04W ?h14W ?h24W ?h34W ?h44W (Or.inl ⟨?hw4W, ?hy4W⟩) (by assumption) ?rest4W
                case h04W => (simp only [List.getElem?_toArray, List.getElem?_cons_zero, List.getElem?_cons_succ]; rfl)
                case h14W => kernel_rfl
                case h24W => kernel_rfl
                case h34W => kernel_rfl
                case h44W => exact fun _ _ _ h => h
                case hw4W => rfl
                case hy4W => ((intro w hSw; go_simp); (try (with_reducible rfl)))
                try simp only [Act.put, List.setIfInBounds_toArray, List.set_cons_zero, List.set_cons_succ]
                refine wpAnyH_take (i := 5) (oi := ?oi5W) (v := ?v5W) ?h05W ?h15W ?h25W ?h35W ?h45W (Or.inl ⟨?hw5W, ?hy5W⟩) (by assumption) ?rest5W
                case h05W => (simp only [List.getElem?_toArray, List.getElem?_cons_zero, List.getElem?_cons_succ]; rfl)
                case h15W => kernel_rfl
                case h25W => kernel_rfl
                case h35W => kernel_rfl
                case h45W => exact fun _ _ _ h => h
                case hw5W => rfl
                case hy5W => ((intro w hSw; go_simp); (try (with_reducible rfl)))
                try simp only [Act.put, List.setIfInBounds_toArray, List.set_cons_zero, List.set_cons_succ]
                refine wpAnyH_take (i := 6) (oi := ?oi6W) (v := ?v6W) ?h06W ?h16W ?h26W ?h36W ?h46W (Or.inl ⟨?hw6W, ?hy6W⟩) (by assumption) ?rest6W
                case h06W => (simp only [List.getElem?_toArray, List.getElem?_cons_zero, List.getElem?_cons_succ]; rfl)
                case h16W => kernel_rfl
                case h26W => kernel_rfl
                case h36W => kernel_rfl
                case h46W => exact fun _ _ _ h => h
                case hw6W => rfl
                case hy6W => ((intro w hSw; go_simp); (try (with_reducible rfl)))
                try simp only [Act.put, List.setIfInBounds_toArray, List.set_cons_zero, List.set_cons_succ]
                refine wpAnyH_take (i := 7) (oi := ?oi7W) (v := ?v7W) ?h07W ?h17W ?h27W ?h37W ?h47W (Or.inl ⟨?hw7W, ?hy7W⟩) (by assumption) ?rest7W
                case h07W => (simp only [List.getElem?_toArray, List.getElem?_cons_zero, List.getElem?_cons_succ]; rfl)
                case h17W => kernel_rfl
                case h27W => kernel_rfl
                case h37W => kernel_rfl
                case h47W => exact fun _ _ _ h => h
                case hw7W => rfl
                case hy7W => ((intro w hSw; have h7 := hSw.1; go_simp); (try (with_reducible rfl)))
                try simp only [Act.put, List.setIfInBounds_toArray, List.set_cons_zero, List.set_cons_succ]
                refine wpAnyH_take (i := 8) (oi := ?oi8W) (v := ?v8W) ?h08W ?h18W ?h28W ?h38W ?h48W (Or.inl ⟨?hw8W, ?hy8W⟩) (by assumption) ?rest8W
                case h08W => (simp only [List.getElem?_toArray, List.getElem?_cons_zero, List.getElem?_cons_succ]; rfl)
                case h18W => kernel_rfl
                case h28W => kernel_rfl
                case h38W => kernel_rfl
                case h48W => exact fun _ _ _ h => h
                case hw8W => rfl
                case hy8W => ((intro w hSw; go_simp); (try (with_reducible rfl)))
                try simp only [Act.put, List.setIfInBounds_toArray, List.set_cons_zero, List.set_cons_succ]
                refine wpAnyH_take (i := 9) (oi := ?oi9W) (v := ?v9W) ?h09W ?h19W ?h29W ?h39W ?h49W (Or.inl ⟨?hw9W, ?hy9W⟩) (by assumption) ?rest9W
                case h09W => (simp only [List.getElem?_toArray, List.getElem?_cons_zero, List.getElem?_cons_succ]; rfl)
                case h19W => kernel_rfl
                case h29W => kernel_rfl
                case h39W => kernel_rfl
                case h49W => exact fun _ _ _ h => h
                case hw9W => rfl
                case hy9W => ((intro w hSw; have h9 := HA.out w; go_simp); (try (with_reducible rfl)))
                try simp only [Act.put, List.setIfInBounds_toArray, List.set_cons_zero, List.set_cons_succ]
                refine wpAnyH_take (i := 10) (oi := ?oi10W) (v := ?v10W) ?h010W ?h110W ?h210W ?h310W ?h410W (Or.inl ⟨?hw10W, ?hy10W⟩) (by assumption) ?rest10W
                case h010W => (simp only [List.getElem?_toArray, List.getElem?_cons_zero, List.getElem?_cons_succ]; rfl)
                case h110W => kernel_rfl
                case h210W => kernel_rfl
                case h310W => kernel_rfl
                case h410W => exact fun _ _ _ h => h
                case hw10W => rfl
                case hy10W => ((intro w hSw; go_simp); (try (with_reducible rfl)))
                try simp only [Act.put, List.setIfInBounds_toArray, List.set_cons_zero, List.set_cons_succ]
                refine wpAnyH_ready (rs := [11]) (by kernel_rfl) (by simp) ?_
                refine AllReadyH.cons (o := ?oi11W) ?h011W (fun K hK => ?_) AllReadyH.nil
                case h011W => (simp only [List.getElem?_toArray, List.getElem?_cons_zero, List.getElem?_cons_succ]; rfl)
                rw [if_pos (by rfl)]
                go_wp2_with fail
                refine (HM.out _ Qb.out.drew).mono ?_
                rintro e wM ⟨rfl, hbM⟩
                have hB9 : Below w.heap.size w wM := Qb.out.drew.trans (hbM.mono Qb.out.size)
                have R9 : Row wM g2 4 (partL (bl L) (ps.take (i + 1)) k).toArray := Q2.out.drew.below hbM Q2.out.lt
                have Rg9 : Row wM g 4 (boolsL (bl L) (ps.take i)).toArray := Qg.out.drew.below hbM Qg.out.lt
                have c9 : wM.cell? ⟨g2, k, none⟩ = some v0 := by rw [R9.cell, ← Q2.out.cell]; exact Hc0.out
                have f9 : wM.frozen? ⟨g2, k, none⟩ = false := R9.frozen _
                have H9 := hide (And.intro hB9 (And.intro R9 Rg9))
                clear hbM hB9 R9 Rg9 hmeth c0 f0
                refine hK.out _ _ ⟨HCP.out _ H9.out.1, ⟨v0, c9⟩, f9⟩ (fun hHeld2 => ?_)
                clear hK K
                try simp only [Act.put, List.setIfInBounds_toArray, List.set_cons_zero, List.set_cons_succ]
                refine wpAnyH_take (i := 12) (oi := ?oi12W) (v := ?v12W) ?h012W ?h112W ?h212W ?h312W ?h412W (Or.inl ⟨?hw12W, ?hy12W⟩) (by assumption) ?rest12W
                case h012W => (simp only [List.getElem?_toArray, List.getElem?_cons_zero, List.getElem?_cons_succ]; rfl)
                case h112W => kernel_rfl
                case h212W => kernel_rfl
                case h312W => kernel_rfl
                case h412W => exact fun _ _ _ h => h
                case hw12W => rfl
                case hy12W => ((intro w hSw; go_simp); (try (with_reducible rfl)))
                try simp only [Act.put, List.setIfInBounds_toArray, List.set_cons_zero, List.set_cons_succ]
                refine wpAnyH_ready (rs := [13]) (by kernel_rfl) (by simp) ?_
                refine AllReadyH.cons (o := ?oi13W) ?h013W (fun K hK => ?_) AllReadyH.nil
                case h013W => (simp only [List.getElem?_toArray, List.getElem?_cons_zero, List.getElem?_cons_succ]; rfl)
                rw [if_pos (by rfl)]
                go_wp2_with fail
                have R10 := row_part H9.out.2.1 HkP.out res HVal.out
                have HB10 := hide (H9.out.1.setCell (p := ⟨g2, k, none⟩) (by have := HW3.out.2.2.2; omega) (.bool res))
                have HR10 := hide R10
                refine hK.out _ _ ⟨HCP.out _ HB10.out, ⟨_, by rw [R10.cell, List.getElem?_toArray]; exact partL_get _ _ _ _ HkP.out⟩, R10.frozen _⟩ (fun hHeld3 => ?_)
                clear hK K R10
                try simp only [Act.put, List.setIfInBounds_toArray, List.set_cons_zero, List.set_cons_succ]
                refine wpAnyH_done (by kernel_rfl) ?_ _
                clear c9 f9 hHeld3 hHeld2
                go_wp2
                go_roundw
                case rel => exact ⟨k + 1, by go_num, by omega, HR10.out, H9.out.2.2.off Hne.out _ _, HB10.out⟩
                case measure => simp [intOf]; omega
          · obtain rfl : k = L.length + 1 := by omega
            have hnk : ¬ ((L.length + 1 : Nat) : Int) < (L.length : Int) + 1 := by omega
            have Hrow2 := hide (show Row wr g2 4 (boolsL (bl L) (ps.take (i + 1))).toArray by have := Q2.out; rw [← HLn.out, partL_all] at this; exact this)
            clear hkl hk
            go_wp2
            go_roundw
            case rel => exact ⟨i + 1, g2, by go_num, by omega, rfl, Hrow2.out, by have := HW3.out.2.2.2; omega, Qb.out⟩
            case measure => simp [intOf]; omega
    · obtain rfl : i = ps.length := by omega
      have htk : ps.take ps.length = ps := List.take_length
      have hcf : wr.cell? ⟨g, L.length, none⟩ = some (.bool (mP ps (bl L))) := by
        have h := Hrow.out
        rw [htk] at h
        rw [h.cell, List.getElem?_toArray, ← HLn.out, boolsL_get _ _ _ (Nat.le_refl _), List.take_length]
      have hlt2 : (L.length : Int) < (L.length : Int) + 1 := by omega
      have hnl : ¬ (ps.length : Int) < (ps.length : Int) := by omega
      obtain ⟨res, hres⟩ : ∃ res, mP ps (bl L) = res := ⟨_, rfl⟩
      rw [hres] at hcf
      have Hres := hide hres
      clear hres
      clear htk hlt hi
      go_wp2
      go_ret
      exact ⟨ret_b Hres.out, Hb.out⟩
end Go.Proofs.Ytcjehiecgdmidaa
