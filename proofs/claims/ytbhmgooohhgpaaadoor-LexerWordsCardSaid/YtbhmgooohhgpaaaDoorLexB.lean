/- The iterator of package lexer: the bytes of a text with their places. -/
import Derived.Test.YtbhmgooohhgpaaaDoorLexA
import Derived.Test.YtbhmgooohhgpaaaDoorRange
namespace Go.Proofs.YtbhmgooohhgpaaaDoor
open Go.RowKit
attribute [local go_sem] Oper.semAt_some

/-- the place (offset, line, column) behind the first bytes -/
def plStep (p : Int × Int × Int) (c : UInt8) : Int × Int × Int := (p.1 + 1, nextLine p.2.1 c.toNat, nextCol p.2.2 c.toNat)
def pl (l : List UInt8) (i : Nat) : Int × Int × Int := (l.take i).foldl plStep (0, 1, 1)
theorem pl_zero (l : List UInt8) : pl l 0 = (0, 1, 1) := rfl
theorem pl_succ (l : List UInt8) (i : Nat) (h : i < l.length) : pl l (i + 1) = plStep (pl l i) l[i] := by
  unfold pl
  rw [List.take_succ_eq_append_getElem h, List.foldl_append]; rfl
theorem nextLine_bd (l c : Int) (h : 1 ≤ l) : 1 ≤ nextLine l c ∧ nextLine l c ≤ l + 1 := by unfold nextLine; split <;> omega
theorem nextCol_bd (l c : Int) (h : 1 ≤ l) : 1 ≤ nextCol l c ∧ nextCol l c ≤ l + 1 := by unfold nextCol; split <;> omega
theorem pl_bd (l : List UInt8) (i : Nat) (h : i ≤ l.length) : (pl l i).1 = i ∧ 1 ≤ (pl l i).2.1 ∧ (pl l i).2.1 ≤ i + 1 ∧ 1 ≤ (pl l i).2.2 ∧ (pl l i).2.2 ≤ i + 1 := by
  induction i with
  | zero => simp [pl_zero]
  | succ i ih =>
    obtain ⟨h1, h2, h3, h4, h5⟩ := ih (by omega)
    rw [pl_succ l i (by omega)]
    have a := nextLine_bd (pl l i).2.1 (l[i]'(by omega)).toNat h2
    have b := nextCol_bd (pl l i).2.2 (l[i]'(by omega)).toNat h4
    unfold plStep
    simp only []
    omega

/-- a byte with its place -/
abbrev Stp := (Int × Int × Int) × Int
def stp (s : ByteArray) (i : Nat) : Stp := (pl s.data.toList i, if h : i < s.size then (s[i]'h).toNat else 0)
def stps (s : ByteArray) : List Stp := (List.range s.size).map (stp s)
theorem stps_length (s : ByteArray) : (stps s).length = s.size := by simp [stps]
theorem stps_get (s : ByteArray) {k : Nat} {x : Stp} (h : (stps s)[k]? = some x) : k < s.size ∧ x = stp s k := by
  unfold stps at h
  rw [List.getElem?_map] at h
  rcases Nat.lt_or_ge k s.size with hk | hk
  · rw [List.getElem?_range hk] at h; simp at h; exact ⟨hk, h.symm⟩
  · rw [List.getElem?_eq_none (by simpa using hk)] at h; cases h
theorem stps_at (s : ByteArray) {k : Nat} (h : k < s.size) : (stps s)[k]? = some (stp s k) := by
  unfold stps
  rw [List.getElem?_map, List.getElem?_range h]; rfl
def plV (p : Int × Int × Int) : Array Value := #[.int .i64 p.1, .int .i64 p.2.1, .int .i64 p.2.2]
def stpV (x : Stp) : Value := .agg #[.int .i64 x.1.1, .int .i64 x.1.2.1, .int .i64 x.1.2.2, .int .u8 x.2]

theorem stpV_stp (s : ByteArray) {k : Nat} (hk : k < s.size) : stpV (stp s k) = .agg #[.int .i64 k, .int .i64 (pl s.data.toList k).2.1, .int .i64 (pl s.data.toList k).2.2, .int .u8 (s[k].toNat : Int)] := by
  simp [stpV, stp, hk, (pl_bd s.data.toList k (by simpa using Nat.le_of_lt hk)).1]
theorem plV_pl (s : ByteArray) {k : Nat} (hk : k ≤ s.size) : plV (pl s.data.toList k) = #[.int .i64 k, .int .i64 (pl s.data.toList k).2.1, .int .i64 (pl s.data.toList k).2.2] := by
  simp [plV, (pl_bd s.data.toList k (by simpa using hk)).1]

set_option maxHeartbeats 1000000 in
theorem steps_iter (s : ByteArray) (hs : s.size ≤ 1099511627776) (bt : Nat) (w : World) (hb : Row w bt 9 #[.string s]) :
    Iter Tryd.prog 22 #[.pointer (some ⟨bt, 0, none⟩)] (fun x => #[stpV x]) (stps s) (fun b => b = bt) w := by
  intro l J Jx C0 W hR hRC hC hRl hJ hJx hY h0
  have hbW : Row W bt 9 #[.string s] := (hR.block bt rfl).trans hb
  have hbt : bt < W.heap.size := hbW.lt
  have hcell : W.cell? ⟨bt, 0, none⟩ = some (.string s) := hbW.cell 0
  have hnC : ¬ C0 bt := hRC bt rfl
  have HY := hide hY
  clear hY
  refine callsIn_of_wp Tryd.func22 rfl trivial ?_
  simp only [Tryd.ntmps22, List.size_toArray, List.length_cons, List.length_nil, Nat.reduceAdd, Nat.reduceSub, Array.replicate_succ, Array.replicate_zero, List.push_toArray, List.append_toArray, List.nil_append, List.cons_append]
  gi_wp2
  obtain ⟨A, hA⟩ : ∃ A, W.heap.size = A := ⟨_, rfl⟩
  rw [hA]
  gi_loopw [8] (fun i wr => ∃ (k : Nat) (C : Nat → Prop), i = .int .i64 k ∧ k ≤ s.size ∧ J k C wr ∧ Row wr A 40 (plV (pl s.data.toList k)) ∧
    Row wr bt 9 #[.string s] ∧ ¬ C A ∧ ¬ C bt ∧ Keeps C0 W wr ∧ Grew C0 W C wr) (fun i _ => s.size - (intOf i).toNat)
  case atStart =>
    have hnA : ¬ C0 A := fun e => by have := hC _ e; omega
    refine ⟨0, C0, rfl, Nat.zero_le _, ?_, ?_, ?_, hnA, hnC, (Keeps.refl _ _).alloc _, hC.grew.later (by simp)⟩
    · exact hJ _ _ _ _ h0 (Same.of_below (B := W.heap.size) ((Below.refl _ _).alloc (Nat.le_refl _) _) (fun b hb => hb.elim id (hC b)))
    · rw [← hA]; exact Row.new _ _ _
    · exact hbW.alloc _
  case round =>
    obtain ⟨k, C, rfl, hk, hj, hat, hbx, hCA, hCb, hkp, hgr⟩ := hrel
    have hcb : wr.cell? ⟨bt, 0, none⟩ = some (.string s) := hbx.cell 0
    by_cases hlt : k < s.size
    · have hc0 : wr.cell? ⟨A, 0, none⟩ = some (.int .i64 (pl s.data.toList k).1) := hat.cell 0
      have hc1 : wr.cell? ⟨A, 1, none⟩ = some (.int .i64 (pl s.data.toList k).2.1) := hat.cell 1
      have hc2 : wr.cell? ⟨A, 2, none⟩ = some (.int .i64 (pl s.data.toList k).2.2) := hat.cell 2
      gi_wp2
      refine wpIn_region_still_tail (Fence.open_wide _) 6 (by kernel_rfl) (by kernel_rfl) (by kernel_rfl) ?_
      simp only [List.take_succ_cons, List.take_zero, List.drop_succ_cons, List.drop_zero]
      repeat still_step
      refine wpStill_nil ?_
      have hjd : J k C wr.drew := hJ _ _ _ _ hj ⟨rfl, rfl, rfl, Nat.le_refl _, fun _ _ => rfl⟩
      have hgd : Laid C wr.drew := fun b hb => (hgr b hb).2
      obtain ⟨fn, tmps, assign, body, hy, hR⟩ := (unhide HY) k (stp s k) C wr.drew (stps_at s hlt) hjd hgd
      have e : stpV (stp s k) = .agg #[.int .i64 (pl s.data.toList k).1, .int .i64 (pl s.data.toList k).2.1, .int .i64 (pl s.data.toList k).2.2, .int .u8 (s[k].toNat : Int)] := by simp [stpV, stp, hlt]
      simp only [e] at hy
      clear e hjd hgd
      gi_wp2
      refine hR.mono ?_
      rintro e W3 ⟨C', hk3, hg3, ⟨rfl, hj3⟩ | ⟨rfl, hj3⟩⟩
      · have hb3 := hbx.drew.keep hk3 hCb
        have ha3 := hat.drew.keep hk3 hCA
        have hcb3 : W3.cell? ⟨bt, 0, none⟩ = some (.string s) := hb3.cell 0
        have hd0 : W3.cell? ⟨A, 0, none⟩ = some (.int .i64 (pl s.data.toList k).1) := ha3.cell 0
        have hd1 : W3.cell? ⟨A, 1, none⟩ = some (.int .i64 (pl s.data.toList k).2.1) := ha3.cell 1
        have hd2 : W3.cell? ⟨A, 2, none⟩ = some (.int .i64 (pl s.data.toList k).2.2) := ha3.cell 2
        gi_wp2
        refine wpIn_region_still_tail (Fence.open_wide _) 4 (by kernel_rfl) (by kernel_rfl) (by kernel_rfl) ?_
        simp only [List.take_succ_cons, List.take_zero, List.drop_succ_cons, List.drop_zero]
        repeat still_step
        refine wpStill_nil ?_
        gi_wp2_with fail
        have hbd := pl_bd s.data.toList k (by simpa using hk)
        refine (callsIn_wide.2 (behind_any _ _ _ _ _ (by omega) (by omega) (by omega) (by omega) (by omega) (by omega))).mono ?_
        rintro e W4 ⟨rfl, hb4⟩
        have hz3 : A < W3.heap.size := ha3.lt
        have ha4 := ha3.drew.below hb4 hz3
        have hb4' := hb3.drew.below hb4 hb3.lt
        have hA4 : ¬ C' A := fun e => (hg3 _ e).1.elim hCA (fun h => by have := hat.lt; simp at h; omega)
        have hB4 : ¬ C' bt := fun e => (hg3 _ e).1.elim hCb (fun h => by have := hbx.lt; simp at h; omega)
        have hc40 : W4.cell? ⟨A, 0, none⟩ = some (.int .i64 (pl s.data.toList k).1) := ha4.cell 0
        have hc41 : W4.cell? ⟨A, 1, none⟩ = some (.int .i64 (pl s.data.toList k).2.1) := ha4.cell 1
        have hc42 : W4.cell? ⟨A, 2, none⟩ = some (.int .i64 (pl s.data.toList k).2.2) := ha4.cell 2
        have hf40 := ha4.frozen 0
        have hf41 := ha4.frozen 1
        have hf42 := ha4.frozen 2
        have hpl : pl s.data.toList (k + 1) = ((pl s.data.toList k).1 + 1, nextLine (pl s.data.toList k).2.1 s[k].toNat, nextCol (pl s.data.toList k).2.2 s[k].toNat) := pl_succ _ _ (by simpa using hlt)
        have Hpl := hide hpl
        clear hpl hbd
        gi_wp2
        go_roundw
        case rel =>
          refine ⟨k + 1, C', by go_num, by omega, ?_, ?_, ?_, hA4, hB4, ?_, ?_⟩
          · exact hJ _ _ _ _ hj3 ⟨hb4.os, hb4.tape, hb4.output, (by simpa [World.setCell] using hb4.size), fun b hb => by
              have hbA : b ≠ A := fun e => hb.elim (fun h => by omega) (fun h => hA4 (e ▸ h))
              have hb3z : b < W3.heap.size := hb.elim (fun h => by have := hkp.size; have := hk3.size; simp at this; omega) (fun h => (hg3 b h).2)
              refine (Below.heap_setCell _ _ _ _ hbA).trans ((Below.heap_setCell _ _ _ _ hbA).trans ((Below.heap_setCell _ _ _ _ hbA).trans (hb4.block b (by simpa using hb3z))))⟩
          · rw [Hpl.out]; exact ((ha4.set_ 0 _).set_ 1 _).set_ 2 _
          · have hne : bt ≠ A := by omega
            exact ((hb4'.far (p := ⟨A, 0, none⟩) hne _).far (p := ⟨A, 1, none⟩) hne _).far (p := ⟨A, 2, none⟩) hne _
          · refine (((Keeps.setCell (p := ⟨A, 0, none⟩) ?_ (.inr (Nat.le_of_eq hA)) _).setCell (p := ⟨A, 1, none⟩) (.inr (Nat.le_of_eq hA)) _).setCell (p := ⟨A, 2, none⟩) (.inr (Nat.le_of_eq hA)) _)
            exact ((hkp.trans_grew ((Keeps.refl _ _).drew) hgr).trans_grew hk3 (hgr.later (Nat.le_refl _))).drew.trans' (Keeps.of_below (C := fun _ => False) hb4 (Nat.le_refl _)) (fun _ h => h.elim)
          · exact ((hgr.later (W2 := wr.drew) (Nat.le_refl _)).trans hg3 (by simpa using hkp.size)).later (by have := hb4.size; simpa [World.setCell] using this)
        case measure => simp [intOf]; omega
      · gi_wp2
        refine bodyPost_ret (results_none rfl _ _ _) rfl ?_
        refine ⟨⟨_, rfl⟩, C', (hkp.trans_grew ((Keeps.refl _ _).drew) hgr).trans_grew hk3 (hgr.later (Nat.le_refl _)), (hgr.later (W2 := wr.drew) (Nat.le_refl _)).trans hg3 (by simpa using hkp.size), .inr ⟨k + 1, by rw [stps_length]; omega, hj3⟩⟩
    · obtain rfl : k = s.size := by omega
      gi_wp2
      go_end0
      exact ⟨⟨_, rfl⟩, C, hkp, hgr, .inl (by rw [stps_length]; exact hj)⟩
end Go.Proofs.YtbhmgooohhgpaaaDoor
