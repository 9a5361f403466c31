/- Printable and Position of package lexer, over its iterator. -/
import Derived.Test.YtbhmgooohhgpaaaDoorLexB
namespace Go.Proofs.YtbhmgooohhgpaaaDoor
open Go.RowKit Go.Shelf
attribute [local go_sem] Oper.semAt_some

theorem steps_any (s : ByteArray) (w : World) :
    Calls Tryd.prog 11 #[.string s] w fun e w' => e = .returned (.func (.func 22) #[] #[.pointer (some ⟨w.heap.size, 0, none⟩)]) ∧ w.alloc (.cells #[.string s] 9) = w' := by
  have hmf : ∀ (fn : Fn) (first cap : Array Value) (w : World), (Instr.makeFunc fn first cap).run Tryd.prog w = .ok (.func fn first cap) w := fun _ _ _ _ => rfl
  go_enter Tryd.func11, Tryd.ntmps11
  go_wp2
  go_ret
  exact ⟨rfl, rfl⟩

/-- all bytes are printable -/
def allPrint (s : ByteArray) : Bool := s.data.toList.all fun c => printB c.toNat
def wordPrint (s : ByteArray) : Bool := allPrint s && !s.data.toList.isEmpty

set_option maxHeartbeats 1000000 in
theorem Printable_any (s : ByteArray) (hs : s.size ≤ 1099511627776) (w : World) :
    Calls Tryd.prog 10 #[.string s] w fun e w' => e = .returned (.bool (wordPrint s)) ∧ Below w.heap.size w w' := by
  refine (callsIn_wide (n := 0)).1 (callsIn_of_wp_marks Tryd.func10 rfl trivial ?_)
  simp only [Tryd.ntmps10, List.size_toArray, List.length_cons, List.length_nil, Nat.reduceAdd, Nat.reduceSub, Array.replicate_succ, Array.replicate_zero, List.push_toArray, List.append_toArray, List.nil_append, List.cons_append]
  gi_wp2_with (gi_at_call 11; refine (callsIn_wide.2 (steps_any _ _)).mono ?_; rintro e w' ⟨rfl, rfl⟩)
  obtain ⟨B, hB⟩ : ∃ B, w.heap.size = B := ⟨_, rfl⟩
  rw [hB]
  obtain ⟨W0, hW0⟩ : ∃ W0, (w.alloc (.cells #[.bool false] 4)).alloc (.cells #[.string s] 9) = W0 := ⟨_, rfl⟩
  rw [hW0]
  have hz : W0.heap.size = B + 2 := by rw [← hW0]; simp [hB]
  have hr0 : Row W0 B 4 #[.bool false] := by rw [← hW0, ← hB]; exact (Row.new _ _ _).alloc _
  have hr1 : Row W0 (B + 1) 9 #[.string s] := by
    rw [← hW0]; have := Row.new (w.alloc (.cells #[.bool false] 4)) 9 #[.string s]; rwa [World.size_alloc, hB] at this
  have hbl : Below B w W0 := by rw [← hW0]; exact ((Below.refl _ _).alloc (by omega) _).alloc (by simp; omega) _
  have hlen : (stps s).length = s.size := stps_length s
  refine wpIn_range (gf := 22) (lb := #[.pointer (some ⟨B + 1, 0, none⟩)]) rfl (enters_of Tryd.func22 (by kernel_rfl) rfl) (steps_iter s hs (B + 1) W0 hr1) (fun _ => rfl) (Same.refl _ _)
    (fun b => b = B) (fun b hb e => by omega) (fun b hb => by omega) (fun b hb => by omega)
    (fun k C W => C = (fun b => b = B) ∧ Row W B 4 #[.bool false] ∧ ∀ j, j < k → ∀ h : j < s.size, printB (s[j]'h).toNat = true)
    (fun c k C W => c = .ret ∧ C = (fun b => b = B) ∧ Row W B 4 #[.bool false] ∧ ∃ j, ∃ h : j < s.size, printB (s[j]'h).toNat = false)
    (fun k C W1 W2 h hs => ⟨h.1, h.2.1.same hs (.inl (by omega)), h.2.2⟩) (fun c k C W1 W2 h hs => ⟨h.1, h.2.1, h.2.2.1.same hs (.inl (by omega)), h.2.2.2⟩)
    ⟨rfl, hr0, fun j hj => by omega⟩ ?round ?done ?stop
  case round =>
    rintro l k x C W hl hl2 hCl hx ⟨rfl, hrB, hpre⟩ hgr hsz
    obtain ⟨hk, rfl⟩ := stps_get s hx
    clear hx
    have e : stpV (stp s k) = .agg #[.int .i64 (pl s.data.toList k).1, .int .i64 (pl s.data.toList k).2.1, .int .i64 (pl s.data.toList k).2.2, .int .u8 (s[k].toNat : Int)] := by simp [stpV, stp, hk]
    rw [e]
    clear e
    gi_wp2
    refine ⟨(Keeps.refl _ _).alloc _, fun W2 hb => ?_⟩
    obtain ⟨X, hX⟩ : ∃ X, W.heap.size = X := ⟨_, rfl⟩
    have hrx : Row W2 X 42 #[.int .i64 (pl s.data.toList k).1, .int .i64 (pl s.data.toList k).2.1, .int .i64 (pl s.data.toList k).2.2, .int .u8 (s[k].toNat : Int)] :=
      hX ▸ (Row.new W _ _).but hb (by omega)
    have hrb2 := (hrB.alloc (.cells #[.int .i64 (pl s.data.toList k).1, .int .i64 (pl s.data.toList k).2.1, .int .i64 (pl s.data.toList k).2.2, .int .u8 (s[k].toNat : Int)] 42)).but hb (by omega)
    have hz2 : W2.heap.size = X + 1 := by rw [hb.size]; simp [hX]
    have hXz : X < W2.heap.size := by omega
    rw [hX]
    have hc3 : W2.cell? ⟨X, 3, none⟩ = some (.int .u8 (s[k].toNat : Int)) := hrx.cell 3
    have hcb : W2.cell? ⟨B, 0, none⟩ = some (.bool false) := hrb2.cell 0
    have hfb := hrb2.frozen 0
    have hg2 : Grew (fun b => b = B) W (fun b => b = B) W2 := fun b hb' => ⟨.inl hb', by omega⟩
    clear hb hW0
    have hnn : (0 : Int) ≤ (s[k].toNat : Int) := by omega
    by_cases hp : 33 ≤ (s[k].toNat : Int) ∧ (s[k].toNat : Int) ≤ 126
    · obtain ⟨hp1, hp2⟩ := hp
      gi_wp2
      refine ⟨fun b => b = B, Keeps.refl _ _, hg2, rfl, hrb2, fun j hj h => ?_⟩
      rcases Nat.lt_or_ge j k with hjk | hjk
      · exact hpre j hjk h
      · obtain rfl : j = k := by omega
        exact decide_eq_true ⟨hp1, hp2⟩
    · have hnp : printB (s[k].toNat : Int) = false := decide_eq_false hp
      have fin : ∃ j, ∃ h : j < s.size, printB (s[j]'h).toNat = false := ⟨k, hk, hnp⟩
      have Hfin := hide fin
      clear fin hnp
      by_cases hp1 : 33 ≤ (s[k].toNat : Int)
      · have hp2 : 126 < (s[k].toNat : Int) := by omega
        clear hp
        gi_wp2
        refine ⟨fun b => b = B, Keeps.setCell (p := ⟨B, 0, none⟩) (Keeps.refl (fun b => b = B) W2) (.inl rfl) _, hg2.later (by simp [World.setCell]), rfl, rfl, hrb2.set_ 0 _, Hfin.out⟩
      · have hp2 : (s[k].toNat : Int) < 33 := by omega
        clear hp hp1
        gi_wp2
        refine ⟨fun b => b = B, Keeps.setCell (p := ⟨B, 0, none⟩) (Keeps.refl (fun b => b = B) W2) (.inl rfl) _, hg2.later (by simp [World.setCell]), rfl, rfl, hrb2.set_ 0 _, Hfin.out⟩
  case done =>
    rintro D C W hD hCD hK ⟨rfl, hrB, hpre⟩ hkp hgr
    rw [hlen] at hpre
    have hcb : W.cell? ⟨B, 0, none⟩ = some (.bool false) := hrB.cell 0
    have hfb := hrB.frozen 0
    have hall : allPrint s = true := by
      unfold allPrint
      rw [List.all_eq_true]
      intro c hc
      obtain ⟨j, hj, rfl⟩ := List.getElem_of_mem hc
      exact hpre j (by simpa using hj) (by simpa using hj)
    have hw : wordPrint s = !s.data.toList.isEmpty := by simp [wordPrint, hall]
    have Hw := hide hw
    clear hpre hall hw
    gi_wp2
    have hr2 := hrB.set_ 0 (.bool (!s.toList.isEmpty))
    have hK2 := ((Keeps.refl (fun b => b = B) W).setCell (p := ⟨B, 0, none⟩) (.inl rfl) (.bool (!s.toList.isEmpty))).heap hK hCD
    have hc5 := cell_putObj (D := D) (o := .deferred none) (W := W.setCell ⟨B, 0, none⟩ (.bool (!s.toList.isEmpty))) (p := ⟨B, 0, none⟩) (Ne.symm hCD)
    rw [hr2.cell 0] at hc5
    refine bodyPostM_mark hK2 (v := .bool (!s.toList.isEmpty)) (by simp [results, Tryd.results10, go_sem, hc5]) ⟨by rw [Hw.out, Lib.toList_data], ?_⟩
    exact (hbl.trans ((hkp.setCell (p := ⟨B, 0, none⟩) (.inl rfl) _).putObj (.inr hD) _ |>.below (fun b hb => Nat.le_of_eq hb.symm) (by omega)))
  case stop =>
    rintro D c k C W hD hCD hK hk ⟨rfl, rfl, hrB, hex⟩ hkp hgr
    have hw : wordPrint s = false := by
      obtain ⟨j, h, hp⟩ := hex
      have : allPrint s = false := by
        unfold allPrint
        rw [List.all_eq_false]
        exact ⟨s[j], (by rw [show s[j] = s.data.toList[j]'(by simpa using h) from rfl]; exact List.getElem_mem _), by simpa using hp⟩
      simp [wordPrint, this]
    have Hw := hide hw
    clear hex hw
    gi_wp2
    have hc5 := cell_putObj (D := D) (o := .deferred none) (W := W) (p := ⟨B, 0, none⟩) (Ne.symm hCD)
    rw [hrB.cell 0] at hc5
    refine bodyPostM_mark hK (v := .bool false) (by simp [results, Tryd.results10, go_sem, hc5]) ⟨by rw [Hw.out], ?_⟩
    exact (hbl.trans (hkp.putObj (.inr hD) _ |>.below (fun b hb => Nat.le_of_eq hb.symm) (by omega)))
end Go.Proofs.YtbhmgooohhgpaaaDoor
