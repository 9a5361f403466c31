/- Join, Words and ValidWords, of both. -/
import Derived.Test.YtdglaabgeigfnaaDoorQuH
import Derived.Lib.Join
set_option linter.unusedVariables false
namespace Go.Proofs.YtdglaabgeigfnaaDoor
open Go.RowKit Go.Shelf

def lists (L : List ByteArray) : List (List UInt8) := L.map (·.data.toList)
def allW (L : List ByteArray) : Bool := L.all fun s => wordB s.data.toList
def joinB (L : List ByteArray) : ByteArray := ⟨(Lib.join (lists L) [32]).toArray⟩
/-- what Join returns -/
def joinRes (L : List ByteArray) : ByteArray × Int := if allW L then (if 200 < (joinB L).size then (⟨#[]⟩, 9) else (joinB L, 0)) else (⟨#[]⟩, 3)
/-- what Words returns -/
def wordsRes (s : ByteArray) : List ByteArray := if s.size = 0 then [] else if (joinRes (splitB 32 s)).2 = 0 then splitB 32 s else []
def vwB (s : ByteArray) : Bool := decide (s.size = 0) || !(wordsRes s).isEmpty

theorem joinTail_snoc (sep : List UInt8) (r : List (List UInt8)) (y : List UInt8) : Lib.joinTail sep (r ++ [y]) = Lib.joinTail sep r ++ (sep ++ y) := by simp [Lib.joinTail]
theorem join_snoc (xs : List (List UInt8)) (y sep : List UInt8) (h : xs ≠ []) : Lib.join (xs ++ [y]) sep = Lib.join xs sep ++ (sep ++ y) := by
  cases xs with
  | nil => exact absurd rfl h
  | cons x r => rw [List.cons_append, Lib.join_cons, Lib.join_cons, joinTail_snoc, List.append_assoc]
theorem join_split (c : UInt8) (l : List UInt8) : Lib.join (splitL c l) [c] = l := by
  induction l with
  | nil => rfl
  | cons x r ih =>
    rw [splitL]
    by_cases hx : x = c
    · rw [if_pos hx, Lib.join_cons]
      have hn := splitL_ne c r
      cases h : splitL c r with
      | nil => exact absurd h hn
      | cons p ps =>
        rw [h, Lib.join_cons] at ih
        rw [show Lib.joinTail [c] (p :: ps) = [c] ++ p ++ Lib.joinTail [c] ps by simp [Lib.joinTail]]
        rw [hx, ← ih]; simp
    · rw [if_neg hx]
      have hn := splitL_ne c r
      cases h : splitL c r with
      | nil => exact absurd h hn
      | cons p ps =>
        rw [h, Lib.join_cons] at ih
        simp only
        rw [Lib.join_cons, ← ih]; rfl
theorem lists_split (c : UInt8) (s : ByteArray) : lists (splitB c s) = splitL c s.data.toList := by unfold lists splitB; rw [List.map_map]; exact List.map_id _
theorem joinB_split (s : ByteArray) : joinB (splitB 32 s) = s := by unfold joinB; rw [lists_split, join_split]
theorem allW_at (L : List ByteArray) (h : ∀ j, ∀ hj : j < L.length, wordB (L[j]'hj).data.toList = true) : allW L = true := by
  unfold allW; rw [List.all_eq_true]
  intro c hc
  obtain ⟨j, hj, rfl⟩ := List.mem_iff_getElem.1 hc
  exact h j hj
theorem allW_not (L : List ByteArray) (j : Nat) (hj : j < L.length) (h : wordB (L[j]'hj).data.toList = false) : allW L = false := by
  unfold allW; rw [List.all_eq_false]
  exact ⟨_, List.getElem_mem hj, by rw [h]; decide⟩
theorem joinRes_no {L : List ByteArray} (h : allW L = false) : joinRes L = (⟨#[]⟩, 3) := by unfold joinRes; rw [h]; rfl
theorem joinRes_yes {L : List ByteArray} (h : allW L = true) : joinRes L = if 200 < (joinB L).size then (⟨#[]⟩, 9) else (joinB L, 0) := by unfold joinRes; rw [h]; rfl

set_option maxHeartbeats 4000000 in
theorem Join_any (A : Option Addr) (n cap : Nat) (L : List ByteArray) (w : World) (hn : n = L.length) (hw : Sl Value.string w A L) (hcap : L.length ≤ cap) (hl : L.length ≤ 1099511627776) (hj : (Lib.join (lists L) [32]).length ≤ 1099511627776) :
    Calls Tryd.prog 16 #[.slice A n cap] w fun e w' => e = .returned (.tuple #[.string (joinRes L).1, .int .i64 (joinRes L).2]) ∧ Below w.heap.size w w' := by
  subst hn
  have Hw := hide hw
  have Hj := hide hj
  clear hw hj
  go_enter Tryd.func16, Tryd.ntmps16
  go_wp2
  go_loopw [9] (fun v wr => ∃ i : Nat, v = .int .i64 i ∧ i ≤ L.length ∧ (∀ j, j < i → ∀ hj : j < L.length, wordB (L[j]'hj).data.toList = true) ∧ Below w.heap.size w wr) (fun v _ => L.length - (intOf v).toNat)
  case atStart => exact ⟨0, rfl, Nat.zero_le _, (fun j h => absurd h (by omega)), Below.refl _ _⟩
  case round =>
    obtain ⟨i, rfl, hi0, hall, hbr⟩ := hrel
    have Hall := hide hall
    have Hbr := hide hbr
    clear hall hbr
    by_cases hi : i < L.length
    · obtain ⟨b, off, rfl, hbz, hat⟩ := Hw.out.at hi
      have hc := hat wr Hbr.out
      clear hat
      have HW := hide (fun W => word_any (L[i]'hi) W)
      cases hp : wordB (L[i]'hi).data.toList with
      | true =>
        rw [hp] at HW
        have Hp := hide hp
        clear hp
        generalize L[i]'hi = t at hc HW
        go_wp2_with fail
        refine (HW.out _).mono ?_
        rintro e w1 ⟨rfl, hb1⟩
        have Hb1 := hide hb1
        clear hb1
        go_wp2
        go_roundw
        case rel =>
          refine ⟨i + 1, by go_num, by omega, fun j hj hj' => ?_, Hbr.out.trans (Hb1.out.mono Hbr.out.size)⟩
          rcases Nat.lt_or_ge j i with h | h
          · exact Hall.out j h hj'
          · obtain rfl : j = i := by omega
            exact Hp.out
        case measure => simp [intOf]; omega
      | false =>
        rw [hp] at HW
        have Hf := hide (joinRes_no (allW_not L i hi hp))
        clear hp
        generalize L[i]'hi = t at hc HW
        go_wp2_with fail
        refine (HW.out _).mono ?_
        rintro e w1 ⟨rfl, hb1⟩
        have Hb1 := hide hb1
        clear hb1
        go_wp2
        go_ret2
        exact ⟨ret_pair (by rw [Hf.out]) (by rw [Hf.out]), Hbr.out.trans (Hb1.out.mono Hbr.out.size)⟩
    · obtain rfl : i = L.length := Nat.le_antisymm hi0 (Nat.le_of_not_lt hi)
      have hres := joinRes_yes (allW_at L (fun j hj => Hall.out j hj hj))
      have HJ : Hid (∀ W : World, Below w.heap.size w W → Calls Tryd.prog 30 #[.slice A L.length cap, .string ⟨#[32]⟩] W fun e w' => e = .returned (.string (joinB L)) ∧ Below W.heap.size W w') := hide (fun W hb => by
        rcases Nat.eq_zero_or_pos L.length with h0 | h0
        · obtain rfl : L = [] := List.eq_nil_of_length_eq_zero h0
          exact (Tryd.strings_Join_none A cap ⟨#[32]⟩ W).mono fun e w' ⟨he, hw'⟩ => ⟨he, hw' ▸ Below.refl _ _⟩
        · obtain ⟨b, off, rfl, hbz, _⟩ := Hw.out.at h0
          refine Tryd.strings_Join b off cap L ⟨#[32]⟩ W (fun j x hx => ?_) (Nat.lt_of_lt_of_le hbz hb.size) (by omega) hcap (by have := Hj.out; show (Lib.join (lists L) [32]).length ≤ _; omega)
          obtain ⟨hj, rfl⟩ := List.getElem?_eq_some_iff.1 hx
          obtain ⟨b2, off2, e2, _, hat⟩ := Hw.out.at hj
          cases e2
          exact hat W hb)
      have Hres := hide hres
      have hjz : (joinB L).size ≤ 1099511627776 := by have := Hj.out; show (Lib.join (lists L) [32]).toArray.size ≤ _; simpa using this
      clear hres hi
      go_wp2_with fail
      refine (HJ.out _ Hbr.out).mono ?_
      rintro e w1 ⟨rfl, hb1⟩
      have Hb1 := hide hb1
      clear hb1
      generalize joinB L = J at Hres hjz
      by_cases hbig : (200 : Int) < (J.size : Int)
      · go_wp2
        go_ret2
        exact ⟨ret_pair (by rw [Hres.out, if_pos (by omega)]) (by rw [Hres.out, if_pos (by omega)]), Hbr.out.trans (Hb1.out.mono Hbr.out.size)⟩
      · go_wp2
        go_ret2
        exact ⟨ret_pair (by rw [Hres.out, if_neg (by omega)]) (by rw [Hres.out, if_neg (by omega)]), Hbr.out.trans (Hb1.out.mono Hbr.out.size)⟩
end Go.Proofs.YtdglaabgeigfnaaDoor
