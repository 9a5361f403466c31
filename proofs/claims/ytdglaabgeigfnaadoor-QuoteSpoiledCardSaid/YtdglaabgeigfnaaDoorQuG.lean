/- strings.Split at one byte, and the reference's Split. -/
import Derived.Test.YtdglaabgeigfnaaDoorQuC
import Derived.Lib.CountLaws
import Derived.Lib.IndexLaws
set_option linter.unusedVariables false
namespace Go.Proofs.YtdglaabgeigfnaaDoor
open Go.RowKit Go.Shelf

/-- the parts between the bytes c -/
def splitL (c : UInt8) : List UInt8 → List (List UInt8)
  | [] => [[]]
  | x :: r => if x = c then [] :: splitL c r else match splitL c r with
    | [] => [[x]]
    | p :: ps => (x :: p) :: ps
theorem splitL_ne (c : UInt8) (l : List UInt8) : splitL c l ≠ [] := by
  cases l with
  | nil => simp [splitL]
  | cons x r => unfold splitL; split <;> (try split) <;> simp
theorem splitL_none (c : UInt8) : ∀ l : List UInt8, Lib.indexByte l c = -1 → splitL c l = [l] := by
  intro l
  induction l with
  | nil => intro _; rfl
  | cons x r ih =>
    intro h
    have h0 := Lib.indexByte_none h 0
    have hx : x ≠ c := fun e => h0 (by rw [e]; rfl)
    have hr : Lib.indexByte r c = -1 := by
      unfold Lib.indexByte at h
      split at h
      · cases h
      · split at h
        · rename_i e; exact eq_of_beq e
        · have := Lib.indexByte_ge r c; omega
    unfold splitL
    rw [if_neg hx, ih hr]
theorem splitL_some (c : UInt8) : ∀ (l : List UInt8) (m : Nat), Lib.indexByte l c = (m : Int) → splitL c l = l.take m :: splitL c (l.drop (m + 1)) ∧ m < l.length := by
  intro l
  induction l with
  | nil => intro m h; cases h
  | cons x r ih =>
    intro m h
    unfold Lib.indexByte at h
    split at h
    · rename_i e
      have hx : x = c := by simpa using e
      have hm : m = 0 := by omega
      subst hm
      rw [splitL, if_pos hx]
      exact ⟨rfl, by simp⟩
    · rename_i e
      have hx : x ≠ c := by simpa using e
      split at h
      · omega
      · have hg := Lib.indexByte_ge r c
        rename_i e2
        have e3 : ¬ Lib.indexByte r c = -1 := by simpa using e2
        obtain ⟨k, rfl⟩ : ∃ k, m = k + 1 := ⟨m - 1, by omega⟩
        obtain ⟨h1, h2⟩ := ih k (by omega)
        refine ⟨?_, by simp; omega⟩
        rw [splitL, if_neg hx, h1]
        simp
theorem splitL_len (c : UInt8) (l : List UInt8) : (splitL c l).length = Lib.countByte l c + 1 := by
  induction l with
  | nil => rfl
  | cons x r ih =>
    unfold splitL
    by_cases hx : x = c
    · rw [if_pos hx]
      simp only [List.length_cons, ih]
      simp [Lib.countByte, hx]
    · rw [if_neg hx]
      have := splitL_ne c r
      cases h : splitL c r with
      | nil => exact absurd h this
      | cons p ps =>
        rw [h] at ih
        simp only [List.length_cons] at ih ⊢
        rw [ih]
        simp [Lib.countByte, hx]
theorem count_zero (c : UInt8) (l : List UInt8) (h : Lib.countByte l c = 0) : Lib.indexByte l c = -1 := by
  rcases Int.lt_or_le (Lib.indexByte l c) 0 with h1 | h1
  · have := Lib.indexByte_ge l c; omega
  · exfalso
    have h2 := Lib.indexByte_some (l := l) (c := c) (o := (Lib.indexByte l c).toNat) (by omega)
    have : c ∈ l := List.mem_of_getElem? h2.1
    exact List.count_eq_zero.1 h this
theorem count_pos (c : UInt8) (l : List UInt8) (h : 0 < Lib.countByte l c) : ∃ m : Nat, Lib.indexByte l c = (m : Int) := by
  rcases Int.lt_or_le (Lib.indexByte l c) 0 with h1 | h1
  · exfalso
    have h3 : Lib.indexByte l c = -1 := by have := Lib.indexByte_ge l c; omega
    have := Lib.indexByte_none h3
    have h0 : Lib.countByte l c = 0 := List.count_eq_zero.2 (fun hm => by obtain ⟨k, hk, e⟩ := List.mem_iff_getElem.1 hm; exact this k (by rw [List.getElem?_eq_getElem hk, e]))
    omega
  · exact ⟨(Lib.indexByte l c).toNat, by omega⟩
theorem count_step (c : UInt8) (l : List UInt8) (m : Nat) (h : Lib.indexByte l c = (m : Int)) : Lib.countByte l c = Lib.countByte (l.drop (m + 1)) c + 1 := by
  have h1 := splitL_len c l
  rw [(splitL_some c l m h).1, List.length_cons, splitL_len] at h1
  omega
/-- the parts, as strings -/
def splitB (c : UInt8) (s : ByteArray) : List ByteArray := (splitL c s.data.toList).map fun l => ⟨l.toArray⟩
theorem splitB_len (c : UInt8) (s : ByteArray) : (splitB c s).length = Lib.countByte s.data.toList c + 1 := by unfold splitB; rw [List.length_map, splitL_len]
theorem splitB_none (c : UInt8) (s : ByteArray) (h : Lib.countByte s.data.toList c = 0) : splitB c s = [s] := by
  unfold splitB; rw [splitL_none c _ (count_zero c _ h)]; simp
theorem cut_lists (s : ByteArray) (m : Nat) : (s.extract 0 m).data.toList = s.data.toList.take m ∧ (s.extract (m + 1) s.size).data.toList = s.data.toList.drop (m + 1) := by
  refine ⟨by rw [Lib.extract_data]; simp, ?_⟩
  rw [Lib.extract_data, List.take_of_length_le]
  rw [List.length_drop, Lib.size_eq]; omega
theorem bytes_of (s : ByteArray) (l : List UInt8) (h : s.data.toList = l) : (⟨l.toArray⟩ : ByteArray) = s := by
  apply ByteArray.ext; apply Array.toList_inj.1; rw [h]
theorem splitB_some (c : UInt8) (s : ByteArray) (m : Nat) (h : Lib.indexByte s.data.toList c = (m : Int)) : splitB c s = s.extract 0 m :: splitB c (s.extract (m + 1) s.size) ∧ m < s.size := by
  obtain ⟨h1, h2⟩ := splitL_some c _ m h
  obtain ⟨c1, c2⟩ := cut_lists s m
  refine ⟨?_, by rw [Lib.size_eq]; exact h2⟩
  unfold splitB
  rw [h1, List.map_cons, c2]
  congr 1
  exact bytes_of _ _ c1

theorem made_one (z : Value) (hz : z.cells = #[z]) (n : Nat) : madeCells z.cells n = (List.replicate n z).toArray := by
  rw [hz]
  apply Array.ext
  · simp [madeCells]
  · intro i h1 h2
    simp [madeCells, Nat.mod_one]
theorem infoStr1 : (Tryd.prog.info? 9).map (fun i => (i.zero, i.size, i.bytes)) = some (some (.string ⟨#[]⟩), 1, 16) := by kernel_rfl
theorem run_make_strs (n : Nat) (hn : n ≤ 1099511627776) (w : World) : (Instr.makeSlice 28 (.int .i64 ((n : Int) + 1)) (.int .i64 ((n : Int) + 1))).run Tryd.prog w =
    .ok (.slice (some ⟨w.heap.size, 0, none⟩) (n + 1) (n + 1)) (w.alloc (.cells (List.replicate (n + 1) (Value.string ⟨#[]⟩)).toArray 9)) := by
  obtain ⟨i, hi, hz, h1, h2⟩ := info_parts infoStr1
  have h := run_make (P := Tryd.prog) w 28 9 i _ Tryd.underlying28 hi hz .i64 .i64 ((n : Int) + 1) ((n : Int) + 1) (by omega) (Int.le_refl _) (by rw [h2]; omega) (by omega)
  rw [h1, made_one _ rfl, show ((n : Int) + 1).toNat = n + 1 by omega, Nat.mul_one] at h
  exact h
theorem set_mid {α : Type} (a : List α) (k : Nat) (e u : α) : (a ++ List.replicate (k + 1) e).set a.length u = (a ++ [u]) ++ List.replicate k e := by
  rw [List.set_append_right _ _ (Nat.le_refl _), Nat.sub_self, List.replicate_succ]
  simp

theorem ret_sl {A : Option Addr} {n m cap : Nat} (h : n = m) : Ending.returned (.slice A n cap) = .returned (.slice A m cap) := by rw [h]
/-- a list of strings handed back in new memory -/
def StrsPost (L : List ByteArray) (w : World) (e : Ending) (w' : World) : Prop :=
  ∃ A cap, e = .returned (.slice A L.length cap) ∧ Sl Value.string w' A L ∧ (∀ a, A = some a → w.heap.size ≤ a.block ∧ a.block < w'.heap.size) ∧ L.length ≤ cap ∧ Below w.heap.size w w'

set_option maxHeartbeats 4000000 in
theorem genSplit_any (c : UInt8) (s : ByteArray) (w : World) (hs : s.size ≤ 1099511627776) :
    Calls Tryd.prog 33 #[.string s, .string ⟨#[c]⟩, .int .i64 0, .int .i64 (-1)] w (StrsPost (splitB c s) w) := by
  have hC := hide (fun W : World => Tryd.strings_Count_one s c W)
  have hcl : Lib.countByte s.data.toList c ≤ s.size := by rw [Lib.size_eq]; exact List.count_le_length
  obtain ⟨n, hn⟩ : ∃ n, Lib.countByte s.data.toList c = n := ⟨_, rfl⟩
  rw [hn] at hC hcl
  have hnn : (n : Int) + 1 ≤ (s.size : Int) + 1 := by omega
  have Hn := hide hn
  clear hn
  go_enter Tryd.func33, Tryd.ntmps33
  go_wp2_with fail
  refine (hC.out _).mono ?_
  rintro e w1 ⟨rfl, rfl⟩
  have hmk := run_make_strs n (by omega) w1
  have hmin : min (n : Int) (s.size : Int) = (n : Int) := Int.min_eq_left (by omega)
  go_wp2
  clear hmk hmin
  go_loopw [0, 10] (fun t v wr => ∃ (i : Nat) (D : List ByteArray) (R : ByteArray), t = .string R ∧ v = .int .i64 i ∧ D.length = i ∧ splitB c s = D ++ splitB c R ∧ Lib.countByte R.data.toList c + i = n ∧ R.size ≤ s.size ∧
    Row wr w1.heap.size 9 (D.map Value.string ++ List.replicate (n + 1 - i) (Value.string ⟨#[]⟩)).toArray ∧ Below w1.heap.size w1 wr) (fun _ v _ => n - (intOf v).toNat)
  case atStart => exact ⟨0, [], s, rfl, rfl, rfl, rfl, by rw [Hn.out]; rfl, Nat.le_refl _, Row.new _ _ _, (Below.refl _ _).alloc (Nat.le_refl _) _⟩
  case round =>
    obtain ⟨i, D, R, rfl, rfl, hD, hsp, hcn, hRs, hrow, hbr⟩ := hrel
    have Hrow := hide hrow
    have Hbr := hide hbr
    have Hsp := hide hsp
    have hfr := fun j => hrow.frozen j
    clear hrow hbr hsp
    by_cases hlt : i < n
    · obtain ⟨m, hm⟩ := count_pos c R.data.toList (by omega)
      obtain ⟨hs1, hs2⟩ := splitB_some c R m hm
      have hs3 := count_step c R.data.toList m hm
      rw [← (cut_lists R m).2] at hs3
      have HI := hide (fun W : World => Tryd.strings_Index_one R c W)
      rw [hm] at HI
      have Hs1 := hide hs1
      have Hs3 := hide hs3
      have Hcn := hide hcn
      have HD := hide hD
      have hcell : ∃ v0, wr.cell? ⟨w1.heap.size, i, none⟩ = some v0 := by
        rw [Hrow.out.cell i]
        refine ⟨_, Array.getElem?_eq_getElem (by simp; omega)⟩
      obtain ⟨v0, hc0⟩ := hcell
      have hmz : (m : Int) ≤ (R.size : Int) := by omega
      have hmz1 : (m : Int) + 1 ≤ (R.size : Int) := by omega
      have hm0 : (0 : Int) ≤ (m : Int) := by omega
      have hin : (i : Int) < (n : Int) + 1 := by omega
      have hRb : (R.size : Int) ≤ 1099511627776 := by omega
      clear hs1 hs3 hm hcn hD
      go_wp2_with fail
      refine (HI.out _).mono ?_
      rintro e w2 ⟨rfl, rfl⟩
      go_wp2
      go_roundw
      case rel =>
        refine ⟨i + 1, D ++ [R.extract 0 m], R.extract (m + 1) R.size, by first | rfl | simp, by go_num, by simp; exact HD.out, ?_, ?_, ?_, ?_, ?_⟩
        · rw [Hsp.out, Hs1.out]; simp
        · have := Hs3.out; have := Hcn.out; omega
        · rw [ByteArray.size_extract]; omega
        · have h := Hrow.out.set_ i (.string (R.extract 0 m))
          have e : (D.map Value.string ++ List.replicate (n + 1 - i) (Value.string ⟨#[]⟩)).toArray.setIfInBounds i (.string (R.extract 0 m)) = ((D ++ [R.extract 0 m]).map Value.string ++ List.replicate (n + 1 - (i + 1)) (Value.string ⟨#[]⟩)).toArray := by
            have hk : n + 1 - i = (n + 1 - (i + 1)) + 1 := by omega
            have hd := HD.out
            rw [hk]
            have := set_mid (D.map Value.string) (n + 1 - (i + 1)) (Value.string ⟨#[]⟩) (.string (R.extract 0 m))
            rw [List.length_map, hd] at this
            rw [List.map_append, List.map_cons, List.map_nil, ← this]
            simp
          rw [e] at h
          exact h
        · exact Hbr.out.setCell (p := ⟨w1.heap.size, i, none⟩) (Nat.le_refl _) _
      case measure => simp [intOf]; omega
    · obtain rfl : i = n := by omega
      have hc0 : Lib.countByte R.data.toList c = 0 := by omega
      have hfin := splitB_none c R hc0
      rw [hfin] at Hsp
      have hcell : ∃ v0, wr.cell? ⟨w1.heap.size, i, none⟩ = some v0 := by
        rw [Hrow.out.cell i]
        refine ⟨_, Array.getElem?_eq_getElem (by simp; omega)⟩
      obtain ⟨v0, hc0'⟩ := hcell
      have hin : (i : Int) < (i : Int) + 1 := by omega
      have hlen : (splitB c s).length = i + 1 := by rw [Hsp.out]; simp; exact hD
      have HL := hide hlen
      have HD := hide hD
      clear hlen hc0 hfin hcn hD
      go_wp2
      go_ret
      have h := Hrow.out.set_ i (.string R)
      have e : (D.map Value.string ++ List.replicate (i + 1 - i) (Value.string ⟨#[]⟩)).toArray.setIfInBounds i (.string R) = ((D ++ [R]).map Value.string).toArray := by
        have := set_mid (D.map Value.string) 0 (Value.string ⟨#[]⟩) (.string R)
        rw [List.length_map, HD.out] at this
        rw [show i + 1 - i = 0 + 1 by omega, List.map_append, List.map_cons, List.map_nil]
        simp only [List.replicate_zero, List.append_nil] at this
        rw [← this]; simp
      rw [e] at h
      refine ⟨some ⟨w1.heap.size, 0, none⟩, i + 1, ret_sl HL.out.symm, fun _ => ⟨w1.heap.size, 0, rfl, fun j hj => ?_⟩, fun a ha => ?_, by rw [HL.out]; exact Nat.le_refl _, Hbr.out.setCell (p := ⟨w1.heap.size, i, none⟩) (Nat.le_refl _) _⟩
      · rw [Nat.zero_add, h.cell j]
        have hsp := Hsp.out
        simp only [hsp] at hj ⊢
        rw [List.getElem?_toArray, List.getElem?_map, List.getElem?_eq_getElem hj]; rfl
      · cases ha
        exact ⟨Nat.le_refl _, h.lt⟩

theorem Split_any (c : UInt8) (s : ByteArray) (w : World) (hs : s.size ≤ 1099511627776) :
    Calls Tryd.prog 23 #[.string s, .string ⟨#[c]⟩] w (StrsPost (splitB c s) w) := by
  have HG := hide (genSplit_any c s w hs)
  go_enter Tryd.func23, Tryd.ntmps23
  go_wp2_with fail
  refine HG.out.mono ?_
  rintro e w1 ⟨A, cap, rfl, h1, h2, h3, h4⟩
  have H := hide (And.intro h1 (And.intro h2 (And.intro h3 h4)))
  clear h1 h2 h3 h4
  go_wp2
  go_ret
  exact ⟨A, cap, rfl, H.out⟩

theorem splitL_snoc (c : UInt8) : ∀ (l : List UInt8) (x : UInt8) (D : List (List UInt8)) (q : List UInt8), splitL c l = D ++ [q] → splitL c (l ++ [x]) = if x = c then D ++ [q, []] else D ++ [q ++ [x]] := by
  intro l
  induction l with
  | nil =>
    intro x D q h
    have h' : [[]] = D ++ [q] := h
    have hl := congrArg List.length h'
    simp at hl
    subst hl
    simp at h'
    subst h'
    by_cases hx : x = c
    · rw [if_pos hx]; show splitL c [x] = _; unfold splitL; rw [if_pos hx]; rfl
    · rw [if_neg hx]; show splitL c [x] = _; unfold splitL; rw [if_neg hx]; rfl
  | cons y r ih =>
    intro x D q h
    show splitL c (y :: (r ++ [x])) = _
    rw [splitL] at h ⊢
    obtain ⟨D', q', hr⟩ : ∃ D' q', splitL c r = D' ++ [q'] := ⟨_, _, (List.dropLast_concat_getLast (splitL_ne c r)).symm⟩
    have ih' := ih x D' q' hr
    rw [hr] at h
    rw [ih']
    by_cases hy : y = c
    · rw [if_pos hy] at h ⊢
      have h2 : ([] :: D') ++ [q'] = D ++ [q] := h
      obtain ⟨rfl, h3⟩ := List.append_inj' h2 rfl
      simp at h3
      subst h3
      by_cases hx : x = c
      · rw [if_pos hx, if_pos hx]; rfl
      · rw [if_neg hx, if_neg hx]; rfl
    · rw [if_neg hy] at h ⊢
      cases D' with
      | nil =>
        have h2 : [y :: q'] = D ++ [q] := h
        have hl := congrArg List.length h2
        simp at hl
        subst hl
        simp at h2
        subst h2
        by_cases hx : x = c
        · rw [if_pos hx, if_pos hx]; rfl
        · rw [if_neg hx, if_neg hx]; rfl
      | cons p ps =>
        have h2 : ((y :: p) :: ps) ++ [q'] = D ++ [q] := h
        obtain ⟨rfl, h3⟩ := List.append_inj' h2 rfl
        simp at h3
        subst h3
        by_cases hx : x = c
        · rw [if_pos hx, if_pos hx]; rfl
        · rw [if_neg hx, if_neg hx]; rfl
end Go.Proofs.YtdglaabgeigfnaaDoor
