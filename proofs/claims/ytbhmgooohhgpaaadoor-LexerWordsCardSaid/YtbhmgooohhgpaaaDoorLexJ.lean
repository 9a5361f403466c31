/- Same of the reference; the examples ('awake'). -/
import Derived.Test.YtbhmgooohhgpaaaDoorLexI
import Derived.Deep.AppendLies
namespace Go.Proofs.YtbhmgooohhgpaaaDoor
open Go.RowKit Go.Shelf

def wd (s : ByteArray) (p : Nat × Nat) : Wd := (s.extract p.1 p.2, p.1, (pl s.data.toList p.1).2.1, (pl s.data.toList p.1).2.2)
theorem wcs_at (s : ByteArray) (ps : List (Nat × Nat)) (i : Nat) (h : i < ps.length) (j : Nat) (hj : j < 4) : (wcs s ps)[i * 4 + j]? = (wc s ps[i])[j]? := by
  obtain ⟨p, hp⟩ : ∃ p, ps[i] = p := ⟨_, rfl⟩
  have hq : ps = ps.take i ++ p :: ps.drop (i + 1) := by rw [← hp]; simp
  have hl : (ps.take i).length = i := by simp; omega
  have e : wcs s ps = wcs s (ps.take i) ++ (wc s p ++ wcs s (ps.drop (i + 1))) := by
    conv => lhs; rw [hq]
    simp [wcs]
  have := wcs_end s (ps.take i) (wc s p ++ wcs s (ps.drop (i + 1))) j
  rw [hl] at this
  rw [hp, e, this, List.getElem?_append_left (by simp [wc]; omega)]
theorem WSl_own {W : World} {base : Nat} {v : Value} {s : ByteArray} {ps : List (Nat × Nat)} (h : W.ownsRow base 28 4 v ps.length (wcs s ps)) :
    ∃ A cap, v = .slice A (ps.map (wd s)).length cap ∧ WSl W A (ps.map (wd s)) := by
  rcases Nat.eq_zero_or_pos ps.length with h0 | h0
  · have hps : ps = [] := List.eq_nil_of_length_eq_zero h0
    subst hps
    rcases h.2 with ⟨rfl, _⟩ | ⟨g, cap, cur, rfl, _⟩
    · exact ⟨none, 0, rfl, fun h => absurd h (by simp)⟩
    · exact ⟨_, cap, rfl, fun h => absurd h (by simp)⟩
  · obtain ⟨g, cap, rfl, hb, hg⟩ := h.form h0
    refine ⟨some ⟨g, 0, none⟩, cap, by simp, fun _ => ⟨g, 0, rfl, fun i hi => ?_⟩⟩
    have hi' : i < ps.length := by simpa using hi
    have f : ∀ j, j < 4 → W.cell? ⟨g, i * 4 + j, none⟩ = (wc s ps[i])[j]? := fun j hj => (h.cellAt (i * 4 + j) (by omega)).trans (wcs_at s ps i hi' j hj)
    simp only [List.getElem_map, Nat.zero_add]
    exact ⟨f 0 (by omega), f 1 (by omega), f 2 (by omega), f 3 (by omega)⟩
theorem WSl.keep {W W' : World} {A : Option Addr} {ws : List Wd} (h : WSl W A ws) {B : Nat} (hA : ∀ a, A = some a → a.block < B) (hb : Below B W W') : WSl W' A ws := by
  intro hn
  obtain ⟨b, off, rfl, hc⟩ := h hn
  have hlt : b < B := hA _ rfl
  refine ⟨b, off, rfl, fun i hi => ?_⟩
  obtain ⟨c0, c1, c2, c3⟩ := hc i hi
  exact ⟨(hb.cell (p := ⟨b, _, none⟩) hlt).trans c0, (hb.cell (p := ⟨b, _, none⟩) hlt).trans c1, (hb.cell (p := ⟨b, _, none⟩) hlt).trans c2, (hb.cell (p := ⟨b, _, none⟩) hlt).trans c3⟩

def exA : ByteArray := ⟨#[10, 32, 32, 36, 101, 110, 100]⟩
def exB : ByteArray := ⟨#[36, 99, 111, 109, 109, 101, 110, 116, 32, 97, 32, 36, 101, 110, 100, 32, 36, 101, 110, 100]⟩
def exC : ByteArray := ⟨#[36, 101, 110, 100]⟩
theorem exA_words : wordsOf exA = [(3, 7)] := by decide +kernel
theorem exA_cells : wcs exA [(3, 7)] = [.string exC, .int .i64 3, .int .i64 2, .int .i64 3] := by
  have e1 : exA.extract 3 7 = exC := by decide +kernel
  have e2 : (pl exA.data.toList 3).2.1 = 2 := by decide +kernel
  have e3 : (pl exA.data.toList 3).2.2 = 3 := by decide +kernel
  simp [wcs, wc, e1, e2, e3]
theorem exA_posS : posS exA 3 = (2, 3) := by decide +kernel
theorem exB_sec : secS ((wordsOf exB).map (wd exB)) 0 = (3, true) := by decide +kernel
theorem exB_len : ((wordsOf exB).map (wd exB)).length = 4 := by decide +kernel
theorem exC_print : wordPrint exC = true := by decide +kernel

set_option maxHeartbeats 1000000 in
theorem awake_any (w : World) : Calls Tryd.prog 4 #[] w fun e w' => e = .returned (.bool true) ∧ Below w.heap.size w w' := by
  go_enter Tryd.func4, Tryd.ntmps4
  go_wp2_with fail
  refine (Scan_any exA (by decide) _).mono ?_
  rintro e w1 ⟨v1, rfl, hown1, hb1⟩
  rw [exA_words, exA_cells] at hown1
  obtain ⟨g, cap, rfl⟩ := ownsRow_succ hown1
  go_wp2_with fail
  refine (Scan_any exB (by decide) _).mono ?_
  rintro e w2 ⟨v2, rfl, hown2, hb2⟩
  have hown1' := ownsRow_same hown1 (fun b hb => hb2.block b ((hown1.lt b hb).2))
  have c0 : w2.cell? ⟨g, 0, none⟩ = some (.string exC) := hown1'.cellAt 0 (by decide)
  have c1 : w2.cell? ⟨g, 1, none⟩ = some (.int .i64 3) := hown1'.cellAt 1 (by decide)
  have c2 : w2.cell? ⟨g, 2, none⟩ = some (.int .i64 2) := hown1'.cellAt 2 (by decide)
  have c3 : w2.cell? ⟨g, 3, none⟩ = some (.int .i64 3) := hown1'.cellAt 3 (by decide)
  obtain ⟨A, cap2, rfl, hwsl⟩ := WSl_own hown2
  have hl := exB_len
  have Hl := hide hl
  clear hl
  unfold exC at c0
  go_wp2_with fail
  refine (Section_any A _ cap2 _ 0 w2 hwsl (by simp) (by rw [Hl.out]; decide) (by decide) (by decide)).mono ?_
  rintro e w3 ⟨rfl, rfl⟩
  rw [exB_sec]
  go_wp2_with fail
  refine (Position_any exA (by decide) 3 _).mono ?_
  rintro e w3 ⟨rfl, hb3⟩
  rw [exA_posS]
  go_wp2_with fail
  refine (Printable_any exC (by decide) _).mono ?_
  rintro e w4 ⟨rfl, hb4⟩
  rw [exC_print]
  go_wp2_with fail
  go_ret
  have z1 := hb1.size
  have z2 := hb2.size
  have z3 := hb3.size
  exact ⟨rfl, ((hb1.trans (hb2.mono z1)).trans (hb3.mono (by omega))).trans (hb4.mono (by omega))⟩
end Go.Proofs.YtbhmgooohhgpaaaDoor
