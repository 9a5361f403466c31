/- A slice of words among the arguments, opened. -/
import Derived.Test.YtbhmgooohhgpaaaDoorLexJ
import Derived.Test.YtbhmgooohhgpaaaDoorOpen
namespace Go.Proofs.YtbhmgooohhgpaaaDoor
open Go.RowKit Go.ChangeShapes Go.WideShapes Go.Deep

theorem wordsOf_len (s : ByteArray) : (wordsOf s).length ≤ s.size := scanW_len _ _

theorem fieldsWord : ∃ fs, Tryd.prog.underlying 28 = some (.struct fs) ∧ oneCellFields Tryd.prog fs = true ∧ Tryd.prog.cellsOf 28 = fs.size ∧ fs.size = 4 ∧ fs.map (·.type) = #[9, 3, 3, 3] := ⟨_, Tryd.underlying28, by kernel_rfl, by kernel_rfl, rfl, by simp⟩

section
variable {H : Type} {enc : TypeId × Value → H} {W : World}
theorem open_words {fuel : Nat} {a0 : Option Addr} {len cap base : Nat} {spare : Nat → Bool} {held : Bool} {x : DataW H × List MemPlace} (h : DataW.trod enc Tryd.prog W base spare held fuel 23 [.slice a0 len cap] = some x) :
    ∃ ws : List Wd, ws.length = len ∧ len ≤ maxLen ∧ WSl W a0 ws := by
  obtain ⟨fs, hfs, h1, hC, h4, hty⟩ := fieldsWord
  obtain ⟨hlen, hel⟩ := flat_slice Tryd.underlying23 hfs h1 hC h (by omega)
  rcases Nat.eq_zero_or_pos len with h0 | h0
  · exact ⟨[], h0.symm, hlen, fun h => absurd h (by simp)⟩
  · obtain ⟨b, off, rfl, hat⟩ := hel h0
    rw [h4] at hat
    have ty : ∀ j, j < 4 → ∃ f, fs[j]? = some f ∧ f.type = #[9, 3, 3, 3].getD j 0 := by
      intro j hj
      refine ⟨fs[j]'(by omega), Array.getElem?_eq_getElem _, ?_⟩
      rw [← hty]; simp [h4, hj]
    obtain ⟨l, hl, hP⟩ := list_of (n := len) (P := fun i (x : Wd) => W.cell? ⟨b, off + i * 4, none⟩ = some (.string x.1) ∧ W.cell? ⟨b, off + i * 4 + 1, none⟩ = some (.int .i64 x.2.1) ∧
        W.cell? ⟨b, off + i * 4 + 2, none⟩ = some (.int .i64 x.2.2.1) ∧ W.cell? ⟨b, off + i * 4 + 3, none⟩ = some (.int .i64 x.2.2.2)) (fun i hi => by
      obtain ⟨f0, g0, e0⟩ := ty 0 (by omega)
      obtain ⟨f1, g1, e1⟩ := ty 1 (by omega)
      obtain ⟨f2, g2, e2⟩ := ty 2 (by omega)
      obtain ⟨f3, g3, e3⟩ := ty 3 (by omega)
      obtain ⟨v0, y0, n0, c0, t0⟩ := hat i hi 0 f0 g0
      obtain ⟨v1, y1, n1, c1, t1⟩ := hat i hi 1 f1 g1
      obtain ⟨v2, y2, n2, c2, t2⟩ := hat i hi 2 f2 g2
      obtain ⟨v3, y3, n3, c3, t3⟩ := hat i hi 3 f3 g3
      rw [e0] at t0; rw [e1] at t1; rw [e2] at t2; rw [e3] at t3
      obtain ⟨s0, q0, _, _⟩ := DataW.trod_string Tryd.underlying9 t0
      obtain ⟨s1, q1, _, _⟩ := DataW.trod_int Tryd.underlying3 t1
      obtain ⟨s2, q2, _, _⟩ := DataW.trod_int Tryd.underlying3 t2
      obtain ⟨s3, q3, _, _⟩ := DataW.trod_int Tryd.underlying3 t3
      simp only [List.cons.injEq, and_true] at q0 q1 q2 q3
      subst q0 q1 q2 q3
      exact ⟨(s0, s1, s2, s3), c0, c1, c2, c3⟩)
    exact ⟨l, hl, hlen, fun _ => ⟨b, off, rfl, hP⟩⟩
end
end Go.Proofs.YtbhmgooohhgpaaaDoor
