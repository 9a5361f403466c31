/- Slices whose elements are one cell each: opened out of an argument, out of a row of the call's own, kept. No program is named. -/
import Derived.Test.YtcjehiecgdmidaaOpen
import Derived.Test.YtcjehiecgdmidaaRange
import Derived.Deep.AppendLies
import Derived.Laws.OwnMore
namespace Go
open Go.RowKit Go.ChangeShapes Go.WideShapes Go.Deep

/-- the slice at A holds f of each of xs -/
def Sl {α : Type} (f : α → Value) (W : World) (A : Option Addr) (xs : List α) : Prop :=
  0 < xs.length → ∃ b off, A = some ⟨b, off, none⟩ ∧ ∀ i (h : i < xs.length), W.cell? ⟨b, off + i, none⟩ = some (f (xs[i]'h))

section
variable {α : Type} {f : α → Value} {W W' : World} {A : Option Addr} {xs : List α}
theorem Sl.nil (f : α → Value) (W : World) (A : Option Addr) : Sl f W A [] := fun h => absurd h (by simp)
theorem Sl.keep (h : Sl f W A xs) {B : Nat} (hA : ∀ a, A = some a → a.block < B) (hb : Below B W W') : Sl f W' A xs := by
  intro hp
  obtain ⟨b, off, rfl, hat⟩ := h hp
  exact ⟨b, off, rfl, fun i hi => (hb.cell (p := ⟨b, off + i, none⟩) (hA ⟨b, off, none⟩ rfl)).trans (hat i hi)⟩
theorem Sl.lt (h : Sl f W A xs) (hp : 0 < xs.length) : ∀ a, A = some a → a.block < W.heap.size := by
  obtain ⟨b, off, rfl, hat⟩ := h hp
  rintro a ⟨⟩
  exact World.block_lt_of_cell? W _ (hat 0 hp)
/-- kept without a word on the empty one's address -/
theorem Sl.below (h : Sl f W A xs) (hb : Below W.heap.size W W') : Sl f W' A xs := by
  intro hp
  obtain ⟨b, off, rfl, hat⟩ := h hp
  have hbz : b < W.heap.size := World.block_lt_of_cell? W _ (hat 0 hp)
  exact ⟨b, off, rfl, fun i hi => (hb.cell (p := ⟨b, off + i, none⟩) hbz).trans (hat i hi)⟩
/-- the same from a world further back -/
theorem Sl.at (h : Sl f W A xs) {i : Nat} (hi : i < xs.length) : ∃ b off, A = some ⟨b, off, none⟩ ∧ b < W.heap.size ∧ ∀ W', Below W.heap.size W W' → W'.cell? ⟨b, off + i, none⟩ = some (f (xs[i]'hi)) := by
  obtain ⟨b, off, rfl, hat⟩ := h (by omega)
  have hbz : b < W.heap.size := World.block_lt_of_cell? W _ (hat i hi)
  exact ⟨b, off, rfl, hbz, fun W' hb => (hb.cell (p := ⟨b, off + i, none⟩) hbz).trans (hat i hi)⟩

theorem Below_drewN {B : Nat} {a w : World} (h : Below B a w) (n : Nat) : Below B a (w.drewN n) := ⟨h.os, h.tape, h.output, h.size, h.block⟩
theorem ownsRow_mono {w : World} {base base' : Nat} {e : TypeId} {size : Nat} {v : Value} {n : Nat} {xs : List Value} (h : w.ownsRow base e size v n xs) (hb : base' ≤ base) : w.ownsRow base' e size v n xs :=
  ⟨h.1, h.2.imp id fun ⟨g, c, cs, h1, h2, h3⟩ => ⟨g, c, cs, h1, Nat.le_trans hb h2, h3⟩⟩
theorem ownsRow_below {w w' : World} {base : Nat} {e : TypeId} {size : Nat} {v : Value} {n : Nat} {xs : List Value} (h : w.ownsRow base e size v n xs) (hb : Below w.heap.size w w') : w'.ownsRow base e size v n xs :=
  World.ownsRow.kept (row := none) h ⟨hb.os, hb.tape, hb.output, hb.size, fun k hk _ => hb.block k hk⟩ (by cases v.ownBlock <;> simp)
theorem Sl_own {base : Nat} {e : TypeId} {v : Value} {n : Nat} (h : W.ownsRow base e 1 v n (xs.map f)) (hn : n = xs.length) :
    ∃ A cap, v = .slice A n cap ∧ Sl f W A xs ∧ ∀ a, A = some a → base ≤ a.block ∧ a.block < W.heap.size := by
  rcases Nat.eq_zero_or_pos n with h0 | h0
  · obtain ⟨_, h1⟩ := id h
    rcases h1 with ⟨rfl, rfl⟩ | ⟨g, cap, cs, hv, _⟩
    · exact ⟨none, 0, by simp_all, fun hp => absurd hp (by omega), fun a ha => by cases ha⟩
    · refine ⟨_, cap, hv, fun hp => absurd hp (by omega), fun a ha => ?_⟩
      cases ha
      exact World.ownsRow.lt h g (by rw [hv]; rfl)
  · obtain ⟨g, cap, rfl, _⟩ := World.ownsRow.form h h0
    refine ⟨_, cap, rfl, fun hp => ⟨g, 0, rfl, fun i hi => ?_⟩, fun a ha => by cases ha; exact World.ownsRow.lt h g rfl⟩
    rw [Nat.zero_add, World.ownsRow.cellAt h i (by omega), List.getElem?_map, List.getElem?_eq_getElem hi]; rfl
end

section
variable {H : Type} {enc : TypeId × Value → H} {P : Program} {W : World} {base : Nat} {spare : Nat → Bool} {held : Bool} {α : Type} {f : α → Value}
theorem open_sl_cap {t e : TypeId} {fuel : Nat} {a0 : Option Addr} {len cap : Nat} {x : DataW H × List MemPlace} {Q : α → Prop} (ht : P.underlying t = some (.slice e)) (hc : P.cellsOf e = 1)
    (hf : ∀ {n : Nat} {v : Value} {y : DataW H × List MemPlace}, DataW.trod enc P W base spare held n e [v] = some y → ∃ z, v = f z ∧ Q z)
    (h : DataW.trod enc P W base spare held fuel t [.slice a0 len cap] = some x) :
    ∃ zs : List α, zs.length = len ∧ len ≤ maxLen ∧ Sl f W a0 zs ∧ (∀ z ∈ zs, Q z) ∧ len ≤ cap := by
  rcases open_slice1 ht hc h with ⟨hcs, _⟩ | ⟨a, l, c, m, n, V, D, Pl, hcs, hb, hl, hm, hmm, _, hx⟩
  · simp at hcs
    obtain ⟨rfl, rfl, rfl⟩ := hcs
    exact ⟨[], rfl, Nat.zero_le _, Sl.nil _ _ _, (fun z hz => by cases hz), Nat.le_refl _⟩
  · simp at hcs
    obtain ⟨rfl, rfl, rfl⟩ := hcs
    have hlm : len ≤ m := by rw [hmm]; split <;> omega
    obtain ⟨zs, hz, hP⟩ := list_of (n := len) (P := fun i (z : α) => W.cell? (a.add i) = some (f z) ∧ Q z) (fun i hi => by
      obtain ⟨h1, h2⟩ := hx i (by omega)
      obtain ⟨z, hv, hq⟩ := hf h2
      exact ⟨z, by rw [h1, hv], hq⟩)
    refine ⟨zs, hz, by omega, fun hp => ?_, fun z hzm => ?_, hl⟩
    · obtain ⟨b, off, spot⟩ := a
      have h0 := (hP 0 hp).1
      have hs : spot = none := by
        have : (⟨b, off, spot⟩ : Addr).add 0 = ⟨b, off, spot⟩ := by simp [Addr.add]
        rw [this] at h0
        exact World.cell?_spot h0
      subst hs
      refine ⟨b, off, rfl, fun i hi => ?_⟩
      rw [← (hP i hi).1, add_plain]
    · obtain ⟨i, hi, rfl⟩ := List.mem_iff_getElem.1 hzm
      exact (hP i hi).2
theorem open_sl {t e : TypeId} {fuel : Nat} {a0 : Option Addr} {len cap : Nat} {x : DataW H × List MemPlace} {Q : α → Prop} (ht : P.underlying t = some (.slice e)) (hc : P.cellsOf e = 1)
    (hf : ∀ {n : Nat} {v : Value} {y : DataW H × List MemPlace}, DataW.trod enc P W base spare held n e [v] = some y → ∃ z, v = f z ∧ Q z)
    (h : DataW.trod enc P W base spare held fuel t [.slice a0 len cap] = some x) :
    ∃ zs : List α, zs.length = len ∧ len ≤ maxLen ∧ Sl f W a0 zs ∧ ∀ z ∈ zs, Q z := by
  obtain ⟨zs, h1, h2, h3, h4, _⟩ := open_sl_cap ht hc hf h
  exact ⟨zs, h1, h2, h3, h4⟩
theorem open_strsl_cap {t e : TypeId} {fuel : Nat} {a0 : Option Addr} {len cap : Nat} {x : DataW H × List MemPlace} (ht : P.underlying t = some (.slice e)) (he : P.underlying e = some .string) (hc : P.cellsOf e = 1)
    (h : DataW.trod enc P W base spare held fuel t [.slice a0 len cap] = some x) :
    ∃ ss : List ByteArray, ss.length = len ∧ len ≤ maxLen ∧ Sl Value.string W a0 ss ∧ (∀ s ∈ ss, s.size ≤ maxLen) ∧ len ≤ cap :=
  open_sl_cap (Q := fun s : ByteArray => s.size ≤ maxLen) ht hc (fun hy => by
    obtain ⟨s, h1, _, h3⟩ := DataW.trod_string he hy
    exact ⟨s, by simpa using h1, h3⟩) h
theorem open_strsl {t e : TypeId} {fuel : Nat} {a0 : Option Addr} {len cap : Nat} {x : DataW H × List MemPlace} (ht : P.underlying t = some (.slice e)) (he : P.underlying e = some .string) (hc : P.cellsOf e = 1)
    (h : DataW.trod enc P W base spare held fuel t [.slice a0 len cap] = some x) :
    ∃ ss : List ByteArray, ss.length = len ∧ len ≤ maxLen ∧ Sl Value.string W a0 ss ∧ ∀ s ∈ ss, s.size ≤ maxLen :=
  open_sl (Q := fun s : ByteArray => s.size ≤ maxLen) ht hc (fun hy => by
    obtain ⟨s, h1, _, h3⟩ := DataW.trod_string he hy
    exact ⟨s, by simpa using h1, h3⟩) h
theorem open_u8sl {t e : TypeId} {fuel : Nat} {a0 : Option Addr} {len cap : Nat} {x : DataW H × List MemPlace} (ht : P.underlying t = some (.slice e)) (he : P.underlying e = some (.int .u8)) (hc : P.cellsOf e = 1)
    (h : DataW.trod enc P W base spare held fuel t [.slice a0 len cap] = some x) :
    ∃ ns : List Int, ns.length = len ∧ len ≤ maxLen ∧ Sl (Value.int .u8) W a0 ns ∧ ∀ n ∈ ns, 0 ≤ n ∧ n ≤ 255 :=
  open_sl (Q := fun n : Int => 0 ≤ n ∧ n ≤ 255) ht hc (fun hy => by
    obtain ⟨n, h1, _, h3⟩ := DataW.trod_int he hy
    exact ⟨n, by simpa using h1, u8_bounds h3⟩) h
end
end Go
