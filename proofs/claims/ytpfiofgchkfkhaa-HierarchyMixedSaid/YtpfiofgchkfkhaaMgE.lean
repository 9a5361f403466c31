/- MgE: the texts HiA HiB HiC HiD HiE HiF in one. -/
import Derived.Test.YtpfiofgchkfkhaaMgD
import Derived.Test.YtpfiofgchkfkhaaMgC
import Derived.Test.YtpfiofgchkfkhaaMgA
import Derived.Maps.Keyed
import Derived.DeepKeys4
import Derived.RegionIn
/- Scopes and variables as data; slices of structs whose fields are one cell each. -/
set_option linter.unusedVariables false
set_option linter.unusedSimpArgs false
namespace Go
open Go.RowKit
/-- the slice at A holds xs, each of k cells -/
def FlS {α : Type} (enc : α → List Value) (k : Nat) (W : World) (A : Option Addr) (xs : List α) : Prop :=
  0 < xs.length → ∃ b off, A = some ⟨b, off, none⟩ ∧ ∀ i (h : i < xs.length) j, j < k → W.cell? ⟨b, off + i * k + j, none⟩ = (enc xs[i])[j]?
section
variable {α : Type} {enc : α → List Value} {k : Nat} {W W' : World} {A : Option Addr} {xs : List α}
theorem FlS.at (h : FlS enc k W A xs) (hk : ∀ x, (enc x).length = k) (k0 : 0 < k) {i : Nat} (hi : i < xs.length) :
    ∃ b off, A = some ⟨b, off, none⟩ ∧ b < W.heap.size ∧ ∀ W', Below W.heap.size W W' → ∀ j, j < k → W'.cell? ⟨b, off + i * k + j, none⟩ = (enc xs[i])[j]? := by
  obtain ⟨b, off, rfl, hat⟩ := id h (by omega)
  have hbz : b < W.heap.size := by
    have h1 := hat i hi 0 k0
    rw [List.getElem?_eq_getElem (by rw [hk]; exact k0)] at h1
    exact World.block_lt_of_cell? W _ h1
  exact ⟨b, off, rfl, hbz, fun W' hb j hj => (hb.cell (p := ⟨b, _, none⟩) hbz).trans (hat i hi j hj)⟩
theorem FlS.below (h : FlS enc k W A xs) (hk : ∀ x, (enc x).length = k) (k0 : 0 < k) (hb : Below W.heap.size W W') : FlS enc k W' A xs := by
  intro hp
  obtain ⟨b, off, rfl, hat⟩ := h hp
  have hbz : b < W.heap.size := by
    have h1 := hat 0 hp 0 k0
    rw [List.getElem?_eq_getElem (by rw [hk]; exact k0)] at h1
    exact World.block_lt_of_cell? W _ h1
  exact ⟨b, off, rfl, fun i hi j hj => (hb.cell (p := ⟨b, _, none⟩) hbz).trans (hat i hi j hj)⟩
theorem flat_get (hk : ∀ x, (enc x).length = k) : ∀ (xs : List α) (i : Nat) (h : i < xs.length) (j : Nat), j < k → (xs.flatMap enc)[i * k + j]? = (enc xs[i])[j]?
  | x :: xs, 0, _, j, hj => by
    rw [List.flatMap_cons, Nat.zero_mul, Nat.zero_add, List.getElem?_append_left (by rw [hk]; exact hj)]; rfl
  | x :: xs, i + 1, h, j, hj => by
    rw [List.flatMap_cons, List.getElem?_append_right (by rw [hk, Nat.succ_mul]; omega), hk, show (i + 1) * k + j - k = i * k + j by rw [Nat.succ_mul]; omega]
    exact flat_get hk xs i (by simpa using h) j hj
theorem flat_len (hk : ∀ x, (enc x).length = k) : ∀ xs : List α, (xs.flatMap enc).length = xs.length * k
  | [] => by simp
  | x :: xs => by rw [List.flatMap_cons, List.length_append, hk, flat_len hk xs, List.length_cons, Nat.succ_mul]; omega
theorem FlS.own {base : Nat} {t : TypeId} {v : Value} (hk : ∀ x, (enc x).length = k) (h : W.ownsRow base t k v xs.length (xs.flatMap enc)) :
    ∃ A cap, v = .slice A xs.length cap ∧ FlS enc k W A xs := by
  rcases Nat.eq_zero_or_pos xs.length with h0 | h0
  · obtain ⟨_, h2⟩ := h
    rcases h2 with ⟨rfl, _⟩ | ⟨g, cap, cs, rfl, _⟩
    · exact ⟨none, 0, by rw [h0], fun hp => absurd hp (by omega)⟩
    · exact ⟨_, cap, rfl, fun hp => absurd hp (by omega)⟩
  · obtain ⟨g, cap, rfl, _⟩ := World.ownsRow.form h h0
    refine ⟨_, cap, rfl, fun hp => ⟨g, 0, rfl, fun i hi j hj => ?_⟩⟩
    have hlt : i * k + j < xs.length * k := by
      have := Nat.mul_le_mul_right k (show i + 1 ≤ xs.length from hi)
      rw [Nat.add_mul, Nat.one_mul] at this; omega
    rw [show 0 + i * k + j = i * k + j by omega, World.ownsRow.cellAt h (i * k + j) hlt, flat_get hk xs i hi j hj]
theorem FlS.new {g : Nat} {t : TypeId} (hk : ∀ x, (enc x).length = k) (h : Row W g t (xs.flatMap enc).toArray) : FlS enc k W (some ⟨g, 0, none⟩) xs := fun hp =>
  ⟨g, 0, rfl, fun i hi j hj => by rw [show 0 + i * k + j = i * k + j by omega, h.cell, List.getElem?_toArray, flat_get hk xs i hi j hj]⟩
end
end Go
namespace Go.Proofs.Ytpfiofgchkfkhaa
open Go.RowKit Go.Shelf Go.ChangeShapes Go.WideShapes Go.Deep
structure Sc where
  name : ByteArray
  typ : Int
  parent : Int
structure Va where
  name : ByteArray
  typ : Int
  scope : Int
  signal : Int
  ranged : Bool
  msb : Int
  lsb : Int
instance : DecidableEq Sc := fun a b => decidable_of_iff (a.name = b.name ∧ a.typ = b.typ ∧ a.parent = b.parent) (by cases a; cases b; simp)
instance : DecidableEq Va := fun a b => decidable_of_iff (a.name = b.name ∧ a.typ = b.typ ∧ a.scope = b.scope ∧ a.signal = b.signal ∧ a.ranged = b.ranged ∧ a.msb = b.msb ∧ a.lsb = b.lsb) (by cases a; cases b; simp)
instance : Inhabited Va := ⟨⟨⟨#[]⟩, 0, 0, 0, false, 0, 0⟩⟩
instance : Inhabited Sc := ⟨⟨⟨#[]⟩, 0, 0⟩⟩
def scE (x : Sc) : List Value := [.string x.name, .int .i64 x.typ, .int .i64 x.parent]
def vaE (x : Va) : List Value := [.string x.name, .int .i64 x.typ, .int .i64 x.scope, .int .i64 x.signal, .bool x.ranged, .int .i64 x.msb, .int .i64 x.lsb]
theorem scE_len (x : Sc) : (scE x).length = 3 := rfl
theorem vaE_len (x : Va) : (vaE x).length = 7 := rfl
abbrev ScS (W : World) (A : Option Addr) (xs : List Sc) : Prop := FlS scE 3 W A xs
abbrev VaS (W : World) (A : Option Addr) (xs : List Va) : Prop := FlS vaE 7 W A xs
def scV (x : Sc) : Value := .agg #[.string x.name, .int .i64 x.typ, .int .i64 x.parent]
def vaV (x : Va) : Value := .agg #[.string x.name, .int .i64 x.typ, .int .i64 x.scope, .int .i64 x.signal, .bool x.ranged, .int .i64 x.msb, .int .i64 x.lsb]
theorem sc_at {W : World} {A : Option Addr} {xs : List Sc} (h : ScS W A xs) {i : Nat} (hi : i < xs.length) :
    ∃ b off, A = some ⟨b, off, none⟩ ∧ b < W.heap.size ∧ ∀ W', Below W.heap.size W W' → W'.cell? ⟨b, off + i * 3, none⟩ = some (.string xs[i].name) ∧ W'.cell? ⟨b, off + i * 3 + 1, none⟩ = some (.int .i64 xs[i].typ) ∧ W'.cell? ⟨b, off + i * 3 + 2, none⟩ = some (.int .i64 xs[i].parent) := by
  obtain ⟨b, off, rfl, hbz, hat⟩ := FlS.at h scE_len (by decide) hi
  exact ⟨b, off, rfl, hbz, fun W' hb => ⟨hat W' hb 0 (by decide), hat W' hb 1 (by decide), hat W' hb 2 (by decide)⟩⟩
theorem va_at {W : World} {A : Option Addr} {xs : List Va} (h : VaS W A xs) {i : Nat} (hi : i < xs.length) :
    ∃ b off, A = some ⟨b, off, none⟩ ∧ b < W.heap.size ∧ ∀ W', Below W.heap.size W W' → W'.cell? ⟨b, off + i * 7, none⟩ = some (.string xs[i].name) ∧ W'.cell? ⟨b, off + i * 7 + 1, none⟩ = some (.int .i64 xs[i].typ) ∧ W'.cell? ⟨b, off + i * 7 + 2, none⟩ = some (.int .i64 xs[i].scope) ∧
      W'.cell? ⟨b, off + i * 7 + 3, none⟩ = some (.int .i64 xs[i].signal) ∧ W'.cell? ⟨b, off + i * 7 + 4, none⟩ = some (.bool xs[i].ranged) ∧ W'.cell? ⟨b, off + i * 7 + 5, none⟩ = some (.int .i64 xs[i].msb) ∧ W'.cell? ⟨b, off + i * 7 + 6, none⟩ = some (.int .i64 xs[i].lsb) := by
  obtain ⟨b, off, rfl, hbz, hat⟩ := FlS.at h vaE_len (by decide) hi
  exact ⟨b, off, rfl, hbz, fun W' hb => ⟨hat W' hb 0 (by decide), hat W' hb 1 (by decide), hat W' hb 2 (by decide), hat W' hb 3 (by decide), hat W' hb 4 (by decide), hat W' hb 5 (by decide), hat W' hb 6 (by decide)⟩⟩
theorem sc_below {W W' : World} {A : Option Addr} {xs : List Sc} (h : ScS W A xs) (hb : Below W.heap.size W W') : ScS W' A xs := FlS.below h scE_len (by decide) hb
theorem va_below {W W' : World} {A : Option Addr} {xs : List Va} (h : VaS W A xs) (hb : Below W.heap.size W W') : VaS W' A xs := FlS.below h vaE_len (by decide) hb
theorem infoSc : (Try.prog.info? 49).map (fun i => (i.zero, i.size, i.bytes)) = some (some (.agg #[.string ⟨#[]⟩, .int .i64 0, .int .i64 0]), 3, 32) := by kernel_rfl
theorem infoVa : (Try.prog.info? 29).map (fun i => (i.zero, i.size, i.bytes)) = some (some (.agg #[.string ⟨#[]⟩, .int .i64 0, .int .i64 0, .int .i64 0, .bool false, .int .i64 0, .int .i64 0]), 7, 64) := by kernel_rfl
/-- numbers that an int holds -/
def In64 (n : Int) : Prop := -9223372036854775808 ≤ n ∧ n ≤ 9223372036854775807
structure ScOk (x : Sc) : Prop where
  typ : In64 x.typ
  parent : In64 x.parent
  name : x.name.size ≤ maxLen
structure VaOk (x : Va) : Prop where
  typ : In64 x.typ
  scope : In64 x.scope
  signal : In64 x.signal
  msb : In64 x.msb
  lsb : In64 x.lsb
  name : x.name.size ≤ maxLen
theorem fieldsSc : ∃ fs, Try.prog.underlying 49 = some (.struct fs) ∧ oneCellFields Try.prog fs = true ∧ Try.prog.cellsOf 49 = fs.size ∧ fs.size = 3 ∧ fs.map (·.type) = #[9, 3, 3] := ⟨_, Try.underlying49, by kernel_rfl, by kernel_rfl, rfl, by simp⟩
theorem fieldsVa : ∃ fs, Try.prog.underlying 29 = some (.struct fs) ∧ oneCellFields Try.prog fs = true ∧ Try.prog.cellsOf 29 = fs.size ∧ fs.size = 7 ∧ fs.map (·.type) = #[9, 3, 3, 3, 4, 3, 3] := ⟨_, Try.underlying29, by kernel_rfl, by kernel_rfl, rfl, by simp⟩
end Go.Proofs.Ytpfiofgchkfkhaa

/- Maps as lists of entries, whatever the key's type. -/
set_option linter.unusedVariables false
set_option linter.unusedSimpArgs false
namespace Go
open Go.RowKit Go.Maps
/-- block r is a map with these entries, in this order -/
def MpW (W : World) (r : Nat) (l : List (Value × Value)) : Prop := ∃ es clock, W.heap[r]? = some (.map es clock) ∧ es.toList.map (fun e => (e.key, e.val)) = l
theorem MpW.lt {W : World} {r : Nat} {l : List (Value × Value)} (h : MpW W r l) : r < W.heap.size := by
  obtain ⟨es, c, h, _⟩ := h
  exact (Array.getElem?_eq_some_iff.1 h).1
theorem MpW.below {W W' : World} {r B : Nat} {l : List (Value × Value)} (h : MpW W r l) (hb : Below B W W') (hr : r < B) : MpW W' r l := by
  obtain ⟨es, c, h, hl⟩ := h
  exact ⟨es, c, (hb.block r hr).trans h, hl⟩
theorem MpW.keep {C : Nat → Prop} {W W' : World} {r : Nat} {l : List (Value × Value)} (h : MpW W r l) (hk : Keeps C W W') (hr : ¬ C r) : MpW W' r l := by
  obtain ⟨es, c, h, hl⟩ := h
  exact ⟨es, c, (hk.block r ((Array.getElem?_eq_some_iff.1 h).1) hr).trans h, hl⟩
theorem MpW.of_eq {W W' : World} {r : Nat} {l : List (Value × Value)} (h : MpW W r l) (hk : W'.heap[r]? = W.heap[r]?) : MpW W' r l := by
  obtain ⟨es, c, h, hl⟩ := h
  exact ⟨es, c, hk.trans h, hl⟩
theorem MpW.made (W : World) : MpW (W.alloc (.map #[] 0)) W.heap.size [] := ⟨#[], 0, (MapKept.heap_alloc W _).1, rfl⟩
/-- what a list of entries has at a key -/
def mget [DecidableEq Value] (l : List (Value × Value)) (x : Value) : Option Value := (l.find? fun p => p.1 = x).map (·.2)
/-- the list with a key's value set -/
def Mset (l l' : List (Value × Value)) (x v : Value) : Prop :=
  ((∀ p ∈ l, p.1 ≠ x) ∧ l' = l ++ [(x, v)]) ∨ ∃ a b u, l = a ++ (x, u) :: b ∧ l' = a ++ (x, v) :: b
section
variable {P : Program} {W : World} {r : Nat} {l : List (Value × Value)} {mt kt et : TypeId}
theorem find_entries (K : Keyed P kt) (h : MpW W r l) (hk : ∀ p ∈ l, ∃ y, keyOf P kt p.1 = some y) {x : Value} {lx : Lit} (hx : keyOf P kt x = some lx) :
    ∃ es clock, W.heap[r]? = some (.map es clock) ∧ es.toList.map (fun e => (e.key, e.val)) = l ∧
      (((Instr.findKey kt x es.toList).run P W = .ok none W ∧ ∀ p ∈ l, p.1 ≠ x) ∨ ∃ j e, (Instr.findKey kt x es.toList).run P W = .ok (some (j, e.val)) W ∧ es.toList[j]? = some e ∧ e.key = x ∧ l[j]? = some (x, e.val)) := by
  obtain ⟨es, clock, hh, hl⟩ := h
  refine ⟨es, clock, hh, hl, ?_⟩
  have hke : ∀ e ∈ es.toList, ∃ y, keyOf P kt e.key = some y := fun e he => hk (e.key, e.val) (by rw [← hl]; exact List.mem_map.2 ⟨e, he, rfl⟩)
  rcases K.find W hx es.toList hke with ⟨h1, h2⟩ | ⟨j, e, h1, h2, h3⟩
  · left
    refine ⟨h1, fun p hp => ?_⟩
    rw [← hl] at hp
    obtain ⟨e, he, rfl⟩ := List.mem_map.1 hp
    exact h2 e he
  · right
    refine ⟨j, e, h1, h2, h3, ?_⟩
    rw [← hl, List.getElem?_map, h2]
    simp [h3]
/-- m[x] where x is there -/
theorem run_look_in (K : Keyed P kt) (hm : P.underlying mt = some (.map kt et)) (h : MpW W r l) (hk : ∀ p ∈ l, ∃ y, keyOf P kt p.1 = some y) (hd : l.Pairwise fun p q => p.1 ≠ q.1) {x v : Value} {lx : Lit} (hx : keyOf P kt x = some lx) (hin : (x, v) ∈ l) (ok : Bool) :
    (Instr.lookup mt (.map (some r)) x ok).run P W = .ok (if ok then .tuple #[v, .bool true] else v) W := by
  obtain ⟨es, clock, hh, hl, hf⟩ := find_entries K h hk hx
  rcases hf with ⟨_, h2⟩ | ⟨j, e, h1, h2, h3, h4⟩
  · exact absurd rfl (h2 (x, v) hin)
  · have hv : e.val = v := by
      obtain ⟨i, hi⟩ := List.mem_iff_getElem?.1 hin
      rcases Nat.lt_trichotomy i j with hij | hij | hij
      · obtain ⟨a1, a2⟩ := List.getElem?_eq_some_iff.1 hi
        obtain ⟨b1, b2⟩ := List.getElem?_eq_some_iff.1 h4
        have := List.pairwise_iff_getElem.1 hd i j a1 b1 hij
        rw [a2, b2] at this
        exact absurd rfl this
      · subst hij
        rw [hi] at h4
        exact (congrArg Prod.snd (Option.some.inj h4)).symm
      · obtain ⟨a1, a2⟩ := List.getElem?_eq_some_iff.1 hi
        obtain ⟨b1, b2⟩ := List.getElem?_eq_some_iff.1 h4
        have := List.pairwise_iff_getElem.1 hd j i b1 a1 hij
        rw [a2, b2] at this
        exact absurd rfl this
    have hc := K.check W es.isEmpty hx
    subst hv
    cases ok <;> simp [Instr.lookup, run_underlying hm, MapKept.run_getObj_map hh, hc, h1, Result.andThen]
/-- m[x] where x is not there -/
theorem run_look_out (K : Keyed P kt) (hm : P.underlying mt = some (.map kt et)) (h : MpW W r l) (hk : ∀ p ∈ l, ∃ y, keyOf P kt p.1 = some y) {x z : Value} {lx : Lit} (hx : keyOf P kt x = some lx) (hout : ∀ p ∈ l, p.1 ≠ x) (hz : (zeroValue et).run P W = .ok z W) (ok : Bool) :
    (Instr.lookup mt (.map (some r)) x ok).run P W = .ok (if ok then .tuple #[z, .bool false] else z) W := by
  obtain ⟨es, clock, hh, hl, hf⟩ := find_entries K h hk hx
  rcases hf with ⟨h1, _⟩ | ⟨j, e, _, _, _, h4⟩
  · have hc := K.check W es.isEmpty hx
    cases ok <;> simp [Instr.lookup, run_underlying hm, MapKept.run_getObj_map hh, hc, h1, hz, Result.andThen]
  · exact absurd rfl (hout _ (List.mem_of_getElem? h4))
/-- m[x] = v where x is new -/
theorem run_put_new (K : Keyed P kt) (hm : P.underlying mt = some (.map kt et)) (h : MpW W r l) (hk : ∀ p ∈ l, ∃ y, keyOf P kt p.1 = some y) {x : Value} {lx : Lit} (hx : keyOf P kt x = some lx) (hout : ∀ p ∈ l, p.1 ≠ x) (v : Value) :
    ∃ W', (Instr.mapUpdate mt (.map (some r)) x v).run P W = .ok () W' ∧ MpW W' r (l ++ [(x, v)]) ∧ Keeps (fun b => b = r) W W' ∧ W'.heap.size = W.heap.size := by
  obtain ⟨es, clock, hh, hl, hf⟩ := find_entries K h hk hx
  rcases hf with ⟨h1, _⟩ | ⟨j, e, _, _, _, h4⟩
  · have hc := K.check W false hx
    refine ⟨{ W with heap := W.heap.setIfInBounds r (.map (es.push { key := x, val := v, born := clock }) (clock + 1)) }, by simp [Instr.mapUpdate, run_underlying hm, MapKept.run_getObj_map hh, hc, h1, MapKept.run_setObj_map _ hh, Result.andThen], ⟨_, _, (MapKept.heap_set hh).1, by simp [hl]⟩, ⟨rfl, rfl, rfl, by simp, fun b hb hn => (MapKept.heap_set hh).2 b hn⟩, by simp⟩
  · exact absurd rfl (hout _ (List.mem_of_getElem? h4))
/-- m[x] = v where x is there -/
theorem run_put_old (K : Keyed P kt) (hm : P.underlying mt = some (.map kt et)) (h : MpW W r l) (hk : ∀ p ∈ l, ∃ y, keyOf P kt p.1 = some y) {x : Value} {lx : Lit} (hx : keyOf P kt x = some lx) {a b : List (Value × Value)} {u : Value} (hl0 : l = a ++ (x, u) :: b) (hd : l.Pairwise fun p q => p.1 ≠ q.1) (v : Value) :
    ∃ W', (Instr.mapUpdate mt (.map (some r)) x v).run P W = .ok () W' ∧ MpW W' r (a ++ (x, v) :: b) ∧ Keeps (fun b => b = r) W W' ∧ W'.heap.size = W.heap.size := by
  obtain ⟨es, clock, hh, hl, hf⟩ := find_entries K h hk hx
  have hin : l[a.length]? = some (x, u) := by rw [hl0, List.getElem?_append_right (Nat.le_refl _), Nat.sub_self]; rfl
  rcases hf with ⟨_, h2⟩ | ⟨j, e, h1, h2, h3, h4⟩
  · exact absurd rfl (h2 _ (List.mem_of_getElem? hin))
  · have hj : j = a.length := by
      obtain ⟨a1, a2⟩ := List.getElem?_eq_some_iff.1 hin
      obtain ⟨b1, b2⟩ := List.getElem?_eq_some_iff.1 h4
      rcases Nat.lt_trichotomy j a.length with hij | hij | hij
      · have := List.pairwise_iff_getElem.1 hd j a.length b1 a1 hij
        rw [a2, b2] at this
        exact absurd rfl this
      · exact hij
      · have := List.pairwise_iff_getElem.1 hd a.length j a1 b1 hij
        rw [a2, b2] at this
        exact absurd rfl this
    subst hj
    have hc := K.check W false hx
    have hst := K.stays W hx
    have hes : es[a.length]? = some e := by rw [← Array.getElem?_toList]; exact h2
    refine ⟨{ W with heap := W.heap.setIfInBounds r (.map (es.modify a.length fun e => { e with key := x, val := v }) clock) }, by simp [Instr.mapUpdate, run_underlying hm, MapKept.run_getObj_map hh, hc, h1, hes, h3, hst, MapKept.run_setObj_map _ hh, Result.andThen], ⟨_, _, (MapKept.heap_set hh).1, ?_⟩, ⟨rfl, rfl, rfl, by simp, fun b hb hn => (MapKept.heap_set hh).2 b hn⟩, by simp⟩
    have hmod : (es.modify a.length fun e => { e with key := x, val := v }).toList.map (fun e => (e.key, e.val)) = (es.toList.map (fun e => (e.key, e.val))).set a.length (x, v) := by
      apply List.ext_getElem?
      intro i
      rw [Array.toList_modify, List.getElem?_map, List.getElem?_modify, List.getElem?_set, List.getElem?_map]
      by_cases hi : a.length = i
      · subst hi
        rw [h2]
        have hlen : a.length < es.toList.length := (List.getElem?_eq_some_iff.1 h2).1
        simp [hlen]
        have := hlen
        simp at this
        omega
      · simp [hi]
    rw [hmod, hl, hl0]
    simp
end
end Go
namespace Go.Proofs.Ytpfiofgchkfkhaa
open Go.RowKit Go.Shelf Go.Maps
theorem keyedInt : Keyed Try.prog 3 := int_keyed Try.underlying3
theorem wf64 {n : Int} (h : In64 n) : (Lit.int .i64 n).wf = true := by
  first
    | exact WalkArith.wf_i64 h.1 h.2
    | exact WalkArith.wf_i64 ⟨h.1, h.2⟩
    | (obtain ⟨h1, h2⟩ := h; simp [Lit.wf, IntKind.wrap_i64]; omega)
theorem keyInt {n : Int} (h : In64 n) : keyOf Try.prog 3 (.int .i64 n) = some (.int .i64 n) := keyOf_int_mk Try.underlying3 (wf64 h)
end Go.Proofs.Ytpfiofgchkfkhaa

/- Plain: what package hierarchy computes. -/
set_option linter.unusedVariables false
set_option linter.unusedSimpArgs false
namespace Go.Proofs.Ytpfiofgchkfkhaa
open Go.RowKit Go.Shelf
def scH (scs : List Sc) (i : Nat) : Sc := scs.getD i default
theorem scH_at {scs : List Sc} {i : Nat} (h : i < scs.length) : scH scs i = scs[i] := by
  unfold scH; rw [List.getD_eq_getElem?_getD, List.getElem?_eq_getElem h]; rfl
/-- the parents stand ahead -/
def DeclS (scs : List Sc) : Prop := ∀ i, i < scs.length → -1 ≤ (scH scs i).parent ∧ (scH scs i).parent < i
instance (scs : List Sc) : Decidable (DeclS scs) := by unfold DeclS; infer_instance
def declV (n : Nat) (v : Va) : Bool := decide (-1 ≤ v.scope ∧ v.scope < n ∧ 0 ≤ v.signal)
def declB (scs : List Sc) (vs : List Va) : Bool := decide (DeclS scs) && vs.all (declV scs.length)
/-- a scope and those that contain it, the innermost first -/
def upF (scs : List Sc) : Nat → Int → List Nat
  | 0, _ => []
  | f + 1, i => if i < 0 then [] else i.toNat :: upF scs f (scH scs i.toNat).parent
def upH (scs : List Sc) (i : Int) : List Nat := upF scs (i.toNat + 1) i
def pathH (scs : List Sc) (i : Int) : List ByteArray := ((upH scs i).map fun k => (scH scs k).name).reverse
theorem upF_neg (scs : List Sc) (f : Nat) {i : Int} (h : i < 0) : upF scs f i = [] := by
  cases f with
  | zero => rfl
  | succ f => unfold upF; rw [if_pos h]
theorem upF_fuel {scs : List Sc} (hd : DeclS scs) : ∀ (f g : Nat) (i : Int), i < scs.length → i.toNat + 1 ≤ f → i.toNat + 1 ≤ g → upF scs f i = upF scs g i
  | 0, _, i, _, h, _ => absurd h (by omega)
  | _ + 1, 0, i, _, _, h => absurd h (by omega)
  | f + 1, g + 1, i, hi, hf, hg => by
    unfold upF
    by_cases h : i < 0
    · rw [if_pos h, if_pos h]
    · rw [if_neg h, if_neg h]
      obtain ⟨h1, h2⟩ := hd i.toNat (by omega)
      by_cases h3 : (scH scs i.toNat).parent < 0
      · rw [upF_neg _ _ h3, upF_neg _ _ h3]
      · rw [upF_fuel hd f g _ (by omega) (by omega) (by omega)]
theorem upH_neg (scs : List Sc) {i : Int} (h : i < 0) : upH scs i = [] := upF_neg _ _ h
theorem upH_step {scs : List Sc} (hd : DeclS scs) {i : Nat} (h : i < scs.length) : upH scs (i : Int) = i :: upH scs (scH scs i).parent := by
  obtain ⟨h1, h2⟩ := hd i h
  unfold upH
  conv => lhs; unfold upF
  rw [if_neg (by omega)]
  have e : ((i : Int)).toNat = i := rfl
  rw [e]
  by_cases h3 : (scH scs i).parent < 0
  · rw [upF_neg _ _ h3, upF_neg _ _ h3]
  · rw [upF_fuel hd i _ _ (by omega) (by omega) (Nat.le_refl _)]
theorem upH_lt {scs : List Sc} (hd : DeclS scs) : ∀ (n : Nat) (i : Int), i < scs.length → i.toNat < n → ∀ k ∈ upH scs i, k < scs.length
  | 0, _, _, h => absurd h (by omega)
  | n + 1, i, hi, hn => by
    intro k hk
    by_cases h0 : i < 0
    · rw [upH_neg _ h0] at hk; cases hk
    · obtain ⟨j, rfl⟩ : ∃ j : Nat, i = j := ⟨i.toNat, by omega⟩
      have hj : j < scs.length := by omega
      rw [upH_step hd hj] at hk
      rcases List.mem_cons.1 hk with rfl | hk
      · exact hj
      · obtain ⟨h1, h2⟩ := hd j hj
        by_cases h3 : (scH scs j).parent < 0
        · rw [upH_neg _ h3] at hk; cases hk
        · exact upH_lt hd n _ (by omega) (by omega) k hk
theorem pathH_neg (scs : List Sc) {i : Int} (h : i < 0) : pathH scs i = [] := by unfold pathH; rw [upH_neg _ h]; rfl
theorem pathH_step {scs : List Sc} (hd : DeclS scs) {i : Nat} (h : i < scs.length) : pathH scs (i : Int) = pathH scs (scH scs i).parent ++ [(scH scs i).name] := by
  unfold pathH; rw [upH_step hd h]; simp
theorem pathH_len (scs : List Sc) (i : Int) : (pathH scs i).length = (upH scs i).length := by unfold pathH; simp
/-- what is wrong with declarations -/
def badS (x : Sc) : Bool := !vN x.name.data.toList
def badN (v : Va) : Bool := !vN v.name.data.toList
def badT (n most : Int) : Bool := decide (n < 0) || decide (most < n)
def badR (v : Va) : Bool := if v.ranged then decide (widthS v.msb v.lsb = 0) else (decide (v.msb ≠ 0) || decide (v.lsb ≠ 0))
def childK (x : Sc) : Int × ByteArray := (x.parent, x.name)
def entryK (v : Va) : Int × ByteArray × Bool × Int × Int := (v.scope, v.name, v.ranged, v.msb, v.lsb)
def deepB (scs : List Sc) : Bool := (List.range scs.length).any fun i => decide (8 < (pathH scs (i : Int)).length)
def checkE (scs : List Sc) (vs : List Va) : Int :=
  if 32 < scs.length ∨ 128 < vs.length then 9 else
  if declB scs vs = false then 1 else
  if deepB scs then 9 else
  if scs.any badS || vs.any badN then 4 else
  if (scs.any fun x => badT x.typ 4) || (vs.any fun v => badT v.typ 18) then 7 else
  if vs.any badR then 2 else
  if ¬ (scs.map childK).Nodup ∨ ¬ (vs.map entryK).Nodup then 5 else 0
structure Good (scs : List Sc) (vs : List Va) : Prop where
  few : scs.length ≤ 32
  fewV : vs.length ≤ 128
  decl : DeclS scs
  declV : ∀ v ∈ vs, -1 ≤ v.scope ∧ v.scope < scs.length ∧ 0 ≤ v.signal
  deep : ∀ i, i < scs.length → (pathH scs (i : Int)).length ≤ 8
  nameS : ∀ x ∈ scs, vN x.name.data.toList = true
  nameV : ∀ v ∈ vs, vN v.name.data.toList = true
  typS : ∀ x ∈ scs, 0 ≤ x.typ ∧ x.typ ≤ 4
  typV : ∀ v ∈ vs, 0 ≤ v.typ ∧ v.typ ≤ 18
  range : ∀ v ∈ vs, badR v = false
  child : (scs.map childK).Nodup
  entry : (vs.map entryK).Nodup
theorem badT_false {n m : Int} : badT n m = false ↔ 0 ≤ n ∧ n ≤ m := by
  unfold badT
  rw [Bool.or_eq_false_iff, decide_eq_false_iff_not, decide_eq_false_iff_not]
  omega
theorem checkE_ok {scs : List Sc} {vs : List Va} : checkE scs vs = 0 ↔ Good scs vs := by
  unfold checkE
  constructor
  · intro h
    by_cases h1 : 32 < scs.length ∨ 128 < vs.length
    · rw [if_pos h1] at h; cases h
    rw [if_neg h1] at h
    by_cases h2 : declB scs vs = false
    · rw [if_pos h2] at h; cases h
    rw [if_neg h2] at h
    by_cases h3 : deepB scs = true
    · rw [if_pos h3] at h; cases h
    rw [if_neg h3] at h
    by_cases h4 : (scs.any badS || vs.any badN) = true
    · rw [if_pos h4] at h; cases h
    rw [if_neg h4] at h
    by_cases h5 : ((scs.any fun x => badT x.typ 4) || (vs.any fun v => badT v.typ 18)) = true
    · rw [if_pos h5] at h; cases h
    rw [if_neg h5] at h
    by_cases h6 : vs.any badR = true
    · rw [if_pos h6] at h; cases h
    rw [if_neg h6] at h
    by_cases h7 : ¬ (scs.map childK).Nodup ∨ ¬ (vs.map entryK).Nodup
    · rw [if_pos h7] at h; cases h
    have hd : declB scs vs = true := by simpa using h2
    unfold declB at hd
    rw [Bool.and_eq_true, decide_eq_true_eq, List.all_eq_true] at hd
    have h4' := Bool.eq_false_iff.2 h4
    rw [Bool.or_eq_false_iff, List.any_eq_false, List.any_eq_false] at h4'
    have h5' := Bool.eq_false_iff.2 h5
    rw [Bool.or_eq_false_iff, List.any_eq_false, List.any_eq_false] at h5'
    have h6' := Bool.eq_false_iff.2 h6
    rw [List.any_eq_false] at h6'
    have h3' := Bool.eq_false_iff.2 h3
    unfold deepB at h3'
    rw [List.any_eq_false] at h3'
    refine ⟨by omega, by omega, hd.1, fun v hv => of_decide_eq_true (hd.2 v hv), fun i hi => ?_, fun x hx => ?_, fun v hv => ?_, fun x hx => badT_false.1 (by simpa using h5'.1 x hx), fun v hv => badT_false.1 (by simpa using h5'.2 v hv), fun v hv => by simpa using h6' v hv, Classical.not_not.1 fun h => h7 (.inl h), Classical.not_not.1 fun h => h7 (.inr h)⟩
    · have := h3' i (List.mem_range.2 hi)
      simp only [decide_eq_true_eq] at this
      omega
    · have := h4'.1 x hx; simpa [badS] using this
    · have := h4'.2 v hv; simpa [badN] using this
  · intro g
    rw [if_neg (by have := g.few; have := g.fewV; omega)]
    have hd : declB scs vs = true := by
      unfold declB
      rw [Bool.and_eq_true, decide_eq_true_eq, List.all_eq_true]
      exact ⟨g.decl, fun v hv => decide_eq_true (g.declV v hv)⟩
    rw [if_neg (by rw [hd]; decide)]
    have h3 : deepB scs = false := by
      unfold deepB
      rw [List.any_eq_false]
      intro i hi
      have := g.deep i (List.mem_range.1 hi)
      simp only [decide_eq_true_eq]; omega
    rw [h3, if_neg (by decide)]
    have h4 : (scs.any badS || vs.any badN) = false := by
      rw [Bool.or_eq_false_iff, List.any_eq_false, List.any_eq_false]
      exact ⟨fun x hx => by simp [badS, g.nameS x hx], fun v hv => by simp [badN, g.nameV v hv]⟩
    rw [h4, if_neg (by decide)]
    have h5 : ((scs.any fun x => badT x.typ 4) || (vs.any fun v => badT v.typ 18)) = false := by
      rw [Bool.or_eq_false_iff, List.any_eq_false, List.any_eq_false]
      exact ⟨fun x hx => by rw [badT_false.2 (g.typS x hx)]; decide, fun v hv => by rw [badT_false.2 (g.typV v hv)]; decide⟩
    rw [h5, if_neg (by decide)]
    have h6 : vs.any badR = false := by
      rw [List.any_eq_false]
      exact fun v hv => by rw [g.range v hv]; decide
    rw [h6, if_neg (by decide), if_neg (by rintro (h | h); exact h g.child; exact h g.entry)]
/-- the scopes below a parent, in preorder -/
def preF (scs : List Sc) : Nat → Int → List Nat
  | 0, _ => []
  | f + 1, p => (List.range scs.length).flatMap fun i => if (scH scs i).parent = p then i :: preF scs f (i : Int) else []
def preT (scs : List Sc) (p : Int) : List Nat := preF scs (scs.length + 1 - (p + 1).toNat) p
def preH (scs : List Sc) : List Nat := preT scs (-1)
/-- a scope's new number -/
def nowH (pre : List Nat) (x : Int) : Int := if x < 0 then -1 else (pre.idxOf x.toNat : Int)
def orderS (scs : List Sc) : List Sc := (preH scs).map fun i => { scH scs i with parent := nowH (preH scs) (scH scs i).parent }
def moveV (scs : List Sc) (vs : List Va) : List Va := vs.map fun v => { v with scope := nowH (preH scs) v.scope }
def sortV (n : Nat) (l : List Va) : List Va := (List.range (n + 1)).flatMap fun (j : Nat) => l.filter fun v => decide (v.scope = (j : Int) - 1)
/-- the signals by their first use -/
def numF : List Va → List Int → List Va × List Int
  | [], former => ([], former)
  | v :: r, former => ({ v with signal := (former.idxOf v.signal : Int) } :: (numF r (if v.signal ∈ former then former else former ++ [v.signal])).1, (numF r (if v.signal ∈ former then former else former ++ [v.signal])).2)
def orderV (scs : List Sc) (vs : List Va) : List Va × List Int := numF (sortV scs.length (moveV scs vs)) []
structure OrdH where
  scs : List Sc
  vs : List Va
  former : List Int
  err : Int
def orderH (scs : List Sc) (vs : List Va) : OrdH := if checkE scs vs = 0 then ⟨orderS scs, (orderV scs vs).1, (orderV scs vs).2, 0⟩ else ⟨[], [], [], checkE scs vs⟩
def validH (scs : List Sc) (vs : List Va) : Bool := decide (checkE scs vs = 0 ∧ orderS scs = scs ∧ (orderV scs vs).1 = vs)
end Go.Proofs.Ytpfiofgchkfkhaa

/- Contracts of slices.IndexFunc, slices.ContainsFunc and hierarchy.indices, at scopes and at variables. -/
set_option linter.unusedVariables false
set_option linter.unusedSimpArgs false
namespace Go.Proofs.Ytpfiofgchkfkhaa
open Go.RowKit Go.Shelf
def intV (n : Int) : Value := .int .i64 n
def idxP {α : Type} (p : α → Bool) (xs : List α) : Int := match xs.findIdx? p with | some i => (i : Int) | none => -1
theorem idxP_hit {α : Type} {p : α → Bool} {xs : List α} {i : Nat} (h : i < xs.length) (hp : p xs[i] = true) (hn : ∀ j (hj : j < xs.length), j < i → p xs[j] = false) : idxP p xs = i := by
  unfold idxP
  have : xs.findIdx? p = some i := by
    rw [List.findIdx?_eq_some_iff_getElem]
    exact ⟨h, hp, fun j hj => by rw [hn j (by omega) hj]; decide⟩
  rw [this]
theorem idxP_none {α : Type} {p : α → Bool} {xs : List α} (hn : ∀ j (hj : j < xs.length), p xs[j] = false) : idxP p xs = -1 := by
  unfold idxP
  have : xs.findIdx? p = none := by
    rw [List.findIdx?_eq_none_iff]
    intro x hx
    obtain ⟨j, hj, rfl⟩ := List.mem_iff_getElem.1 hx
    exact hn j hj
  rw [this]
theorem idxP_cases {α : Type} (p : α → Bool) (xs : List α) : (idxP p xs = -1 ∧ xs.any p = false ∧ ∀ x ∈ xs, p x = false) ∨ ∃ i, ∃ h : i < xs.length, idxP p xs = i ∧ p xs[i] = true ∧ xs.any p = true ∧ ∀ j (hj : j < xs.length), j < i → p xs[j] = false := by
  unfold idxP
  cases hf : xs.findIdx? p with
  | none =>
    left
    rw [List.findIdx?_eq_none_iff] at hf
    exact ⟨rfl, by rw [List.any_eq_false]; intro x hx; rw [hf x hx]; decide, hf⟩
  | some i =>
    right
    rw [List.findIdx?_eq_some_iff_getElem] at hf
    obtain ⟨h, h1, h2⟩ := hf
    exact ⟨i, h, rfl, h1, List.any_eq_true.2 ⟨_, List.getElem_mem h, h1⟩, fun j hj hji => by simpa using h2 j hji⟩
theorem idxP_le {α : Type} (p : α → Bool) (xs : List α) : -1 ≤ idxP p xs ∧ idxP p xs ≤ xs.length := by
  rcases idxP_cases p xs with ⟨h, _⟩ | ⟨i, h1, h, _⟩ <;> omega
/-- the places of the elements for which p holds -/
def idxsF {α : Type} (p : α → Bool) : List α → Nat → List Int
  | [], _ => []
  | x :: r, i => (if p x then [(i : Int)] else []) ++ idxsF p r (i + 1)
def idxsP {α : Type} (p : α → Bool) (xs : List α) : List Int := idxsF p xs 0
theorem idxsF_len {α : Type} (p : α → Bool) : ∀ (xs : List α) (i : Nat), (idxsF p xs i).length ≤ xs.length
  | [], _ => Nat.le_refl _
  | x :: r, i => by
    have := idxsF_len p r (i + 1)
    unfold idxsF
    rw [List.length_append, List.length_cons]
    split <;> simp <;> omega
theorem idxsF_snoc {α : Type} (p : α → Bool) : ∀ (xs : List α) (x : α) (i : Nat), idxsF p (xs ++ [x]) i = idxsF p xs i ++ (if p x then [((i + xs.length : Nat) : Int)] else [])
  | [], x, i => by simp [idxsF]
  | y :: r, x, i => by
    rw [List.cons_append, idxsF, idxsF, idxsF_snoc p r x (i + 1), List.append_assoc, List.length_cons, show i + 1 + r.length = i + (r.length + 1) by omega]
theorem infoIntH : (Try.prog.info? 3).map (fun i => (i.zero, i.size, i.bytes)) = some (some (.int .i64 0), 1, 8) := by kernel_rfl
theorem ownH_sl {w : World} {B n size : Nat} {u : Value} {e : TypeId} {xs : List Value} (h : w.ownsRow B e size u n xs) : ∃ A cap, u = .slice A n cap := by
  obtain ⟨_, h2⟩ := h
  rcases h2 with ⟨rfl, h0⟩ | ⟨g, cap, cs, rfl, _⟩
  · exact ⟨none, 0, by rw [h0]⟩
  · exact ⟨_, cap, rfl⟩
/-- a function value that tests an element -/
def TstS (w : World) (f : FuncId) (lb : Array Value) (p : Sc → Bool) (xs : List Sc) : Prop :=
  (∀ x ∈ xs, ∀ W, Below w.heap.size w W → Calls Try.prog f (#[scV x] ++ lb) W fun e w' => e = .returned (.bool (p x)) ∧ Below W.heap.size W w') ∧ ∀ (W : World) (x : Sc), (callFunc f (#[scV x] ++ lb)).run Try.prog W = .ok (.enter f (#[scV x] ++ lb)) W
theorem TstS.later {w w2 : World} {f : FuncId} {lb : Array Value} {p : Sc → Bool} {xs : List Sc} (h : TstS w f lb p xs) (hb : Below w.heap.size w w2) : TstS w2 f lb p xs :=
  ⟨fun x hx W hW => h.1 x hx W (hb.trans (hW.mono hb.size)), h.2⟩
set_option maxRecDepth 20000 in
set_option maxHeartbeats 4000000 in
theorem IndexFuncS_any (A : Option Addr) (cap : Nat) (xs : List Sc) (f : FuncId) (lb : Array Value) (p : Sc → Bool) (w : World) (hs : ScS w A xs) (hl : xs.length ≤ 1000000) (hT : TstS w f lb p xs) :
    Calls Try.prog 36 #[.slice A xs.length cap, .func (.func f) #[] lb] w fun e w' => e = .returned (.int .i64 (idxP p xs)) ∧ Below w.heap.size w w' := by
  obtain ⟨n, hn⟩ : ∃ n, xs.length = n := ⟨_, rfl⟩
  rw [hn]
  have Hn := hide hn
  have Hs := hide hs
  have HT := hide hT
  have hn6 : n ≤ 1000000 := by omega
  clear hs hT hl hn
  go_enter Try.func36, Try.ntmps36
  go_wp2_with fail
  go_loopw [8] (fun v wr => ∃ i : Nat, v = .int .i64 (i : Int) ∧ i ≤ n ∧ (∀ j (hj : j < xs.length), j < i → p xs[j] = false) ∧ Below w.heap.size w wr) (fun v _ => n - (intOf v).toNat)
  case atStart => exact ⟨0, rfl, Nat.zero_le _, (fun j _ h => absurd h (by omega)), Below.refl _ _⟩
  case round =>
    obtain ⟨i, rfl, hi, hall, hb⟩ := hrel
    have Hb := hide hb
    have Hall := hide hall
    clear hall hb
    by_cases hlt : i < n
    · have hi' : (i : Int) < (n : Int) := by omega
      have hi0 : (0 : Int) ≤ (i : Int) := by omega
      have hw1 : IntKind.i64.wrap ((i : Int) + 1) = (i : Int) + 1 := IntWalk.i64_in _ (by omega)
      have hix : i < xs.length := by rw [Hn.out]; exact hlt
      obtain ⟨b, off, rfl, hbz, hat⟩ := sc_at Hs.out hix
      obtain ⟨c0, c1, c2⟩ := hat wr Hb.out
      have T := hide (HT.out.1 _ (List.getElem_mem hix) wr Hb.out)
      have hcall := fun W => HT.out.2 W xs[i]
      have HH := hide (fun h => idxP_hit hix h Hall.out)
      have HM := hide (fun (h : p xs[i] = false) (j : Nat) (hj : j < xs.length) (hji : j < i + 1) => show p xs[j] = false from by
        rcases Nat.lt_or_ge j i with h1 | h1
        · exact Hall.out j hj h1
        · obtain rfl : j = i := by omega
          exact h)
      obtain ⟨x, hx⟩ : ∃ x, xs[i]'hix = x := ⟨_, rfl⟩
      rw [hx] at c0 c1 c2 T HH HM
      simp only [hx] at hcall
      unfold scV at hcall T
      clear hat hx
      cases hp : p x with
      | true =>
        rw [hp] at T
        have HV := hide (HH.out hp)
        clear hp HH HM
        go_wp2_with fail
        refine T.out.mono ?_
        rintro e w1 ⟨rfl, hb1⟩
        have Hb1 := hide (Hb.out.trans (hb1.mono Hb.out.size))
        clear hb1
        go_wp2
        go_ret
        exact ⟨by rw [HV.out]; first | done | rfl, Hb1.out⟩
      | false =>
        rw [hp] at T
        have HM2 := hide (HM.out hp)
        clear hp HH HM
        go_wp2_with fail
        refine T.out.mono ?_
        rintro e w1 ⟨rfl, hb1⟩
        have Hb1 := hide (Hb.out.trans (hb1.mono Hb.out.size))
        clear hb1
        go_wp2
        go_roundw
        case rel => exact ⟨i + 1, by go_num, by omega, HM2.out, Hb1.out⟩
        case measure => simp [intOf]; omega
    · obtain rfl : i = n := by omega
      have hi' : ¬ (i : Int) < (i : Int) := by omega
      have HV := hide (idxP_none (p := p) (xs := xs) (fun j hj => Hall.out j hj (by rw [← Hn.out]; exact hj)))
      go_wp2
      go_ret
      exact ⟨by rw [HV.out]; first | done | rfl, Hb.out⟩
theorem ContainsFuncS_any (A : Option Addr) (cap : Nat) (xs : List Sc) (f : FuncId) (lb : Array Value) (p : Sc → Bool) (w : World) (hs : ScS w A xs) (hl : xs.length ≤ 1000000) (hT : TstS w f lb p xs) :
    Calls Try.prog 53 #[.slice A xs.length cap, .func (.func f) #[] lb] w fun e w' => e = .returned (.bool (xs.any p)) ∧ Below w.heap.size w w' := by
  have IF := hide (IndexFuncS_any A cap xs f lb p w hs hl hT)
  have hc : (xs.any p = true ∧ 0 ≤ idxP p xs) ∨ (xs.any p = false ∧ ¬ 0 ≤ idxP p xs) := by
    rcases idxP_cases p xs with ⟨h1, h2, _⟩ | ⟨i, _, h1, _, h2, _⟩
    · exact .inr ⟨h2, by omega⟩
    · exact .inl ⟨h2, by omega⟩
  generalize xs.any p = r at *
  generalize idxP p xs = q at *
  generalize xs.length = n at *
  clear hs hT
  rcases hc with ⟨rfl, hq⟩ | ⟨rfl, hq⟩
  · go_enter Try.func53, Try.ntmps53
    go_wp2_with fail
    refine IF.out.mono ?_
    rintro e w1 ⟨rfl, hb1⟩
    have Hb1 := hide hb1
    clear hb1
    go_wp2
    go_ret
    exact ⟨rfl, Hb1.out⟩
  · go_enter Try.func53, Try.ntmps53
    go_wp2_with fail
    refine IF.out.mono ?_
    rintro e w1 ⟨rfl, hb1⟩
    have Hb1 := hide hb1
    clear hb1
    go_wp2
    go_ret
    exact ⟨congrArg (fun b => Ending.returned (.bool b)) (decide_eq_false (by omega)), Hb1.out⟩
set_option maxRecDepth 20000 in
set_option maxHeartbeats 4000000 in
theorem indicesS_any (A : Option Addr) (cap : Nat) (xs : List Sc) (f : FuncId) (lb : Array Value) (p : Sc → Bool) (w : World) (hs : ScS w A xs) (hl : xs.length ≤ 1000000) (hT : TstS w f lb p xs) :
    Calls Try.prog 41 #[.slice A xs.length cap, .func (.func f) #[] lb] w fun e w' => ∃ v, e = .returned v ∧ w'.ownsRow w.heap.size 3 1 v (idxsP p xs).length ((idxsP p xs).map intV) ∧ Below w.heap.size w w' := by
  obtain ⟨n, hn⟩ : ∃ n, xs.length = n := ⟨_, rfl⟩
  rw [hn]
  have Hn := hide hn
  have Hs := hide hs
  have HT := hide hT
  have hn6 : n ≤ 1000000 := by omega
  clear hs hT hl hn
  go_enter Try.func41, Try.ntmps41
  go_wp2_with fail
  go_loopw [5, 10] (fun v5 v10 wr => ∃ i : Nat, v10 = .int .i64 (i : Int) ∧ i ≤ n ∧ wr.ownsRow w.heap.size 3 1 v5 (idxsP p (xs.take i)).length ((idxsP p (xs.take i)).map intV) ∧ Below w.heap.size w wr) (fun _ v _ => n - (intOf v).toNat)
  case atStart => exact ⟨0, rfl, Nat.zero_le _, World.ownsRow_nil _ _ _ _, Below.refl _ _⟩
  case round =>
    obtain ⟨i, rfl, hi, hown, hb⟩ := hrel
    have Hb := hide hb
    have Hown := hide hown
    obtain ⟨A5, cap5, rfl⟩ := ownH_sl hown
    have hlen := idxsF_len p (xs.take i) 0
    clear hown hb
    by_cases hlt : i < n
    · have hi' : (i : Int) < (n : Int) := by omega
      have hi0 : (0 : Int) ≤ (i : Int) := by omega
      have hw1 : IntKind.i64.wrap ((i : Int) + 1) = (i : Int) + 1 := IntWalk.i64_in _ (by omega)
      have hix : i < xs.length := by rw [Hn.out]; exact hlt
      obtain ⟨b, off, rfl, hbz, hat⟩ := sc_at Hs.out hix
      obtain ⟨c0, c1, c2⟩ := hat wr Hb.out
      have T := hide (fun (W : World) (hW : Below w.heap.size w W) => HT.out.1 _ (List.getElem_mem hix) W hW)
      have hcall := fun W => HT.out.2 W xs[i]
      have HS := hide (show idxsP p (xs.take (i + 1)) = idxsP p (xs.take i) ++ (if p xs[i] then [(i : Int)] else []) by
        rw [List.take_succ_eq_append_getElem hix]
        unfold idxsP
        rw [idxsF_snoc, List.length_take, Nat.min_eq_left (by omega), Nat.zero_add])
      obtain ⟨x, hx⟩ : ∃ x, xs[i]'hix = x := ⟨_, rfl⟩
      rw [hx] at c0 c1 c2 T HS
      simp only [hx] at hcall
      unfold scV at hcall T
      obtain ⟨L, hL⟩ : ∃ L, idxsP p (xs.take i) = L := ⟨_, rfl⟩
      have hLn : L.length ≤ 1000000 := by rw [← hL]; unfold idxsP; rw [List.length_take] at hlen; omega
      rw [hL] at HS Hown
      rw [hL]
      clear hat hx hL hlen
      go_wp2_with fail
      obtain ⟨W1, hW1⟩ : ∃ W1, wr.alloc (.cells #[.string x.name, .int .i64 x.typ, .int .i64 x.parent] 49) = W1 := ⟨_, rfl⟩
      rw [hW1]
      have HB1 := hide (show Below w.heap.size w W1 by rw [← hW1]; exact Hb.out.alloc Hb.out.size _)
      have HO1 := hide (show W1.ownsRow w.heap.size 3 1 (.slice A5 L.length cap5) L.length (L.map intV) by rw [← hW1]; exact Hown.out.alloc _)
      clear hW1 c0 c1 c2
      refine (T.out _ HB1.out).mono ?_
      rintro e w2 ⟨rfl, hb2⟩
      have HB2 := hide (HB1.out.trans (hb2.mono HB1.out.size))
      have HO2 := hide (show w2.ownsRow w.heap.size 3 1 (.slice A5 L.length cap5) L.length (L.map intV) from ownsRow_below HO1.out hb2)
      clear hb2 HB1 HO1
      cases hp : p x with
      | true =>
        have HS2 := hide (show idxsP p (xs.take (i + 1)) = L ++ [(i : Int)] by rw [HS.out, if_pos hp])
        clear hp HS
        go_wp2_with (at_builtin; have hown9 := HO2.out.alloc (.cells #[.int .i64 (i : Int)] 3); refine wpList_append_at _ rfl _ _ 30 rfl w.heap.size 3 infoIntH Try.underlying30 rfl (by decide) _ L.length (L.map intV) rfl hown9 ⟨w2.heap.size, 0, none⟩ 1 1 [.int .i64 (i : Int)] rfl rfl (cells_new _ _ rfl) (by intro u hu; simp only [List.mem_cons, List.not_mem_nil, or_false] at hu; rcases hu with rfl; rfl) (by unfold maxLen; omega) (by omega) (by rw [World.size_alloc]; have := HB2.out.size; omega) ?_; intro v' w5 hown5 hgrow5 _ _)
        have HO5 := hide hown5
        have HG5 := hide hgrow5
        clear hown5 hgrow5
        go_roundw
        case rel =>
          refine ⟨i + 1, by go_num, by omega, ?_, ?_⟩
          · rw [HS2.out, List.map_append, List.length_append]; exact HO5.out
          · exact (HB2.out.alloc HB2.out.size _).grown HG5.out (by rw [World.size_alloc]; have := HB2.out.size; omega) (fun j hj => (HO2.out.lt j hj).1)
        case measure => simp [intOf]; omega
      | false =>
        have HS2 := hide (show idxsP p (xs.take (i + 1)) = L by rw [HS.out, if_neg (by rw [hp]; decide), List.append_nil])
        clear hp HS
        go_wp2
        go_roundw
        case rel => exact ⟨i + 1, by go_num, by omega, by rw [HS2.out]; exact HO2.out, HB2.out⟩
        case measure => simp [intOf]; omega
    · obtain rfl : i = n := by omega
      have hi' : ¬ (i : Int) < (i : Int) := by omega
      have hT2 : xs.take i = xs := List.take_of_length_le (by rw [Hn.out]; exact Nat.le_refl _)
      rw [hT2] at Hown ⊢
      clear hT2
      go_wp2
      go_ret
      exact ⟨_, rfl, Hown.out, Hb.out⟩
/-- a function value that tests an element -/
def TstV (w : World) (f : FuncId) (lb : Array Value) (p : Va → Bool) (xs : List Va) : Prop :=
  (∀ x ∈ xs, ∀ W, Below w.heap.size w W → Calls Try.prog f (#[vaV x] ++ lb) W fun e w' => e = .returned (.bool (p x)) ∧ Below W.heap.size W w') ∧ ∀ (W : World) (x : Va), (callFunc f (#[vaV x] ++ lb)).run Try.prog W = .ok (.enter f (#[vaV x] ++ lb)) W
theorem TstV.later {w w2 : World} {f : FuncId} {lb : Array Value} {p : Va → Bool} {xs : List Va} (h : TstV w f lb p xs) (hb : Below w.heap.size w w2) : TstV w2 f lb p xs :=
  ⟨fun x hx W hW => h.1 x hx W (hb.trans (hW.mono hb.size)), h.2⟩
set_option maxRecDepth 20000 in
set_option maxHeartbeats 4000000 in
theorem IndexFuncV_any (A : Option Addr) (cap : Nat) (xs : List Va) (f : FuncId) (lb : Array Value) (p : Va → Bool) (w : World) (hs : VaS w A xs) (hl : xs.length ≤ 1000000) (hT : TstV w f lb p xs) :
    Calls Try.prog 75 #[.slice A xs.length cap, .func (.func f) #[] lb] w fun e w' => e = .returned (.int .i64 (idxP p xs)) ∧ Below w.heap.size w w' := by
  obtain ⟨n, hn⟩ : ∃ n, xs.length = n := ⟨_, rfl⟩
  rw [hn]
  have Hn := hide hn
  have Hs := hide hs
  have HT := hide hT
  have hn6 : n ≤ 1000000 := by omega
  clear hs hT hl hn
  go_enter Try.func75, Try.ntmps75
  go_wp2_with fail
  go_loopw [8] (fun v wr => ∃ i : Nat, v = .int .i64 (i : Int) ∧ i ≤ n ∧ (∀ j (hj : j < xs.length), j < i → p xs[j] = false) ∧ Below w.heap.size w wr) (fun v _ => n - (intOf v).toNat)
  case atStart => exact ⟨0, rfl, Nat.zero_le _, (fun j _ h => absurd h (by omega)), Below.refl _ _⟩
  case round =>
    obtain ⟨i, rfl, hi, hall, hb⟩ := hrel
    have Hb := hide hb
    have Hall := hide hall
    clear hall hb
    by_cases hlt : i < n
    · have hi' : (i : Int) < (n : Int) := by omega
      have hi0 : (0 : Int) ≤ (i : Int) := by omega
      have hw1 : IntKind.i64.wrap ((i : Int) + 1) = (i : Int) + 1 := IntWalk.i64_in _ (by omega)
      have hix : i < xs.length := by rw [Hn.out]; exact hlt
      obtain ⟨b, off, rfl, hbz, hat⟩ := va_at Hs.out hix
      obtain ⟨c0, c1, c2, c3, c4, c5, c6⟩ := hat wr Hb.out
      have T := hide (HT.out.1 _ (List.getElem_mem hix) wr Hb.out)
      have hcall := fun W => HT.out.2 W xs[i]
      have HH := hide (fun h => idxP_hit hix h Hall.out)
      have HM := hide (fun (h : p xs[i] = false) (j : Nat) (hj : j < xs.length) (hji : j < i + 1) => show p xs[j] = false from by
        rcases Nat.lt_or_ge j i with h1 | h1
        · exact Hall.out j hj h1
        · obtain rfl : j = i := by omega
          exact h)
      obtain ⟨x, hx⟩ : ∃ x, xs[i]'hix = x := ⟨_, rfl⟩
      rw [hx] at c0 c1 c2 c3 c4 c5 c6 T HH HM
      simp only [hx] at hcall
      unfold vaV at hcall T
      clear hat hx
      cases hp : p x with
      | true =>
        rw [hp] at T
        have HV := hide (HH.out hp)
        clear hp HH HM
        go_wp2_with fail
        refine T.out.mono ?_
        rintro e w1 ⟨rfl, hb1⟩
        have Hb1 := hide (Hb.out.trans (hb1.mono Hb.out.size))
        clear hb1
        go_wp2
        go_ret
        exact ⟨by rw [HV.out]; first | done | rfl, Hb1.out⟩
      | false =>
        rw [hp] at T
        have HM2 := hide (HM.out hp)
        clear hp HH HM
        go_wp2_with fail
        refine T.out.mono ?_
        rintro e w1 ⟨rfl, hb1⟩
        have Hb1 := hide (Hb.out.trans (hb1.mono Hb.out.size))
        clear hb1
        go_wp2
        go_roundw
        case rel => exact ⟨i + 1, by go_num, by omega, HM2.out, Hb1.out⟩
        case measure => simp [intOf]; omega
    · obtain rfl : i = n := by omega
      have hi' : ¬ (i : Int) < (i : Int) := by omega
      have HV := hide (idxP_none (p := p) (xs := xs) (fun j hj => Hall.out j hj (by rw [← Hn.out]; exact hj)))
      go_wp2
      go_ret
      exact ⟨by rw [HV.out]; first | done | rfl, Hb.out⟩
theorem ContainsFuncV_any (A : Option Addr) (cap : Nat) (xs : List Va) (f : FuncId) (lb : Array Value) (p : Va → Bool) (w : World) (hs : VaS w A xs) (hl : xs.length ≤ 1000000) (hT : TstV w f lb p xs) :
    Calls Try.prog 55 #[.slice A xs.length cap, .func (.func f) #[] lb] w fun e w' => e = .returned (.bool (xs.any p)) ∧ Below w.heap.size w w' := by
  have IF := hide (IndexFuncV_any A cap xs f lb p w hs hl hT)
  have hc : (xs.any p = true ∧ 0 ≤ idxP p xs) ∨ (xs.any p = false ∧ ¬ 0 ≤ idxP p xs) := by
    rcases idxP_cases p xs with ⟨h1, h2, _⟩ | ⟨i, _, h1, _, h2, _⟩
    · exact .inr ⟨h2, by omega⟩
    · exact .inl ⟨h2, by omega⟩
  generalize xs.any p = r at *
  generalize idxP p xs = q at *
  generalize xs.length = n at *
  clear hs hT
  rcases hc with ⟨rfl, hq⟩ | ⟨rfl, hq⟩
  · go_enter Try.func55, Try.ntmps55
    go_wp2_with fail
    refine IF.out.mono ?_
    rintro e w1 ⟨rfl, hb1⟩
    have Hb1 := hide hb1
    clear hb1
    go_wp2
    go_ret
    exact ⟨rfl, Hb1.out⟩
  · go_enter Try.func55, Try.ntmps55
    go_wp2_with fail
    refine IF.out.mono ?_
    rintro e w1 ⟨rfl, hb1⟩
    have Hb1 := hide hb1
    clear hb1
    go_wp2
    go_ret
    exact ⟨congrArg (fun b => Ending.returned (.bool b)) (decide_eq_false (by omega)), Hb1.out⟩
set_option maxRecDepth 20000 in
set_option maxHeartbeats 4000000 in
theorem indicesV_any (A : Option Addr) (cap : Nat) (xs : List Va) (f : FuncId) (lb : Array Value) (p : Va → Bool) (w : World) (hs : VaS w A xs) (hl : xs.length ≤ 1000000) (hT : TstV w f lb p xs) :
    Calls Try.prog 33 #[.slice A xs.length cap, .func (.func f) #[] lb] w fun e w' => ∃ v, e = .returned v ∧ w'.ownsRow w.heap.size 3 1 v (idxsP p xs).length ((idxsP p xs).map intV) ∧ Below w.heap.size w w' := by
  obtain ⟨n, hn⟩ : ∃ n, xs.length = n := ⟨_, rfl⟩
  rw [hn]
  have Hn := hide hn
  have Hs := hide hs
  have HT := hide hT
  have hn6 : n ≤ 1000000 := by omega
  clear hs hT hl hn
  go_enter Try.func33, Try.ntmps33
  go_wp2_with fail
  go_loopw [5, 10] (fun v5 v10 wr => ∃ i : Nat, v10 = .int .i64 (i : Int) ∧ i ≤ n ∧ wr.ownsRow w.heap.size 3 1 v5 (idxsP p (xs.take i)).length ((idxsP p (xs.take i)).map intV) ∧ Below w.heap.size w wr) (fun _ v _ => n - (intOf v).toNat)
  case atStart => exact ⟨0, rfl, Nat.zero_le _, World.ownsRow_nil _ _ _ _, Below.refl _ _⟩
  case round =>
    obtain ⟨i, rfl, hi, hown, hb⟩ := hrel
    have Hb := hide hb
    have Hown := hide hown
    obtain ⟨A5, cap5, rfl⟩ := ownH_sl hown
    have hlen := idxsF_len p (xs.take i) 0
    clear hown hb
    by_cases hlt : i < n
    · have hi' : (i : Int) < (n : Int) := by omega
      have hi0 : (0 : Int) ≤ (i : Int) := by omega
      have hw1 : IntKind.i64.wrap ((i : Int) + 1) = (i : Int) + 1 := IntWalk.i64_in _ (by omega)
      have hix : i < xs.length := by rw [Hn.out]; exact hlt
      obtain ⟨b, off, rfl, hbz, hat⟩ := va_at Hs.out hix
      obtain ⟨c0, c1, c2, c3, c4, c5, c6⟩ := hat wr Hb.out
      have T := hide (fun (W : World) (hW : Below w.heap.size w W) => HT.out.1 _ (List.getElem_mem hix) W hW)
      have hcall := fun W => HT.out.2 W xs[i]
      have HS := hide (show idxsP p (xs.take (i + 1)) = idxsP p (xs.take i) ++ (if p xs[i] then [(i : Int)] else []) by
        rw [List.take_succ_eq_append_getElem hix]
        unfold idxsP
        rw [idxsF_snoc, List.length_take, Nat.min_eq_left (by omega), Nat.zero_add])
      obtain ⟨x, hx⟩ : ∃ x, xs[i]'hix = x := ⟨_, rfl⟩
      rw [hx] at c0 c1 c2 c3 c4 c5 c6 T HS
      simp only [hx] at hcall
      unfold vaV at hcall T
      obtain ⟨L, hL⟩ : ∃ L, idxsP p (xs.take i) = L := ⟨_, rfl⟩
      have hLn : L.length ≤ 1000000 := by rw [← hL]; unfold idxsP; rw [List.length_take] at hlen; omega
      rw [hL] at HS Hown
      rw [hL]
      clear hat hx hL hlen
      go_wp2_with fail
      obtain ⟨W1, hW1⟩ : ∃ W1, wr.alloc (.cells #[.string x.name, .int .i64 x.typ, .int .i64 x.scope, .int .i64 x.signal, .bool x.ranged, .int .i64 x.msb, .int .i64 x.lsb] 29) = W1 := ⟨_, rfl⟩
      rw [hW1]
      have HB1 := hide (show Below w.heap.size w W1 by rw [← hW1]; exact Hb.out.alloc Hb.out.size _)
      have HO1 := hide (show W1.ownsRow w.heap.size 3 1 (.slice A5 L.length cap5) L.length (L.map intV) by rw [← hW1]; exact Hown.out.alloc _)
      clear hW1 c0 c1 c2 c3 c4 c5 c6
      refine (T.out _ HB1.out).mono ?_
      rintro e w2 ⟨rfl, hb2⟩
      have HB2 := hide (HB1.out.trans (hb2.mono HB1.out.size))
      have HO2 := hide (show w2.ownsRow w.heap.size 3 1 (.slice A5 L.length cap5) L.length (L.map intV) from ownsRow_below HO1.out hb2)
      clear hb2 HB1 HO1
      cases hp : p x with
      | true =>
        have HS2 := hide (show idxsP p (xs.take (i + 1)) = L ++ [(i : Int)] by rw [HS.out, if_pos hp])
        clear hp HS
        go_wp2_with (at_builtin; have hown9 := HO2.out.alloc (.cells #[.int .i64 (i : Int)] 3); refine wpList_append_at _ rfl _ _ 30 rfl w.heap.size 3 infoIntH Try.underlying30 rfl (by decide) _ L.length (L.map intV) rfl hown9 ⟨w2.heap.size, 0, none⟩ 1 1 [.int .i64 (i : Int)] rfl rfl (cells_new _ _ rfl) (by intro u hu; simp only [List.mem_cons, List.not_mem_nil, or_false] at hu; rcases hu with rfl; rfl) (by unfold maxLen; omega) (by omega) (by rw [World.size_alloc]; have := HB2.out.size; omega) ?_; intro v' w5 hown5 hgrow5 _ _)
        have HO5 := hide hown5
        have HG5 := hide hgrow5
        clear hown5 hgrow5
        go_roundw
        case rel =>
          refine ⟨i + 1, by go_num, by omega, ?_, ?_⟩
          · rw [HS2.out, List.map_append, List.length_append]; exact HO5.out
          · exact (HB2.out.alloc HB2.out.size _).grown HG5.out (by rw [World.size_alloc]; have := HB2.out.size; omega) (fun j hj => (HO2.out.lt j hj).1)
        case measure => simp [intOf]; omega
      | false =>
        have HS2 := hide (show idxsP p (xs.take (i + 1)) = L by rw [HS.out, if_neg (by rw [hp]; decide), List.append_nil])
        clear hp HS
        go_wp2
        go_roundw
        case rel => exact ⟨i + 1, by go_num, by omega, by rw [HS2.out]; exact HO2.out, HB2.out⟩
        case measure => simp [intOf]; omega
    · obtain rfl : i = n := by omega
      have hi' : ¬ (i : Int) < (i : Int) := by omega
      have hT2 : xs.take i = xs := List.take_of_length_le (by rw [Hn.out]; exact Nat.le_refl _)
      rw [hT2] at Hown ⊢
      clear hT2
      go_wp2
      go_ret
      exact ⟨_, rfl, Hown.out, Hb.out⟩
end Go.Proofs.Ytpfiofgchkfkhaa

/- Contracts of the closures of check and declared, and of declared. -/
set_option linter.unusedVariables false
set_option linter.unusedSimpArgs false
namespace Go.Proofs.Ytpfiofgchkfkhaa
open Go.RowKit Go.Shelf
theorem check1_any (s : ByteArray) (w : World) (hs : s.size ≤ 1000000) :
    Calls Try.prog 48 #[.string s] w fun e w' => e = .returned (.bool (!vN s.data.toList)) ∧ Below w.heap.size w w' := by
  have V := hide (fun W : World => Valid_any s W (by omega))
  generalize vN s.data.toList = r at *
  clear hs
  go_enter Try.func48, Try.ntmps48
  go_wp2_with fail
  refine (V.out _).mono ?_
  rintro e w1 ⟨rfl, hb⟩
  have Hb := hide (show Below w.heap.size w w1 by first | exact hb | exact hb ▸ Below.refl _ _)
  clear hb
  cases r
  · go_wp2
    go_ret
    exact ⟨rfl, Hb.out⟩
  · go_wp2
    go_ret
    exact ⟨rfl, Hb.out⟩
theorem check2_any (n m : Int) (w : World) :
    Calls Try.prog 50 #[.int .i64 n, .int .i64 m] w fun e w' => e = .returned (.bool (badT n m)) ∧ Below w.heap.size w w' := by
  by_cases h1 : n < 0
  · have HV := hide (show badT n m = true by unfold badT; rw [decide_eq_true h1]; rfl)
    go_enter Try.func50, Try.ntmps50
    go_wp2
    go_ret
    exact ⟨by rw [HV.out]; first | done | rfl, Below.refl _ _⟩
  · by_cases h2 : m < n
    · have HV := hide (show badT n m = true by unfold badT; rw [decide_eq_true h2, Bool.or_true])
      go_enter Try.func50, Try.ntmps50
      go_wp2
      go_ret
      exact ⟨by rw [HV.out]; first | done | rfl, Below.refl _ _⟩
    · have HV := hide (show badT n m = false by unfold badT; rw [decide_eq_false h2, decide_eq_false h1]; rfl)
      go_enter Try.func50, Try.ntmps50
      go_wp2
      go_ret
      exact ⟨by rw [HV.out]; first | done | rfl, Below.refl _ _⟩
set_option maxRecDepth 20000 in
theorem check3_any (x : Va) (w : World) :
    Calls Try.prog 51 #[vaV x] w fun e w' => e = .returned (.bool (badR x)) ∧ Below w.heap.size w w' := by
  have hV : badR x = if x.ranged then decide (widthS x.msb x.lsb = 0) else (decide (x.msb ≠ 0) || decide (x.lsb ≠ 0)) := rfl
  obtain ⟨nm, ty, sc, sg, rg, msb, lsb⟩ := x
  simp only at hV
  unfold vaV
  cases rg with
  | true =>
    rw [if_pos rfl] at hV
    have WD := hide (fun W : World => Width_any msb lsb W)
    obtain ⟨q, hq⟩ : ∃ q, widthS msb lsb = q := ⟨_, rfl⟩
    rw [hq] at WD hV
    clear hq
    by_cases h0 : q = 0
    · subst h0
      have HV := hide hV
      clear hV
      go_enter Try.func51, Try.ntmps51
      go_wp2_with fail
      refine (WD.out _).mono ?_
      rintro e w1 ⟨rfl, rfl⟩
      go_wp2
      go_ret
      exact ⟨by rw [HV.out]; first | done | rfl, (Below.refl _ _).alloc (Nat.le_refl _) _⟩
    · rw [decide_eq_false h0] at hV
      have e1 : (q == 0) = false := beq_eq_false_iff_ne.2 h0
      have HV := hide hV
      clear hV h0
      go_enter Try.func51, Try.ntmps51
      go_wp2_with fail
      refine (WD.out _).mono ?_
      rintro e w1 ⟨rfl, rfl⟩
      go_wp2
      go_ret
      exact ⟨by rw [HV.out]; first | done | rfl, (Below.refl _ _).alloc (Nat.le_refl _) _⟩
  | false =>
    rw [if_neg (by decide)] at hV
    by_cases h1 : msb = 0
    · subst h1
      by_cases h2 : lsb = 0
      · subst h2
        have HV := hide hV
        clear hV
        go_enter Try.func51, Try.ntmps51
        go_wp2
        go_ret
        exact ⟨by rw [HV.out]; first | done | rfl, (Below.refl _ _).alloc (Nat.le_refl _) _⟩
      · have HV := hide (hV.trans (by simp [h2]) : badR ⟨nm, ty, sc, sg, false, 0, lsb⟩ = true)
        have e1 : (lsb == 0) = false := beq_eq_false_iff_ne.2 h2
        have e2 : (lsb != 0) = true := by rw [bne, e1]; rfl
        clear hV h2
        go_enter Try.func51, Try.ntmps51
        go_wp2
        go_ret
        exact ⟨by rw [HV.out]; first | done | rfl, (Below.refl _ _).alloc (Nat.le_refl _) _⟩
    · have HV := hide (hV.trans (by simp [h1]) : badR ⟨nm, ty, sc, sg, false, msb, lsb⟩ = true)
      have e1 : (msb == 0) = false := beq_eq_false_iff_ne.2 h1
      have e2 : (msb != 0) = true := by rw [bne, e1]; rfl
      clear hV h1
      go_enter Try.func51, Try.ntmps51
      go_wp2
      go_ret
      exact ⟨by rw [HV.out]; first | done | rfl, (Below.refl _ _).alloc (Nat.le_refl _) _⟩
theorem enters {f : FuncId} (h : (Try.prog.funcs[f]?).map (fun fn => (fn.name == "runtime.NumGoroutine", fn.body.isNone)) = some (false, false)) (args : Array Value) (w : World) : (callFunc f args).run Try.prog w = .ok (.enter f args) w := callFunc_body h w
theorem check4_any (x : Sc) (g : Nat) (w : World) (hs : x.name.size ≤ 1000000) (hg : w.cell? ⟨g, 0, none⟩ = some (.func (.func 48) #[] #[])) (hgl : g < w.heap.size) :
    Calls Try.prog 54 #[scV x, .pointer (some ⟨g, 0, none⟩)] w fun e w' => e = .returned (.bool (badS x)) ∧ Below w.heap.size w w' := by
  have C1 := hide (fun W : World => check1_any x.name W hs)
  have hr : (!vN x.name.data.toList) = badS x := rfl
  rw [hr] at C1
  generalize badS x = r at *
  obtain ⟨nm, ty, pa⟩ := x
  simp only at C1
  unfold scV
  have hc := fun W => enters (f := 48) (by kernel_rfl) #[.string nm] W
  have hne : ¬ g = w.heap.size := by omega
  have hne2 : ¬ w.heap.size = g := by omega
  clear hs hr
  go_enter Try.func54, Try.ntmps54
  have hg2 : (w.alloc (.cells #[.string nm, .int .i64 ty, .int .i64 pa] 49)).cell? ⟨g, 0, none⟩ = some (.func (.func 48) #[] #[]) := by
    rw [((Below.refl w.heap.size w).alloc (Nat.le_refl _) _).cell (p := ⟨g, 0, none⟩) hgl]; exact hg
  go_wp2_with fail
  refine (C1.out _).mono ?_
  rintro e w1 ⟨rfl, hb⟩
  have Hb := hide (((Below.refl w.heap.size w).alloc (Nat.le_refl _) (.cells #[.string nm, .int .i64 ty, .int .i64 pa] 49)).trans (hb.mono (by rw [World.size_alloc]; exact Nat.le_succ _)))
  clear hb
  go_wp2
  go_ret
  exact ⟨rfl, Hb.out⟩
theorem check5_any (x : Va) (g : Nat) (w : World) (hs : x.name.size ≤ 1000000) (hg : w.cell? ⟨g, 0, none⟩ = some (.func (.func 48) #[] #[])) (hgl : g < w.heap.size) :
    Calls Try.prog 56 #[vaV x, .pointer (some ⟨g, 0, none⟩)] w fun e w' => e = .returned (.bool (badN x)) ∧ Below w.heap.size w w' := by
  have C1 := hide (fun W : World => check1_any x.name W hs)
  have hr : (!vN x.name.data.toList) = badN x := rfl
  rw [hr] at C1
  generalize badN x = r at *
  obtain ⟨nm, ty, sc, sg, rg, msb, lsb⟩ := x
  simp only at C1
  unfold vaV
  have hc := fun W => enters (f := 48) (by kernel_rfl) #[.string nm] W
  clear hs hr
  go_enter Try.func56, Try.ntmps56
  have hg2 : (w.alloc (.cells #[.string nm, .int .i64 ty, .int .i64 sc, .int .i64 sg, .bool rg, .int .i64 msb, .int .i64 lsb] 29)).cell? ⟨g, 0, none⟩ = some (.func (.func 48) #[] #[]) := by
    rw [((Below.refl w.heap.size w).alloc (Nat.le_refl _) _).cell (p := ⟨g, 0, none⟩) hgl]; exact hg
  go_wp2_with fail
  refine (C1.out _).mono ?_
  rintro e w1 ⟨rfl, hb⟩
  have Hb := hide (((Below.refl w.heap.size w).alloc (Nat.le_refl _) (.cells #[.string nm, .int .i64 ty, .int .i64 sc, .int .i64 sg, .bool rg, .int .i64 msb, .int .i64 lsb] 29)).trans (hb.mono (by rw [World.size_alloc]; exact Nat.le_succ _)))
  clear hb
  go_wp2
  go_ret
  exact ⟨rfl, Hb.out⟩
theorem check6_any (x : Sc) (g : Nat) (w : World) (hg : w.cell? ⟨g, 0, none⟩ = some (.func (.func 50) #[] #[])) (hgl : g < w.heap.size) :
    Calls Try.prog 57 #[scV x, .pointer (some ⟨g, 0, none⟩)] w fun e w' => e = .returned (.bool (badT x.typ 4)) ∧ Below w.heap.size w w' := by
  have C1 := hide (fun W : World => check2_any x.typ 4 W)
  generalize badT x.typ 4 = r at *
  obtain ⟨nm, ty, pa⟩ := x
  simp only at C1
  unfold scV
  have hc := fun W => enters (f := 50) (by kernel_rfl) #[.int .i64 ty, .int .i64 4] W
  go_enter Try.func57, Try.ntmps57
  have hg2 : (w.alloc (.cells #[.string nm, .int .i64 ty, .int .i64 pa] 49)).cell? ⟨g, 0, none⟩ = some (.func (.func 50) #[] #[]) := by
    rw [((Below.refl w.heap.size w).alloc (Nat.le_refl _) _).cell (p := ⟨g, 0, none⟩) hgl]; exact hg
  go_wp2_with fail
  refine (C1.out _).mono ?_
  rintro e w1 ⟨rfl, hb⟩
  have Hb := hide (((Below.refl w.heap.size w).alloc (Nat.le_refl _) (.cells #[.string nm, .int .i64 ty, .int .i64 pa] 49)).trans (hb.mono (by rw [World.size_alloc]; exact Nat.le_succ _)))
  clear hb
  go_wp2
  go_ret
  exact ⟨rfl, Hb.out⟩
theorem check7_any (x : Va) (g : Nat) (w : World) (hg : w.cell? ⟨g, 0, none⟩ = some (.func (.func 50) #[] #[])) (hgl : g < w.heap.size) :
    Calls Try.prog 58 #[vaV x, .pointer (some ⟨g, 0, none⟩)] w fun e w' => e = .returned (.bool (badT x.typ 18)) ∧ Below w.heap.size w w' := by
  have C1 := hide (fun W : World => check2_any x.typ 18 W)
  generalize badT x.typ 18 = r at *
  obtain ⟨nm, ty, sc, sg, rg, msb, lsb⟩ := x
  simp only at C1
  unfold vaV
  have hc := fun W => enters (f := 50) (by kernel_rfl) #[.int .i64 ty, .int .i64 18] W
  go_enter Try.func58, Try.ntmps58
  have hg2 : (w.alloc (.cells #[.string nm, .int .i64 ty, .int .i64 sc, .int .i64 sg, .bool rg, .int .i64 msb, .int .i64 lsb] 29)).cell? ⟨g, 0, none⟩ = some (.func (.func 50) #[] #[]) := by
    rw [((Below.refl w.heap.size w).alloc (Nat.le_refl _) _).cell (p := ⟨g, 0, none⟩) hgl]; exact hg
  go_wp2_with fail
  refine (C1.out _).mono ?_
  rintro e w1 ⟨rfl, hb⟩
  have Hb := hide (((Below.refl w.heap.size w).alloc (Nat.le_refl _) (.cells #[.string nm, .int .i64 ty, .int .i64 sc, .int .i64 sg, .bool rg, .int .i64 msb, .int .i64 lsb] 29)).trans (hb.mono (by rw [World.size_alloc]; exact Nat.le_succ _)))
  clear hb
  go_wp2
  go_ret
  exact ⟨rfl, Hb.out⟩
theorem declared1_any (x : Va) (g : Nat) (A : Option Addr) (n cap : Nat) (w : World) (hn : n ≤ 1000000) (hg : w.cell? ⟨g, 0, none⟩ = some (.slice A n cap)) (hgl : g < w.heap.size) :
    Calls Try.prog 71 #[vaV x, .pointer (some ⟨g, 0, none⟩)] w fun e w' => e = .returned (.bool (!declV n x)) ∧ Below w.heap.size w w' := by
  have hV : declV n x = decide (-1 ≤ x.scope ∧ x.scope < n ∧ 0 ≤ x.signal) := rfl
  obtain ⟨r, hr⟩ : ∃ r, declV n x = r := ⟨_, rfl⟩
  rw [hr] at hV ⊢
  clear hr
  obtain ⟨nm, ty, sc, sg, rg, msb, lsb⟩ := x
  simp only at hV
  unfold vaV
  have hg2 : (w.alloc (.cells #[.string nm, .int .i64 ty, .int .i64 sc, .int .i64 sg, .bool rg, .int .i64 msb, .int .i64 lsb] 29)).cell? ⟨g, 0, none⟩ = some (.slice A n cap) := by
    rw [((Below.refl w.heap.size w).alloc (Nat.le_refl _) _).cell (p := ⟨g, 0, none⟩) hgl]; exact hg
  have hn' : (n : Int) ≤ 1000000 := by omega
  by_cases h1 : sc < -1
  · have HV := hide (show r = false by rw [hV]; exact decide_eq_false (by omega))
    clear hV
    go_enter Try.func71, Try.ntmps71
    go_wp2
    go_ret
    exact ⟨by rw [HV.out]; first | done | rfl, (Below.refl _ _).alloc (Nat.le_refl _) _⟩
  · by_cases h2 : (n : Int) ≤ sc
    · have HV := hide (show r = false by rw [hV]; exact decide_eq_false (by omega))
      clear hV
      go_enter Try.func71, Try.ntmps71
      go_wp2
      go_ret
      exact ⟨by rw [HV.out]; first | done | rfl, (Below.refl _ _).alloc (Nat.le_refl _) _⟩
    · by_cases h3 : sg < 0
      · have HV := hide (show r = false by rw [hV]; exact decide_eq_false (by omega))
        clear hV
        go_enter Try.func71, Try.ntmps71
        go_wp2
        go_ret
        exact ⟨by rw [HV.out]; first | done | rfl, (Below.refl _ _).alloc (Nat.le_refl _) _⟩
      · have HV := hide (show r = true by rw [hV]; exact decide_eq_true (by omega))
        clear hV
        go_enter Try.func71, Try.ntmps71
        go_wp2
        go_ret
        exact ⟨by rw [HV.out]; first | done | rfl, (Below.refl _ _).alloc (Nat.le_refl _) _⟩
theorem declS_no {scs : List Sc} {vs : List Va} {i : Nat} (h : i < scs.length) (hb : ¬ (-1 ≤ scs[i].parent ∧ scs[i].parent < i)) : declB scs vs = false := by
  unfold declB
  rw [Bool.and_eq_false_iff]
  left
  exact decide_eq_false fun hd => hb (by have := hd i h; rw [scH_at h] at this; exact this)
set_option maxRecDepth 20000 in
set_option maxHeartbeats 4000000 in
theorem declared_any (A A' : Option Addr) (cap cap' : Nat) (scs : List Sc) (vs : List Va) (w : World) (hs : ScS w A scs) (hv : VaS w A' vs) (hl : scs.length ≤ 1000000) (hl' : vs.length ≤ 1000000) :
    Calls Try.prog 47 #[.slice A scs.length cap, .slice A' vs.length cap'] w fun e w' => e = .returned (.bool (declB scs vs)) ∧ Below w.heap.size w w' := by
  obtain ⟨n, hn⟩ : ∃ n, scs.length = n := ⟨_, rfl⟩
  have Hn := hide hn
  have Hs := hide hs
  have hn6 : n ≤ 1000000 := by omega
  have CF := hide (fun (W : World) (hW : Below w.heap.size w W) (hg : W.cell? ⟨w.heap.size, 0, none⟩ = some (.slice A n cap)) (hz : w.heap.size < W.heap.size) => ContainsFuncV_any A' cap' vs 71 #[.pointer (some ⟨w.heap.size, 0, none⟩)] (fun v => !declV n v) W (va_below hv hW) hl' ⟨fun x hx W2 hW2 => declared1_any x w.heap.size A n cap W2 hn6 ((hW2.cell (p := ⟨w.heap.size, 0, none⟩) hz).trans hg) (Nat.lt_of_lt_of_le hz hW2.size), fun W2 x => enters (by kernel_rfl) _ W2⟩)
  rw [hn]
  generalize hm : vs.length = m at *
  clear hs hn hl hm hl' hv
  go_enter Try.func47, Try.ntmps47
  go_wp2_with fail
  go_loopw [9] (fun v wr => ∃ i : Nat, v = .int .i64 (i : Int) ∧ i ≤ n ∧ (∀ j (hj : j < scs.length), j < i → -1 ≤ scs[j].parent ∧ scs[j].parent < j) ∧ wr.cell? ⟨w.heap.size, 0, none⟩ = some (.slice A n cap) ∧ Below w.heap.size w wr) (fun v _ => n - (intOf v).toNat)
  case atStart => exact ⟨0, rfl, Nat.zero_le _, (fun j _ h => absurd h (by omega)), (Row.new w 22 #[.slice A n cap]).cell 0, (Below.refl _ _).alloc (Nat.le_refl _) _⟩
  case round =>
    obtain ⟨i, rfl, hi, hall, hc, hb⟩ := hrel
    have Hb := hide hb
    have Hall := hide hall
    have Hc := hide hc
    have hzz : w.heap.size < wr.heap.size := World.block_lt_of_cell? wr _ hc
    clear hall hb
    by_cases hlt : i < n
    · have hi' : (i : Int) < (n : Int) := by omega
      have hi0 : (0 : Int) ≤ (i : Int) := by omega
      have hw1 : IntKind.i64.wrap ((i : Int) + 1) = (i : Int) + 1 := IntWalk.i64_in _ (by omega)
      have hix : i < scs.length := by rw [Hn.out]; exact hlt
      obtain ⟨b, off, rfl, hbz, hat⟩ := sc_at Hs.out hix
      obtain ⟨c0, c1, c2⟩ := hat wr Hb.out
      have HNO := hide (fun h => declS_no (vs := vs) hix h)
      have HOK := hide (fun (h : -1 ≤ scs[i].parent ∧ scs[i].parent < i) (j : Nat) (hj : j < scs.length) (hji : j < i + 1) => show -1 ≤ scs[j].parent ∧ scs[j].parent < j from by
        rcases Nat.lt_or_ge j i with h1 | h1
        · exact Hall.out j hj h1
        · obtain rfl : j = i := by omega
          exact h)
      obtain ⟨x, hx⟩ : ∃ x, scs[i]'hix = x := ⟨_, rfl⟩
      rw [hx] at c0 c1 c2 HNO HOK
      obtain ⟨nm, ty, pa⟩ := x
      simp only at c0 c1 c2 HNO HOK
      have HB2 := hide (Hb.out.alloc Hb.out.size (.cells #[.string nm, .int .i64 ty, .int .i64 pa] 49))
      have HC2 := hide (show (wr.alloc (.cells #[.string nm, .int .i64 ty, .int .i64 pa] 49)).cell? ⟨w.heap.size, 0, none⟩ = some (.slice (some ⟨b, off, none⟩) n cap) by
        rw [((Below.refl wr.heap.size wr).alloc (Nat.le_refl _) _).cell (p := ⟨w.heap.size, 0, none⟩) hzz]; exact Hc.out)
      clear hat hx hc
      by_cases h1 : pa < -1
      · have HV := hide (HNO.out (by omega))
        clear HNO HOK
        go_wp2
        go_ret
        exact ⟨by rw [HV.out]; first | done | rfl, HB2.out⟩
      · by_cases h2 : (i : Int) ≤ pa
        · have HV := hide (HNO.out (by omega))
          clear HNO HOK
          go_wp2
          go_ret
          exact ⟨by rw [HV.out]; first | done | rfl, HB2.out⟩
        · have HOK2 := hide (HOK.out (by omega))
          clear HNO HOK
          go_wp2
          go_roundw
          case rel => exact ⟨i + 1, by go_num, by omega, HOK2.out, HC2.out, HB2.out⟩
          case measure => simp [intOf]; omega
    · obtain rfl : i = n := by omega
      have hi' : ¬ (i : Int) < (i : Int) := by omega
      have CW := hide (CF.out wr Hb.out Hc.out hzz)
      have hdc : DeclS scs := fun j hj => by rw [scH_at hj]; exact Hall.out j hj (by rw [← Hn.out]; exact hj)
      have hV : declB scs vs = !(vs.any fun v => !declV i v) := by
        unfold declB
        rw [decide_eq_true hdc, Bool.true_and, Hn.out]
        rw [List.not_any_eq_all_not]
        congr 1
        funext v
        rw [Bool.not_not]
      generalize (vs.any fun v => !declV i v) = r at *
      have HV := hide hV
      clear hdc hV hc
      go_wp2_with fail
      refine CW.out.mono ?_
      rintro e w1 ⟨rfl, hb1⟩
      have Hb1 := hide (Hb.out.trans (hb1.mono Hb.out.size))
      clear hb1
      cases r
      · go_wp2
        go_ret
        exact ⟨by rw [HV.out]; first | done | rfl, Hb1.out⟩
      · go_wp2
        go_ret
        exact ⟨by rw [HV.out]; first | done | rfl, Hb1.out⟩
end Go.Proofs.Ytpfiofgchkfkhaa

/- The iterator up, and the contract of path. -/
set_option linter.unusedVariables false
set_option linter.unusedSimpArgs false
namespace Go.Proofs.Ytpfiofgchkfkhaa
open Go.RowKit Go.Shelf
attribute [local go_sem] Oper.semAt_some
theorem drop_consH {α : Type} {xs : List α} {k : Nat} {x : α} {r : List α} (h : xs.drop k = x :: r) : xs[k]? = some x ∧ xs.drop (k + 1) = r ∧ k < xs.length := by
  have h1 : (xs.drop k)[0]? = some x := by rw [h]; rfl
  rw [List.getElem?_drop, Nat.add_zero] at h1
  refine ⟨h1, ?_, (List.getElem?_eq_some_iff.1 h1).1⟩
  have h2 : (xs.drop k).drop 1 = r := by rw [h]; rfl
  rw [List.drop_drop] at h2
  exact h2
theorem drop_noneH {α : Type} {xs : List α} {k : Nat} (h : xs.drop k = []) (hk : k ≤ xs.length) : k = xs.length := by
  rw [List.drop_eq_nil_iff] at h; omega
theorem up_any (A : Option Addr) (n cap : Nat) (i : Int) (w : World) :
    Calls Try.prog 67 #[.slice A n cap, .int .i64 i] w fun e w' => e = .returned (.func (.func 78) #[] #[.pointer (some ⟨w.heap.size + 1, 0, none⟩), .pointer (some ⟨w.heap.size, 0, none⟩)]) ∧ (w.alloc (.cells #[.slice A n cap] 22)).alloc (.cells #[.int .i64 i] 3) = w' := by
  have hmf : ∀ (fn : Fn) (first cap : Array Value) (w : World), (Instr.makeFunc fn first cap).run Try.prog w = .ok (.func fn first cap) w := fun _ _ _ _ => rfl
  go_enter Try.func67, Try.ntmps67
  go_wp2
  go_ret
  exact ⟨rfl, rfl⟩
/-- the blocks that the iterators over scopes read -/
def ReadS (A : Option Addr) (bs b : Nat) : Prop := b = bs ∨ ∃ a, A = some a ∧ a.block = b
def cellN (W : World) (b : Nat) : Int := match W.cell? ⟨b, 0, none⟩ with | some (.int _ n) => n | _ => 0
/-- the slice keeps its elements where its block and that of the slice itself are kept -/
theorem sc_kept {W W' : World} {A : Option Addr} {scs : List Sc} {C : Nat → Prop} {bs : Nat} (h : ScS W A scs) (hk : Keeps C W W') (hC : ∀ b, ReadS A bs b → ¬ C b) : ScS W' A scs := by
  intro hp
  obtain ⟨b, off, rfl, hat⟩ := h hp
  have hbz : b < W.heap.size := by
    have h1 := hat 0 hp 0 (by decide)
    exact World.block_lt_of_cell? W _ h1
  exact ⟨b, off, rfl, fun i hi j hj => (hk.cell (p := ⟨b, _, none⟩) hbz (hC b (.inr ⟨_, rfl, rfl⟩))).trans (hat i hi j hj)⟩
theorem sc_same {W W' : World} {A : Option Addr} {scs : List Sc} {X : Nat → Prop} {bs : Nat} (h : ScS W A scs) (hk : Same X W W') (hC : ∀ b, ReadS A bs b → X b) : ScS W' A scs := by
  intro hp
  obtain ⟨b, off, rfl, hat⟩ := h hp
  exact ⟨b, off, rfl, fun i hi j hj => (hk.cell (p := ⟨b, _, none⟩) (hC b (.inr ⟨_, rfl, rfl⟩))).trans (hat i hi j hj)⟩
set_option maxHeartbeats 4000000 in
set_option maxRecDepth 20000 in
theorem up_iter (scs : List Sc) (A : Option Addr) (cap : Nat) (i : Int) (bi bs : Nat) (w : World) (hl : scs.length ≤ 1000000) (hd : DeclS scs) (hi : i < scs.length) (hi1 : -1 ≤ i) (hne : bi ≠ bs) (hA : ∀ a, A = some a → a.block ≠ bi)
    (hbi : Row w bi 3 #[.int .i64 i]) (hbs : Row w bs 22 #[.slice A scs.length cap]) (hs : ScS w A scs) :
    IterO Try.prog 78 #[.pointer (some ⟨bi, 0, none⟩), .pointer (some ⟨bs, 0, none⟩)] (fun x : Nat => #[.int .i64 (x : Int)]) (upH scs i) (ReadS A bs) (fun b => b = bi) w := by
  intro lp J Jx C0 W hR hRC hOC hC hRl hOl hJ hJx hY h0
  have hbiW : Row W bi 3 #[.int .i64 i] := (hR.block bi (.inr rfl)).trans hbi
  have hbsW : Row W bs 22 #[.slice A scs.length cap] := (hR.block bs (.inl (.inl rfl))).trans hbs
  have hsW : ScS W A scs := sc_same hs hR (fun b hb => .inl hb)
  have hnC : ¬ C0 bi := hOC bi rfl
  have hRX : ∀ b, ReadS A bs b → ¬ (C0 b ∨ b = bi) := by
    rintro b (rfl | ⟨a, ha, rfl⟩) (h | h)
    · exact hRC _ (.inl rfl) h
    · exact hne h.symm
    · exact hRC _ (.inr ⟨a, ha, rfl⟩) h
    · exact hA a ha h
  have HY := hide hY
  have HC := hide hC
  have HJ := hide hJ
  have H0 := hide h0
  have HRX := hide hRX
  have HsW := hide hsW
  have HbsW := hide hbsW
  have HbiW := hide hbiW
  have Hd := hide hd
  obtain ⟨n, hn⟩ : ∃ n, scs.length = n := ⟨_, rfl⟩
  have Hn := hide hn
  rw [hn] at HbsW hi hl
  clear hY hC hJ hJx h0 hRX hsW hbsW hbiW hs hbs hbi hR hRC hOC hRl hOl hd hn
  refine callsIn_of_wp Try.func78 rfl trivial ?_
  simp only [Try.ntmps78, List.size_toArray, List.length_cons, List.length_nil, Nat.reduceAdd, Nat.reduceSub, Array.replicate_succ, Array.replicate_zero, List.push_toArray, List.append_toArray, List.nil_append, List.cons_append]
  gi_wp2_with fail
  gi_loopw [4] (fun v wr => ∃ (c : Int) (k : Nat) (C : Nat → Prop), -1 ≤ c ∧ c < n ∧ k ≤ (upH scs i).length ∧ (upH scs i).drop k = upH scs c ∧ J k C wr ∧ ¬ C bi ∧ Row wr bi 3 #[.int .i64 c] ∧ Keeps (fun b => C0 b ∨ b = bi) W wr ∧ Grew C0 W C wr) (fun _ wr => (cellN wr bi + 1).toNat)
  case atStart => exact ⟨i, 0, C0, hi1, hi, Nat.zero_le _, rfl, H0.out, hnC, HbiW.out, Keeps.refl _ _, HC.out.grew⟩
  case round =>
    obtain ⟨c, k, C, hc1, hc2, hk, hdr, hj, hCb, hrow, hkp, hgr⟩ := hrel
    have hcN : cellN wr bi = c := by unfold cellN; rw [hrow.cell 0]; rfl
    have hcell : wr.cell? ⟨bi, 0, none⟩ = some (.int .i64 c) := hrow.cell 0
    by_cases h0 : 0 ≤ c
    · obtain ⟨m, rfl⟩ : ∃ m : Nat, c = m := ⟨c.toNat, by omega⟩
      have hm : m < scs.length := by rw [Hn.out]; omega
      have hstep := upH_step Hd.out hm
      have hpar := Hd.out m hm
      have hxe := scH_at hm
      rw [hstep] at hdr
      obtain ⟨d1, d2, d3⟩ := drop_consH hdr
      have D2 := hide d2
      have D3 := hide d3
      have Hkp := hide hkp
      have Hgr := hide hgr
      have Hrow := hide hrow
      have HcN := hide hcN
      obtain ⟨fn, tmps, assign, body, hy, hR⟩ := HY.out k _ C wr d1 hj (fun b hb => (hgr b hb).2)
      have HR := hide hR
      simp only at hy
      obtain ⟨x, hx⟩ : ∃ x, scs[m]'hm = x := ⟨_, rfl⟩
      rw [hxe, hx] at hpar D2
      have Hx := hide hx
      obtain ⟨nm, ty, pa⟩ := x
      simp only at hpar D2
      clear hR hdr hstep hkp hgr hrow hj hcN d1 d2 d3 hxe hx
      gi_wp2_with fail
      refine HR.out.mono ?_
      rintro e W6 ⟨C', hk6, hg6, hj6⟩
      have hCb' : ¬ C' bi := fun e => (hg6 _ e).1.elim hCb (fun h => by have := Hrow.out.lt; omega)
      have hrow6 : Row W6 bi 3 #[.int .i64 (m : Int)] := Hrow.out.keep hk6 hCb
      have hkG : ∀ b, C b → (C0 b ∨ b = bi) ∨ W.heap.size ≤ b := fun b hb => (Hgr.out b hb).1.imp .inl id
      have hkp6 : Keeps (fun b => C0 b ∨ b = bi) W W6 := Hkp.out.trans' hk6 hkG
      have hgr6 : Grew C0 W C' W6 := Hgr.out.trans hg6 Hkp.out.size
      have hbs6 : Row W6 bs 22 #[.slice A n cap] := HbsW.out.keep hkp6 (HRX.out bs (.inl rfl))
      have hs6 : ScS W6 A scs := sc_kept HsW.out hkp6 HRX.out
      have hc6 : W6.cell? ⟨bi, 0, none⟩ = some (.int .i64 (m : Int)) := hrow6.cell 0
      have hf6 := hrow6.frozen 0
      have hcs6 : W6.cell? ⟨bs, 0, none⟩ = some (.slice A n cap) := hbs6.cell 0
      obtain ⟨bA, off, rfl, hbz, hat⟩ := sc_at hs6 hm
      obtain ⟨c0, c1, c2⟩ := hat W6 (Below.refl _ _)
      rw [Hx.out] at c0 c1 c2
      simp only at c0 c1 c2
      have HK := hide hkp6
      have HG := hide hgr6
      have HCb := hide hCb'
      have Hrow6 := hide hrow6
      clear hk6 hg6 hkp6 hgr6 hbs6 hs6 hat hrow6 hy hkG hcell
      have hmi : (m : Int) < (n : Int) := hc2
      rcases hj6 with ⟨rfl, hj6⟩ | ⟨rfl, hj6⟩
      · have Hj6 := hide hj6
        have HS := hide (HK.out.set (b := bi) (.inl (.inr rfl)) 0 (.int .i64 pa))
        have HGS := hide (HG.out.later (W2 := W6.setCell ⟨bi, 0, none⟩ (.int .i64 pa)) (by simp [World.setCell]))
        have HRS := hide (Hrow6.out.set_ 0 (.int .i64 pa))
        have HJS := hide (HJ.out _ _ _ (W6.setCell ⟨bi, 0, none⟩ (.int .i64 pa)) Hj6.out ⟨rfl, rfl, rfl, by simp [World.setCell], fun b hb => Below.heap_setCell _ ⟨bi, 0, none⟩ _ b (by
          rintro rfl
          exact hb.elim (fun h => h.2 rfl) HCb.out)⟩)
        clear hj6
        gi_wp2
        go_roundw
        case rel => exact ⟨pa, k + 1, C', hpar.1, by omega, by have := D3.out; omega, D2.out, HJS.out, HCb.out, HRS.out, HS.out, HGS.out⟩
        case measure =>
          have e1 : cellN (W6.setCell ⟨bi, 0, none⟩ (.int .i64 pa)) bi = pa := by
            unfold cellN; rw [HRS.out.cell 0]; rfl
          have e2 : cellN wr bi = (m : Int) := HcN.out
          rw [e1, e2]; omega
      · have Hj6 := hide hj6
        clear hj6
        gi_wp2
        refine bodyPost_ret (results_none rfl _ _ _) rfl ?_
        exact ⟨⟨_, rfl⟩, C', HK.out, HG.out, .inr ⟨k + 1, by have := D3.out; omega, Hj6.out⟩⟩
    · have h0' : ¬ (0 : Int) ≤ c := h0
      have hcn : c < 0 := by omega
      rw [upH_neg scs hcn] at hdr
      have hkl := drop_noneH hdr hk
      have HJE := hide (show J (upH scs i).length C wr by rw [← hkl]; exact hj)
      have Hkp := hide hkp
      have Hgr := hide hgr
      clear hdr hj hkp hgr hkl hk hrow
      gi_wp2
      go_end0
      exact ⟨⟨_, rfl⟩, Hkp.out, C, Hgr.out, .inl HJE.out⟩
end Go.Proofs.Ytpfiofgchkfkhaa
