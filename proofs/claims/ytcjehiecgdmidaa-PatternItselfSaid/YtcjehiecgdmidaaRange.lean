/- Which blocks a stretch of a run may have turned ('Keeps'); and the law of a range over a function whose sequence is known, with the caller's own blocks told apart from the iterator's. No program is named. -/
import Derived.Test.YtcjehiecgdmidaaCore
namespace Go
open Go.RowKit

/-- From W to W': no block that lay there has turned, but for those of C. -/
structure Keeps (C : Nat → Prop) (W W' : World) : Prop where
  os : W'.os = W.os
  tape : W'.tape = W.tape
  output : W'.output = W.output
  size : W.heap.size ≤ W'.heap.size
  block : ∀ b, b < W.heap.size → ¬ C b → W'.heap[b]? = W.heap[b]?

section
variable {C C' : Nat → Prop} {W W1 W2 W3 : World}
theorem Keeps.refl (C : Nat → Prop) (W : World) : Keeps C W W := ⟨rfl, rfl, rfl, Nat.le_refl _, fun _ _ _ => rfl⟩
theorem Keeps.trans (h : Keeps C W1 W2) (k : Keeps C W2 W3) : Keeps C W1 W3 :=
  ⟨k.os.trans h.os, k.tape.trans h.tape, k.output.trans h.output, Nat.le_trans h.size k.size, fun b hb hc => (k.block b (Nat.lt_of_lt_of_le hb h.size) hc).trans (h.block b hb hc)⟩
theorem Keeps.trans' (h : Keeps C W1 W2) (k : Keeps C' W2 W3) (hc : ∀ b, C' b → C b ∨ W1.heap.size ≤ b) : Keeps C W1 W3 :=
  ⟨k.os.trans h.os, k.tape.trans h.tape, k.output.trans h.output, Nat.le_trans h.size k.size, fun b hb hn => (k.block b (Nat.lt_of_lt_of_le hb h.size) (fun e => (hc b e).elim hn (by omega))).trans (h.block b hb hn)⟩
theorem Keeps.mono (h : Keeps C W1 W2) (hc : ∀ b, C b → C' b) : Keeps C' W1 W2 := ⟨h.os, h.tape, h.output, h.size, fun b hb hn => h.block b hb (fun e => hn (hc b e))⟩
theorem Keeps.of_below {B : Nat} (h : Below B W1 W2) (hB : W1.heap.size ≤ B) : Keeps C W1 W2 := ⟨h.os, h.tape, h.output, h.size, fun b hb _ => h.block b (by omega)⟩
theorem Keeps.below {B : Nat} (h : Keeps C W1 W2) (hc : ∀ b, C b → B ≤ b) (hB : B ≤ W1.heap.size) : Below B W1 W2 := ⟨h.os, h.tape, h.output, h.size, fun b hb => h.block b (by omega) (fun e => by have := hc b e; omega)⟩
theorem Keeps.drew (h : Keeps C W1 W2) : Keeps C W1 W2.drew := ⟨h.os, h.tape, h.output, h.size, h.block⟩
theorem Keeps.drewN (h : Keeps C W1 W2) (n : Nat) : Keeps C W1 (W2.drewN n) := ⟨h.os, h.tape, h.output, h.size, h.block⟩
theorem Keeps.alloc (h : Keeps C W1 W2) (o : Obj) : Keeps C W1 (W2.alloc o) :=
  h.trans ⟨rfl, rfl, rfl, by simp, fun b hb _ => Below.heap_alloc _ _ _ hb⟩
theorem Keeps.setCell (h : Keeps C W1 W2) {p : Addr} (hp : C p.block ∨ W1.heap.size ≤ p.block) (u : Value) : Keeps C W1 (W2.setCell p u) :=
  ⟨h.os, h.tape, h.output, by simpa [World.setCell] using h.size, fun b hb hn => (Below.heap_setCell _ _ _ _ (fun e => by subst e; rcases hp with hp | hp; exact hn hp; omega)).trans (h.block b hb hn)⟩
theorem Keeps.set (h : Keeps C W1 W2) {b : Nat} (hp : C b ∨ W1.heap.size ≤ b) (o : Nat) (u : Value) : Keeps C W1 (W2.setCell ⟨b, o, none⟩ u) := h.setCell (p := ⟨b, o, none⟩) hp u
theorem Keeps.grown {row : Option Nat} (h : Keeps C W1 W2) (hg : W2.grownBy W3 row) (hr : ∀ k, row = some k → C k ∨ W1.heap.size ≤ k) : Keeps C W1 W3 :=
  ⟨hg.os.trans h.os, hg.tape.trans h.tape, hg.output.trans h.output, Nat.le_trans h.size hg.size, fun b hb hn => (hg.block b (Nat.lt_of_lt_of_le hb h.size) (fun e => (hr b e.symm).elim hn (by omega))).trans (h.block b hb hn)⟩
theorem Keeps.cell (h : Keeps C W1 W2) {p : Addr} (hp : p.block < W1.heap.size) (hn : ¬ C p.block) : W2.cell? p = W1.cell? p := World.cell?_of_block (h.block _ hp hn)
theorem Keeps.putObj (h : Keeps C W1 W2) {l : Nat} (hl : C l ∨ W1.heap.size ≤ l) (o : Obj) : Keeps C W1 (W2.putObj l o) :=
  ⟨h.os, h.tape, h.output, by simpa using h.size, fun b hb hn => (World.putObj_heap_other (fun e => by subst e; rcases hl with hp | hp; exact hn hp; omega)).trans (h.block b hb hn)⟩
end

/-- Block g is a row of cells, none of them frozen. -/
def Row (W : World) (g : Nat) (t : TypeId) (cs : Array Value) : Prop := W.heap[g]? = some (.cells cs t)
section
variable {W W' : World} {g : Nat} {t : TypeId} {cs : Array Value}
theorem Row.lt (h : Row W g t cs) : g < W.heap.size := (Array.getElem?_eq_some_iff.1 h).1
theorem Row.cell (h : Row W g t cs) (i : Nat) : W.cell? ⟨g, i, none⟩ = cs[i]? := by simp [World.cell?, show W.heap[g]? = _ from h]
theorem Row.frozen (h : Row W g t cs) (i : Nat) : W.frozen? ⟨g, i, none⟩ = false := by simp [World.frozen?, show W.heap[g]? = _ from h]
theorem Row.new (W : World) (t : TypeId) (cs : Array Value) : Row (W.alloc (.cells cs t)) W.heap.size t cs := World.alloc_heap_new W _
theorem Row.alloc (h : Row W g t cs) (o : Obj) : Row (W.alloc o) g t cs := (Below.heap_alloc W o g h.lt).trans h
theorem Row.drew (h : Row W g t cs) : Row W.drew g t cs := h
theorem Row.drewN (h : Row W g t cs) (n : Nat) : Row (W.drewN n) g t cs := h
theorem Row.set_ (h : Row W g t cs) (i : Nat) (u : Value) : Row (W.setCell ⟨g, i, none⟩ u) g t (cs.setIfInBounds i u) := by
  unfold Row at h ⊢
  simp [World.setCell, Array.getElem?_modify, h]
theorem Row.far (h : Row W g t cs) {p : Addr} (hp : g ≠ p.block) (u : Value) : Row (W.setCell p u) g t cs := (Below.heap_setCell W p u g hp).trans h
theorem Row.off (h : Row W g t cs) {b : Nat} (hp : g ≠ b) (o : Nat) (u : Value) : Row (W.setCell ⟨b, o, none⟩ u) g t cs := h.far (p := ⟨b, o, none⟩) hp u
theorem Row.below {B : Nat} (h : Row W g t cs) (hb : Below B W W') (hg : g < B) : Row W' g t cs := (hb.block g hg).trans h
theorem Row.keep {C : Nat → Prop} (h : Row W g t cs) (hk : Keeps C W W') (hg : ¬ C g) : Row W' g t cs := (hk.block g h.lt hg).trans h
theorem Row.grown {row : Option Nat} (h : Row W g t cs) (hb : W.grownBy W' row) (hg : some g ≠ row) : Row W' g t cs := (hb.block g h.lt hg).trans h
theorem Row.ne_ {g' : Nat} {t' : TypeId} {cs' : Array Value} (h : Row W g t cs) (h' : Row W g' t' cs') (hne : t ≠ t') : g ≠ g' := by
  rintro rfl
  unfold Row at h h'
  rw [h] at h'
  injection h' with h'
  injection h' with _ ht
  exact hne ht
end

theorem cells_new {W : World} (l : List Value) (t : TypeId) {n : Nat} (hn : n = W.heap.size) : ∀ j u, l[j]? = some u → (W.alloc (.cells l.toArray t)).cell? ((⟨n, 0, none⟩ : Addr).add j) = some u := by
  intro j u h
  subst hn
  have hadd : (⟨W.heap.size, 0, none⟩ : Addr).add j = ⟨W.heap.size, j, none⟩ := by unfold Addr.add; split <;> simp_all
  rw [hadd, (Row.new W t l.toArray).cell j]
  simpa using h

/-- What is known of a world by its blocks in X alone. -/
structure Same (X : Nat → Prop) (W W' : World) : Prop where
  os : W'.os = W.os
  tape : W'.tape = W.tape
  output : W'.output = W.output
  size : W.heap.size ≤ W'.heap.size
  block : ∀ b, X b → W'.heap[b]? = W.heap[b]?

theorem Same.refl (X : Nat → Prop) (W : World) : Same X W W := ⟨rfl, rfl, rfl, Nat.le_refl _, fun _ _ => rfl⟩
theorem Same.cell {X : Nat → Prop} {W W' : World} (h : Same X W W') {p : Addr} (hp : X p.block) : W'.cell? p = W.cell? p := World.cell?_of_block (h.block _ hp)
theorem Same.frozen {X : Nat → Prop} {W W' : World} (h : Same X W W') {p : Addr} (hp : X p.block) : W'.frozen? p = W.frozen? p := by
  simp only [World.frozen?, h.block _ hp]
theorem Same.of_below {B : Nat} {X : Nat → Prop} {W W' : World} (h : Below B W W') (hX : ∀ b, X b → b < B) : Same X W W' := ⟨h.os, h.tape, h.output, h.size, fun b hb => h.block b (hX b hb)⟩
theorem Same.of_keeps {C X : Nat → Prop} {W W' : World} (h : Keeps C W W') (hX : ∀ b, X b → b < W.heap.size ∧ ¬ C b) : Same X W W' := ⟨h.os, h.tape, h.output, h.size, fun b hb => h.block b (hX b hb).1 (hX b hb).2⟩

theorem Row.same {X : Nat → Prop} {W W' : World} {g : Nat} {t : TypeId} {cs : Array Value} (h : Row W g t cs) (hs : Same X W W') (hX : X g) : Row W' g t cs := (hs.block g hX).trans h

/-- The blocks C, all laid. -/
def Laid (C : Nat → Prop) (W : World) : Prop := ∀ b, C b → b < W.heap.size
/-- C' is C and what is new since W. -/
def Grew (C : Nat → Prop) (W : World) (C' : Nat → Prop) (W' : World) : Prop := ∀ b, C' b → (C b ∨ W.heap.size ≤ b) ∧ b < W'.heap.size

theorem Laid.grew {C : Nat → Prop} {W : World} (h : Laid C W) : Grew C W C W := fun b hb => ⟨.inl hb, h b hb⟩
theorem Grew.laid {C C' : Nat → Prop} {W W' : World} (h : Grew C W C' W') : Laid C' W' := fun b hb => (h b hb).2
theorem Grew.later {C C' : Nat → Prop} {W W1 W2 : World} (h : Grew C W C' W1) (hz : W1.heap.size ≤ W2.heap.size) : Grew C W C' W2 := fun b hb => ⟨(h b hb).1, Nat.lt_of_lt_of_le (h b hb).2 hz⟩
theorem Grew.trans {C0 C C' : Nat → Prop} {W W1 W2 : World} (h : Grew C0 W C W1) (k : Grew C W1 C' W2) (hz : W.heap.size ≤ W1.heap.size) : Grew C0 W C' W2 :=
  fun b hb => ⟨(k b hb).1.elim (fun e => (h b e).1) (fun e => .inr (Nat.le_trans hz e)), (k b hb).2⟩
theorem Keeps.trans_grew {C0 C : Nat → Prop} {W W1 W2 : World} (h : Keeps C0 W W1) (k : Keeps C W1 W2) (hg : Grew C0 W C W1) : Keeps C0 W W2 := h.trans' k (fun b hb => (hg b hb).1)

/-- J speaks of the blocks that lay below n, and of those of C, alone. -/
def Abide (n : Nat) (J : Nat → (Nat → Prop) → World → Prop) : Prop :=
  ∀ k C W1 W2, J k C W1 → Same (fun b => b < n ∨ C b) W1 W2 → J k C W2

/-- A ROUND: yield called in W1 with x, the caller's own blocks being C. -/
def RoundAt {α : Type} (P : Program) (l : Nat) (encs : α → Array Value) (J Jx : Nat → (Nat → Prop) → World → Prop) (k : Nat) (x : α) (C : Nat → Prop) (W1 : World) : Prop :=
  YieldAt Fence.wide 0 P l (encs x) W1 fun e W' => ∃ C', Keeps C W1 W' ∧ Grew C W1 C' W' ∧
    ((e = .returned (.bool true) ∧ J (k + 1) C' W') ∨ (e = .returned (.bool false) ∧ Jx (k + 1) C' W'))

/-- THE CONTRACT OF AN ITERATOR that yields xs, one behind the other, till it is told to stop. R: the blocks that it reads. -/
def Iter {α : Type} (P : Program) (gf : Nat) (lb : Array Value) (encs : α → Array Value) (xs : List α) (R : Nat → Prop) (w : World) : Prop :=
  ∀ (l : Nat) (J Jx : Nat → (Nat → Prop) → World → Prop) (C : Nat → Prop) (W : World),
    Same R w W → (∀ b, R b → ¬ C b) → Laid C W → Laid R W → Abide W.heap.size J → Abide W.heap.size Jx →
    (∀ k x C1 W1, xs[k]? = some x → J k C1 W1 → Laid C1 W1 → RoundAt P l encs J Jx k x C1 W1) →
    J 0 C W →
    CallsIn Fence.wide 0 P gf (#[.func (.yield l) #[] #[]] ++ lb) W fun e W' => (∃ v, e = .returned v) ∧
      ∃ C', Keeps C W W' ∧ Grew C W C' W' ∧ (J xs.length C' W' ∨ ∃ k, k ≤ xs.length ∧ Jx k C' W')

/-- W2 is W1 but for block l. -/
structure But (l : Nat) (W1 W2 : World) : Prop where
  os : W2.os = W1.os
  tape : W2.tape = W1.tape
  output : W2.output = W1.output
  size : W2.heap.size = W1.heap.size
  block : ∀ b, b ≠ l → W2.heap[b]? = W1.heap[b]?
theorem But.putObj (W : World) (l : Nat) (o : Obj) : But l W (W.putObj l o) := ⟨rfl, rfl, rfl, by simp, fun _ h => World.putObj_heap_other h⟩
theorem But.cell {l : Nat} {W W' : World} (h : But l W W') {p : Addr} (hp : p.block ≠ l) : W'.cell? p = W.cell? p := World.cell?_of_block (h.block _ hp)
theorem But.frozen {l : Nat} {W W' : World} (h : But l W W') {p : Addr} (hp : p.block ≠ l) : W'.frozen? p = W.frozen? p := by
  simp only [World.frozen?, h.block _ hp]
theorem But.same {l : Nat} {X : Nat → Prop} {W W' : World} (h : But l W W') (hX : ¬ X l) : Same X W W' := ⟨h.os, h.tape, h.output, Nat.le_of_eq h.size.symm, fun b hb => h.block b (fun e => hX (e ▸ hb))⟩

theorem Row.but {l : Nat} {W W' : World} {g : Nat} {t : TypeId} {cs : Array Value} (h : Row W g t cs) (hb : But l W W') (hg : g ≠ l) : Row W' g t cs := (hb.block g hg).trans h

/-- How the body of a round may be left. W0: where the round began; W: behind the assignment. -/
def roundEnd (I : Nat → (Nat → Prop) → World → Prop) (Ix : Code → Nat → (Nat → Prop) → World → Prop) (k : Nat) (C : Nat → Prop) (W0 W : World) : Exit → Act → World → Prop
  | .normal, _, W' => ∃ C', Keeps C W W' ∧ Grew C W0 C' W' ∧ I k C' W'
  | .ret, _, W' => ∃ C', Keeps C W W' ∧ Grew C W0 C' W' ∧ Ix .ret k C' W'
  | .exit id, _, W' => ∃ C', Keeps C W W' ∧ Grew C W0 C' W' ∧ Ix (.exit id) k C' W'
  | .goto t, _, W' => ∃ C', Keeps C W W' ∧ Grew C W0 C' W' ∧ Ix (.goto t) k C' W'
  | .panic _, _, _ => False
  | .outgrown, _, _ => False

section
variable {P : Program} {α : Type}

theorem Keeps.heap {C : Nat → Prop} {W W' : World} (h : Keeps C W W') {l : Nat} {o : Obj} (hl : W.heap[l]? = some o) (hn : ¬ C l) : W'.heap[l]? = some o :=
  (h.block l ((Array.getElem?_eq_some_iff.1 hl).1) hn).trans hl

/-- **THE LAW OF 'for .. := range g { .. }', outside of every round.** -/
theorem wpIn_range {g : Operand} {ps : Array Tmp} {assign body : Code} {Q : Exit → Act → World → Prop} {a : Act} {w w0 : World}
    {gf : Nat} {lb : Array Value} (hg : a.eval g = .func (.func gf) #[] lb) (eg : ∀ args w, (callFunc gf args).run P w = .ok (.enter gf args) w)
    {encs : α → Array Value} {xs : List α} {R : Nat → Prop} (hseq : Iter P gf lb encs xs R w0) (hps : ∀ x, (encs x).size = ps.size)
    (hRs : Same R w0 w) (C0 : Nat → Prop) (hRC : ∀ b, R b → ¬ C0 b) (hR : Laid R w) (hC : Laid C0 w)
    (I : Nat → (Nat → Prop) → World → Prop) (Ix : Code → Nat → (Nat → Prop) → World → Prop) (hI : Abide w.heap.size I) (hIx : ∀ c, Abide w.heap.size (Ix c)) (h0 : I 0 C0 w)
    (hround : ∀ l k x C W, w.heap.size ≤ l → l < W.heap.size → ¬ C l → xs[k]? = some x → I k C W → Grew C0 w C W → w.heap.size ≤ W.heap.size →
      assign.wpIn (Fence.wide.inRound l) 0 P (Exit.then (fun a₁ W₁ => Keeps C W W₁ ∧ ∀ W₂, But l W₁ W₂ → body.wpIn (Fence.wide.inRound l) 0 P (roundEnd I Ix (k + 1) C W W₂) a₁ W₂) (fun _ _ _ => False))
        { tmps := (ps.zip (encs x)).foldl (fun t (p, v) => t.setIfInBounds p v) a.tmps, defers := [] } W)
    (hdone : ∀ D C W, w.heap.size ≤ D → ¬ C D → W.heap[D]? = some (.deferred (some [])) → I xs.length C W → Keeps C0 w W → Grew C0 w C W →
      Q .normal { a with defers := { target := .collected D, args := #[] } :: a.defers } W)
    (hstop : ∀ D c k C W, w.heap.size ≤ D → ¬ C D → W.heap[D]? = some (.deferred (some [])) → k ≤ xs.length → Ix c k C W → Keeps C0 w W → Grew C0 w C W →
      c.wpIn Fence.wide 0 P Q { a with defers := { target := .collected D, args := #[] } :: a.defers } W) :
    (Code.rangeFunc g ps assign body).wpIn Fence.wide 0 P Q a w := by
  refine wpIn_rangeFunc fun fn hfn => ?_
  have hro : Fence.wide.round = none := rfl
  rw [hro]
  obtain ⟨n, hn⟩ : ∃ n, n = w.heap.size := ⟨_, rfl⟩
  obtain ⟨rc, hrc⟩ : ∃ rc : LoopState → Option Code → Loop, rc = fun st pe => { state := st, pending := pe, fn, tmps := a.tmps, params := ps, assign, body, defers := n } := ⟨_, rfl⟩
  obtain ⟨W1, hW1⟩ : ∃ W1, (w.alloc (.deferred (some []))).alloc (.loop (rc .ready none)) = W1 := ⟨_, rfl⟩
  have hz1 : W1.heap.size = n + 2 := by rw [← hW1, hn]; simp
  have hL1 : W1.heap[n + 1]? = some (.loop (rc .ready none)) := by
    rw [← hW1, hn]; have := World.alloc_heap_new (w.alloc (.deferred (some []))) (.loop (rc .ready none)); rwa [World.size_alloc] at this
  have hK1 : W1.heap[n]? = some (.deferred (some [])) := by
    rw [← hW1, hn]; exact (Below.heap_alloc _ _ _ (by simp)).trans (World.alloc_heap_new w _)
  have hkp : Keeps C0 w W1 := by rw [← hW1]; exact ((Keeps.refl _ _).alloc _).alloc _
  have hsm : Same (fun b => b < w.heap.size) w W1 := by
    rw [← hW1]; exact Same.of_below (B := w.heap.size) (((Below.refl _ w).alloc (Nat.le_refl _) _).alloc (by simp) _) (fun b hb => hb)
  have hI1 : I 0 C0 W1 := hI _ _ _ _ h0 ⟨hsm.os, hsm.tape, hsm.output, hsm.size, fun b hb => hsm.block b (hb.elim id (hC b))⟩
  have hsm' : Same R w0 W1 := ⟨hsm.os.trans hRs.os, hsm.tape.trans hRs.tape, hsm.output.trans hRs.output, Nat.le_trans hRs.size hsm.size, fun b hb => (hsm.block b (hR b hb)).trans (hRs.block b hb)⟩
  refine ⟨n + 1, [{ target := .collected n, args := #[] }], W1, { target := .fn (.func gf) lb, args := #[.func (.yield (n + 1)) #[] #[]] }, W1, gf,
    #[.func (.yield (n + 1)) #[] #[]] ++ lb, W1, ?_, ?_, ?_, ?_, (fun hs => absurd hs (by simp [Fence.wide])), ?_⟩
  · rw [← hW1, hrc, hn]; exact run_enterLoop_outer _ _ _ _ _
  · simp only [resolve, hg]
    simp [go_sem]
  · exact fun f' _ => trivial
  · simp [invoke, go_sem, eg]
  · -- the iterator's contract, at the caller's invariant and the two blocks of book-keeping; the loop's record counts as the caller's own
    obtain ⟨J, hJ⟩ : ∃ J : Nat → (Nat → Prop) → World → Prop, J = fun k C W => ∃ C₁, (C = fun b => C₁ b ∨ b = n + 1) ∧ I k C₁ W ∧ ¬ C₁ (n + 1) ∧ ¬ C₁ n ∧ W.heap[n + 1]? = some (.loop (rc .ready none)) ∧ W.heap[n]? = some (.deferred (some [])) ∧ Keeps C0 w W ∧ Grew C0 w C₁ W := ⟨_, rfl⟩
    obtain ⟨Jx, hJx⟩ : ∃ J : Nat → (Nat → Prop) → World → Prop, J = fun k C W => ∃ C₁ c, (C = fun b => C₁ b ∨ b = n + 1) ∧ Ix c k C₁ W ∧ ¬ C₁ (n + 1) ∧ ¬ C₁ n ∧ W.heap[n + 1]? = some (.loop (rc .done (some c))) ∧ W.heap[n]? = some (.deferred (some [])) ∧ Keeps C0 w W ∧ Grew C0 w C₁ W := ⟨_, rfl⟩
    have hC0n : ¬ C0 n := fun e => by have := hC n e; omega
    have hC0n1 : ¬ C0 (n + 1) := fun e => by have := hC _ e; omega
    have hJA : Abide W1.heap.size J := by
      intro k C Wa Wb hj hs
      rw [hJ] at hj ⊢
      obtain ⟨C₁, rfl, hi, h1, h2, hl, hk, hkk, hld⟩ := hj
      refine ⟨C₁, rfl, hI _ _ _ _ hi ⟨hs.os, hs.tape, hs.output, hs.size, fun b hb => hs.block b (hb.elim (fun h => .inl (by omega)) (fun h => .inr (.inl h)))⟩, h1, h2, (hs.block _ (.inr (.inr rfl))).trans hl, (hs.block _ (.inl (by omega))).trans hk, ?_, fun b hb => ⟨(hld b hb).1, Nat.lt_of_lt_of_le (hld b hb).2 hs.size⟩⟩
      exact ⟨hs.os.trans hkk.os, hs.tape.trans hkk.tape, hs.output.trans hkk.output, Nat.le_trans hkk.size hs.size, fun b hb hn' => (hs.block b (.inl (by omega))).trans (hkk.block b hb hn')⟩
    have hJxA : Abide W1.heap.size Jx := by
      intro k C Wa Wb hj hs
      rw [hJx] at hj ⊢
      obtain ⟨C₁, c, rfl, hi, h1, h2, hl, hk, hkk, hld⟩ := hj
      refine ⟨C₁, c, rfl, hIx c _ _ _ _ hi ⟨hs.os, hs.tape, hs.output, hs.size, fun b hb => hs.block b (hb.elim (fun h => .inl (by omega)) (fun h => .inr (.inl h)))⟩, h1, h2, (hs.block _ (.inr (.inr rfl))).trans hl, (hs.block _ (.inl (by omega))).trans hk, ?_, fun b hb => ⟨(hld b hb).1, Nat.lt_of_lt_of_le (hld b hb).2 hs.size⟩⟩
      exact ⟨hs.os.trans hkk.os, hs.tape.trans hkk.tape, hs.output.trans hkk.output, Nat.le_trans hkk.size hs.size, fun b hb hn' => (hs.block b (.inl (by omega))).trans (hkk.block b hb hn')⟩
    refine (hseq (n + 1) J Jx (fun b => C0 b ∨ b = n + 1) W1 hsm' (fun b hb e => e.elim (hRC b hb) (fun e => by have := hR b hb; omega))
      (fun b hb => hb.elim (fun h => by have := hC b h; omega) (fun h => by omega)) (fun b hb => by have := hR b hb; omega) hJA hJxA ?_
      (by rw [hJ]; exact ⟨C0, rfl, hI1, hC0n1, hC0n, hL1, hK1, hkp, fun b hb => ⟨.inl hb, by have := hC b hb; omega⟩⟩)).mono ?_
    · -- one round
      intro k x C1 W hx hj hlaid
      have hj0 := hj
      rw [hJ] at hj
      obtain ⟨C, rfl, hi, h1, h2, hl, hk, hkk, hld⟩ := hj
      have hlt : n + 1 < W.heap.size := (Array.getElem?_eq_some_iff.1 hl).1
      have hy := run_yield (P := P) (args := encs x) hl (by rw [hrc]; exact hps x)
      rw [hrc] at hy
      refine ⟨fn, _, assign, body, hy, roundIn_of_wpIn hfn (wpIn_mono (hround (n + 1) k x C W (by omega) hlt h1 hx hi hld (by omega)) ?_)⟩
      rintro e a₁ Wa hq
      cases e with
      | normal =>
        obtain ⟨hka, hbody⟩ := hq
        have hla := hka.heap hl h1
        have hkD := hka.heap hk h2
        refine ⟨_, run_beginRound hla (by rw [hrc]), ?_⟩
        obtain ⟨Wb, hWb⟩ : ∃ Wb, Wa.putObj (n + 1) (.loop { rc .ready none with state := .busy }) = Wb := ⟨_, rfl⟩
        have hbut : But (n + 1) Wa Wb := hWb ▸ But.putObj _ _ _
        have hlb : Wb.heap[n + 1]? = some (.loop { rc .ready none with state := .busy }) := hWb ▸ World.putObj_heap_same (Array.getElem?_eq_some_iff.1 hla).1
        have hkb : Wb.heap[n]? = some (.deferred (some [])) := (hbut.block n (by omega)).trans hkD
        rw [hWb]
        refine wpIn_mono (hbody Wb hbut) ?_
        -- from the round's end to the iterator
        have fin : ∀ (jump : Option Code) (C' : Nat → Prop) (W3 : World), Keeps C Wb W3 → Grew C W C' W3 →
            (∃ W4, (Instr.endRound (n + 1) jump).run P W3 = .ok (.bool jump.isNone) W4 ∧ W4.heap[n + 1]? = some (.loop (rc (if jump.isNone then .ready else .done) jump)) ∧ W4.heap[n]? = some (.deferred (some [])) ∧
              But (n + 1) W3 W4) ∧ ¬ C' (n + 1) ∧ ¬ C' n := by
          intro jump C' W3 hk3 hg3
          have hl3 := hk3.heap hlb h1
          have hd3 := hk3.heap hkb h2
          have hr := run_endRound (P := P) jump hl3
          refine ⟨⟨_, hr, ?_, ?_, But.putObj _ _ _⟩, fun e => (hg3 _ e).1.elim h1 (by omega), fun e => (hg3 _ e).1.elim h2 (by omega)⟩
          · rw [hrc]; exact World.putObj_heap_same (Array.getElem?_eq_some_iff.1 hl3).1
          · exact (World.putObj_heap_other (by omega)).trans hd3
        have way : ∀ (C' : Nat → Prop) (W3 W4 : World), Keeps C Wb W3 → Grew C W C' W3 → But (n + 1) W3 W4 → ¬ C' (n + 1) →
            Keeps (fun b => C b ∨ b = n + 1) W W4 ∧ Grew (fun b => C b ∨ b = n + 1) W (fun b => C' b ∨ b = n + 1) W4 ∧ Same (fun b => b < w.heap.size ∨ C' b) W3 W4 ∧ Keeps C0 w W4 ∧ Grew C0 w C' W4 := by
          intro C' W3 W4 hk3 hg3 hb4 hn'
          have hs34 : W4.heap.size = W3.heap.size := hb4.size
          have k1 : Keeps (fun b => C b ∨ b = n + 1) W W3 :=
            (hka.mono (fun b h => .inl h)).trans ((⟨hbut.os, hbut.tape, hbut.output, Nat.le_of_eq hbut.size.symm, fun b _ hn => hbut.block b (fun e => hn (.inr e))⟩ : Keeps (fun b => C b ∨ b = n + 1) Wa Wb).trans (hk3.mono (fun b h => .inl h)))
          have k2 : Keeps (fun b => C b ∨ b = n + 1) W W4 := k1.trans ⟨hb4.os, hb4.tape, hb4.output, Nat.le_of_eq hs34.symm, fun b _ hn => hb4.block b (fun e => hn (.inr e))⟩
          refine ⟨k2, fun b hb => ?_, hb4.same (fun e => e.elim (by omega) hn'), ?_, fun b hb => ⟨(hg3 b hb).1.elim (fun h => (hld b h).1) (fun h => .inr (by omega)), by rw [hs34]; exact (hg3 b hb).2⟩⟩
          · rcases hb with hb | rfl
            · obtain ⟨h, h'⟩ := hg3 b hb
              exact ⟨h.elim (fun h => .inl (.inl h)) .inr, by rw [hs34]; exact h'⟩
            · have := k2.size; exact ⟨.inl (.inr rfl), by omega⟩
          · refine ⟨k2.os.trans hkk.os, k2.tape.trans hkk.tape, k2.output.trans hkk.output, Nat.le_trans hkk.size k2.size, fun b hb hnb => ?_⟩
            refine (k2.block b (by have := hkk.size; omega) (fun e => e.elim (fun hcb => ?_) (by omega))).trans (hkk.block b hb hnb)
            exact (hld b hcb).1.elim hnb (by omega)
        rintro e a3 W3 hp
        cases e with
        | normal =>
          obtain ⟨C', hk3, hg3, hi3⟩ := hp
          obtain ⟨⟨W4, hr, hl4, hd4, hb4⟩, hn1', hn2'⟩ := fin none C' W3 hk3 hg3
          obtain ⟨g1, g2, g3, g4, g5⟩ := way C' W3 W4 hk3 hg3 hb4 hn1'
          exact ⟨_, _, hr, _, g1, g2, .inl ⟨rfl, by rw [hJ]; exact ⟨C', rfl, hI _ _ _ _ hi3 g3, hn1', hn2', hl4, hd4, g4, g5⟩⟩⟩
        | ret =>
          obtain ⟨C', hk3, hg3, hi3⟩ := hp
          obtain ⟨⟨W4, hr, hl4, hd4, hb4⟩, hn1', hn2'⟩ := fin (some .ret) C' W3 hk3 hg3
          obtain ⟨g1, g2, g3, g4, g5⟩ := way C' W3 W4 hk3 hg3 hb4 hn1'
          exact ⟨_, _, hr, _, g1, g2, .inr ⟨rfl, by rw [hJx]; exact ⟨C', _, rfl, hIx _ _ _ _ _ hi3 g3, hn1', hn2', hl4, hd4, g4, g5⟩⟩⟩
        | exit id =>
          obtain ⟨C', hk3, hg3, hi3⟩ := hp
          obtain ⟨⟨W4, hr, hl4, hd4, hb4⟩, hn1', hn2'⟩ := fin (some (.exit id)) C' W3 hk3 hg3
          obtain ⟨g1, g2, g3, g4, g5⟩ := way C' W3 W4 hk3 hg3 hb4 hn1'
          exact ⟨_, _, hr, _, g1, g2, .inr ⟨rfl, by rw [hJx]; exact ⟨C', _, rfl, hIx _ _ _ _ _ hi3 g3, hn1', hn2', hl4, hd4, g4, g5⟩⟩⟩
        | goto t =>
          obtain ⟨C', hk3, hg3, hi3⟩ := hp
          obtain ⟨⟨W4, hr, hl4, hd4, hb4⟩, hn1', hn2'⟩ := fin (some (.goto t)) C' W3 hk3 hg3
          obtain ⟨g1, g2, g3, g4, g5⟩ := way C' W3 W4 hk3 hg3 hb4 hn1'
          exact ⟨_, _, hr, _, g1, g2, .inr ⟨rfl, by rw [hJx]; exact ⟨C', _, rfl, hIx _ _ _ _ _ hi3 g3, hn1', hn2', hl4, hd4, g4, g5⟩⟩⟩
        | panic ch => exact hp.elim
        | outgrown => exact hp.elim
      | _ => exact hq.elim
    · -- behind the iterator
      rintro e W2 ⟨⟨v, rfl⟩, Cx, hkx, hgx, hj | ⟨k, hk', hj⟩⟩
      · rw [hJ] at hj
        obtain ⟨C, rfl, hi, h1, h2, hl, hk, hkk, hld⟩ := hj
        refine ⟨none, _, by have := run_endLoop (P := P) hl (by rw [hrc]; simp); rw [hrc] at this; exact this, ?_⟩
        have hb := But.putObj W2 (n + 1) (.loop { rc .ready none with state := .exhausted })
        rw [hrc] at hb
        exact hdone n C _ (by omega) h2 ((hb.block n (by omega)).trans hk) (hI _ _ _ _ hi (hb.same (fun e => e.elim (by omega) h1)))
          (hkk.putObj (.inr (by omega)) _) (fun b hb' => ⟨(hld b hb').1, by rw [hb.size]; exact (hld b hb').2⟩)
      · rw [hJx] at hj
        obtain ⟨C, c, rfl, hi, h1, h2, hl, hk, hkk, hld⟩ := hj
        refine ⟨some c, _, by have := run_endLoop (P := P) hl (by rw [hrc]; simp); rw [hrc] at this; exact this, ?_⟩
        have hb := But.putObj W2 (n + 1) (.loop { rc .done (some c) with state := .exhausted })
        rw [hrc] at hb
        exact hstop n c k C _ (by omega) h2 ((hb.block n (by omega)).trans hk) hk' (hIx _ _ _ _ _ hi (hb.same (fun e => e.elim (by omega) h1)))
          (hkk.putObj (.inr (by omega)) _) (fun b hb' => ⟨(hld b hb').1, by rw [hb.size]; exact (hld b hb').2⟩)

theorem cell_putObj {W : World} {D : Nat} {o : Obj} {p : Addr} (h : p.block ≠ D) : (W.putObj D o).cell? p = W.cell? p := (But.putObj W D o).cell h
theorem frozen_putObj {W : World} {D : Nat} {o : Obj} {p : Addr} (h : p.block ≠ D) : (W.putObj D o).frozen? p = W.frozen? p := (But.putObj W D o).frozen h

/-- A return behind such a loop: the mark among the deferred calls is taken up. -/
theorem bodyPostM_mark {fn : Func} {R : Ending → World → Prop} {tmps : Array Value} {D : Nat} {w : World} {v : Value}
    (hK : w.heap[D]? = some (.deferred (some []))) (hr : (results fn tmps).run P (w.putObj D (.deferred none)) = .ok v (w.putObj D (.deferred none)))
    (hR : R (.returned v) (w.putObj D (.deferred none))) :
    bodyPostM Fence.wide 0 P fn R .ret { tmps := tmps, defers := [{ target := .collected D, args := #[] }] } w :=
  ⟨by simp, .inl ⟨_, _, rfl, run_takeDeferred hK, v, hr, hR⟩⟩
end
end Go
