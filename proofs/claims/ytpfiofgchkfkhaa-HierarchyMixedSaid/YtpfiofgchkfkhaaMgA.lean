/- MgA: the texts Core Open Range RngB RngC Sl in one. -/
import Derived.WalkKit
import Derived.WalkLawsBesides
import Derived.WalkSpells
import Derived.StillTailTactics
import Derived.RangeFuncNested
import Derived.RangeFuncBound
import Derived.RangeFuncCalls
import Derived.RangeFuncLeaves
import Derived.OwnWalkIn
import Derived.TacticsInMore
import Derived.LoopNIn
import Derived.LoopIn
import Derived.Shelf.Abstract
import Derived.Lib.Strings
import Derived.Maps.AppendAt
import Derived.Deep.Slices
import Derived.Deep.Fields
import Derived.ProofKit
import Derived.OpenShut
import Derived.ShutString
import Derived.ChangeOld
import Derived.Deep.AppendLies
import Derived.Laws.OwnMore
/- Laws of the walk that speak of no program: a region that draws its order and whose operations read only, but for a forced tail, inside a fence and inside a round. -/
namespace Go
open Go.RowKit

theorem hide {p : Prop} (h : p) : Hid p := h
theorem unhide {p : Prop} (h : Hid p) : p := h

@[simp, go_sem] theorem Fence.wide_depth : Fence.wide.depth = none := rfl
@[simp, go_sem] theorem Fence.wide_fn (f : FuncId) : Fence.wide.fn f = True := rfl

/-- a fence that lets every call by, at any depth -/
structure Fence.Open (F : Fence) (P : Program) : Prop where
  fn : ∀ f, F.fn f
  depth : F.depth = none
  calls : ∀ {n : Nat} {f : FuncId} {args : Array Value} {w : World} {R : Ending → World → Prop}, Calls P f args w R → CallsIn F n P f args w R

theorem Fence.open_wide (P : Program) : Fence.wide.Open P := ⟨fun _ => trivial, rfl, fun h => callsIn_wide.2 h⟩
theorem Fence.open_round (P : Program) (l : Nat) : (Fence.wide.inRound l).Open P := ⟨fun _ => trivial, rfl, fun h => CallsIn.inRound l (callsIn_wide.2 h)⟩

def Region.noDefer (ops : Array Oper) : Bool := ops.all fun o => match o.op with | .defer _ => false | _ => true
theorem Region.noDefer_spec {ops : Array Oper} (h : Region.noDefer ops = true) (j : Nat) (o : Oper) (c : Call) (ho : ops[j]? = some o) : o.op ≠ .defer c := by
  intro e
  have hj : j < ops.size := (Array.getElem?_eq_some_iff.1 ho).1
  have := Array.all_eq_true.1 h j hj
  have hoj : ops[j] = o := (Array.getElem?_eq_some_iff.1 ho).2
  rw [hoj, e] at this
  cases this

section
variable {F : Fence} {n : Nat} {P : Program} {ops : Array Oper} {md : Region.Mode} {w : World}

theorem Oper.wpIn_of_still (hF : F.Open P) {o : Oper} {a : Act} {K : Act → Prop} {K' : Act → World → Prop} {Q' : Exit → Act → World → Prop} (hnd : ∀ c, o.op ≠ .defer c)
    (h : ∀ a, K a → K' a w) (hh : o.still P a w K) : o.wpIn F n P a w K' Q' := by
  unfold Oper.still at hh
  unfold Oper.wpIn
  rw [Oper.semAt_plain F _ _ hnd]
  refine ⟨fun f _ => hF.fn f, ?_⟩
  generalize (execOp a.eval o).run P w = r at *
  cases r with
  | ok n w' =>
    cases n <;> simp only [Oper.stillUpon] at hh <;> simp only [Oper.uponIn]
    case enter f args =>
      obtain ⟨rfl, v, hc, hn⟩ := hh
      exact ⟨(fun hs => absurd hs (by rw [hF.depth]; simp)), hF.calls (hc.mono fun e w'' ⟨he, hw⟩ => by subst he; subst hw; exact h _ hn)⟩
    all_goals (obtain ⟨rfl, h2⟩ := hh; exact h _ h2)
  | halt x w' => simp only [Oper.stillUpon] at hh

theorem wpOpIn_of_stOp (hF : F.Open P) (hnd : Region.noDefer ops = true) {i : Nat} {a : Act} {K : Act → Prop} {K' : Act → World → Prop} {Q' : Exit → Act → World → Prop}
    (h : ∀ a, K a → K' a w) (hh : stOp P ops w i K a) : wpOpIn F n P ops Q' i K' a w := by
  unfold stOp at hh
  unfold wpOpIn
  split
  · rename_i ho; simp only [ho] at hh; exact h _ hh
  · rename_i o ho
    simp only [ho] at hh
    split
    · rename_i hw; simp only [hw, if_true] at hh; exact Oper.wpIn_of_still hF (fun c => Region.noDefer_spec hnd i o c ho) h hh
    · rename_i hw; simp only [hw] at hh; exact ⟨fun f _ => hF.fn f, h _ hh⟩

theorem wpAnyIn_of_still (hF : F.Open P) (hnd : Region.noDefer ops = true) {Q : Act → Prop} {Q' : Exit → Act → World → Prop} (hQ : ∀ a, Q a → Q' .normal a w) : ∀ (fuel : Nat) (listed : Array Bool) (a : Act),
    wpAnyS P md ops w Q fuel listed a → wpAnyIn F n P md ops Q' fuel listed a w
  | 0, _, _, h => ⟨h.1, hQ _ h.2⟩
  | fuel + 1, _, _, h => ⟨fun h0 => hQ _ (h.1 h0), fun i hi => wpOpIn_of_stOp hF hnd (fun a' => wpAnyIn_of_still hF hnd hQ fuel _ a') (h.2 i hi)⟩

theorem wpAnyIn_of_head (hF : F.Open P) (hnd : Region.noDefer ops = true) {m g : Nat} {L : Array Bool → Act → Prop} {Q' : Exit → Act → World → Prop} (hL : ∀ listed a, L listed a → wpAnyIn F n P md ops Q' g listed a w) :
    ∀ (f : Nat) (listed : Array Bool) (a : Act), wpAnyL P md ops w m L f listed a → wpAnyIn F n P md ops Q' (f + g) listed a w
  | 0, listed, a, h => by rw [Nat.zero_add]; exact hL _ _ h
  | f + 1, listed, a, h => by
    rw [show f + 1 + g = (f + g) + 1 by omega]
    exact ⟨fun h0 => absurd h0 h.1, fun i hi => wpOpIn_of_stOp hF hnd (fun a' h' => wpAnyIn_of_head hF hnd hL f _ a' h') (h.2 i hi).2⟩

theorem wpAnyIn_of_seq {Q' : Exit → Act → World → Prop} : ∀ (l : List Oper) (k : Nat) (listed : Array Bool) (a : Act) (w : World), (∀ j, l[j]? = ops[k + j]?) →
    Region.seqB md ops l.length k listed = true → wpListIn F n P ops Q' l a w → wpAnyIn F n P md ops Q' l.length listed a w
  | [], _, _, _, _, _, hB, h => ⟨by simpa [Region.seqB] using hB, h⟩
  | o :: l, k, listed, a, w, hl, hB, h => by
    have h0 : ops[k]? = some o := by simpa using (hl 0).symm
    simp only [List.length_cons, Region.seqB, Bool.and_eq_true, decide_eq_true_eq] at hB
    refine ⟨fun h1 => (by rw [hB.1] at h1; cases h1), fun i hi => ?_⟩
    rw [hB.1] at hi
    have hik : i = k := by simpa using hi
    subst hik
    have hw : wpOpIn F n P ops Q' i (wpListIn F n P ops Q' l) a w := by unfold wpOpIn; simp only [h0]; exact h
    exact wpOpIn_mono (fun a' w' h' => wpAnyIn_of_seq l (i + 1) _ a' w' (fun j => by have := hl (j + 1); simpa [Nat.add_assoc, Nat.add_comm 1 j] using this) hB.2 h') hw

/-- The region's operations 0 .. m - 1 read only; from m on they come one behind the other, behind all of those: ONE walk, in the text's order. Inside a fence, and inside a round. -/
theorem wpIn_region_still_tail (hF : F.Open P) {id : Nat} {Q : Exit → Act → World → Prop} {a : Act} {w : World} {l : List Oper} (m : Nat) (hm : P.follows .mixedOrders = true) (hnd : Region.noDefer l.toArray = true) (hB : Region.lexTailB .any l.toArray m = true)
    (h : wpStill P l.toArray w.drew (fun a' => wpListIn F n P l.toArray Q (l.drop m) a' w.drew) (l.take m) a) : (Code.region id l.toArray true).wpIn F n P Q a w := by
  simp only [Region.lexTailB, Bool.and_eq_true, decide_eq_true_eq] at hB
  obtain ⟨⟨⟨⟨hsel, hn⟩, hs⟩, hc⟩, hlex⟩ := hB
  have hn' : m < l.length := by simpa using hn
  have htl : (l.take m).length = m := by simp; omega
  have hdl : (l.drop m).length = l.toArray.size - m := by simp
  have inv0 : HeadInv .any l.toArray m (Array.replicate l.toArray.size false) :=
    ⟨by simp, fun j oj _ hl => (by rw [getD_replicate_false] at hl; cases hl), fun t _ ht => getD_in (by simpa using ht) (getD_replicate_false _ _)⟩
  have H := wpAnyL_lex (md := .any) (g := l.toArray.size - m) hsel hs hc hn (l.take m) 0 _ a (fun j hj => by
    have hj' : j < m := by rw [htl] at hj; exact hj
    simp [hj']) (by simpa using htl) inv0 (by rw [htl]; exact hlex) h
  refine wpIn_region_any hm ?_
  have := wpAnyIn_of_head (F := F) (n := n) (Q' := Q) (g := l.toArray.size - m) hF hnd (fun listed a' hL => by
    have := wpAnyIn_of_seq (F := F) (n := n) (md := .any) (Q' := Q) (l.drop m) m listed a' w.drew (fun j => by simp [List.getElem?_drop]) (by rw [hdl]; exact hL.1) hL.2
    rwa [hdl] at this) _ _ _ H
  rw [htl, show m + (l.toArray.size - m) = l.toArray.size by omega] at this
  exact this

/-- A region that draws and only reads, inside a fence and inside a round. -/
theorem wpIn_region_still (hF : F.Open P) {id : Nat} {Q : Exit → Act → World → Prop} {a : Act} {w : World} {l : List Oper} (hm : P.follows .mixedOrders = true) (hnd : Region.noDefer l.toArray = true) (hB : Region.lexB .any l.toArray = true)
    (h : wpStill P l.toArray w.drew (fun a' => Q .normal a' w.drew) l a) : (Code.region id l.toArray true).wpIn F n P Q a w := by
  simp only [Region.lexB, Bool.and_eq_true] at hB
  refine wpIn_region_any hm (wpAnyIn_of_still hF hnd (Q := fun a' => Q .normal a' w.drew) (fun a' h => h) _ _ _ ?_)
  have := wpAnyS_lex (md := .any) (P := P) (w := w.drew) (Q := fun a' => Q .normal a' w.drew) hB.1 l 0 (Array.replicate l.toArray.size false) a (fun j => by simp) (by simpa using hB.2) h
  simpa using this
end

theorem extract_join (s : ByteArray) (o k m : Nat) (h1 : o ≤ k) (h2 : k ≤ m) : s.extract o k ++ s.extract k m = s.extract o m := by
  apply ByteArray.ext
  apply Array.toList_inj.1
  rw [ByteArray.data_append, Array.toList_append, Lib.extract_data, Lib.extract_data, Lib.extract_data]
  rw [show m - o = (k - o) + (m - k) by omega, List.take_add, List.drop_drop, show o + (k - o) = k by omega]
theorem extract_size_le (s : ByteArray) (o k : Nat) : (s.extract o k).size ≤ s.size := by
  rw [Lib.size_eq, Lib.extract_data, Lib.size_eq]; simp; omega
theorem run_join {P : Program} (s : ByteArray) (o k m : Nat) (h1 : o ≤ k) (h2 : k ≤ m) (hs : s.size ≤ 1099511627776) (w : World) :
    (Op.stringOp .add (s.extract o k) (s.extract k m)).run P w = .ok (.string (s.extract o m)) w := by
  have a := extract_size_le s o k
  have b := extract_size_le s k m
  rw [run_string_add_sum w _ _ (by omega), extract_join s o k m h1 h2]

theorem empty_append (t : ByteArray) : (⟨#[]⟩ : ByteArray) ++ t = t := by
  apply ByteArray.ext
  rw [ByteArray.data_append]; simp
theorem run_join_empty {P : Program} (t : ByteArray) (hs : t.size ≤ 1099511627776) (w : World) :
    (Op.stringOp .add ⟨#[]⟩ t).run P w = .ok (.string t) w := by
  rw [run_string_add_sum w _ _ (by rw [show (⟨#[]⟩ : ByteArray).size = 0 from rfl]; omega), empty_append]

/-- the laws of a region that draws and reads, or reads but for a forced tail, outside of every fence -/
theorem wp_still_tail {P : Program} {id : Nat} {Q : Exit → Act → World → Prop} {a : Act} {w : World} {l : List Oper} (m : Nat) (hm : P.follows .mixedOrders = true) (hB : Region.lexTailB .any l.toArray m = true)
    (h : wpStill P l.toArray w.drew (fun a' => wpList P l.toArray Q (l.drop m) a' w.drew) (l.take m) a) : (Code.region id l.toArray true).wp P Q a w := wp_region_still_tail m hm hB h
theorem wp_still {P : Program} {id : Nat} {Q : Exit → Act → World → Prop} {a : Act} {w : World} {l : List Oper} (hm : P.follows .mixedOrders = true) (hB : Region.lexB .any l.toArray = true)
    (h : wpStill P l.toArray w.drew (fun a' => Q .normal a' w.drew) l a) : (Code.region id l.toArray true).wp P Q a w := wp_region_still_lit hm hB h

/-- append onto a row of the call's own, inside a fence; it is told where the new row lies. -/
theorem wpListIn_append_at {F : Fence} {n : Nat} {P : Program} (w : World) {ops : Array Oper} {rest : List Oper} {o : Oper} {a : Act} {Q : Exit → Act → World → Prop}
    (hg : o.guard = none) (s x : Operand) (t : TypeId) (hop : o.op = Op.call { callee := Callee.builtin Builtin.append, args := #[s, x], argTypes := #[t, t] })
    (base : Nat) (e : TypeId) {z : Value} {size bytes : Nat} (hinfo : (P.info? e).map (fun i => (i.zero, i.size, i.bytes)) = some (some z, size, bytes)) (ht : P.underlying t = some (.slice e)) (hz : z.cells.size = size) (hsz : 0 < size)
    (v : Value) (k : Nat) (xs : List Value) (hs : a.eval s = v) (hown : w.ownsRow base e size v k xs) (ad : Addr) (m c : Nat) (news : List Value) (hx : a.eval x = .slice (some ad) m c) (hn : news.length = m * size)
    (hc : ∀ j u, news[j]? = some u → w.cell? (ad.add j) = some u) (h1c : ∀ u ∈ news, u.oneCell' = true) (b1 : k + m ≤ maxLen) (b2 : (k + m) * bytes ≤ 140737488355328) (b3 : base ≤ w.heap.size)
    (hK : ∀ v' w', w'.ownsRow base e size v' (k + m) (xs ++ news) → w.grownBy w' v.ownBlock → (v' = .slice none 0 0 ↔ v = .slice none 0 0 ∧ m = 0) → (v'.ownBlock = v.ownBlock ∨ v'.ownBlock = some w.heap.size) → wpListIn F n P ops Q rest (a.put o.dst v') w') :
    wpListIn F n P ops Q (o :: rest) a w := by
  obtain ⟨i, hi, hz0, hz1, hz2⟩ := info_parts hinfo
  refine wpListIn_plain hg fun K hK' => ?_
  obtain ⟨v', w', hrun, r1, r2, r3, r4⟩ := run_append_own_at (P := P) w base t o.type e i z size bytes ht hi hz0 hz1 hz2 hz hsz v k xs hown ad m c news hn hc h1c b1 b2 b3
  unfold Oper.wpIn
  refine ⟨?_, ?_⟩
  · simp [Oper.about, hop, resolve, Target.leads, Sem.run_pure]
  · rw [Oper.semAt_plain F _ _ (by rw [hop]; intro c hc'; cases hc')]
    simp [execOp, hop, resolve, invoke, builtin, hs, hx, hrun, Result.andThen]
    exact hK' _ _ (hK v' w' r1 r2 r3 r4)

/-- the same outside of every fence -/
theorem wpList_append_at {P : Program} (w : World) {ops : Array Oper} {rest : List Oper} {o : Oper} {a : Act} {Q : Exit → Act → World → Prop}
    (hg : o.guard = none) (s x : Operand) (t : TypeId) (hop : o.op = Op.call { callee := Callee.builtin Builtin.append, args := #[s, x], argTypes := #[t, t] })
    (base : Nat) (e : TypeId) {z : Value} {size bytes : Nat} (hinfo : (P.info? e).map (fun i => (i.zero, i.size, i.bytes)) = some (some z, size, bytes)) (ht : P.underlying t = some (.slice e)) (hz : z.cells.size = size) (hsz : 0 < size)
    (v : Value) (k : Nat) (xs : List Value) (hs : a.eval s = v) (hown : w.ownsRow base e size v k xs) (ad : Addr) (m c : Nat) (news : List Value) (hx : a.eval x = .slice (some ad) m c) (hn : news.length = m * size)
    (hc : ∀ j u, news[j]? = some u → w.cell? (ad.add j) = some u) (h1c : ∀ u ∈ news, u.oneCell' = true) (b1 : k + m ≤ maxLen) (b2 : (k + m) * bytes ≤ 140737488355328) (b3 : base ≤ w.heap.size)
    (hK : ∀ v' w', w'.ownsRow base e size v' (k + m) (xs ++ news) → w.grownBy w' v.ownBlock → (v' = .slice none 0 0 ↔ v = .slice none 0 0 ∧ m = 0) → (v'.ownBlock = v.ownBlock ∨ v'.ownBlock = some w.heap.size) → wpList P ops Q rest (a.put o.dst v') w') :
    wpList P ops Q (o :: rest) a w := by
  obtain ⟨i, hi, hz0, hz1, hz2⟩ := info_parts hinfo
  exact wpList_append_own_at w hg s x t hop base e i z size bytes ht hi hz0 hz1 hz2 hz hsz v k xs hs hown ad m c news hx hn hc h1c b1 b2 b3 hK
end Go

/- Arguments opened: a slice of structs whose fields are one cell each. No program is named. -/
namespace Go
open Go.RowKit Go.ChangeShapes Go.WideShapes Go.Deep

theorem list_of {α : Type} {n : Nat} {P : Nat → α → Prop} (h : ∀ i, i < n → ∃ x, P i x) : ∃ l : List α, l.length = n ∧ ∀ i (hi : i < l.length), P i (l[i]'hi) := by
  induction n with
  | zero => exact ⟨[], rfl, fun i hi => absurd hi (by simp)⟩
  | succ n ih =>
    obtain ⟨l, hl, hP⟩ := ih (fun i hi => h i (by omega))
    obtain ⟨x, hx⟩ := h n (by omega)
    refine ⟨l ++ [x], by simp [hl], fun i hi => ?_⟩
    rcases Nat.lt_or_ge i l.length with hlt | hge
    · rw [List.getElem_append_left hlt]; exact hP i hlt
    · have : i = l.length := by simp at hi; omega
      subst this
      rw [List.getElem_append_right (Nat.le_refl _)]
      simpa [hl] using hx

section
variable {H : Type} {enc : TypeId × Value → H} {P : Program} {W : World} {base : Nat} {spare : Nat → Bool} {held : Bool}

/-- the cells of a struct of one-cell fields, each with its reading -/
theorem flat_struct {t : TypeId} {fs : Array Field} {fuel : Nat} {cs : List Value} {x : DataW H × List MemPlace} (ht : P.underlying t = some (.struct fs)) (h1 : oneCellFields P fs = true) (hC : P.cellsOf t = fs.size)
    (h : DataW.trod enc P W base spare held fuel t cs = some x) (j : Nat) (f : Field) (hf : fs[j]? = some f) :
    ∃ (v : Value) (y : DataW H × List MemPlace) (n : Nat), cs[j]? = some v ∧ DataW.trod enc P W base spare held n f.type [v] = some y := by
  obtain ⟨ys, n, _, _, hcl, hyl, hg⟩ := DataW.trod_struct ht h
  obtain ⟨ho, hk⟩ := hone_of h1 j f hf
  have hj : j < fs.size := (Array.getElem?_eq_some_iff.1 hf).1
  have hjc : j < cs.length := by omega
  have g := hg j f hf
  rw [ho, hk, List.drop_eq_getElem_cons hjc] at g
  refine ⟨cs[j], ys[j]'(by omega), n, List.getElem?_eq_getElem hjc, ?_⟩
  rw [← List.getElem?_eq_getElem, ← g]; rfl

/-- a slice of such structs: every field of every element -/
theorem flat_slice {t e : TypeId} {fs : Array Field} {fuel : Nat} {a0 : Option Addr} {len cap : Nat} {x : DataW H × List MemPlace} (ht : P.underlying t = some (.slice e)) (he : P.underlying e = some (.struct fs))
    (h1 : oneCellFields P fs = true) (hC : P.cellsOf e = fs.size) (h : DataW.trod enc P W base spare held fuel t [.slice a0 len cap] = some x) (h0 : 0 < fs.size) :
    len ≤ maxLen ∧ (0 < len → ∃ b off, a0 = some ⟨b, off, none⟩ ∧ ∀ i, i < len → ∀ (j : Nat) (f : Field), fs[j]? = some f → ∃ (v : Value) (y : DataW H × List MemPlace) (n : Nat),
      W.cell? ⟨b, off + i * fs.size + j, none⟩ = some v ∧ DataW.trod enc P W base spare held n f.type [v] = some y) := by
  rcases open_slice ht h with ⟨hcs, _⟩ | ⟨a, l, c, m, n, D, Pl, hcs, _, hl, hm, hmm, _, hel⟩
  · simp at hcs
    obtain ⟨rfl, rfl, rfl⟩ := hcs
    exact ⟨Nat.zero_le _, fun h => absurd h (by omega)⟩
  · simp at hcs
    obtain ⟨rfl, rfl, rfl⟩ := hcs
    refine ⟨by omega, fun hpos => ?_⟩
    have hlm : len ≤ m := by rw [hmm]; split <;> omega
    have key : ∀ i, i < len → ∀ (j : Nat) (f : Field), fs[j]? = some f → ∃ (v : Value) (y : DataW H × List MemPlace) (n : Nat),
        W.cell? (a.add (i * fs.size + j)) = some v ∧ DataW.trod enc P W base spare held n f.type [v] = some y := by
      intro i hi j f hf
      obtain ⟨cs', hc, htr⟩ := hel i (by omega)
      rw [hC] at hc
      obtain ⟨_, hcl, hat⟩ := World.cells?_some hc
      obtain ⟨v, y, n', hv, hy⟩ := flat_struct he h1 hC htr j f hf
      have hj : j < fs.size := (Array.getElem?_eq_some_iff.1 hf).1
      exact ⟨v, y, n', by rw [← Go.Deep.add_add, hat j hj, hv], hy⟩
    obtain ⟨b, off, spot⟩ := a
    obtain ⟨v, _, _, hv, _⟩ := key 0 hpos 0 fs[0] (Array.getElem?_eq_getElem h0)
    have hs : spot = none := by
      have : ((⟨b, off, spot⟩ : Addr).add (0 * fs.size + 0)) = ⟨b, off, spot⟩ := by simp [Addr.add]
      rw [this] at hv
      exact World.cell?_spot hv
    subst hs
    refine ⟨b, off, rfl, fun i hi j f hf => ?_⟩
    obtain ⟨v, y, n', hv, hy⟩ := key i hi j f hf
    have ha : (⟨b, off, none⟩ : Addr).add (i * fs.size + j) = ⟨b, off + i * fs.size + j, none⟩ := by
      unfold Addr.add
      split
      · simp_all
      · simp [Nat.add_assoc]
    rw [ha] at hv
    exact ⟨v, y, n', hv, hy⟩
end

theorem i64_bounds {n : Int} (h : (Lit.int .i64 n).wf = true) : -9223372036854775808 ≤ n ∧ n ≤ 9223372036854775807 := by
  simpa [Lit.wf, IntKind.min, IntKind.max, IntKind.signed, IntKind.bits] using h
theorem u8_bounds {n : Int} (h : (Lit.int .u8 n).wf = true) : 0 ≤ n ∧ n ≤ 255 := by
  simpa [Lit.wf, IntKind.min, IntKind.max, IntKind.signed, IntKind.bits] using h
end Go

/- Which blocks a stretch of a run may have turned ('Keeps'); and the law of a range over a function whose sequence is known, with the caller's own blocks told apart from the iterator's. No program is named. -/
namespace Go
open Go.RowKit

/-- From W to W': no block that lay there has turned, but for those of C. -/
structure Keeps (C : Nat → Prop) (W W' : World) : Prop where
  os : W'.os = W.os
  tape : W'.tape = W.tape
  output : W'.output = W.output
  size : W.heap.size ≤ W'.heap.size
  block : ∀ b, b < W.heap.size → ¬ C b → W'.heap[b]? = W.heap[b]?

section
variable {C C' : Nat → Prop} {W W1 W2 W3 : World}
theorem Keeps.refl (C : Nat → Prop) (W : World) : Keeps C W W := ⟨rfl, rfl, rfl, Nat.le_refl _, fun _ _ _ => rfl⟩
theorem Keeps.trans (h : Keeps C W1 W2) (k : Keeps C W2 W3) : Keeps C W1 W3 :=
  ⟨k.os.trans h.os, k.tape.trans h.tape, k.output.trans h.output, Nat.le_trans h.size k.size, fun b hb hc => (k.block b (Nat.lt_of_lt_of_le hb h.size) hc).trans (h.block b hb hc)⟩
theorem Keeps.trans' (h : Keeps C W1 W2) (k : Keeps C' W2 W3) (hc : ∀ b, C' b → C b ∨ W1.heap.size ≤ b) : Keeps C W1 W3 :=
  ⟨k.os.trans h.os, k.tape.trans h.tape, k.output.trans h.output, Nat.le_trans h.size k.size, fun b hb hn => (k.block b (Nat.lt_of_lt_of_le hb h.size) (fun e => (hc b e).elim hn (by omega))).trans (h.block b hb hn)⟩
theorem Keeps.mono (h : Keeps C W1 W2) (hc : ∀ b, C b → C' b) : Keeps C' W1 W2 := ⟨h.os, h.tape, h.output, h.size, fun b hb hn => h.block b hb (fun e => hn (hc b e))⟩
theorem Keeps.of_below {B : Nat} (h : Below B W1 W2) (hB : W1.heap.size ≤ B) : Keeps C W1 W2 := ⟨h.os, h.tape, h.output, h.size, fun b hb _ => h.block b (by omega)⟩
theorem Keeps.below {B : Nat} (h : Keeps C W1 W2) (hc : ∀ b, C b → B ≤ b) (hB : B ≤ W1.heap.size) : Below B W1 W2 := ⟨h.os, h.tape, h.output, h.size, fun b hb => h.block b (by omega) (fun e => by have := hc b e; omega)⟩
theorem Keeps.drew (h : Keeps C W1 W2) : Keeps C W1 W2.drew := ⟨h.os, h.tape, h.output, h.size, h.block⟩
theorem Keeps.drewN (h : Keeps C W1 W2) (n : Nat) : Keeps C W1 (W2.drewN n) := ⟨h.os, h.tape, h.output, h.size, h.block⟩
theorem Keeps.alloc (h : Keeps C W1 W2) (o : Obj) : Keeps C W1 (W2.alloc o) :=
  h.trans ⟨rfl, rfl, rfl, by simp, fun b hb _ => Below.heap_alloc _ _ _ hb⟩
theorem Keeps.setCell (h : Keeps C W1 W2) {p : Addr} (hp : C p.block ∨ W1.heap.size ≤ p.block) (u : Value) : Keeps C W1 (W2.setCell p u) :=
  ⟨h.os, h.tape, h.output, by simpa [World.setCell] using h.size, fun b hb hn => (Below.heap_setCell _ _ _ _ (fun e => by subst e; rcases hp with hp | hp; exact hn hp; omega)).trans (h.block b hb hn)⟩
theorem Keeps.set (h : Keeps C W1 W2) {b : Nat} (hp : C b ∨ W1.heap.size ≤ b) (o : Nat) (u : Value) : Keeps C W1 (W2.setCell ⟨b, o, none⟩ u) := h.setCell (p := ⟨b, o, none⟩) hp u
theorem Keeps.grown {row : Option Nat} (h : Keeps C W1 W2) (hg : W2.grownBy W3 row) (hr : ∀ k, row = some k → C k ∨ W1.heap.size ≤ k) : Keeps C W1 W3 :=
  ⟨hg.os.trans h.os, hg.tape.trans h.tape, hg.output.trans h.output, Nat.le_trans h.size hg.size, fun b hb hn => (hg.block b (Nat.lt_of_lt_of_le hb h.size) (fun e => (hr b e.symm).elim hn (by omega))).trans (h.block b hb hn)⟩
theorem Keeps.cell (h : Keeps C W1 W2) {p : Addr} (hp : p.block < W1.heap.size) (hn : ¬ C p.block) : W2.cell? p = W1.cell? p := World.cell?_of_block (h.block _ hp hn)
theorem Keeps.putObj (h : Keeps C W1 W2) {l : Nat} (hl : C l ∨ W1.heap.size ≤ l) (o : Obj) : Keeps C W1 (W2.putObj l o) :=
  ⟨h.os, h.tape, h.output, by simpa using h.size, fun b hb hn => (World.putObj_heap_other (fun e => by subst e; rcases hl with hp | hp; exact hn hp; omega)).trans (h.block b hb hn)⟩
end

/-- Block g is a row of cells, none of them frozen. -/
def Row (W : World) (g : Nat) (t : TypeId) (cs : Array Value) : Prop := W.heap[g]? = some (.cells cs t)
section
variable {W W' : World} {g : Nat} {t : TypeId} {cs : Array Value}
theorem Row.lt (h : Row W g t cs) : g < W.heap.size := (Array.getElem?_eq_some_iff.1 h).1
theorem Row.cell (h : Row W g t cs) (i : Nat) : W.cell? ⟨g, i, none⟩ = cs[i]? := by simp [World.cell?, show W.heap[g]? = _ from h]
theorem Row.frozen (h : Row W g t cs) (i : Nat) : W.frozen? ⟨g, i, none⟩ = false := by simp [World.frozen?, show W.heap[g]? = _ from h]
theorem Row.new (W : World) (t : TypeId) (cs : Array Value) : Row (W.alloc (.cells cs t)) W.heap.size t cs := World.alloc_heap_new W _
theorem Row.alloc (h : Row W g t cs) (o : Obj) : Row (W.alloc o) g t cs := (Below.heap_alloc W o g h.lt).trans h
theorem Row.drew (h : Row W g t cs) : Row W.drew g t cs := h
theorem Row.drewN (h : Row W g t cs) (n : Nat) : Row (W.drewN n) g t cs := h
theorem Row.set_ (h : Row W g t cs) (i : Nat) (u : Value) : Row (W.setCell ⟨g, i, none⟩ u) g t (cs.setIfInBounds i u) := by
  unfold Row at h ⊢
  simp [World.setCell, Array.getElem?_modify, h]
theorem Row.far (h : Row W g t cs) {p : Addr} (hp : g ≠ p.block) (u : Value) : Row (W.setCell p u) g t cs := (Below.heap_setCell W p u g hp).trans h
theorem Row.off (h : Row W g t cs) {b : Nat} (hp : g ≠ b) (o : Nat) (u : Value) : Row (W.setCell ⟨b, o, none⟩ u) g t cs := h.far (p := ⟨b, o, none⟩) hp u
theorem Row.below {B : Nat} (h : Row W g t cs) (hb : Below B W W') (hg : g < B) : Row W' g t cs := (hb.block g hg).trans h
theorem Row.keep {C : Nat → Prop} (h : Row W g t cs) (hk : Keeps C W W') (hg : ¬ C g) : Row W' g t cs := (hk.block g h.lt hg).trans h
theorem Row.grown {row : Option Nat} (h : Row W g t cs) (hb : W.grownBy W' row) (hg : some g ≠ row) : Row W' g t cs := (hb.block g h.lt hg).trans h
theorem Row.ne_ {g' : Nat} {t' : TypeId} {cs' : Array Value} (h : Row W g t cs) (h' : Row W g' t' cs') (hne : t ≠ t') : g ≠ g' := by
  rintro rfl
  unfold Row at h h'
  rw [h] at h'
  injection h' with h'
  injection h' with _ ht
  exact hne ht
end

theorem cells_new {W : World} (l : List Value) (t : TypeId) {n : Nat} (hn : n = W.heap.size) : ∀ j u, l[j]? = some u → (W.alloc (.cells l.toArray t)).cell? ((⟨n, 0, none⟩ : Addr).add j) = some u := by
  intro j u h
  subst hn
  have hadd : (⟨W.heap.size, 0, none⟩ : Addr).add j = ⟨W.heap.size, j, none⟩ := by unfold Addr.add; split <;> simp_all
  rw [hadd, (Row.new W t l.toArray).cell j]
  simpa using h

/-- What is known of a world by its blocks in X alone. -/
structure Same (X : Nat → Prop) (W W' : World) : Prop where
  os : W'.os = W.os
  tape : W'.tape = W.tape
  output : W'.output = W.output
  size : W.heap.size ≤ W'.heap.size
  block : ∀ b, X b → W'.heap[b]? = W.heap[b]?

theorem Same.refl (X : Nat → Prop) (W : World) : Same X W W := ⟨rfl, rfl, rfl, Nat.le_refl _, fun _ _ => rfl⟩
theorem Same.cell {X : Nat → Prop} {W W' : World} (h : Same X W W') {p : Addr} (hp : X p.block) : W'.cell? p = W.cell? p := World.cell?_of_block (h.block _ hp)
theorem Same.frozen {X : Nat → Prop} {W W' : World} (h : Same X W W') {p : Addr} (hp : X p.block) : W'.frozen? p = W.frozen? p := by
  simp only [World.frozen?, h.block _ hp]
theorem Same.of_below {B : Nat} {X : Nat → Prop} {W W' : World} (h : Below B W W') (hX : ∀ b, X b → b < B) : Same X W W' := ⟨h.os, h.tape, h.output, h.size, fun b hb => h.block b (hX b hb)⟩
theorem Same.of_keeps {C X : Nat → Prop} {W W' : World} (h : Keeps C W W') (hX : ∀ b, X b → b < W.heap.size ∧ ¬ C b) : Same X W W' := ⟨h.os, h.tape, h.output, h.size, fun b hb => h.block b (hX b hb).1 (hX b hb).2⟩

theorem Row.same {X : Nat → Prop} {W W' : World} {g : Nat} {t : TypeId} {cs : Array Value} (h : Row W g t cs) (hs : Same X W W') (hX : X g) : Row W' g t cs := (hs.block g hX).trans h

/-- The blocks C, all laid. -/
def Laid (C : Nat → Prop) (W : World) : Prop := ∀ b, C b → b < W.heap.size
/-- C' is C and what is new since W. -/
def Grew (C : Nat → Prop) (W : World) (C' : Nat → Prop) (W' : World) : Prop := ∀ b, C' b → (C b ∨ W.heap.size ≤ b) ∧ b < W'.heap.size

theorem Laid.grew {C : Nat → Prop} {W : World} (h : Laid C W) : Grew C W C W := fun b hb => ⟨.inl hb, h b hb⟩
theorem Grew.laid {C C' : Nat → Prop} {W W' : World} (h : Grew C W C' W') : Laid C' W' := fun b hb => (h b hb).2
theorem Grew.later {C C' : Nat → Prop} {W W1 W2 : World} (h : Grew C W C' W1) (hz : W1.heap.size ≤ W2.heap.size) : Grew C W C' W2 := fun b hb => ⟨(h b hb).1, Nat.lt_of_lt_of_le (h b hb).2 hz⟩
theorem Grew.trans {C0 C C' : Nat → Prop} {W W1 W2 : World} (h : Grew C0 W C W1) (k : Grew C W1 C' W2) (hz : W.heap.size ≤ W1.heap.size) : Grew C0 W C' W2 :=
  fun b hb => ⟨(k b hb).1.elim (fun e => (h b e).1) (fun e => .inr (Nat.le_trans hz e)), (k b hb).2⟩
theorem Keeps.trans_grew {C0 C : Nat → Prop} {W W1 W2 : World} (h : Keeps C0 W W1) (k : Keeps C W1 W2) (hg : Grew C0 W C W1) : Keeps C0 W W2 := h.trans' k (fun b hb => (hg b hb).1)

/-- J speaks of the blocks that lay below n, and of those of C, alone. -/
def Abide (n : Nat) (J : Nat → (Nat → Prop) → World → Prop) : Prop :=
  ∀ k C W1 W2, J k C W1 → Same (fun b => b < n ∨ C b) W1 W2 → J k C W2

/-- A ROUND: yield called in W1 with x, the caller's own blocks being C. -/
def RoundAt {α : Type} (P : Program) (l : Nat) (encs : α → Array Value) (J Jx : Nat → (Nat → Prop) → World → Prop) (k : Nat) (x : α) (C : Nat → Prop) (W1 : World) : Prop :=
  YieldAt Fence.wide 0 P l (encs x) W1 fun e W' => ∃ C', Keeps C W1 W' ∧ Grew C W1 C' W' ∧
    ((e = .returned (.bool true) ∧ J (k + 1) C' W') ∨ (e = .returned (.bool false) ∧ Jx (k + 1) C' W'))

/-- THE CONTRACT OF AN ITERATOR that yields xs, one behind the other, till it is told to stop. R: the blocks that it reads. -/
def Iter {α : Type} (P : Program) (gf : Nat) (lb : Array Value) (encs : α → Array Value) (xs : List α) (R : Nat → Prop) (w : World) : Prop :=
  ∀ (l : Nat) (J Jx : Nat → (Nat → Prop) → World → Prop) (C : Nat → Prop) (W : World),
    Same R w W → (∀ b, R b → ¬ C b) → Laid C W → Laid R W → Abide W.heap.size J → Abide W.heap.size Jx →
    (∀ k x C1 W1, xs[k]? = some x → J k C1 W1 → Laid C1 W1 → RoundAt P l encs J Jx k x C1 W1) →
    J 0 C W →
    CallsIn Fence.wide 0 P gf (#[.func (.yield l) #[] #[]] ++ lb) W fun e W' => (∃ v, e = .returned v) ∧
      ∃ C', Keeps C W W' ∧ Grew C W C' W' ∧ (J xs.length C' W' ∨ ∃ k, k ≤ xs.length ∧ Jx k C' W')

/-- W2 is W1 but for block l. -/
structure But (l : Nat) (W1 W2 : World) : Prop where
  os : W2.os = W1.os
  tape : W2.tape = W1.tape
  output : W2.output = W1.output
  size : W2.heap.size = W1.heap.size
  block : ∀ b, b ≠ l → W2.heap[b]? = W1.heap[b]?
theorem But.putObj (W : World) (l : Nat) (o : Obj) : But l W (W.putObj l o) := ⟨rfl, rfl, rfl, by simp, fun _ h => World.putObj_heap_other h⟩
theorem But.cell {l : Nat} {W W' : World} (h : But l W W') {p : Addr} (hp : p.block ≠ l) : W'.cell? p = W.cell? p := World.cell?_of_block (h.block _ hp)
theorem But.frozen {l : Nat} {W W' : World} (h : But l W W') {p : Addr} (hp : p.block ≠ l) : W'.frozen? p = W.frozen? p := by
  simp only [World.frozen?, h.block _ hp]
theorem But.same {l : Nat} {X : Nat → Prop} {W W' : World} (h : But l W W') (hX : ¬ X l) : Same X W W' := ⟨h.os, h.tape, h.output, Nat.le_of_eq h.size.symm, fun b hb => h.block b (fun e => hX (e ▸ hb))⟩

theorem Row.but {l : Nat} {W W' : World} {g : Nat} {t : TypeId} {cs : Array Value} (h : Row W g t cs) (hb : But l W W') (hg : g ≠ l) : Row W' g t cs := (hb.block g hg).trans h

/-- How the body of a round may be left. W0: where the round began; W: behind the assignment. -/
def roundEnd (I : Nat → (Nat → Prop) → World → Prop) (Ix : Code → Nat → (Nat → Prop) → World → Prop) (k : Nat) (C : Nat → Prop) (W0 W : World) : Exit → Act → World → Prop
  | .normal, _, W' => ∃ C', Keeps C W W' ∧ Grew C W0 C' W' ∧ I k C' W'
  | .ret, _, W' => ∃ C', Keeps C W W' ∧ Grew C W0 C' W' ∧ Ix .ret k C' W'
  | .exit id, _, W' => ∃ C', Keeps C W W' ∧ Grew C W0 C' W' ∧ Ix (.exit id) k C' W'
  | .goto t, _, W' => ∃ C', Keeps C W W' ∧ Grew C W0 C' W' ∧ Ix (.goto t) k C' W'
  | .panic _, _, _ => False
  | .outgrown, _, _ => False

section
variable {P : Program} {α : Type}

theorem Keeps.heap {C : Nat → Prop} {W W' : World} (h : Keeps C W W') {l : Nat} {o : Obj} (hl : W.heap[l]? = some o) (hn : ¬ C l) : W'.heap[l]? = some o :=
  (h.block l ((Array.getElem?_eq_some_iff.1 hl).1) hn).trans hl

/-- **THE LAW OF 'for .. := range g { .. }', outside of every round.** -/
theorem wpIn_range {g : Operand} {ps : Array Tmp} {assign body : Code} {Q : Exit → Act → World → Prop} {a : Act} {w w0 : World}
    {gf : Nat} {lb : Array Value} (hg : a.eval g = .func (.func gf) #[] lb) (eg : ∀ args w, (callFunc gf args).run P w = .ok (.enter gf args) w)
    {encs : α → Array Value} {xs : List α} {R : Nat → Prop} (hseq : Iter P gf lb encs xs R w0) (hps : ∀ x, (encs x).size = ps.size)
    (hRs : Same R w0 w) (C0 : Nat → Prop) (hRC : ∀ b, R b → ¬ C0 b) (hR : Laid R w) (hC : Laid C0 w)
    (I : Nat → (Nat → Prop) → World → Prop) (Ix : Code → Nat → (Nat → Prop) → World → Prop) (hI : Abide w.heap.size I) (hIx : ∀ c, Abide w.heap.size (Ix c)) (h0 : I 0 C0 w)
    (hround : ∀ l k x C W, w.heap.size ≤ l → l < W.heap.size → ¬ C l → xs[k]? = some x → I k C W → Grew C0 w C W → w.heap.size ≤ W.heap.size →
      assign.wpIn (Fence.wide.inRound l) 0 P (Exit.then (fun a₁ W₁ => Keeps C W W₁ ∧ ∀ W₂, But l W₁ W₂ → body.wpIn (Fence.wide.inRound l) 0 P (roundEnd I Ix (k + 1) C W W₂) a₁ W₂) (fun _ _ _ => False))
        { tmps := (ps.zip (encs x)).foldl (fun t (p, v) => t.setIfInBounds p v) a.tmps, defers := [] } W)
    (hdone : ∀ D C W, w.heap.size ≤ D → ¬ C D → W.heap[D]? = some (.deferred (some [])) → I xs.length C W → Keeps C0 w W → Grew C0 w C W →
      Q .normal { a with defers := { target := .collected D, args := #[] } :: a.defers } W)
    (hstop : ∀ D c k C W, w.heap.size ≤ D → ¬ C D → W.heap[D]? = some (.deferred (some [])) → k ≤ xs.length → Ix c k C W → Keeps C0 w W → Grew C0 w C W →
      c.wpIn Fence.wide 0 P Q { a with defers := { target := .collected D, args := #[] } :: a.defers } W) :
    (Code.rangeFunc g ps assign body).wpIn Fence.wide 0 P Q a w := by
  refine wpIn_rangeFunc fun fn hfn => ?_
  have hro : Fence.wide.round = none := rfl
  rw [hro]
  obtain ⟨n, hn⟩ : ∃ n, n = w.heap.size := ⟨_, rfl⟩
  obtain ⟨rc, hrc⟩ : ∃ rc : LoopState → Option Code → Loop, rc = fun st pe => { state := st, pending := pe, fn, tmps := a.tmps, params := ps, assign, body, defers := n } := ⟨_, rfl⟩
  obtain ⟨W1, hW1⟩ : ∃ W1, (w.alloc (.deferred (some []))).alloc (.loop (rc .ready none)) = W1 := ⟨_, rfl⟩
  have hz1 : W1.heap.size = n + 2 := by rw [← hW1, hn]; simp
  have hL1 : W1.heap[n + 1]? = some (.loop (rc .ready none)) := by
    rw [← hW1, hn]; have := World.alloc_heap_new (w.alloc (.deferred (some []))) (.loop (rc .ready none)); rwa [World.size_alloc] at this
  have hK1 : W1.heap[n]? = some (.deferred (some [])) := by
    rw [← hW1, hn]; exact (Below.heap_alloc _ _ _ (by simp)).trans (World.alloc_heap_new w _)
  have hkp : Keeps C0 w W1 := by rw [← hW1]; exact ((Keeps.refl _ _).alloc _).alloc _
  have hsm : Same (fun b => b < w.heap.size) w W1 := by
    rw [← hW1]; exact Same.of_below (B := w.heap.size) (((Below.refl _ w).alloc (Nat.le_refl _) _).alloc (by simp) _) (fun b hb => hb)
  have hI1 : I 0 C0 W1 := hI _ _ _ _ h0 ⟨hsm.os, hsm.tape, hsm.output, hsm.size, fun b hb => hsm.block b (hb.elim id (hC b))⟩
  have hsm' : Same R w0 W1 := ⟨hsm.os.trans hRs.os, hsm.tape.trans hRs.tape, hsm.output.trans hRs.output, Nat.le_trans hRs.size hsm.size, fun b hb => (hsm.block b (hR b hb)).trans (hRs.block b hb)⟩
  refine ⟨n + 1, [{ target := .collected n, args := #[] }], W1, { target := .fn (.func gf) lb, args := #[.func (.yield (n + 1)) #[] #[]] }, W1, gf,
    #[.func (.yield (n + 1)) #[] #[]] ++ lb, W1, ?_, ?_, ?_, ?_, (fun hs => absurd hs (by simp [Fence.wide])), ?_⟩
  · rw [← hW1, hrc, hn]; exact run_enterLoop_outer _ _ _ _ _
  · simp only [resolve, hg]
    simp [go_sem]
  · exact fun f' _ => trivial
  · simp [invoke, go_sem, eg]
  · -- the iterator's contract, at the caller's invariant and the two blocks of book-keeping; the loop's record counts as the caller's own
    obtain ⟨J, hJ⟩ : ∃ J : Nat → (Nat → Prop) → World → Prop, J = fun k C W => ∃ C₁, (C = fun b => C₁ b ∨ b = n + 1) ∧ I k C₁ W ∧ ¬ C₁ (n + 1) ∧ ¬ C₁ n ∧ W.heap[n + 1]? = some (.loop (rc .ready none)) ∧ W.heap[n]? = some (.deferred (some [])) ∧ Keeps C0 w W ∧ Grew C0 w C₁ W := ⟨_, rfl⟩
    obtain ⟨Jx, hJx⟩ : ∃ J : Nat → (Nat → Prop) → World → Prop, J = fun k C W => ∃ C₁ c, (C = fun b => C₁ b ∨ b = n + 1) ∧ Ix c k C₁ W ∧ ¬ C₁ (n + 1) ∧ ¬ C₁ n ∧ W.heap[n + 1]? = some (.loop (rc .done (some c))) ∧ W.heap[n]? = some (.deferred (some [])) ∧ Keeps C0 w W ∧ Grew C0 w C₁ W := ⟨_, rfl⟩
    have hC0n : ¬ C0 n := fun e => by have := hC n e; omega
    have hC0n1 : ¬ C0 (n + 1) := fun e => by have := hC _ e; omega
    have hJA : Abide W1.heap.size J := by
      intro k C Wa Wb hj hs
      rw [hJ] at hj ⊢
      obtain ⟨C₁, rfl, hi, h1, h2, hl, hk, hkk, hld⟩ := hj
      refine ⟨C₁, rfl, hI _ _ _ _ hi ⟨hs.os, hs.tape, hs.output, hs.size, fun b hb => hs.block b (hb.elim (fun h => .inl (by omega)) (fun h => .inr (.inl h)))⟩, h1, h2, (hs.block _ (.inr (.inr rfl))).trans hl, (hs.block _ (.inl (by omega))).trans hk, ?_, fun b hb => ⟨(hld b hb).1, Nat.lt_of_lt_of_le (hld b hb).2 hs.size⟩⟩
      exact ⟨hs.os.trans hkk.os, hs.tape.trans hkk.tape, hs.output.trans hkk.output, Nat.le_trans hkk.size hs.size, fun b hb hn' => (hs.block b (.inl (by omega))).trans (hkk.block b hb hn')⟩
    have hJxA : Abide W1.heap.size Jx := by
      intro k C Wa Wb hj hs
      rw [hJx] at hj ⊢
      obtain ⟨C₁, c, rfl, hi, h1, h2, hl, hk, hkk, hld⟩ := hj
      refine ⟨C₁, c, rfl, hIx c _ _ _ _ hi ⟨hs.os, hs.tape, hs.output, hs.size, fun b hb => hs.block b (hb.elim (fun h => .inl (by omega)) (fun h => .inr (.inl h)))⟩, h1, h2, (hs.block _ (.inr (.inr rfl))).trans hl, (hs.block _ (.inl (by omega))).trans hk, ?_, fun b hb => ⟨(hld b hb).1, Nat.lt_of_lt_of_le (hld b hb).2 hs.size⟩⟩
      exact ⟨hs.os.trans hkk.os, hs.tape.trans hkk.tape, hs.output.trans hkk.output, Nat.le_trans hkk.size hs.size, fun b hb hn' => (hs.block b (.inl (by omega))).trans (hkk.block b hb hn')⟩
    refine (hseq (n + 1) J Jx (fun b => C0 b ∨ b = n + 1) W1 hsm' (fun b hb e => e.elim (hRC b hb) (fun e => by have := hR b hb; omega))
      (fun b hb => hb.elim (fun h => by have := hC b h; omega) (fun h => by omega)) (fun b hb => by have := hR b hb; omega) hJA hJxA ?_
      (by rw [hJ]; exact ⟨C0, rfl, hI1, hC0n1, hC0n, hL1, hK1, hkp, fun b hb => ⟨.inl hb, by have := hC b hb; omega⟩⟩)).mono ?_
    · -- one round
      intro k x C1 W hx hj hlaid
      have hj0 := hj
      rw [hJ] at hj
      obtain ⟨C, rfl, hi, h1, h2, hl, hk, hkk, hld⟩ := hj
      have hlt : n + 1 < W.heap.size := (Array.getElem?_eq_some_iff.1 hl).1
      have hy := run_yield (P := P) (args := encs x) hl (by rw [hrc]; exact hps x)
      rw [hrc] at hy
      refine ⟨fn, _, assign, body, hy, roundIn_of_wpIn hfn (wpIn_mono (hround (n + 1) k x C W (by omega) hlt h1 hx hi hld (by omega)) ?_)⟩
      rintro e a₁ Wa hq
      cases e with
      | normal =>
        obtain ⟨hka, hbody⟩ := hq
        have hla := hka.heap hl h1
        have hkD := hka.heap hk h2
        refine ⟨_, run_beginRound hla (by rw [hrc]), ?_⟩
        obtain ⟨Wb, hWb⟩ : ∃ Wb, Wa.putObj (n + 1) (.loop { rc .ready none with state := .busy }) = Wb := ⟨_, rfl⟩
        have hbut : But (n + 1) Wa Wb := hWb ▸ But.putObj _ _ _
        have hlb : Wb.heap[n + 1]? = some (.loop { rc .ready none with state := .busy }) := hWb ▸ World.putObj_heap_same (Array.getElem?_eq_some_iff.1 hla).1
        have hkb : Wb.heap[n]? = some (.deferred (some [])) := (hbut.block n (by omega)).trans hkD
        rw [hWb]
        refine wpIn_mono (hbody Wb hbut) ?_
        -- from the round's end to the iterator
        have fin : ∀ (jump : Option Code) (C' : Nat → Prop) (W3 : World), Keeps C Wb W3 → Grew C W C' W3 →
            (∃ W4, (Instr.endRound (n + 1) jump).run P W3 = .ok (.bool jump.isNone) W4 ∧ W4.heap[n + 1]? = some (.loop (rc (if jump.isNone then .ready else .done) jump)) ∧ W4.heap[n]? = some (.deferred (some [])) ∧
              But (n + 1) W3 W4) ∧ ¬ C' (n + 1) ∧ ¬ C' n := by
          intro jump C' W3 hk3 hg3
          have hl3 := hk3.heap hlb h1
          have hd3 := hk3.heap hkb h2
          have hr := run_endRound (P := P) jump hl3
          refine ⟨⟨_, hr, ?_, ?_, But.putObj _ _ _⟩, fun e => (hg3 _ e).1.elim h1 (by omega), fun e => (hg3 _ e).1.elim h2 (by omega)⟩
          · rw [hrc]; exact World.putObj_heap_same (Array.getElem?_eq_some_iff.1 hl3).1
          · exact (World.putObj_heap_other (by omega)).trans hd3
        have way : ∀ (C' : Nat → Prop) (W3 W4 : World), Keeps C Wb W3 → Grew C W C' W3 → But (n + 1) W3 W4 → ¬ C' (n + 1) →
            Keeps (fun b => C b ∨ b = n + 1) W W4 ∧ Grew (fun b => C b ∨ b = n + 1) W (fun b => C' b ∨ b = n + 1) W4 ∧ Same (fun b => b < w.heap.size ∨ C' b) W3 W4 ∧ Keeps C0 w W4 ∧ Grew C0 w C' W4 := by
          intro C' W3 W4 hk3 hg3 hb4 hn'
          have hs34 : W4.heap.size = W3.heap.size := hb4.size
          have k1 : Keeps (fun b => C b ∨ b = n + 1) W W3 :=
            (hka.mono (fun b h => .inl h)).trans ((⟨hbut.os, hbut.tape, hbut.output, Nat.le_of_eq hbut.size.symm, fun b _ hn => hbut.block b (fun e => hn (.inr e))⟩ : Keeps (fun b => C b ∨ b = n + 1) Wa Wb).trans (hk3.mono (fun b h => .inl h)))
          have k2 : Keeps (fun b => C b ∨ b = n + 1) W W4 := k1.trans ⟨hb4.os, hb4.tape, hb4.output, Nat.le_of_eq hs34.symm, fun b _ hn => hb4.block b (fun e => hn (.inr e))⟩
          refine ⟨k2, fun b hb => ?_, hb4.same (fun e => e.elim (by omega) hn'), ?_, fun b hb => ⟨(hg3 b hb).1.elim (fun h => (hld b h).1) (fun h => .inr (by omega)), by rw [hs34]; exact (hg3 b hb).2⟩⟩
          · rcases hb with hb | rfl
            · obtain ⟨h, h'⟩ := hg3 b hb
              exact ⟨h.elim (fun h => .inl (.inl h)) .inr, by rw [hs34]; exact h'⟩
            · have := k2.size; exact ⟨.inl (.inr rfl), by omega⟩
          · refine ⟨k2.os.trans hkk.os, k2.tape.trans hkk.tape, k2.output.trans hkk.output, Nat.le_trans hkk.size k2.size, fun b hb hnb => ?_⟩
            refine (k2.block b (by have := hkk.size; omega) (fun e => e.elim (fun hcb => ?_) (by omega))).trans (hkk.block b hb hnb)
            exact (hld b hcb).1.elim hnb (by omega)
        rintro e a3 W3 hp
        cases e with
        | normal =>
          obtain ⟨C', hk3, hg3, hi3⟩ := hp
          obtain ⟨⟨W4, hr, hl4, hd4, hb4⟩, hn1', hn2'⟩ := fin none C' W3 hk3 hg3
          obtain ⟨g1, g2, g3, g4, g5⟩ := way C' W3 W4 hk3 hg3 hb4 hn1'
          exact ⟨_, _, hr, _, g1, g2, .inl ⟨rfl, by rw [hJ]; exact ⟨C', rfl, hI _ _ _ _ hi3 g3, hn1', hn2', hl4, hd4, g4, g5⟩⟩⟩
        | ret =>
          obtain ⟨C', hk3, hg3, hi3⟩ := hp
          obtain ⟨⟨W4, hr, hl4, hd4, hb4⟩, hn1', hn2'⟩ := fin (some .ret) C' W3 hk3 hg3
          obtain ⟨g1, g2, g3, g4, g5⟩ := way C' W3 W4 hk3 hg3 hb4 hn1'
          exact ⟨_, _, hr, _, g1, g2, .inr ⟨rfl, by rw [hJx]; exact ⟨C', _, rfl, hIx _ _ _ _ _ hi3 g3, hn1', hn2', hl4, hd4, g4, g5⟩⟩⟩
        | exit id =>
          obtain ⟨C', hk3, hg3, hi3⟩ := hp
          obtain ⟨⟨W4, hr, hl4, hd4, hb4⟩, hn1', hn2'⟩ := fin (some (.exit id)) C' W3 hk3 hg3
          obtain ⟨g1, g2, g3, g4, g5⟩ := way C' W3 W4 hk3 hg3 hb4 hn1'
          exact ⟨_, _, hr, _, g1, g2, .inr ⟨rfl, by rw [hJx]; exact ⟨C', _, rfl, hIx _ _ _ _ _ hi3 g3, hn1', hn2', hl4, hd4, g4, g5⟩⟩⟩
        | goto t =>
          obtain ⟨C', hk3, hg3, hi3⟩ := hp
          obtain ⟨⟨W4, hr, hl4, hd4, hb4⟩, hn1', hn2'⟩ := fin (some (.goto t)) C' W3 hk3 hg3
          obtain ⟨g1, g2, g3, g4, g5⟩ := way C' W3 W4 hk3 hg3 hb4 hn1'
          exact ⟨_, _, hr, _, g1, g2, .inr ⟨rfl, by rw [hJx]; exact ⟨C', _, rfl, hIx _ _ _ _ _ hi3 g3, hn1', hn2', hl4, hd4, g4, g5⟩⟩⟩
        | panic ch => exact hp.elim
        | outgrown => exact hp.elim
      | _ => exact hq.elim
    · -- behind the iterator
      rintro e W2 ⟨⟨v, rfl⟩, Cx, hkx, hgx, hj | ⟨k, hk', hj⟩⟩
      · rw [hJ] at hj
        obtain ⟨C, rfl, hi, h1, h2, hl, hk, hkk, hld⟩ := hj
        refine ⟨none, _, by have := run_endLoop (P := P) hl (by rw [hrc]; simp); rw [hrc] at this; exact this, ?_⟩
        have hb := But.putObj W2 (n + 1) (.loop { rc .ready none with state := .exhausted })
        rw [hrc] at hb
        exact hdone n C _ (by omega) h2 ((hb.block n (by omega)).trans hk) (hI _ _ _ _ hi (hb.same (fun e => e.elim (by omega) h1)))
          (hkk.putObj (.inr (by omega)) _) (fun b hb' => ⟨(hld b hb').1, by rw [hb.size]; exact (hld b hb').2⟩)
      · rw [hJx] at hj
        obtain ⟨C, c, rfl, hi, h1, h2, hl, hk, hkk, hld⟩ := hj
        refine ⟨some c, _, by have := run_endLoop (P := P) hl (by rw [hrc]; simp); rw [hrc] at this; exact this, ?_⟩
        have hb := But.putObj W2 (n + 1) (.loop { rc .done (some c) with state := .exhausted })
        rw [hrc] at hb
        exact hstop n c k C _ (by omega) h2 ((hb.block n (by omega)).trans hk) hk' (hIx _ _ _ _ _ hi (hb.same (fun e => e.elim (by omega) h1)))
          (hkk.putObj (.inr (by omega)) _) (fun b hb' => ⟨(hld b hb').1, by rw [hb.size]; exact (hld b hb').2⟩)

theorem cell_putObj {W : World} {D : Nat} {o : Obj} {p : Addr} (h : p.block ≠ D) : (W.putObj D o).cell? p = W.cell? p := (But.putObj W D o).cell h
theorem frozen_putObj {W : World} {D : Nat} {o : Obj} {p : Addr} (h : p.block ≠ D) : (W.putObj D o).frozen? p = W.frozen? p := (But.putObj W D o).frozen h

/-- A return behind such a loop: the mark among the deferred calls is taken up. -/
theorem bodyPostM_mark {fn : Func} {R : Ending → World → Prop} {tmps : Array Value} {D : Nat} {w : World} {v : Value}
    (hK : w.heap[D]? = some (.deferred (some []))) (hr : (results fn tmps).run P (w.putObj D (.deferred none)) = .ok v (w.putObj D (.deferred none)))
    (hR : R (.returned v) (w.putObj D (.deferred none))) :
    bodyPostM Fence.wide 0 P fn R .ret { tmps := tmps, defers := [{ target := .collected D, args := #[] }] } w :=
  ⟨by simp, .inl ⟨_, _, rfl, run_takeDeferred hK, v, hr, hR⟩⟩
end
end Go

/- The law of 'for .. := range g { .. }' whose body may write the blocks that its own round has made. -/
namespace Go
open Go.RowKit
/-- How the body of a round may be left. W0: where the round began; W: behind the assignment. -/
def roundEnd2 (I : Nat → (Nat → Prop) → World → Prop) (Ix : Code → Nat → (Nat → Prop) → World → Prop) (k : Nat) (C : Nat → Prop) (W0 W : World) : Exit → Act → World → Prop
  | .normal, _, W' => ∃ C', Keeps (fun b => C b ∨ W0.heap.size ≤ b) W W' ∧ Grew C W0 C' W' ∧ I k C' W'
  | .ret, _, W' => ∃ C', Keeps (fun b => C b ∨ W0.heap.size ≤ b) W W' ∧ Grew C W0 C' W' ∧ Ix .ret k C' W'
  | .exit id, _, W' => ∃ C', Keeps (fun b => C b ∨ W0.heap.size ≤ b) W W' ∧ Grew C W0 C' W' ∧ Ix (.exit id) k C' W'
  | .goto t, _, W' => ∃ C', Keeps (fun b => C b ∨ W0.heap.size ≤ b) W W' ∧ Grew C W0 C' W' ∧ Ix (.goto t) k C' W'
  | .panic _, _, _ => False
  | .outgrown, _, _ => False

section
variable {P : Program} {α : Type}

theorem Keeps.heap2 {C : Nat → Prop} {W W' : World} (h : Keeps C W W') {l : Nat} {o : Obj} (hl : W.heap[l]? = some o) (hn : ¬ C l) : W'.heap[l]? = some o :=
  (h.block l ((Array.getElem?_eq_some_iff.1 hl).1) hn).trans hl

/-- **THE LAW OF 'for .. := range g { .. }', outside of every round.** -/
theorem wpIn_range2 {g : Operand} {ps : Array Tmp} {assign body : Code} {Q : Exit → Act → World → Prop} {a : Act} {w w0 : World}
    {gf : Nat} {lb : Array Value} (hg : a.eval g = .func (.func gf) #[] lb) (eg : ∀ args w, (callFunc gf args).run P w = .ok (.enter gf args) w)
    {encs : α → Array Value} {xs : List α} {R : Nat → Prop} (hseq : Iter P gf lb encs xs R w0) (hps : ∀ x, (encs x).size = ps.size)
    (hRs : Same R w0 w) (C0 : Nat → Prop) (hRC : ∀ b, R b → ¬ C0 b) (hR : Laid R w) (hC : Laid C0 w)
    (I : Nat → (Nat → Prop) → World → Prop) (Ix : Code → Nat → (Nat → Prop) → World → Prop) (hI : Abide w.heap.size I) (hIx : ∀ c, Abide w.heap.size (Ix c)) (h0 : I 0 C0 w)
    (hround : ∀ l k x C W, w.heap.size ≤ l → l < W.heap.size → ¬ C l → xs[k]? = some x → I k C W → Grew C0 w C W → w.heap.size ≤ W.heap.size →
      assign.wpIn (Fence.wide.inRound l) 0 P (Exit.then (fun a₁ W₁ => Keeps C W W₁ ∧ ∀ W₂, But l W₁ W₂ → body.wpIn (Fence.wide.inRound l) 0 P (roundEnd2 I Ix (k + 1) C W W₂) a₁ W₂) (fun _ _ _ => False))
        { tmps := (ps.zip (encs x)).foldl (fun t (p, v) => t.setIfInBounds p v) a.tmps, defers := [] } W)
    (hdone : ∀ D C W, w.heap.size ≤ D → ¬ C D → W.heap[D]? = some (.deferred (some [])) → I xs.length C W → Keeps C0 w W → Grew C0 w C W →
      Q .normal { a with defers := { target := .collected D, args := #[] } :: a.defers } W)
    (hstop : ∀ D c k C W, w.heap.size ≤ D → ¬ C D → W.heap[D]? = some (.deferred (some [])) → k ≤ xs.length → Ix c k C W → Keeps C0 w W → Grew C0 w C W →
      c.wpIn Fence.wide 0 P Q { a with defers := { target := .collected D, args := #[] } :: a.defers } W) :
    (Code.rangeFunc g ps assign body).wpIn Fence.wide 0 P Q a w := by
  refine wpIn_rangeFunc fun fn hfn => ?_
  have hro : Fence.wide.round = none := rfl
  rw [hro]
  obtain ⟨n, hn⟩ : ∃ n, n = w.heap.size := ⟨_, rfl⟩
  obtain ⟨rc, hrc⟩ : ∃ rc : LoopState → Option Code → Loop, rc = fun st pe => { state := st, pending := pe, fn, tmps := a.tmps, params := ps, assign, body, defers := n } := ⟨_, rfl⟩
  obtain ⟨W1, hW1⟩ : ∃ W1, (w.alloc (.deferred (some []))).alloc (.loop (rc .ready none)) = W1 := ⟨_, rfl⟩
  have hz1 : W1.heap.size = n + 2 := by rw [← hW1, hn]; simp
  have hL1 : W1.heap[n + 1]? = some (.loop (rc .ready none)) := by
    rw [← hW1, hn]; have := World.alloc_heap_new (w.alloc (.deferred (some []))) (.loop (rc .ready none)); rwa [World.size_alloc] at this
  have hK1 : W1.heap[n]? = some (.deferred (some [])) := by
    rw [← hW1, hn]; exact (Below.heap_alloc _ _ _ (by simp)).trans (World.alloc_heap_new w _)
  have hkp : Keeps C0 w W1 := by rw [← hW1]; exact ((Keeps.refl _ _).alloc _).alloc _
  have hsm : Same (fun b => b < w.heap.size) w W1 := by
    rw [← hW1]; exact Same.of_below (B := w.heap.size) (((Below.refl _ w).alloc (Nat.le_refl _) _).alloc (by simp) _) (fun b hb => hb)
  have hI1 : I 0 C0 W1 := hI _ _ _ _ h0 ⟨hsm.os, hsm.tape, hsm.output, hsm.size, fun b hb => hsm.block b (hb.elim id (hC b))⟩
  have hsm' : Same R w0 W1 := ⟨hsm.os.trans hRs.os, hsm.tape.trans hRs.tape, hsm.output.trans hRs.output, Nat.le_trans hRs.size hsm.size, fun b hb => (hsm.block b (hR b hb)).trans (hRs.block b hb)⟩
  refine ⟨n + 1, [{ target := .collected n, args := #[] }], W1, { target := .fn (.func gf) lb, args := #[.func (.yield (n + 1)) #[] #[]] }, W1, gf,
    #[.func (.yield (n + 1)) #[] #[]] ++ lb, W1, ?_, ?_, ?_, ?_, (fun hs => absurd hs (by simp [Fence.wide])), ?_⟩
  · rw [← hW1, hrc, hn]; exact run_enterLoop_outer _ _ _ _ _
  · simp only [resolve, hg]
    simp [go_sem]
  · exact fun f' _ => trivial
  · simp [invoke, go_sem, eg]
  · -- the iterator's contract, at the caller's invariant and the two blocks of book-keeping; the loop's record counts as the caller's own
    obtain ⟨J, hJ⟩ : ∃ J : Nat → (Nat → Prop) → World → Prop, J = fun k C W => ∃ C₁, (C = fun b => C₁ b ∨ b = n + 1) ∧ I k C₁ W ∧ ¬ C₁ (n + 1) ∧ ¬ C₁ n ∧ W.heap[n + 1]? = some (.loop (rc .ready none)) ∧ W.heap[n]? = some (.deferred (some [])) ∧ Keeps C0 w W ∧ Grew C0 w C₁ W := ⟨_, rfl⟩
    obtain ⟨Jx, hJx⟩ : ∃ J : Nat → (Nat → Prop) → World → Prop, J = fun k C W => ∃ C₁ c, (C = fun b => C₁ b ∨ b = n + 1) ∧ Ix c k C₁ W ∧ ¬ C₁ (n + 1) ∧ ¬ C₁ n ∧ W.heap[n + 1]? = some (.loop (rc .done (some c))) ∧ W.heap[n]? = some (.deferred (some [])) ∧ Keeps C0 w W ∧ Grew C0 w C₁ W := ⟨_, rfl⟩
    have hC0n : ¬ C0 n := fun e => by have := hC n e; omega
    have hC0n1 : ¬ C0 (n + 1) := fun e => by have := hC _ e; omega
    have hJA : Abide W1.heap.size J := by
      intro k C Wa Wb hj hs
      rw [hJ] at hj ⊢
      obtain ⟨C₁, rfl, hi, h1, h2, hl, hk, hkk, hld⟩ := hj
      refine ⟨C₁, rfl, hI _ _ _ _ hi ⟨hs.os, hs.tape, hs.output, hs.size, fun b hb => hs.block b (hb.elim (fun h => .inl (by omega)) (fun h => .inr (.inl h)))⟩, h1, h2, (hs.block _ (.inr (.inr rfl))).trans hl, (hs.block _ (.inl (by omega))).trans hk, ?_, fun b hb => ⟨(hld b hb).1, Nat.lt_of_lt_of_le (hld b hb).2 hs.size⟩⟩
      exact ⟨hs.os.trans hkk.os, hs.tape.trans hkk.tape, hs.output.trans hkk.output, Nat.le_trans hkk.size hs.size, fun b hb hn' => (hs.block b (.inl (by omega))).trans (hkk.block b hb hn')⟩
    have hJxA : Abide W1.heap.size Jx := by
      intro k C Wa Wb hj hs
      rw [hJx] at hj ⊢
      obtain ⟨C₁, c, rfl, hi, h1, h2, hl, hk, hkk, hld⟩ := hj
      refine ⟨C₁, c, rfl, hIx c _ _ _ _ hi ⟨hs.os, hs.tape, hs.output, hs.size, fun b hb => hs.block b (hb.elim (fun h => .inl (by omega)) (fun h => .inr (.inl h)))⟩, h1, h2, (hs.block _ (.inr (.inr rfl))).trans hl, (hs.block _ (.inl (by omega))).trans hk, ?_, fun b hb => ⟨(hld b hb).1, Nat.lt_of_lt_of_le (hld b hb).2 hs.size⟩⟩
      exact ⟨hs.os.trans hkk.os, hs.tape.trans hkk.tape, hs.output.trans hkk.output, Nat.le_trans hkk.size hs.size, fun b hb hn' => (hs.block b (.inl (by omega))).trans (hkk.block b hb hn')⟩
    refine (hseq (n + 1) J Jx (fun b => C0 b ∨ b = n + 1) W1 hsm' (fun b hb e => e.elim (hRC b hb) (fun e => by have := hR b hb; omega))
      (fun b hb => hb.elim (fun h => by have := hC b h; omega) (fun h => by omega)) (fun b hb => by have := hR b hb; omega) hJA hJxA ?_
      (by rw [hJ]; exact ⟨C0, rfl, hI1, hC0n1, hC0n, hL1, hK1, hkp, fun b hb => ⟨.inl hb, by have := hC b hb; omega⟩⟩)).mono ?_
    · -- one round
      intro k x C1 W hx hj hlaid
      have hj0 := hj
      rw [hJ] at hj
      obtain ⟨C, rfl, hi, h1, h2, hl, hk, hkk, hld⟩ := hj
      have hlt : n + 1 < W.heap.size := (Array.getElem?_eq_some_iff.1 hl).1
      have hy := run_yield (P := P) (args := encs x) hl (by rw [hrc]; exact hps x)
      rw [hrc] at hy
      refine ⟨fn, _, assign, body, hy, roundIn_of_wpIn hfn (wpIn_mono (hround (n + 1) k x C W (by omega) hlt h1 hx hi hld (by omega)) ?_)⟩
      rintro e a₁ Wa hq
      cases e with
      | normal =>
        obtain ⟨hka, hbody⟩ := hq
        have hla := hka.heap hl h1
        have hkD := hka.heap hk h2
        refine ⟨_, run_beginRound hla (by rw [hrc]), ?_⟩
        obtain ⟨Wb, hWb⟩ : ∃ Wb, Wa.putObj (n + 1) (.loop { rc .ready none with state := .busy }) = Wb := ⟨_, rfl⟩
        have hbut : But (n + 1) Wa Wb := hWb ▸ But.putObj _ _ _
        have hlb : Wb.heap[n + 1]? = some (.loop { rc .ready none with state := .busy }) := hWb ▸ World.putObj_heap_same (Array.getElem?_eq_some_iff.1 hla).1
        have hkb : Wb.heap[n]? = some (.deferred (some [])) := (hbut.block n (by omega)).trans hkD
        rw [hWb]
        refine wpIn_mono (hbody Wb hbut) ?_
        -- from the round's end to the iterator
        have fin : ∀ (jump : Option Code) (C' : Nat → Prop) (W3 : World), Keeps (fun b => C b ∨ W.heap.size ≤ b) Wb W3 → Grew C W C' W3 →
            (∃ W4, (Instr.endRound (n + 1) jump).run P W3 = .ok (.bool jump.isNone) W4 ∧ W4.heap[n + 1]? = some (.loop (rc (if jump.isNone then .ready else .done) jump)) ∧ W4.heap[n]? = some (.deferred (some [])) ∧
              But (n + 1) W3 W4) ∧ ¬ C' (n + 1) ∧ ¬ C' n := by
          intro jump C' W3 hk3 hg3
          have hl3 := hk3.heap hlb (fun e => e.elim h1 (fun h => by omega))
          have hd3 := hk3.heap hkb (fun e => e.elim h2 (fun h => by omega))
          have hr := run_endRound (P := P) jump hl3
          refine ⟨⟨_, hr, ?_, ?_, But.putObj _ _ _⟩, fun e => (hg3 _ e).1.elim h1 (by omega), fun e => (hg3 _ e).1.elim h2 (by omega)⟩
          · rw [hrc]; exact World.putObj_heap_same (Array.getElem?_eq_some_iff.1 hl3).1
          · exact (World.putObj_heap_other (by omega)).trans hd3
        have way : ∀ (C' : Nat → Prop) (W3 W4 : World), Keeps (fun b => C b ∨ W.heap.size ≤ b) Wb W3 → Grew C W C' W3 → But (n + 1) W3 W4 → ¬ C' (n + 1) →
            Keeps (fun b => C b ∨ b = n + 1) W W4 ∧ Grew (fun b => C b ∨ b = n + 1) W (fun b => C' b ∨ b = n + 1) W4 ∧ Same (fun b => b < w.heap.size ∨ C' b) W3 W4 ∧ Keeps C0 w W4 ∧ Grew C0 w C' W4 := by
          intro C' W3 W4 hk3 hg3 hb4 hn'
          have hs34 : W4.heap.size = W3.heap.size := hb4.size
          have k1 : Keeps (fun b => C b ∨ b = n + 1) W W3 :=
            ((hka.mono (fun b h => .inl h)).trans (⟨hbut.os, hbut.tape, hbut.output, Nat.le_of_eq hbut.size.symm, fun b _ hn => hbut.block b (fun e => hn (.inr e))⟩ : Keeps (fun b => C b ∨ b = n + 1) Wa Wb)).trans' hk3 (fun b h => h.imp .inl id)
          have k2 : Keeps (fun b => C b ∨ b = n + 1) W W4 := k1.trans ⟨hb4.os, hb4.tape, hb4.output, Nat.le_of_eq hs34.symm, fun b _ hn => hb4.block b (fun e => hn (.inr e))⟩
          refine ⟨k2, fun b hb => ?_, hb4.same (fun e => e.elim (by omega) hn'), ?_, fun b hb => ⟨(hg3 b hb).1.elim (fun h => (hld b h).1) (fun h => .inr (by omega)), by rw [hs34]; exact (hg3 b hb).2⟩⟩
          · rcases hb with hb | rfl
            · obtain ⟨h, h'⟩ := hg3 b hb
              exact ⟨h.elim (fun h => .inl (.inl h)) .inr, by rw [hs34]; exact h'⟩
            · have := k2.size; exact ⟨.inl (.inr rfl), by omega⟩
          · refine ⟨k2.os.trans hkk.os, k2.tape.trans hkk.tape, k2.output.trans hkk.output, Nat.le_trans hkk.size k2.size, fun b hb hnb => ?_⟩
            refine (k2.block b (by have := hkk.size; omega) (fun e => e.elim (fun hcb => ?_) (by omega))).trans (hkk.block b hb hnb)
            exact (hld b hcb).1.elim hnb (by omega)
        rintro e a3 W3 hp
        cases e with
        | normal =>
          obtain ⟨C', hk3, hg3, hi3⟩ := hp
          obtain ⟨⟨W4, hr, hl4, hd4, hb4⟩, hn1', hn2'⟩ := fin none C' W3 hk3 hg3
          obtain ⟨g1, g2, g3, g4, g5⟩ := way C' W3 W4 hk3 hg3 hb4 hn1'
          exact ⟨_, _, hr, _, g1, g2, .inl ⟨rfl, by rw [hJ]; exact ⟨C', rfl, hI _ _ _ _ hi3 g3, hn1', hn2', hl4, hd4, g4, g5⟩⟩⟩
        | ret =>
          obtain ⟨C', hk3, hg3, hi3⟩ := hp
          obtain ⟨⟨W4, hr, hl4, hd4, hb4⟩, hn1', hn2'⟩ := fin (some .ret) C' W3 hk3 hg3
          obtain ⟨g1, g2, g3, g4, g5⟩ := way C' W3 W4 hk3 hg3 hb4 hn1'
          exact ⟨_, _, hr, _, g1, g2, .inr ⟨rfl, by rw [hJx]; exact ⟨C', _, rfl, hIx _ _ _ _ _ hi3 g3, hn1', hn2', hl4, hd4, g4, g5⟩⟩⟩
        | exit id =>
          obtain ⟨C', hk3, hg3, hi3⟩ := hp
          obtain ⟨⟨W4, hr, hl4, hd4, hb4⟩, hn1', hn2'⟩ := fin (some (.exit id)) C' W3 hk3 hg3
          obtain ⟨g1, g2, g3, g4, g5⟩ := way C' W3 W4 hk3 hg3 hb4 hn1'
          exact ⟨_, _, hr, _, g1, g2, .inr ⟨rfl, by rw [hJx]; exact ⟨C', _, rfl, hIx _ _ _ _ _ hi3 g3, hn1', hn2', hl4, hd4, g4, g5⟩⟩⟩
        | goto t =>
          obtain ⟨C', hk3, hg3, hi3⟩ := hp
          obtain ⟨⟨W4, hr, hl4, hd4, hb4⟩, hn1', hn2'⟩ := fin (some (.goto t)) C' W3 hk3 hg3
          obtain ⟨g1, g2, g3, g4, g5⟩ := way C' W3 W4 hk3 hg3 hb4 hn1'
          exact ⟨_, _, hr, _, g1, g2, .inr ⟨rfl, by rw [hJx]; exact ⟨C', _, rfl, hIx _ _ _ _ _ hi3 g3, hn1', hn2', hl4, hd4, g4, g5⟩⟩⟩
        | panic ch => exact hp.elim
        | outgrown => exact hp.elim
      | _ => exact hq.elim
    · -- behind the iterator
      rintro e W2 ⟨⟨v, rfl⟩, Cx, hkx, hgx, hj | ⟨k, hk', hj⟩⟩
      · rw [hJ] at hj
        obtain ⟨C, rfl, hi, h1, h2, hl, hk, hkk, hld⟩ := hj
        refine ⟨none, _, by have := run_endLoop (P := P) hl (by rw [hrc]; simp); rw [hrc] at this; exact this, ?_⟩
        have hb := But.putObj W2 (n + 1) (.loop { rc .ready none with state := .exhausted })
        rw [hrc] at hb
        exact hdone n C _ (by omega) h2 ((hb.block n (by omega)).trans hk) (hI _ _ _ _ hi (hb.same (fun e => e.elim (by omega) h1)))
          (hkk.putObj (.inr (by omega)) _) (fun b hb' => ⟨(hld b hb').1, by rw [hb.size]; exact (hld b hb').2⟩)
      · rw [hJx] at hj
        obtain ⟨C, c, rfl, hi, h1, h2, hl, hk, hkk, hld⟩ := hj
        refine ⟨some c, _, by have := run_endLoop (P := P) hl (by rw [hrc]; simp); rw [hrc] at this; exact this, ?_⟩
        have hb := But.putObj W2 (n + 1) (.loop { rc .done (some c) with state := .exhausted })
        rw [hrc] at hb
        exact hstop n c k C _ (by omega) h2 ((hb.block n (by omega)).trans hk) hk' (hIx _ _ _ _ _ hi (hb.same (fun e => e.elim (by omega) h1)))
          (hkk.putObj (.inr (by omega)) _) (fun b hb' => ⟨(hld b hb').1, by rw [hb.size]; exact (hld b hb').2⟩)

end
end Go

/- The law of 'for .. := range g { .. }' whose iterator writes blocks of its own (a captured variable), and whose body may write the blocks that its own round has made. -/
namespace Go
open Go.RowKit
/-- J speaks of the blocks that lay below n but for those of O, and of those of C, alone. -/
def AbideO (n : Nat) (O : Nat → Prop) (J : Nat → (Nat → Prop) → World → Prop) : Prop :=
  ∀ k C W1 W2, J k C W1 → Same (fun b => (b < n ∧ ¬ O b) ∨ C b) W1 W2 → J k C W2
/-- THE CONTRACT OF AN ITERATOR that yields xs and writes its own blocks O. R: the blocks that it reads. -/
def IterO {α : Type} (P : Program) (gf : Nat) (lb : Array Value) (encs : α → Array Value) (xs : List α) (R O : Nat → Prop) (w : World) : Prop :=
  ∀ (l : Nat) (J Jx : Nat → (Nat → Prop) → World → Prop) (C : Nat → Prop) (W : World),
    Same (fun b => R b ∨ O b) w W → (∀ b, R b → ¬ C b) → (∀ b, O b → ¬ C b) → Laid C W → Laid R W → Laid O W → AbideO W.heap.size O J → AbideO W.heap.size O Jx →
    (∀ k x C1 W1, xs[k]? = some x → J k C1 W1 → Laid C1 W1 → RoundAt P l encs J Jx k x C1 W1) →
    J 0 C W →
    CallsIn Fence.wide 0 P gf (#[.func (.yield l) #[] #[]] ++ lb) W fun e W' => (∃ v, e = .returned v) ∧
      ∃ C', Keeps (fun b => C b ∨ O b) W W' ∧ Grew C W C' W' ∧ (J xs.length C' W' ∨ ∃ k, k ≤ xs.length ∧ Jx k C' W')
section
variable {P : Program} {α : Type}

/-- **THE LAW OF 'for .. := range g { .. }', outside of every round.** -/
theorem wpIn_rangeO {g : Operand} {ps : Array Tmp} {assign body : Code} {Q : Exit → Act → World → Prop} {a : Act} {w w0 : World}
    {gf : Nat} {lb : Array Value} (hg : a.eval g = .func (.func gf) #[] lb) (eg : ∀ args w, (callFunc gf args).run P w = .ok (.enter gf args) w)
    {encs : α → Array Value} {xs : List α} {R O : Nat → Prop} (hseq : IterO P gf lb encs xs R O w0) (hps : ∀ x, (encs x).size = ps.size)
    (hRs : Same (fun b => R b ∨ O b) w0 w) (C0 : Nat → Prop) (hRC : ∀ b, R b → ¬ C0 b) (hOC : ∀ b, O b → ¬ C0 b) (hR : Laid R w) (hO : Laid O w) (hC : Laid C0 w)
    (I : Nat → (Nat → Prop) → World → Prop) (Ix : Code → Nat → (Nat → Prop) → World → Prop) (hI : AbideO w.heap.size O I) (hIx : ∀ c, AbideO w.heap.size O (Ix c)) (h0 : I 0 C0 w)
    (hround : ∀ l k x C W, w.heap.size ≤ l → l < W.heap.size → ¬ C l → xs[k]? = some x → I k C W → Grew C0 w C W → w.heap.size ≤ W.heap.size →
      assign.wpIn (Fence.wide.inRound l) 0 P (Exit.then (fun a₁ W₁ => Keeps C W W₁ ∧ ∀ W₂, But l W₁ W₂ → body.wpIn (Fence.wide.inRound l) 0 P (roundEnd2 I Ix (k + 1) C W W₂) a₁ W₂) (fun _ _ _ => False))
        { tmps := (ps.zip (encs x)).foldl (fun t (p, v) => t.setIfInBounds p v) a.tmps, defers := [] } W)
    (hdone : ∀ D C W, w.heap.size ≤ D → ¬ C D → W.heap[D]? = some (.deferred (some [])) → I xs.length C W → Keeps (fun b => C0 b ∨ O b) w W → Grew C0 w C W →
      Q .normal { a with defers := { target := .collected D, args := #[] } :: a.defers } W)
    (hstop : ∀ D c k C W, w.heap.size ≤ D → ¬ C D → W.heap[D]? = some (.deferred (some [])) → k ≤ xs.length → Ix c k C W → Keeps (fun b => C0 b ∨ O b) w W → Grew C0 w C W →
      c.wpIn Fence.wide 0 P Q { a with defers := { target := .collected D, args := #[] } :: a.defers } W) :
    (Code.rangeFunc g ps assign body).wpIn Fence.wide 0 P Q a w := by
  refine wpIn_rangeFunc fun fn hfn => ?_
  have hro : Fence.wide.round = none := rfl
  rw [hro]
  obtain ⟨n, hn⟩ : ∃ n, n = w.heap.size := ⟨_, rfl⟩
  obtain ⟨rc, hrc⟩ : ∃ rc : LoopState → Option Code → Loop, rc = fun st pe => { state := st, pending := pe, fn, tmps := a.tmps, params := ps, assign, body, defers := n } := ⟨_, rfl⟩
  obtain ⟨W1, hW1⟩ : ∃ W1, (w.alloc (.deferred (some []))).alloc (.loop (rc .ready none)) = W1 := ⟨_, rfl⟩
  have hz1 : W1.heap.size = n + 2 := by rw [← hW1, hn]; simp
  have hL1 : W1.heap[n + 1]? = some (.loop (rc .ready none)) := by
    rw [← hW1, hn]; have := World.alloc_heap_new (w.alloc (.deferred (some []))) (.loop (rc .ready none)); rwa [World.size_alloc] at this
  have hK1 : W1.heap[n]? = some (.deferred (some [])) := by
    rw [← hW1, hn]; exact (Below.heap_alloc _ _ _ (by simp)).trans (World.alloc_heap_new w _)
  have hkp : Keeps (fun b => C0 b ∨ O b) w W1 := by rw [← hW1]; exact ((Keeps.refl _ _).alloc _).alloc _
  have hsm : Same (fun b => b < w.heap.size) w W1 := by
    rw [← hW1]; exact Same.of_below (B := w.heap.size) (((Below.refl _ w).alloc (Nat.le_refl _) _).alloc (by simp) _) (fun b hb => hb)
  have hI1 : I 0 C0 W1 := hI _ _ _ _ h0 ⟨hsm.os, hsm.tape, hsm.output, hsm.size, fun b hb => hsm.block b (hb.elim (fun h => h.1) (hC b))⟩
  have hsm' : Same (fun b => R b ∨ O b) w0 W1 := ⟨hsm.os.trans hRs.os, hsm.tape.trans hRs.tape, hsm.output.trans hRs.output, Nat.le_trans hRs.size hsm.size, fun b hb => (hsm.block b (hb.elim (hR b) (hO b))).trans (hRs.block b hb)⟩
  refine ⟨n + 1, [{ target := .collected n, args := #[] }], W1, { target := .fn (.func gf) lb, args := #[.func (.yield (n + 1)) #[] #[]] }, W1, gf,
    #[.func (.yield (n + 1)) #[] #[]] ++ lb, W1, ?_, ?_, ?_, ?_, (fun hs => absurd hs (by simp [Fence.wide])), ?_⟩
  · rw [← hW1, hrc, hn]; exact run_enterLoop_outer _ _ _ _ _
  · simp only [resolve, hg]
    simp [go_sem]
  · exact fun f' _ => trivial
  · simp [invoke, go_sem, eg]
  · -- the iterator's contract, at the caller's invariant and the two blocks of book-keeping; the loop's record counts as the caller's own
    obtain ⟨J, hJ⟩ : ∃ J : Nat → (Nat → Prop) → World → Prop, J = fun k C W => ∃ C₁, (C = fun b => C₁ b ∨ b = n + 1) ∧ I k C₁ W ∧ ¬ C₁ (n + 1) ∧ ¬ C₁ n ∧ W.heap[n + 1]? = some (.loop (rc .ready none)) ∧ W.heap[n]? = some (.deferred (some [])) ∧ Keeps (fun b => C0 b ∨ O b) w W ∧ Grew C0 w C₁ W := ⟨_, rfl⟩
    obtain ⟨Jx, hJx⟩ : ∃ J : Nat → (Nat → Prop) → World → Prop, J = fun k C W => ∃ C₁ c, (C = fun b => C₁ b ∨ b = n + 1) ∧ Ix c k C₁ W ∧ ¬ C₁ (n + 1) ∧ ¬ C₁ n ∧ W.heap[n + 1]? = some (.loop (rc .done (some c))) ∧ W.heap[n]? = some (.deferred (some [])) ∧ Keeps (fun b => C0 b ∨ O b) w W ∧ Grew C0 w C₁ W := ⟨_, rfl⟩
    have hC0n : ¬ C0 n := fun e => by have := hC n e; omega
    have hC0n1 : ¬ C0 (n + 1) := fun e => by have := hC _ e; omega
    have hOn : ∀ b, n ≤ b → ¬ O b := fun b hb e => by have := hO b e; omega
    have hJA : AbideO W1.heap.size O J := by
      intro k C Wa Wb hj hs
      rw [hJ] at hj ⊢
      obtain ⟨C₁, rfl, hi, h1, h2, hl, hk, hkk, hld⟩ := hj
      refine ⟨C₁, rfl, hI _ _ _ _ hi ⟨hs.os, hs.tape, hs.output, hs.size, fun b hb => hs.block b (hb.elim (fun h => .inl ⟨by have := h.1; omega, h.2⟩) (fun h => .inr (.inl h)))⟩, h1, h2, (hs.block _ (.inr (.inr rfl))).trans hl, (hs.block _ (.inl ⟨by omega, hOn _ (Nat.le_refl _)⟩)).trans hk, ?_, fun b hb => ⟨(hld b hb).1, Nat.lt_of_lt_of_le (hld b hb).2 hs.size⟩⟩
      exact ⟨hs.os.trans hkk.os, hs.tape.trans hkk.tape, hs.output.trans hkk.output, Nat.le_trans hkk.size hs.size, fun b hb hn' => (hs.block b (.inl ⟨by omega, fun e => hn' (.inr e)⟩)).trans (hkk.block b hb hn')⟩
    have hJxA : AbideO W1.heap.size O Jx := by
      intro k C Wa Wb hj hs
      rw [hJx] at hj ⊢
      obtain ⟨C₁, c, rfl, hi, h1, h2, hl, hk, hkk, hld⟩ := hj
      refine ⟨C₁, c, rfl, hIx c _ _ _ _ hi ⟨hs.os, hs.tape, hs.output, hs.size, fun b hb => hs.block b (hb.elim (fun h => .inl ⟨by have := h.1; omega, h.2⟩) (fun h => .inr (.inl h)))⟩, h1, h2, (hs.block _ (.inr (.inr rfl))).trans hl, (hs.block _ (.inl ⟨by omega, hOn _ (Nat.le_refl _)⟩)).trans hk, ?_, fun b hb => ⟨(hld b hb).1, Nat.lt_of_lt_of_le (hld b hb).2 hs.size⟩⟩
      exact ⟨hs.os.trans hkk.os, hs.tape.trans hkk.tape, hs.output.trans hkk.output, Nat.le_trans hkk.size hs.size, fun b hb hn' => (hs.block b (.inl ⟨by omega, fun e => hn' (.inr e)⟩)).trans (hkk.block b hb hn')⟩
    refine (hseq (n + 1) J Jx (fun b => C0 b ∨ b = n + 1) W1 hsm' (fun b hb e => e.elim (hRC b hb) (fun e => by have := hR b hb; omega)) (fun b hb e => e.elim (hOC b hb) (fun e => by have := hO b hb; omega))
      (fun b hb => hb.elim (fun h => by have := hC b h; omega) (fun h => by omega)) (fun b hb => by have := hR b hb; omega) (fun b hb => by have := hO b hb; omega) hJA hJxA ?_
      (by rw [hJ]; exact ⟨C0, rfl, hI1, hC0n1, hC0n, hL1, hK1, hkp, fun b hb => ⟨.inl hb, by have := hC b hb; omega⟩⟩)).mono ?_
    · -- one round
      intro k x C1 W hx hj hlaid
      have hj0 := hj
      rw [hJ] at hj
      obtain ⟨C, rfl, hi, h1, h2, hl, hk, hkk, hld⟩ := hj
      have hlt : n + 1 < W.heap.size := (Array.getElem?_eq_some_iff.1 hl).1
      have hy := run_yield (P := P) (args := encs x) hl (by rw [hrc]; exact hps x)
      rw [hrc] at hy
      refine ⟨fn, _, assign, body, hy, roundIn_of_wpIn hfn (wpIn_mono (hround (n + 1) k x C W (by omega) hlt h1 hx hi hld (by omega)) ?_)⟩
      rintro e a₁ Wa hq
      cases e with
      | normal =>
        obtain ⟨hka, hbody⟩ := hq
        have hla := hka.heap hl h1
        have hkD := hka.heap hk h2
        refine ⟨_, run_beginRound hla (by rw [hrc]), ?_⟩
        obtain ⟨Wb, hWb⟩ : ∃ Wb, Wa.putObj (n + 1) (.loop { rc .ready none with state := .busy }) = Wb := ⟨_, rfl⟩
        have hbut : But (n + 1) Wa Wb := hWb ▸ But.putObj _ _ _
        have hlb : Wb.heap[n + 1]? = some (.loop { rc .ready none with state := .busy }) := hWb ▸ World.putObj_heap_same (Array.getElem?_eq_some_iff.1 hla).1
        have hkb : Wb.heap[n]? = some (.deferred (some [])) := (hbut.block n (by omega)).trans hkD
        rw [hWb]
        refine wpIn_mono (hbody Wb hbut) ?_
        -- from the round's end to the iterator
        have fin : ∀ (jump : Option Code) (C' : Nat → Prop) (W3 : World), Keeps (fun b => C b ∨ W.heap.size ≤ b) Wb W3 → Grew C W C' W3 →
            (∃ W4, (Instr.endRound (n + 1) jump).run P W3 = .ok (.bool jump.isNone) W4 ∧ W4.heap[n + 1]? = some (.loop (rc (if jump.isNone then .ready else .done) jump)) ∧ W4.heap[n]? = some (.deferred (some [])) ∧
              But (n + 1) W3 W4) ∧ ¬ C' (n + 1) ∧ ¬ C' n := by
          intro jump C' W3 hk3 hg3
          have hl3 := hk3.heap hlb (fun e => e.elim h1 (fun h => by omega))
          have hd3 := hk3.heap hkb (fun e => e.elim h2 (fun h => by omega))
          have hr := run_endRound (P := P) jump hl3
          refine ⟨⟨_, hr, ?_, ?_, But.putObj _ _ _⟩, fun e => (hg3 _ e).1.elim h1 (by omega), fun e => (hg3 _ e).1.elim h2 (by omega)⟩
          · rw [hrc]; exact World.putObj_heap_same (Array.getElem?_eq_some_iff.1 hl3).1
          · exact (World.putObj_heap_other (by omega)).trans hd3
        have way : ∀ (C' : Nat → Prop) (W3 W4 : World), Keeps (fun b => C b ∨ W.heap.size ≤ b) Wb W3 → Grew C W C' W3 → But (n + 1) W3 W4 → ¬ C' (n + 1) →
            Keeps (fun b => C b ∨ b = n + 1) W W4 ∧ Grew (fun b => C b ∨ b = n + 1) W (fun b => C' b ∨ b = n + 1) W4 ∧ Same (fun b => (b < w.heap.size ∧ ¬ O b) ∨ C' b) W3 W4 ∧ Keeps (fun b => C0 b ∨ O b) w W4 ∧ Grew C0 w C' W4 := by
          intro C' W3 W4 hk3 hg3 hb4 hn'
          have hs34 : W4.heap.size = W3.heap.size := hb4.size
          have k1 : Keeps (fun b => C b ∨ b = n + 1) W W3 :=
            ((hka.mono (fun b h => .inl h)).trans (⟨hbut.os, hbut.tape, hbut.output, Nat.le_of_eq hbut.size.symm, fun b _ hn => hbut.block b (fun e => hn (.inr e))⟩ : Keeps (fun b => C b ∨ b = n + 1) Wa Wb)).trans' hk3 (fun b h => h.imp .inl id)
          have k2 : Keeps (fun b => C b ∨ b = n + 1) W W4 := k1.trans ⟨hb4.os, hb4.tape, hb4.output, Nat.le_of_eq hs34.symm, fun b _ hn => hb4.block b (fun e => hn (.inr e))⟩
          refine ⟨k2, fun b hb => ?_, hb4.same (fun e => e.elim (fun h => by have := h.1; omega) hn'), ?_, fun b hb => ⟨(hg3 b hb).1.elim (fun h => (hld b h).1) (fun h => .inr (by omega)), by rw [hs34]; exact (hg3 b hb).2⟩⟩
          · rcases hb with hb | rfl
            · obtain ⟨h, h'⟩ := hg3 b hb
              exact ⟨h.elim (fun h => .inl (.inl h)) .inr, by rw [hs34]; exact h'⟩
            · have := k2.size; exact ⟨.inl (.inr rfl), by omega⟩
          · refine ⟨k2.os.trans hkk.os, k2.tape.trans hkk.tape, k2.output.trans hkk.output, Nat.le_trans hkk.size k2.size, fun b hb hnb => ?_⟩
            refine (k2.block b (by have := hkk.size; omega) (fun e => e.elim (fun hcb => ?_) (by omega))).trans (hkk.block b hb hnb)
            exact (hld b hcb).1.elim (fun h => hnb (.inl h)) (by omega)
        rintro e a3 W3 hp
        cases e with
        | normal =>
          obtain ⟨C', hk3, hg3, hi3⟩ := hp
          obtain ⟨⟨W4, hr, hl4, hd4, hb4⟩, hn1', hn2'⟩ := fin none C' W3 hk3 hg3
          obtain ⟨g1, g2, g3, g4, g5⟩ := way C' W3 W4 hk3 hg3 hb4 hn1'
          exact ⟨_, _, hr, _, g1, g2, .inl ⟨rfl, by rw [hJ]; exact ⟨C', rfl, hI _ _ _ _ hi3 g3, hn1', hn2', hl4, hd4, g4, g5⟩⟩⟩
        | ret =>
          obtain ⟨C', hk3, hg3, hi3⟩ := hp
          obtain ⟨⟨W4, hr, hl4, hd4, hb4⟩, hn1', hn2'⟩ := fin (some .ret) C' W3 hk3 hg3
          obtain ⟨g1, g2, g3, g4, g5⟩ := way C' W3 W4 hk3 hg3 hb4 hn1'
          exact ⟨_, _, hr, _, g1, g2, .inr ⟨rfl, by rw [hJx]; exact ⟨C', _, rfl, hIx _ _ _ _ _ hi3 g3, hn1', hn2', hl4, hd4, g4, g5⟩⟩⟩
        | exit id =>
          obtain ⟨C', hk3, hg3, hi3⟩ := hp
          obtain ⟨⟨W4, hr, hl4, hd4, hb4⟩, hn1', hn2'⟩ := fin (some (.exit id)) C' W3 hk3 hg3
          obtain ⟨g1, g2, g3, g4, g5⟩ := way C' W3 W4 hk3 hg3 hb4 hn1'
          exact ⟨_, _, hr, _, g1, g2, .inr ⟨rfl, by rw [hJx]; exact ⟨C', _, rfl, hIx _ _ _ _ _ hi3 g3, hn1', hn2', hl4, hd4, g4, g5⟩⟩⟩
        | goto t =>
          obtain ⟨C', hk3, hg3, hi3⟩ := hp
          obtain ⟨⟨W4, hr, hl4, hd4, hb4⟩, hn1', hn2'⟩ := fin (some (.goto t)) C' W3 hk3 hg3
          obtain ⟨g1, g2, g3, g4, g5⟩ := way C' W3 W4 hk3 hg3 hb4 hn1'
          exact ⟨_, _, hr, _, g1, g2, .inr ⟨rfl, by rw [hJx]; exact ⟨C', _, rfl, hIx _ _ _ _ _ hi3 g3, hn1', hn2', hl4, hd4, g4, g5⟩⟩⟩
        | panic ch => exact hp.elim
        | outgrown => exact hp.elim
      | _ => exact hq.elim
    · -- behind the iterator
      rintro e W2 ⟨⟨v, rfl⟩, Cx, hkx, hgx, hj | ⟨k, hk', hj⟩⟩
      · rw [hJ] at hj
        obtain ⟨C, rfl, hi, h1, h2, hl, hk, hkk, hld⟩ := hj
        refine ⟨none, _, by have := run_endLoop (P := P) hl (by rw [hrc]; simp); rw [hrc] at this; exact this, ?_⟩
        have hb := But.putObj W2 (n + 1) (.loop { rc .ready none with state := .exhausted })
        rw [hrc] at hb
        exact hdone n C _ (by omega) h2 ((hb.block n (by omega)).trans hk) (hI _ _ _ _ hi (hb.same (fun e => e.elim (fun h => by have := h.1; omega) h1)))
          (hkk.putObj (.inr (by omega)) _) (fun b hb' => ⟨(hld b hb').1, by rw [hb.size]; exact (hld b hb').2⟩)
      · rw [hJx] at hj
        obtain ⟨C, c, rfl, hi, h1, h2, hl, hk, hkk, hld⟩ := hj
        refine ⟨some c, _, by have := run_endLoop (P := P) hl (by rw [hrc]; simp); rw [hrc] at this; exact this, ?_⟩
        have hb := But.putObj W2 (n + 1) (.loop { rc .done (some c) with state := .exhausted })
        rw [hrc] at hb
        exact hstop n c k C _ (by omega) h2 ((hb.block n (by omega)).trans hk) hk' (hIx _ _ _ _ _ hi (hb.same (fun e => e.elim (fun h => by have := h.1; omega) h1)))
          (hkk.putObj (.inr (by omega)) _) (fun b hb' => ⟨(hld b hb').1, by rw [hb.size]; exact (hld b hb').2⟩)

end
end Go

/- Slices whose elements are one cell each: opened out of an argument, out of a row of the call's own, kept. No program is named. -/
namespace Go
open Go.RowKit Go.ChangeShapes Go.WideShapes Go.Deep

/-- the slice at A holds f of each of xs -/
def Sl {α : Type} (f : α → Value) (W : World) (A : Option Addr) (xs : List α) : Prop :=
  0 < xs.length → ∃ b off, A = some ⟨b, off, none⟩ ∧ ∀ i (h : i < xs.length), W.cell? ⟨b, off + i, none⟩ = some (f (xs[i]'h))

section
variable {α : Type} {f : α → Value} {W W' : World} {A : Option Addr} {xs : List α}
theorem Sl.nil (f : α → Value) (W : World) (A : Option Addr) : Sl f W A [] := fun h => absurd h (by simp)
theorem Sl.keep (h : Sl f W A xs) {B : Nat} (hA : ∀ a, A = some a → a.block < B) (hb : Below B W W') : Sl f W' A xs := by
  intro hp
  obtain ⟨b, off, rfl, hat⟩ := h hp
  exact ⟨b, off, rfl, fun i hi => (hb.cell (p := ⟨b, off + i, none⟩) (hA ⟨b, off, none⟩ rfl)).trans (hat i hi)⟩
theorem Sl.lt (h : Sl f W A xs) (hp : 0 < xs.length) : ∀ a, A = some a → a.block < W.heap.size := by
  obtain ⟨b, off, rfl, hat⟩ := h hp
  rintro a ⟨⟩
  exact World.block_lt_of_cell? W _ (hat 0 hp)
/-- kept without a word on the empty one's address -/
theorem Sl.below (h : Sl f W A xs) (hb : Below W.heap.size W W') : Sl f W' A xs := by
  intro hp
  obtain ⟨b, off, rfl, hat⟩ := h hp
  have hbz : b < W.heap.size := World.block_lt_of_cell? W _ (hat 0 hp)
  exact ⟨b, off, rfl, fun i hi => (hb.cell (p := ⟨b, off + i, none⟩) hbz).trans (hat i hi)⟩
/-- the same from a world further back -/
theorem Sl.at (h : Sl f W A xs) {i : Nat} (hi : i < xs.length) : ∃ b off, A = some ⟨b, off, none⟩ ∧ b < W.heap.size ∧ ∀ W', Below W.heap.size W W' → W'.cell? ⟨b, off + i, none⟩ = some (f (xs[i]'hi)) := by
  obtain ⟨b, off, rfl, hat⟩ := h (by omega)
  have hbz : b < W.heap.size := World.block_lt_of_cell? W _ (hat i hi)
  exact ⟨b, off, rfl, hbz, fun W' hb => (hb.cell (p := ⟨b, off + i, none⟩) hbz).trans (hat i hi)⟩

theorem Below_drewN {B : Nat} {a w : World} (h : Below B a w) (n : Nat) : Below B a (w.drewN n) := ⟨h.os, h.tape, h.output, h.size, h.block⟩
theorem ownsRow_mono {w : World} {base base' : Nat} {e : TypeId} {size : Nat} {v : Value} {n : Nat} {xs : List Value} (h : w.ownsRow base e size v n xs) (hb : base' ≤ base) : w.ownsRow base' e size v n xs :=
  ⟨h.1, h.2.imp id fun ⟨g, c, cs, h1, h2, h3⟩ => ⟨g, c, cs, h1, Nat.le_trans hb h2, h3⟩⟩
theorem ownsRow_below {w w' : World} {base : Nat} {e : TypeId} {size : Nat} {v : Value} {n : Nat} {xs : List Value} (h : w.ownsRow base e size v n xs) (hb : Below w.heap.size w w') : w'.ownsRow base e size v n xs :=
  World.ownsRow.kept (row := none) h ⟨hb.os, hb.tape, hb.output, hb.size, fun k hk _ => hb.block k hk⟩ (by cases v.ownBlock <;> simp)
theorem Sl_own {base : Nat} {e : TypeId} {v : Value} {n : Nat} (h : W.ownsRow base e 1 v n (xs.map f)) (hn : n = xs.length) :
    ∃ A cap, v = .slice A n cap ∧ Sl f W A xs ∧ ∀ a, A = some a → base ≤ a.block ∧ a.block < W.heap.size := by
  rcases Nat.eq_zero_or_pos n with h0 | h0
  · obtain ⟨_, h1⟩ := id h
    rcases h1 with ⟨rfl, rfl⟩ | ⟨g, cap, cs, hv, _⟩
    · exact ⟨none, 0, by simp_all, fun hp => absurd hp (by omega), fun a ha => by cases ha⟩
    · refine ⟨_, cap, hv, fun hp => absurd hp (by omega), fun a ha => ?_⟩
      cases ha
      exact World.ownsRow.lt h g (by rw [hv]; rfl)
  · obtain ⟨g, cap, rfl, _⟩ := World.ownsRow.form h h0
    refine ⟨_, cap, rfl, fun hp => ⟨g, 0, rfl, fun i hi => ?_⟩, fun a ha => by cases ha; exact World.ownsRow.lt h g rfl⟩
    rw [Nat.zero_add, World.ownsRow.cellAt h i (by omega), List.getElem?_map, List.getElem?_eq_getElem hi]; rfl
end

section
variable {H : Type} {enc : TypeId × Value → H} {P : Program} {W : World} {base : Nat} {spare : Nat → Bool} {held : Bool} {α : Type} {f : α → Value}
theorem open_sl_cap {t e : TypeId} {fuel : Nat} {a0 : Option Addr} {len cap : Nat} {x : DataW H × List MemPlace} {Q : α → Prop} (ht : P.underlying t = some (.slice e)) (hc : P.cellsOf e = 1)
    (hf : ∀ {n : Nat} {v : Value} {y : DataW H × List MemPlace}, DataW.trod enc P W base spare held n e [v] = some y → ∃ z, v = f z ∧ Q z)
    (h : DataW.trod enc P W base spare held fuel t [.slice a0 len cap] = some x) :
    ∃ zs : List α, zs.length = len ∧ len ≤ maxLen ∧ Sl f W a0 zs ∧ (∀ z ∈ zs, Q z) ∧ len ≤ cap := by
  rcases open_slice1 ht hc h with ⟨hcs, _⟩ | ⟨a, l, c, m, n, V, D, Pl, hcs, hb, hl, hm, hmm, _, hx⟩
  · simp at hcs
    obtain ⟨rfl, rfl, rfl⟩ := hcs
    exact ⟨[], rfl, Nat.zero_le _, Sl.nil _ _ _, (fun z hz => by cases hz), Nat.le_refl _⟩
  · simp at hcs
    obtain ⟨rfl, rfl, rfl⟩ := hcs
    have hlm : len ≤ m := by rw [hmm]; split <;> omega
    obtain ⟨zs, hz, hP⟩ := list_of (n := len) (P := fun i (z : α) => W.cell? (a.add i) = some (f z) ∧ Q z) (fun i hi => by
      obtain ⟨h1, h2⟩ := hx i (by omega)
      obtain ⟨z, hv, hq⟩ := hf h2
      exact ⟨z, by rw [h1, hv], hq⟩)
    refine ⟨zs, hz, by omega, fun hp => ?_, fun z hzm => ?_, hl⟩
    · obtain ⟨b, off, spot⟩ := a
      have h0 := (hP 0 hp).1
      have hs : spot = none := by
        have : (⟨b, off, spot⟩ : Addr).add 0 = ⟨b, off, spot⟩ := by simp [Addr.add]
        rw [this] at h0
        exact World.cell?_spot h0
      subst hs
      refine ⟨b, off, rfl, fun i hi => ?_⟩
      rw [← (hP i hi).1, add_plain]
    · obtain ⟨i, hi, rfl⟩ := List.mem_iff_getElem.1 hzm
      exact (hP i hi).2
theorem open_sl {t e : TypeId} {fuel : Nat} {a0 : Option Addr} {len cap : Nat} {x : DataW H × List MemPlace} {Q : α → Prop} (ht : P.underlying t = some (.slice e)) (hc : P.cellsOf e = 1)
    (hf : ∀ {n : Nat} {v : Value} {y : DataW H × List MemPlace}, DataW.trod enc P W base spare held n e [v] = some y → ∃ z, v = f z ∧ Q z)
    (h : DataW.trod enc P W base spare held fuel t [.slice a0 len cap] = some x) :
    ∃ zs : List α, zs.length = len ∧ len ≤ maxLen ∧ Sl f W a0 zs ∧ ∀ z ∈ zs, Q z := by
  obtain ⟨zs, h1, h2, h3, h4, _⟩ := open_sl_cap ht hc hf h
  exact ⟨zs, h1, h2, h3, h4⟩
theorem open_strsl_cap {t e : TypeId} {fuel : Nat} {a0 : Option Addr} {len cap : Nat} {x : DataW H × List MemPlace} (ht : P.underlying t = some (.slice e)) (he : P.underlying e = some .string) (hc : P.cellsOf e = 1)
    (h : DataW.trod enc P W base spare held fuel t [.slice a0 len cap] = some x) :
    ∃ ss : List ByteArray, ss.length = len ∧ len ≤ maxLen ∧ Sl Value.string W a0 ss ∧ (∀ s ∈ ss, s.size ≤ maxLen) ∧ len ≤ cap :=
  open_sl_cap (Q := fun s : ByteArray => s.size ≤ maxLen) ht hc (fun hy => by
    obtain ⟨s, h1, _, h3⟩ := DataW.trod_string he hy
    exact ⟨s, by simpa using h1, h3⟩) h
theorem open_strsl {t e : TypeId} {fuel : Nat} {a0 : Option Addr} {len cap : Nat} {x : DataW H × List MemPlace} (ht : P.underlying t = some (.slice e)) (he : P.underlying e = some .string) (hc : P.cellsOf e = 1)
    (h : DataW.trod enc P W base spare held fuel t [.slice a0 len cap] = some x) :
    ∃ ss : List ByteArray, ss.length = len ∧ len ≤ maxLen ∧ Sl Value.string W a0 ss ∧ ∀ s ∈ ss, s.size ≤ maxLen :=
  open_sl (Q := fun s : ByteArray => s.size ≤ maxLen) ht hc (fun hy => by
    obtain ⟨s, h1, _, h3⟩ := DataW.trod_string he hy
    exact ⟨s, by simpa using h1, h3⟩) h
theorem open_u8sl {t e : TypeId} {fuel : Nat} {a0 : Option Addr} {len cap : Nat} {x : DataW H × List MemPlace} (ht : P.underlying t = some (.slice e)) (he : P.underlying e = some (.int .u8)) (hc : P.cellsOf e = 1)
    (h : DataW.trod enc P W base spare held fuel t [.slice a0 len cap] = some x) :
    ∃ ns : List Int, ns.length = len ∧ len ≤ maxLen ∧ Sl (Value.int .u8) W a0 ns ∧ ∀ n ∈ ns, 0 ≤ n ∧ n ≤ 255 :=
  open_sl (Q := fun n : Int => 0 ≤ n ∧ n ≤ 255) ht hc (fun hy => by
    obtain ⟨n, h1, _, h3⟩ := DataW.trod_int he hy
    exact ⟨n, by simpa using h1, u8_bounds h3⟩) h
end
end Go
