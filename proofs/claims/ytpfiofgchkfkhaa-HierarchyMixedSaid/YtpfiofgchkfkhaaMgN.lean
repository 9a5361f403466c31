/- MgN: the texts Few HkJ HkK in one. -/
import Derived.Test.YtpfiofgchkfkhaaMgC
import Derived.Deep.QuietTactic
import Derived.BigQuiet
import Derived.Test.YtpfiofgchkfkhaaMgM
import Derived.Deep.RegionHeld3
import Derived.Laws.IdiomRangeMap
import Derived.Laws.OwnMore
import Derived.Deep.AppendLies
/- The reference's Few and Texts. -/
set_option linter.unusedVariables false
namespace Go.Proofs.Ytpfiofgchkfkhaa
open Go.RowKit Go.Shelf

set_option maxHeartbeats 2000000 in
/-- two lists that are the same -/
theorem Texts_eq (A A' : Option Addr) (n n' cap cap' : Nat) (L : List ByteArray) (w : World) (hn : n = L.length) (hn' : n' = L.length) (hl : L.length ≤ 1099511627776) (hw : Sl Value.string w A L) (hw' : Sl Value.string w A' L) :
    Calls Try.prog 20 #[.slice A n cap, .slice A' n' cap'] w fun e w' => e = .returned (.bool true) ∧ Below w.heap.size w w' := by
  subst hn hn'
  have Hw := hide hw
  have Hw' := hide hw'
  clear hw hw'
  go_enter Try.func20, Try.ntmps20
  go_wp2
  go_loopw [5] (fun v wr => ∃ i : Nat, v = .int .i64 i ∧ i ≤ L.length ∧ Below w.heap.size w wr) (fun v _ => L.length - (intOf v).toNat)
  case atStart => exact ⟨0, rfl, Nat.zero_le _, Below.refl _ _⟩
  case round =>
    obtain ⟨i, rfl, hi0, hbr⟩ := hrel
    have Hbr := hide hbr
    clear hbr
    by_cases hi : i < L.length
    · obtain ⟨b, off, rfl, hbz, hat⟩ := Hw.out.at hi
      obtain ⟨b', off', rfl, hbz', hat'⟩ := Hw'.out.at hi
      have hc := hat wr Hbr.out
      have hc' := hat' wr Hbr.out
      clear hat hat'
      generalize L[i]'hi = t at hc hc'
      have q1 : (0 : Int) ≤ (i : Int) := by omega
      have q2 : (i : Int) < (L.length : Int) := by omega
      go_wp2_with fail
      go_quiet (fail)
      go_wp2
      go_roundw
      case rel => exact ⟨i + 1, by go_num, by omega, Below_drewN Hbr.out _⟩
      case measure => simp [intOf]; omega
    · obtain rfl : i = L.length := Nat.le_antisymm hi0 (Nat.le_of_not_lt hi)
      go_wp2
      go_ret
      exact ⟨rfl, Hbr.out⟩

def fewB (m z : Nat) (L : List ByteArray) : Bool := (L.all fun s => decide (s.size ≤ z)) && decide (L.length ≤ m)
theorem fewB_spec {m z : Nat} {L : List ByteArray} (h : fewB m z L = true) : L.length ≤ m ∧ ∀ s ∈ L, s.size ≤ z := by
  unfold fewB at h
  rw [Bool.and_eq_true] at h
  exact ⟨of_decide_eq_true h.2, fun s hs => of_decide_eq_true (List.all_eq_true.1 h.1 s hs)⟩
end Go.Proofs.Ytpfiofgchkfkhaa

/- Plain: the children of scopes; an append by its run at a step of a region. -/
set_option linter.unusedVariables false
set_option linter.unusedSimpArgs false
namespace Go
open Go.RowKit
theorem wp_append_run {P : Program} {w w' : World} {o : Oper} {a : Act} {K : Act → World → Prop} {Q : Exit → Act → World → Prop} (s x : Operand) (t : TypeId)
    (ho : o.op = .call { callee := .builtin .append, args := #[s, x], argTypes := #[t, t] }) {v u r : Value} (hs : a.eval s = v) (hx : a.eval x = u)
    (hr : (Builtin.append_ #[t, t] o.type #[v, u]).run P w = .ok r w') (h : K (a.put o.dst r) w') : o.wp P a w K Q := by
  unfold Oper.wp execOp
  simp only [ho, resolve, invoke, builtin, Sem.run_bind, Sem.run_pure, Result.andThen_ok, List.map_toArray, List.map_cons, List.map_nil, hs, hx, hr]
  exact h
theorem step_append_run {P : Program} {w w' : World} {ops : Array Oper} {o : Oper} {a : Act} {K : Act → World → Prop} {Q : Exit → Act → World → Prop} {E : Prop} (hw : Region.wanted o (yielded ops a.tmps) = true) (s x : Operand) (t : TypeId)
    (ho : o.op = .call { callee := .builtin .append, args := #[s, x], argTypes := #[t, t] }) {v u r : Value} (hs : a.eval s = v) (hx : a.eval x = u)
    (hr : (Builtin.append_ #[t, t] o.type #[v, u]).run P w = .ok r w') (h : K (a.put o.dst r) w') :
    if Region.wanted o (yielded ops a.tmps) = true then Oper.wp P o a w K Q else E := by
  rw [if_pos hw]
  exact wp_append_run s x t ho hs hx hr h
theorem Sl.keeps {α : Type} {f : α → Value} {C : Nat → Prop} {W W' : World} {A : Option Addr} {xs : List α} (h : Sl f W A xs) (hk : Keeps C W W') (hA : ∀ a, A = some a → ¬ C a.block) : Sl f W' A xs := by
  intro hp
  obtain ⟨b, off, rfl, hat⟩ := h hp
  have hbz : b < W.heap.size := World.block_lt_of_cell? W _ (hat 0 hp)
  exact ⟨b, off, rfl, fun i hi => (hk.cell (p := ⟨b, off + i, none⟩) hbz (hA ⟨b, off, none⟩ rfl)).trans (hat i hi)⟩
end Go
namespace Go.Proofs.Ytpfiofgchkfkhaa
open Go.RowKit Go.Shelf Go.Maps
theorem idxsF_asc {α : Type} (p : α → Bool) : ∀ (xs : List α) (s : Nat), (idxsF p xs s).Pairwise (· < ·)
  | [], s => List.Pairwise.nil
  | x :: xs, s => by
    have e : idxsF p (x :: xs) s = (if p x then [(s : Int)] else []) ++ idxsF p xs (s + 1) := rfl
    rw [e, List.pairwise_append]
    refine ⟨by split <;> simp, idxsF_asc p xs (s + 1), fun a ha b hb => ?_⟩
    obtain ⟨j, _, rfl, _⟩ := (idxsF_mem p xs (s + 1) b).1 hb
    split at ha
    · rw [List.mem_singleton.1 ha]; omega
    · cases ha
theorem idxsP_asc {α : Type} (p : α → Bool) (xs : List α) : (idxsP p xs).Pairwise (· < ·) := idxsF_asc p xs 0
/-- the elements whose parent is one of the first t ones, the top level first -/
def keysT {α : Type} (pr : α → Int) (xs : List α) (t : Nat) : List Int := (List.range t).flatMap fun (p : Nat) => idxsP (fun x => decide (pr x = (p : Int) - 1)) xs
theorem keysT_succ {α : Type} (pr : α → Int) (xs : List α) (t : Nat) : keysT pr xs (t + 1) = keysT pr xs t ++ idxsP (fun x => decide (pr x = (t : Int) - 1)) xs := by
  unfold keysT
  rw [List.range_succ, List.flatMap_append]
  simp
theorem keysT_mem {α : Type} (pr : α → Int) (xs : List α) (t : Nat) (k : Int) : k ∈ keysT pr xs t ↔ ∃ j, ∃ h : j < xs.length, k = (j : Int) ∧ -1 ≤ pr xs[j] ∧ pr xs[j] + 1 < t := by
  unfold keysT
  rw [List.mem_flatMap]
  constructor
  · rintro ⟨p, hp, hk⟩
    obtain ⟨j, hj, rfl, he⟩ := (idxsP_mem _ _ _).1 hk
    have := of_decide_eq_true he
    have := List.mem_range.1 hp
    exact ⟨j, hj, rfl, by omega, by omega⟩
  · rintro ⟨j, hj, rfl, h1, h2⟩
    refine ⟨(pr xs[j] + 1).toNat, List.mem_range.2 (by omega), (idxsP_mem _ _ _).2 ⟨j, hj, rfl, decide_eq_true (by omega)⟩⟩
theorem keysT_nodup {α : Type} (pr : α → Int) (xs : List α) : ∀ t, (keysT pr xs t).Nodup
  | 0 => List.nodup_nil
  | t + 1 => by
    rw [keysT_succ, List.nodup_append]
    refine ⟨keysT_nodup pr xs t, (idxsP_asc _ _).imp (fun h => by omega), fun a ha b hb e => ?_⟩
    subst e
    obtain ⟨j, hj, e1, _, h2⟩ := (keysT_mem pr xs t a).1 ha
    obtain ⟨j', hj', e2, h3⟩ := (idxsP_mem _ _ _).1 hb
    have : j = j' := by omega
    subst this
    have := of_decide_eq_true h3
    omega
theorem keysT_len {α : Type} {pr : α → Int} {xs : List α} {t : Nat} (h : ∀ j (hj : j < xs.length), -1 ≤ pr xs[j] ∧ pr xs[j] + 1 < t) : (keysT pr xs t).length = xs.length := by
  have hl : (intsN xs.length).length = xs.length := by unfold intsN; simp
  have hn : (intsN xs.length).Nodup := by
    unfold intsN
    refine pair_mapped List.nodup_range (fun a _ b _ e => ?_)
    have : (a : Int) = (b : Int) := e
    omega
  have h1 := List.Nodup.length_le_of_subset (keysT_nodup pr xs t) (l₂ := intsN xs.length) (fun k hk => by
    obtain ⟨j, hj, rfl, _⟩ := (keysT_mem pr xs t k).1 hk
    exact intsN_mem.2 ⟨by omega, by omega⟩)
  have h2 := List.Nodup.length_le_of_subset hn (l₂ := keysT pr xs t) (fun k hk => by
    have := intsN_mem.1 hk
    exact (keysT_mem pr xs t k).2 ⟨k.toNat, by omega, by omega, h _ _⟩)
  omega
/-- a map in which each key has 1 -/
def onesE (l : List Int) : List (Value × Value) := l.map fun k => (intV k, intV 1)
theorem onesE_snoc (l : List Int) (k : Int) : onesE (l ++ [k]) = onesE l ++ [(intV k, intV 1)] := by unfold onesE; simp
theorem onesE_key {l : List Int} (h : ∀ k ∈ l, In64 k) : ∀ p ∈ onesE l, ∃ y, keyOf Try.prog 3 p.1 = some y := by
  intro p hp
  obtain ⟨k, hk, rfl⟩ := List.mem_map.1 hp
  exact ⟨_, keyInt (h k hk)⟩
theorem onesE_out {l : List Int} {k : Int} (h : k ∉ l) : ∀ p ∈ onesE l, p.1 ≠ .int .i64 k := by
  intro p hp e
  obtain ⟨j, hj, rfl⟩ := List.mem_map.1 hp
  have : Value.int .i64 j = .int .i64 k := e
  cases this
  exact h hj
theorem PathOf_neg {scs : List Sc} {i : Int} (h : i < 0) : PathOf scs i = [] := by
  unfold PathOf thereH
  rw [decide_eq_false (by omega)]; rfl
theorem kid_path {scs : List Sc} {vs : List Va} (hv : validH scs vs = true) {i : Int} (h1 : -1 ≤ i) (h2 : i < scs.length) {j : Nat} (hj : j < scs.length) (hp : scs[j].parent = i) : PathOf scs (j : Int) = PathOf scs i ++ [scs[j].name] := by
  have hn := validH_nil hv
  have g := validH_decl hn
  rw [PathOf_valid hn (by omega) (by omega), pathH_step g.decl hj, scH_at hj, hp]
  by_cases h0 : i < 0
  · rw [PathOf_neg h0, pathH_neg _ h0]
  · rw [PathOf_valid hn (by omega) h2]
theorem kid_full {scs : List Sc} {vs : List Va} (hv : validH scs vs = true) {i : Int} (h1 : -1 ≤ i) (h2 : i < scs.length) {v : Va} (hp : v.scope = i) : FullOf scs v = PathOf scs i ++ [v.name] := by
  have hn := validH_nil hv
  rw [FullOf_valid hn (by omega) (by omega), hp]
  by_cases h0 : i < 0
  · rw [PathOf_neg h0, pathH_neg _ h0]
  · rw [PathOf_valid hn (by omega) h2]
theorem kidsS_eq {scs : List Sc} {vs : List Va} (hv : validH scs vs = true) {t : Nat} (h : t ≤ scs.length) : kidsS scs vs ((t : Int) - 1) = idxsP (fun x : Sc => decide (x.parent = (t : Int) - 1)) scs := by
  unfold kidsS inH
  rw [hv, decide_eq_true ⟨by omega, by omega⟩]; rfl
theorem kidsV_eq {scs : List Sc} {vs : List Va} (hv : validH scs vs = true) {t : Nat} (h : t ≤ scs.length) : kidsV scs vs ((t : Int) - 1) = idxsP (fun x : Va => decide (x.scope = (t : Int) - 1)) vs := by
  unfold kidsV inH
  rw [hv, decide_eq_true ⟨by omega, by omega⟩]; rfl
end Go.Proofs.Ytpfiofgchkfkhaa

/- Maps of ones with their stamps; appends to a literal row at a step. -/
set_option linter.unusedVariables false
set_option linter.unusedSimpArgs false
namespace Go
open Go.RowKit Go.Maps
/-- block r is a map with these entries, its stamps in order -/
def MpB (W : World) (r : Nat) (l : List (Value × Value)) : Prop := ∃ es clock, W.heap[r]? = some (.map es clock) ∧ es.toList.map (fun e => (e.key, e.val)) = l ∧ MapKept.Stamped es clock
theorem MpB.mp {W : World} {r : Nat} {l : List (Value × Value)} (h : MpB W r l) : MpW W r l := by obtain ⟨es, c, h1, h2, _⟩ := h; exact ⟨es, c, h1, h2⟩
theorem MpB.lt {W : World} {r : Nat} {l : List (Value × Value)} (h : MpB W r l) : r < W.heap.size := h.mp.lt
theorem MpB.of_eq {W W' : World} {r : Nat} {l : List (Value × Value)} (h : MpB W r l) (hk : W'.heap[r]? = W.heap[r]?) : MpB W' r l := by
  obtain ⟨es, c, h, hl, hs⟩ := h
  exact ⟨es, c, hk.trans h, hl, hs⟩
theorem MpB.below {W W' : World} {r B : Nat} {l : List (Value × Value)} (h : MpB W r l) (hb : Below B W W') (hr : r < B) : MpB W' r l := h.of_eq (hb.block r hr)
theorem MpB.keep {C : Nat → Prop} {W W' : World} {r : Nat} {l : List (Value × Value)} (h : MpB W r l) (hk : Keeps C W W') (hr : ¬ C r) : MpB W' r l := h.of_eq (hk.block r h.lt hr)
theorem MpB.made (W : World) : MpB (W.alloc (.map #[] 0)) W.heap.size [] := ⟨#[], 0, (MapKept.heap_alloc W _).1, rfl, MapKept.stamped_empty 0⟩
theorem run_put_newB {P : Program} {W : World} {r : Nat} {l : List (Value × Value)} {mt kt et : TypeId} (K : Keyed P kt) (hm : P.underlying mt = some (.map kt et)) (h : MpB W r l) (hk : ∀ p ∈ l, ∃ y, keyOf P kt p.1 = some y) {x : Value} {lx : Lit} (hx : keyOf P kt x = some lx) (hout : ∀ p ∈ l, p.1 ≠ x) (v : Value) :
    ∃ W', (Instr.mapUpdate mt (.map (some r)) x v).run P W = .ok () W' ∧ MpB W' r (l ++ [(x, v)]) ∧ Keeps (fun b => b = r) W W' ∧ W'.heap.size = W.heap.size := by
  obtain ⟨es, clock, hh, hl, hs⟩ := h
  have hke : ∀ e ∈ es.toList, ∃ y, keyOf P kt e.key = some y := fun e he => hk (e.key, e.val) (by rw [← hl]; exact List.mem_map.2 ⟨e, he, rfl⟩)
  have hne : ∀ e ∈ es.toList, e.key ≠ x := fun e he => hout (e.key, e.val) (by rw [← hl]; exact List.mem_map.2 ⟨e, he, rfl⟩)
  rcases K.find W hx es.toList hke with ⟨h1, _⟩ | ⟨j, e, _, h2, h3⟩
  · have hc := K.check W false hx
    refine ⟨{ W with heap := W.heap.setIfInBounds r (.map (es.push { key := x, val := v, born := clock }) (clock + 1)) }, by simp [Instr.mapUpdate, run_underlying hm, MapKept.run_getObj_map hh, hc, h1, MapKept.run_setObj_map _ hh, Result.andThen], ⟨_, _, (MapKept.heap_set hh).1, by simp [hl], MapKept.stamped_push hs hne⟩, ⟨rfl, rfl, rfl, by simp, fun b hb hn => (MapKept.heap_set hh).2 b hn⟩, by simp⟩
  · exact absurd h3 (hne e (List.mem_of_getElem? h2))
/-- a slice's value that holds strings, nil where there is none -/
def PVal (W : World) (v : Value) (xs : List ByteArray) : Prop := (v = .slice none 0 0 ∧ xs = []) ∨ ∃ b o c, v = .slice (some ⟨b, o, none⟩) xs.length c ∧ ∀ i (h : i < xs.length), W.cell? ⟨b, o + i, none⟩ = some (.string xs[i])
theorem PVal.below {W W' : World} {v : Value} {xs : List ByteArray} (h : PVal W v xs) (hb : Below W.heap.size W W') : PVal W' v xs := by
  rcases h with h | ⟨b, o, c, h1, h2⟩
  · exact .inl h
  · exact .inr ⟨b, o, c, h1, fun i hi => (hb.cell (p := ⟨b, o + i, none⟩) (World.block_lt_of_cell? W _ (h2 i hi))).trans (h2 i hi)⟩
theorem PVal.own {W : World} {base : Nat} {e : TypeId} {v : Value} {xs : List ByteArray} {n : Nat} (h : W.ownsRow base e 1 v n (xs.map Value.string)) (hn : n = xs.length) : PVal W v xs := by
  subst hn
  rcases id h.2 with ⟨h1, h2⟩ | ⟨g, cap, cs, h1, _⟩
  · exact .inl ⟨h1, List.eq_nil_of_length_eq_zero h2⟩
  · right
    subst h1
    refine ⟨g, 0, cap, rfl, fun i hi => ?_⟩
    rw [Nat.zero_add, World.ownsRow.cellAt h i (by omega), List.getElem?_map, List.getElem?_eq_getElem hi]; rfl
theorem PVal.sl {W : World} {A : Option Addr} {n c : Nat} {xs : List ByteArray} (h : PVal W (.slice A n c) xs) : Sl Value.string W A xs ∧ n = xs.length := by
  rcases h with ⟨h1, h2⟩ | ⟨b, o, c', h1, h2⟩
  · cases h1; subst h2; exact ⟨Sl.nil _ _ _, rfl⟩
  · cases h1; exact ⟨fun _ => ⟨b, o, rfl, h2⟩, rfl⟩
theorem PVal.keeps {C : Nat → Prop} {W W' : World} {A : Option Addr} {n c : Nat} {xs : List ByteArray} (h : PVal W (.slice A n c) xs) (hk : Keeps C W W') (hA : ∀ a, A = some a → ¬ C a.block) : PVal W' (.slice A n c) xs := by
  rcases h with h | ⟨b, o, c', h1, h2⟩
  · exact .inl h
  · cases h1
    exact .inr ⟨b, o, c, rfl, fun i hi => (hk.cell (p := ⟨b, o + i, none⟩) (World.block_lt_of_cell? W _ (h2 i hi)) (hA ⟨b, o, none⟩ rfl)).trans (h2 i hi)⟩
theorem PVal.kept {W W' : World} {g : Nat} {A : Option Addr} {n c : Nat} {xs : List ByteArray} (h : PVal W (.slice A n c) xs) (hg : W.grownBy W' (some g)) (hA : ∀ a, A = some a → a.block ≠ g) : PVal W' (.slice A n c) xs := by
  rcases h with h | ⟨b, o, c', h1, h2⟩
  · exact .inl h
  · cases h1
    exact .inr ⟨b, o, c, rfl, fun i hi => (hg.cell_far ⟨b, o + i, none⟩ (World.block_lt_of_cell? W _ (h2 i hi)) (fun e => hA ⟨b, o, none⟩ rfl (Option.some.inj e))).trans (h2 i hi)⟩
theorem PVal.alloc {W : World} {v : Value} {xs : List ByteArray} (h : PVal W v xs) (o : Obj) : PVal (W.alloc o) v xs := h.below ((Below.refl _ _).alloc (Nat.le_refl _) _)
end Go
namespace Go.Proofs.Ytpfiofgchkfkhaa
open Go.RowKit Go.Shelf Go.Maps
/-- a path appended to a row of the call's own -/
theorem run_app {Y : World} {base n g c : Nat} {u : Value} {xs ys : List ByteArray} (hown : Y.ownsRow base 9 1 (.slice (some ⟨g, 0, none⟩) n c) n (xs.map Value.string)) (hu : PVal Y u ys) (h1 : n + ys.length ≤ 1000000) (hb : base ≤ Y.heap.size) :
    ∃ g' c' w', (Builtin.append_ #[37, 37] 37 #[.slice (some ⟨g, 0, none⟩) n c, u]).run Try.prog Y = .ok (.slice (some ⟨g', 0, none⟩) (n + ys.length) c') w' ∧ w'.ownsRow base 9 1 (.slice (some ⟨g', 0, none⟩) (n + ys.length) c') (n + ys.length) ((xs ++ ys).map Value.string) ∧ Y.grownBy w' (some g) ∧ (g' = g ∨ g' = Y.heap.size) := by
  obtain ⟨iS, hiS, hz0, hz1, hz2⟩ := info_parts infoStrH
  rcases hu with ⟨rfl, rfl⟩ | ⟨b, o, c2, rfl, hc⟩
  · refine ⟨g, c, Y, run_append_owned_none Y base 37 37 9 iS 1 Try.underlying37 hiS _ n _ hown, ?_, ⟨rfl, rfl, rfl, Nat.le_refl _, fun _ _ _ => rfl⟩, .inl rfl⟩
    rw [List.append_nil]; exact hown
  · obtain ⟨v', w', hr, h2, h3, h4, h5⟩ := run_append_own_at (P := Try.prog) Y base 37 37 9 iS _ 1 16 Try.underlying37 hiS hz0 hz1 hz2 rfl (by decide) _ n (xs.map Value.string) hown ⟨b, o, none⟩ ys.length c2 (ys.map Value.string) (by rw [List.length_map, Nat.mul_one]) (fun j u hu => by
      obtain ⟨h6, h7⟩ := List.getElem?_eq_some_iff.1 hu
      rw [List.length_map] at h6
      rw [← h7, List.getElem_map]
      have : (⟨b, o, none⟩ : Addr).add j = ⟨b, o + j, none⟩ := by unfold Addr.add; split <;> simp_all
      rw [this]; exact hc j h6) (by intro u hu; obtain ⟨s, _, rfl⟩ := List.mem_map.1 hu; rfl) (by unfold maxLen; omega) (by omega) hb
    rcases h2.2 with ⟨h6, _⟩ | ⟨g', c', cs, h6, _⟩
    · have := (h4.1 h6).1
      cases this
    · subst h6
      refine ⟨g', c', w', hr, by rw [List.map_append]; exact h2, by simpa [Value.ownBlock] using h3, ?_⟩
      rcases h5 with h5 | h5
      · left; simpa [Value.ownBlock] using h5
      · right; simpa [Value.ownBlock] using h5
/-- an append at a step; another path's slice is kept -/
theorem step_app {W1 Y : World} {ops : Array Oper} {o : Oper} {a : Act} {K : Act → World → Prop} {Q : Exit → Act → World → Prop} {E : Prop} {base n g c : Nat} {u : Value} {xs ys : List ByteArray} {AP : Option Addr} {nP cP : Nat} {PK : List ByteArray} (hw : Region.wanted o (yielded ops a.tmps) = true) (s x : Operand)
    (ho : o.op = .call { callee := .builtin .append, args := #[s, x], argTypes := #[37, 37] }) (hty : o.type = 37) (hs : a.eval s = .slice (some ⟨g, 0, none⟩) n c) (hx : a.eval x = u)
    (hown : Y.ownsRow base 9 1 (.slice (some ⟨g, 0, none⟩) n c) n (xs.map Value.string)) (hu : PVal Y u ys) (h1 : n + ys.length ≤ 1000000) (hB : Below base W1 Y) (hb : base ≤ Y.heap.size)
    (hPK : PVal Y (.slice AP nP cP) PK) (hAP : ∀ a, AP = some a → a.block ≠ g ∧ a.block < Y.heap.size)
    (h : ∀ g' c' w', w'.ownsRow base 9 1 (.slice (some ⟨g', 0, none⟩) (n + ys.length) c') (n + ys.length) ((xs ++ ys).map Value.string) → Below base W1 w' → PVal w' (.slice AP nP cP) PK → (∀ a, AP = some a → a.block ≠ g' ∧ a.block < w'.heap.size) →
      (∀ (b o c m : Nat) (zs : List ByteArray), PVal Y (.slice (some ⟨b, o, none⟩) m c) zs → b ≠ g → b < Y.heap.size → PVal w' (.slice (some ⟨b, o, none⟩) m c) zs ∧ b ≠ g' ∧ b < w'.heap.size) → K (a.put o.dst (.slice (some ⟨g', 0, none⟩) (n + ys.length) c')) w') :
    if Region.wanted o (yielded ops a.tmps) = true then Oper.wp Try.prog o a Y K Q else E := by
  obtain ⟨g', c', w', hr, h2, h3, h4⟩ := run_app hown hu h1 hb
  have hge : base ≤ g := by
    rcases hown.2 with ⟨h6, _⟩ | ⟨g2, c2, cs, h6, h7, _⟩
    · cases h6
    · cases h6; exact h7
  have hk := h g' c' w' h2 (hB.grown h3 hb (fun j hj => by cases hj; exact hge)) (hPK.kept h3 (fun a ha => (hAP a ha).1)) (fun a ha => by
    have h5 := hAP a ha
    refine ⟨?_, Nat.lt_of_lt_of_le h5.2 h3.size⟩
    rcases h4 with h4 | h4
    · rw [h4]; exact h5.1
    · rw [h4]; exact Nat.ne_of_lt h5.2) (fun b o c m zs hz hb1 hb2 => ⟨hz.kept h3 (fun a ha => by cases ha; exact hb1), by
      rcases h4 with h4 | h4
      · rw [h4]; exact hb1
      · rw [h4]; exact Nat.ne_of_lt hb2, Nat.lt_of_lt_of_le hb2 h3.size⟩)
  rw [← hty] at hr
  refine step_append_run hw s x 37 ho hs hx ?_ hk
  rw [hty] at hr ⊢
  exact hr
theorem drew_sz (w : World) : w.drew.heap.size = w.heap.size := rfl
/-- a literal of no strings, of one string -/
theorem lit0 (base : Nat) (V : World) (hb : base ≤ V.heap.size) : (V.alloc (.cells #[] 9)).ownsRow base 9 1 (.slice (some ⟨V.heap.size, 0, none⟩) 0 0) 0 (([] : List ByteArray).map Value.string) :=
  World.ownsRow_lit (base := base) (e := 9) (size := 1) V #[] 0 hb (by decide) rfl
theorem lit0s (base : Nat) (V : World) (o : Obj) (hb : base ≤ V.heap.size) : ((V.alloc o).alloc (.cells #[] 9)).ownsRow base 9 1 (.slice (some ⟨V.heap.size + 1, 0, none⟩) 0 0) 0 (([] : List ByteArray).map Value.string) := by
  have := lit0 base (V.alloc o) (by rw [World.size_alloc]; omega)
  rw [World.size_alloc] at this
  exact this
theorem lit1 (V : World) (s : ByteArray) : PVal (V.alloc (.cells #[.string s] 9)) (.slice (some ⟨V.heap.size, 0, none⟩) 1 1) [s] :=
  .inr ⟨V.heap.size, 0, 1, rfl, fun i hi => by
    have : i = 0 := by simpa using hi
    subst this
    exact (Row.new V 9 #[.string s]).cell 0⟩
theorem lit1s (V : World) (s : ByteArray) (o : Obj) : PVal ((V.alloc o).alloc (.cells #[.string s] 9)) (.slice (some ⟨V.heap.size + 1, 0, none⟩) 1 1) [s] := by
  have := lit1 (V.alloc o) s
  rw [World.size_alloc] at this
  exact this
/-- one more entry with 1 -/
theorem ones_step {W : World} {r : Nat} {l : List Int} {k : Int} (h : MpB W r (onesE l)) (hl : ∀ x ∈ l, In64 x) (hk : In64 k) (hn : k ∉ l) :
    (Instr.lookup 44 (.map (some r)) (.int .i64 k) false).run Try.prog W = .ok (.int .i64 0) W ∧ ∃ W', (Instr.mapUpdate 44 (.map (some r)) (.int .i64 k) (.int .i64 1)).run Try.prog W = .ok () W' ∧ MpB W' r (onesE (l ++ [k])) ∧ Keeps (fun b => b = r) W W' ∧ W'.heap.size = W.heap.size := by
  refine ⟨?_, ?_⟩
  · have := run_look_out keyedInt Try.underlying44 h.mp (onesE_key hl) (keyInt hk) (onesE_out hn) (zeroIntH W) false
    simpa using this
  · rw [onesE_snoc]
    exact run_put_newB keyedInt Try.underlying44 h (onesE_key hl) (keyInt hk) (onesE_out hn) (.int .i64 1)
end Go.Proofs.Ytpfiofgchkfkhaa
