/- MgO: the texts HkL HkM HlN in one. -/
import Derived.Test.YtpfiofgchkfkhaaMgM
import Derived.Test.YtpfiofgchkfkhaaMgN
import Derived.WideKeyEntry
/- Plain: declaring the variables in another order. -/
set_option linter.unusedVariables false
set_option linter.unusedSimpArgs false
namespace Go.Proofs.Ytpfiofgchkfkhaa
open Go.RowKit Go.Shelf
theorem fil_perm {M vs : List Va} (hf : ∀ s, fil s M = fil s vs) : M.Perm vs := by
  rw [List.perm_iff_count]
  intro a
  have e : ∀ l : List Va, List.count a l = List.count a (fil a.scope l) := by
    intro l
    unfold fil
    rw [List.count_filter (by simp)]
  rw [e, e vs, hf]
theorem mixed_plain {scs : List Sc} {vs M : List Va} (hv : validH scs vs = true) (hf : ∀ s, fil s M = fil s vs) :
    Good scs M ∧ orderS scs = scs ∧ ∃ k, orderV scs M = (vs, intsN k) := by
  have hp := fil_perm hf
  have hv2 := hv
  unfold validH at hv2
  obtain ⟨h1, h2, h3⟩ := of_decide_eq_true hv2
  have g := checkE_ok.1 h1
  have hm : ∀ v ∈ M, v ∈ vs := fun v h => hp.mem_iff.1 h
  have gM : Good scs M := ⟨g.few, by rw [hp.length_eq]; exact g.fewV, g.decl, fun v h => g.declV v (hm v h), g.deep, g.nameS, fun v h => g.nameV v (hm v h), g.typS, fun v h => g.typV v (hm v h), fun v h => g.range v (hm v h), g.child, ((hp.map entryK).nodup_iff).2 g.entry⟩
  refine ⟨gM, h2, ?_⟩
  have hpre := orderS_fix g.decl g.child h2
  have hin : ∀ v ∈ vs, -1 ≤ v.scope ∧ v.scope < scs.length := fun v h => ⟨(g.declV v h).1, (g.declV v h).2.1⟩
  have hinM : ∀ v ∈ M, -1 ≤ v.scope ∧ v.scope < scs.length := fun v h => hin v (hm v h)
  have e1 : orderV scs vs = numF (sortV scs.length vs) [] := by
    have : orderV scs vs = numF (sortV scs.length (moveV scs vs)) [] := rfl
    rw [this, moveV_id hpre hin]
  have e2 : orderV scs M = numF (sortV scs.length M) [] := by
    have : orderV scs M = numF (sortV scs.length (moveV scs M)) [] := rfl
    rw [this, moveV_id hpre hinM]
  have e3 : sortV scs.length M = sortV scs.length vs := by
    unfold sortV
    refine flatMap_congrH fun j _ => ?_
    exact hf _
  rw [e1] at h3
  have hb : (numF (sortV scs.length vs) []).1.map bareV = (sortV scs.length vs).map bareV := numF_bare _ _
  rw [h3] at hb
  have hasc : Asc vs := asc_bare hb (srt_sort hin).asc
  have hs : sortV scs.length vs = vs := (sort_eq (Srt.refl hasc) hin).symm
  rw [hs] at h3
  have ha := numF_again vs []
  rw [h3] at ha
  have e0 : intsN ([] : List Int).length = [] := rfl
  rw [e0] at ha
  rw [e2, e3, hs]
  exact ⟨_, ha⟩
/-- rest of a scope's variables, what is taken -/
theorem fil_cons (s : Int) (v : Va) (l : List Va) : fil s (v :: l) = if v.scope = s then v :: fil s l else fil s l := by
  unfold fil
  rw [List.filter_cons]
  by_cases h : v.scope = s
  · rw [if_pos (decide_eq_true h), if_pos h]
  · rw [if_neg (by simpa using h), if_neg h]
theorem fil_snoc (s : Int) (v : Va) (l : List Va) : fil s (l ++ [v]) = fil s l ++ (if v.scope = s then [v] else []) := by
  rw [fil_app, fil_cons]
  have : fil s [] = [] := rfl
  rw [this]
theorem fil_scope {s : Int} {l : List Va} : ∀ v ∈ fil s l, v.scope = s := fun v hv => by
  unfold fil at hv
  exact of_decide_eq_true (List.mem_filter.1 hv).2
end Go.Proofs.Ytpfiofgchkfkhaa

/- A map of rows of variables, by their scopes (for HierarchyMixed). -/
set_option linter.unusedVariables false
set_option linter.unusedSimpArgs false
namespace Go
open Go.RowKit Go.Maps
theorem find_old {P : Program} {es : Array MapEntry} {l : List (Value × Value)} {kt : TypeId} (K : Keyed P kt) (hl : es.toList.map (fun e => (e.key, e.val)) = l) (hk : ∀ p ∈ l, ∃ y, keyOf P kt p.1 = some y) {x : Value} {lx : Lit} (hx : keyOf P kt x = some lx) {a b : List (Value × Value)} {u : Value} (hl0 : l = a ++ (x, u) :: b) (hd : l.Pairwise fun p q => p.1 ≠ q.1) (W : World) :
    ∃ j e, (Instr.findKey kt x es.toList).run P W = .ok (some (j, e.val)) W ∧ es[j]? = some e ∧ e.key = x ∧ j = a.length ∧ e.val = u ∧ l[j]? = some (x, u) := by
  have hke : ∀ e ∈ es.toList, ∃ y, keyOf P kt e.key = some y := fun e he => hk (e.key, e.val) (by rw [← hl]; exact List.mem_map.2 ⟨e, he, rfl⟩)
  have hin : l[a.length]? = some (x, u) := by rw [hl0, List.getElem?_append_right (Nat.le_refl _), Nat.sub_self]; rfl
  rcases K.find W hx es.toList hke with ⟨h1, h2⟩ | ⟨j, e, h1, h2, h3⟩
  · have hm := List.mem_of_getElem? hin
    rw [← hl] at hm
    obtain ⟨e, he, h⟩ := List.mem_map.1 hm
    exact absurd (congrArg Prod.fst h) (h2 e he)
  · have h4 : l[j]? = some (x, e.val) := by rw [← hl, List.getElem?_map, h2]; simp [h3]
    have hj : j = a.length := by
      obtain ⟨a1, a2⟩ := List.getElem?_eq_some_iff.1 hin
      obtain ⟨b1, b2⟩ := List.getElem?_eq_some_iff.1 h4
      rcases Nat.lt_trichotomy j a.length with hij | hij | hij
      · have := List.pairwise_iff_getElem.1 hd j a.length b1 a1 hij
        rw [a2, b2] at this
        exact absurd rfl this
      · exact hij
      · have := List.pairwise_iff_getElem.1 hd a.length j a1 b1 hij
        rw [a2, b2] at this
        exact absurd rfl this
    have hu : e.val = u := by
      rw [hj, hin] at h4
      exact (congrArg Prod.snd (Option.some.inj h4)).symm
    exact ⟨j, e, h1, by rw [← Array.getElem?_toList]; exact h2, h3, hj, hu, by rw [h4, hu]⟩
theorem mod_list {es : Array MapEntry} {l a b : List (Value × Value)} {x u v : Value} {e : MapEntry} (hl0 : l = a ++ (x, u) :: b) (hl : es.toList.map (fun e => (e.key, e.val)) = l) (hes : es[a.length]? = some e) :
    (es.modify a.length fun e => { e with key := x, val := v }).toList.map (fun e => (e.key, e.val)) = a ++ (x, v) :: b := by
  have h2 : es.toList[a.length]? = some e := by rw [Array.getElem?_toList]; exact hes
  have hmod : (es.modify a.length fun e => { e with key := x, val := v }).toList.map (fun e => (e.key, e.val)) = (es.toList.map (fun e => (e.key, e.val))).set a.length (x, v) := by
    apply List.ext_getElem?
    intro i
    rw [Array.toList_modify, List.getElem?_map, List.getElem?_modify, List.getElem?_set, List.getElem?_map]
    by_cases hi : a.length = i
    · subst hi
      rw [h2]
      have hlen : a.length < es.toList.length := (List.getElem?_eq_some_iff.1 h2).1
      simp [hlen]
      have := hlen
      simp at this
      omega
    · simp [hi]
  rw [hmod, hl, hl0]
  simp
theorem run_put_oldB {P : Program} {W : World} {r : Nat} {l : List (Value × Value)} {mt kt et : TypeId} (K : Keyed P kt) (hm : P.underlying mt = some (.map kt et)) (h : MpB W r l) (hk : ∀ p ∈ l, ∃ y, keyOf P kt p.1 = some y) {x : Value} {lx : Lit} (hx : keyOf P kt x = some lx) {a b : List (Value × Value)} {u : Value} (hl0 : l = a ++ (x, u) :: b) (hd : l.Pairwise fun p q => p.1 ≠ q.1) (v : Value) :
    ∃ W', (Instr.mapUpdate mt (.map (some r)) x v).run P W = .ok () W' ∧ MpB W' r (a ++ (x, v) :: b) ∧ Keeps (fun b => b = r) W W' ∧ W'.heap.size = W.heap.size := by
  obtain ⟨es, clock, hh, hl, hs⟩ := h
  obtain ⟨j, e, h1, hes, h3, hj, _, _⟩ := find_old K hl hk hx hl0 hd W
  subst hj
  have hc := K.check W false hx
  have hst := K.stays W hx
  refine ⟨{ W with heap := W.heap.setIfInBounds r (.map (es.modify a.length fun e => { e with key := x, val := v }) clock) }, by simp [Instr.mapUpdate, run_underlying hm, MapKept.run_getObj_map hh, hc, h1, hes, h3, hst, MapKept.run_setObj_map _ hh, Result.andThen], ⟨_, _, (MapKept.heap_set hh).1, mod_list hl0 hl hes, MapKept.stamped_modify hs _ _ (fun _ _ => rfl) (fun e' he' h => by rw [hes] at h; cases h; exact h3.symm)⟩, ⟨rfl, rfl, rfl, by simp, fun b hb hn => (MapKept.heap_set hh).2 b hn⟩, by simp⟩
theorem set_same {xs : Array Obj} {r : Nat} {o : Obj} (h : xs[r]? = some o) : xs.setIfInBounds r o = xs := by
  apply Array.ext_getElem?
  intro i
  rw [Array.getElem?_setIfInBounds]
  by_cases e : r = i
  · subst e
    rw [if_pos rfl, h]
    split
    · rfl
    · rename_i hn
      exact absurd (Array.getElem?_eq_some_iff.1 h).1 hn
  · rw [if_neg e]
/-- m[x], its entry, and a store there, where x is there -/
theorem run_entry_old {P : Program} {W : World} {r : Nat} {l : List (Value × Value)} {mt kt et : TypeId} (K : Keyed P kt) (hm : P.underlying mt = some (.map kt et)) (h : MpB W r l) (hk : ∀ p ∈ l, ∃ y, keyOf P kt p.1 = some y) {x : Value} {lx : Lit} (hx : keyOf P kt x = some lx) {a b : List (Value × Value)} {u : Value} (hl0 : l = a ++ (x, u) :: b) (hd : l.Pairwise fun p q => p.1 ≠ q.1) :
    ∃ st : Nat, ∀ W2 : World, W2.heap[r]? = W.heap[r]? → (Instr.mapEntry mt (.map (some r)) x).run P W2 = .ok (.tuple #[u, goInt (st : Int)]) W2 ∧
      ∀ v, ∃ W3, (Instr.entryStore mt (.map (some r)) (goInt (st : Int)) v).run P W2 = .ok () W3 ∧ MpB W3 r (a ++ (x, v) :: b) ∧ Keeps (fun b => b = r) W2 W3 ∧ W3.heap.size = W2.heap.size := by
  obtain ⟨es, clock, hh, hl, hs⟩ := h
  obtain ⟨j, e, _, hes, h3, hj, h4, _⟩ := find_old K hl hk hx hl0 hd W
  subst hj
  refine ⟨e.born, fun W2 h2 => ?_⟩
  have hh2 := h2.trans hh
  obtain ⟨j, e', h1, hes', _, hj, _, _⟩ := find_old K hl hk hx hl0 hd W2
  subst hj
  obtain rfl : e' = e := by rw [hes] at hes'; exact (Option.some.inj hes').symm
  have hc := K.check W2 false hx
  have hst := K.stays W2 hx
  have hsame : es.modify a.length (fun e => { e with key := x }) = es := by
    apply Array.ext_getElem?
    intro i
    rw [Array.getElem?_modify]
    by_cases hi : a.length = i
    · subst hi
      rw [if_pos rfl, hes]
      have : ({ e' with key := x } : MapEntry) = e' := by rw [← h3]
      rw [Option.map_some, this]
    · rw [if_neg hi]
  refine ⟨?_, fun v => ?_⟩
  · have : ({ W2 with heap := W2.heap.setIfInBounds r (.map es clock) } : World) = W2 := by rw [set_same hh2]
    simp [Instr.mapEntry, run_underlying hm, MapKept.run_getObj_map hh2, hc, h1, hes, h3, hst, hsame, MapKept.run_setObj_map _ hh2, Result.andThen, this, h4]
  · have hidx : es.findIdx? (fun e => ((e.born : Nat) : Int) == ((e'.born : Nat) : Int)) = some a.length := by
      rw [Go.WideElems.findIdx_arr]
      exact Go.WideElems.findIdx_born hs.2.1 (by rw [Array.getElem?_toList]; exact hes)
    refine ⟨{ W2 with heap := W2.heap.setIfInBounds r (.map (es.modify a.length fun e => { e with val := v }) clock) }, by simp [Instr.entryStore, MapKept.run_getObj_map hh2, asInt, asIntOf, goInt, hidx, MapKept.run_setObj_map _ hh2, Result.andThen], ⟨_, _, (MapKept.heap_set hh2).1, ?_, MapKept.stamped_modify hs _ _ (fun _ _ => rfl) (fun _ _ _ => rfl)⟩, ⟨rfl, rfl, rfl, by simp, fun b hb hn => (MapKept.heap_set hh2).2 b hn⟩, by simp⟩
    have hmod : es.modify a.length (fun e => { e with val := v }) = es.modify a.length (fun e => { e with key := x, val := v }) := by
      apply Array.ext_getElem?
      intro i
      rw [Array.getElem?_modify, Array.getElem?_modify]
      by_cases hi : a.length = i
      · subst hi
        rw [if_pos rfl, if_pos rfl, hes, Option.map_some, Option.map_some, ← h3]
      · rw [if_neg hi, if_neg hi]
    rw [hmod]
    exact mod_list hl0 hl hes
end Go
namespace Go.Proofs.Ytpfiofgchkfkhaa
open Go.RowKit Go.Shelf Go.Maps
def entL (es : List (Int × Value)) : List (Value × Value) := es.map fun p => (intV p.1, p.2)
structure LefK (W : World) (r B : Nat) (es : List (Int × Value)) (done : List Va) : Prop where
  mp : MpB W r (entL es)
  nd : es.Pairwise fun p q => p.1 ≠ q.1
  own : ∀ p ∈ es, W.ownsRow B 29 7 p.2 (fil p.1 done).length ((fil p.1 done).flatMap vaE)
  apart : es.Pairwise fun p q => p.2.ownBlock ≠ q.2.ownBlock
  pos : ∀ p ∈ es, 0 < (fil p.1 done).length
  all : ∀ v ∈ done, ∃ p ∈ es, p.1 = v.scope
  big : ∀ p ∈ es, In64 p.1
  rB : r < B
theorem entL_key {es : List (Int × Value)} (h : ∀ p ∈ es, In64 p.1) : ∀ p ∈ entL es, ∃ y, keyOf Try.prog 3 p.1 = some y := by
  intro p hp
  obtain ⟨q, hq, rfl⟩ := List.mem_map.1 hp
  exact ⟨_, keyInt (h q hq)⟩
theorem entL_dist {es : List (Int × Value)} (h : es.Pairwise fun p q => p.1 ≠ q.1) : (entL es).Pairwise fun p q => p.1 ≠ q.1 := by
  unfold entL
  rw [List.pairwise_map]
  exact h.imp (fun {p q} hne e => hne (by
    have : Value.int .i64 p.1 = .int .i64 q.1 := e
    exact (Value.int.inj this).2))
theorem entL_out {es : List (Int × Value)} {s : Int} (h : ∀ p ∈ es, p.1 ≠ s) : ∀ p ∈ entL es, p.1 ≠ .int .i64 s := by
  intro p hp e
  obtain ⟨q, hq, rfl⟩ := List.mem_map.1 hp
  have : Value.int .i64 q.1 = .int .i64 s := e
  exact h q hq (Value.int.inj this).2
theorem zeroVas (W : World) : (zeroValue 23).run Try.prog W = .ok (.slice none 0 0) W := zero_of (by kernel_rfl) W
theorem LefK.below {W W' : World} {r B : Nat} {es : List (Int × Value)} {done : List Va} (h : LefK W r B es done) (hb : Below W.heap.size W W') : LefK W' r B es done :=
  ⟨h.mp.below hb h.mp.lt, h.nd, fun p hp => ownsRow_below (h.own p hp) hb, h.apart, h.pos, h.all, h.big, h.rB⟩
/-- what the map has at a scope -/
def valL (es : List (Int × Value)) (s : Int) : Value := match es.find? (fun p => decide (p.1 = s)) with | some p => p.2 | none => .slice none 0 0
theorem LefK.cases {W : World} {r B : Nat} {es : List (Int × Value)} {done : List Va} (h : LefK W r B es done) (s : Int) :
    ((∀ p ∈ es, p.1 ≠ s) ∧ valL es s = .slice none 0 0 ∧ fil s done = []) ∨ ∃ a b, es = a ++ (s, valL es s) :: b := by
  unfold valL
  cases hf : es.find? (fun p => decide (p.1 = s)) with
  | none =>
    left
    have h1 : ∀ p ∈ es, p.1 ≠ s := fun p hp e => by
      have := List.find?_eq_none.1 hf p hp
      simp [e] at this
    refine ⟨h1, rfl, ?_⟩
    unfold fil
    rw [List.filter_eq_nil_iff]
    intro v hv e
    obtain ⟨p, hp, e2⟩ := h.all v hv
    exact h1 p hp (e2.trans (of_decide_eq_true e))
  | some p =>
    right
    obtain ⟨h1, a, b, h2, _⟩ := List.find?_eq_some_iff_append.1 hf
    have h3 : p.1 = s := by simpa using h1
    refine ⟨a, b, ?_⟩
    show es = a ++ (s, p.2) :: b
    rw [h2, ← h3]
theorem LefK.row {W : World} {r B : Nat} {es : List (Int × Value)} {done : List Va} (h : LefK W r B es done) (s : Int) : W.ownsRow B 29 7 (valL es s) (fil s done).length ((fil s done).flatMap vaE) := by
  rcases h.cases s with ⟨_, h2, h3⟩ | ⟨a, b, h1⟩
  · rw [h2, h3]; exact World.ownsRow_nil _ _ _ _
  · exact h.own (s, valL es s) ((show ∀ u, es = a ++ (s, u) :: b → (s, u) ∈ es from fun u e => by rw [e]; simp) _ h1)
theorem LefK.look {W : World} {r B : Nat} {es : List (Int × Value)} {done : List Va} (h : LefK W r B es done) {s : Int} (hs : In64 s) :
    (Instr.lookup 27 (.map (some r)) (.int .i64 s) false).run Try.prog W = .ok (valL es s) W := by
  rcases h.cases s with ⟨h1, h2, _⟩ | ⟨a, b, h1⟩
  · have := run_look_out keyedInt Try.underlying27 h.mp.mp (entL_key h.big) (keyInt hs) (entL_out h1) (zeroVas W) false
    rw [h2]; simpa using this
  · have := run_look_in keyedInt Try.underlying27 h.mp.mp (entL_key h.big) (entL_dist h.nd) (keyInt hs) (v := valL es s) (by
      have : (s, valL es s) ∈ es := (show ∀ u, es = a ++ (s, u) :: b → (s, u) ∈ es from fun u e => by rw [e]; simp) _ h1
      exact List.mem_map.2 ⟨_, this, rfl⟩) false
    simpa using this
/-- the map behind one more variable -/
theorem LefK.put {W Y w' : World} {r B : Nat} {es : List (Int × Value)} {done : List Va} (h : LefK W r B es done) (hb : Below W.heap.size W Y) {v : Va} (hs : In64 v.scope) {v' : Value} {n : Nat}
    (ho : w'.ownsRow B 29 7 v' n ((fil v.scope done ++ [v]).flatMap vaE)) (hn : n = (fil v.scope done).length + 1) (hg : Y.grownBy w' (valL es v.scope).ownBlock) (hat : v'.ownBlock = (valL es v.scope).ownBlock ∨ v'.ownBlock = some Y.heap.size) (hBY : B ≤ W.heap.size) :
    ∃ W' es', (Instr.mapUpdate 27 (.map (some r)) (.int .i64 v.scope) v').run Try.prog w' = .ok () W' ∧ LefK W' r B es' (done ++ [v]) ∧ Keeps (fun b => b = r) w' W' ∧ W'.heap.size = w'.heap.size := by
  have hrow := h.row v.scope
  have hr : some r ≠ (valL es v.scope).ownBlock := fun e => by
    have := (hrow.lt r e.symm).1
    have := h.rB
    omega
  have hrY : r < Y.heap.size := Nat.lt_of_lt_of_le h.mp.lt hb.size
  have hm' : MpB w' r (entL es) := (h.mp.below hb h.mp.lt).of_eq (hg.block r hrY hr)
  have hpos : 0 < n := by omega
  obtain ⟨g, c, hv', hgB, hgl⟩ := World.ownsRow.form ho hpos
  have hother : ∀ p ∈ es, p.1 ≠ v.scope → p.2.ownBlock ≠ (valL es v.scope).ownBlock → w'.ownsRow B 29 7 p.2 (fil p.1 done).length ((fil p.1 done).flatMap vaE) ∧ p.2.ownBlock ≠ v'.ownBlock := by
    intro p hp _ hne
    have h1 := ownsRow_below (h.own p hp) hb
    refine ⟨?_, ?_⟩
    · have hb1 : ∀ b, p.2.ownBlock = some b → w'.heap[b]? = Y.heap[b]? := fun b hb' => by
        have h2 := (h1.lt b hb').2
        exact hg.block b h2 (fun e => hne (hb'.trans e))
      exact ownsRow_sameH h1 hb1
    · intro e
      rcases hat with h2 | h2
      · exact hne (e.trans h2)
      · have := (h1.lt Y.heap.size (e.trans h2)).2
        omega
  rcases h.cases v.scope with ⟨h1, h2, h3⟩ | ⟨a, b, h1⟩
  · obtain ⟨W', hrun, hm2, hk, hz⟩ := run_put_newB keyedInt Try.underlying27 hm' (entL_key h.big) (keyInt hs) (entL_out h1) v'
    have hkeep : ∀ {u : Value} {k : Nat} {xs : List Value}, w'.ownsRow B 29 7 u k xs → W'.ownsRow B 29 7 u k xs := fun {u k xs} ho => ownsRow_sameH ho (fun b hb' => hk.block b (ho.lt b hb').2 (fun e => by have := (ho.lt b hb').1; have := h.rB; have e' : b = r := e; omega))
    have hnn : ∀ p ∈ es, p.2.ownBlock ≠ (valL es v.scope).ownBlock := fun p hp e => by
      rw [h2] at e
      obtain ⟨g2, c2, e2, _⟩ := World.ownsRow.form (h.own p hp) (h.pos p hp)
      rw [e2] at e
      simp [Value.ownBlock] at e
    refine ⟨W', es ++ [(v.scope, v')], hrun, ⟨?_, ?_, ?_, ?_, ?_, ?_, ?_, h.rB⟩, hk, hz⟩
    · have e : entL (es ++ [(v.scope, v')]) = entL es ++ [(.int .i64 v.scope, v')] := by unfold entL; rw [List.map_append]; rfl
      rw [e]; exact hm2
    · rw [List.pairwise_append]
      exact ⟨h.nd, List.pairwise_singleton _ _, fun p hp q hq => by obtain rfl := List.mem_singleton.1 hq; exact h1 p hp⟩
    · intro p hp
      rcases List.mem_append.1 hp with hp | hp
      · rw [fil_snoc, if_neg (fun e => h1 p hp e.symm), List.append_nil]
        exact hkeep (hother p hp (h1 p hp) (hnn p hp)).1
      · obtain rfl := List.mem_singleton.1 hp
        show W'.ownsRow B _ 7 v' (fil v.scope (done ++ [v])).length _
        rw [fil_snoc, if_pos rfl, List.length_append, List.length_singleton, ← hn]
        exact hkeep ho
    · rw [List.pairwise_append]
      exact ⟨h.apart, List.pairwise_singleton _ _, fun p hp q hq => by obtain rfl := List.mem_singleton.1 hq; exact (hother p hp (h1 p hp) (hnn p hp)).2⟩
    · intro p hp
      rcases List.mem_append.1 hp with hp | hp
      · rw [fil_snoc, List.length_append]; have := h.pos p hp; omega
      · obtain rfl := List.mem_singleton.1 hp
        show 0 < (fil v.scope (done ++ [v])).length
        rw [fil_snoc, if_pos rfl, List.length_append, List.length_singleton]; omega
    · intro u hu
      rcases List.mem_append.1 hu with hu | hu
      · obtain ⟨p, hp, e⟩ := h.all u hu
        exact ⟨p, List.mem_append.2 (.inl hp), e⟩
      · obtain rfl := List.mem_singleton.1 hu
        exact ⟨(u.scope, v'), by simp, rfl⟩
    · intro p hp
      rcases List.mem_append.1 hp with hp | hp
      · exact h.big p hp
      · obtain rfl := List.mem_singleton.1 hp; exact hs
  · have hsplit : entL es = entL a ++ (.int .i64 v.scope, valL es v.scope) :: entL b := by
      conv => lhs; rw [h1]
      unfold entL
      rw [List.map_append, List.map_cons]; rfl
    obtain ⟨W', hrun, hm2, hk, hz⟩ := run_put_oldB keyedInt Try.underlying27 hm' (entL_key h.big) (keyInt hs) hsplit (entL_dist h.nd) v'
    generalize hu : valL es v.scope = u at *
    have hnd := h.nd
    have hap := h.apart
    rw [h1, List.pairwise_append, List.pairwise_cons] at hnd hap
    have hmem : ∀ p, p ∈ a ∨ p ∈ b → p ∈ es := fun p hp => by rw [h1]; rcases hp with hp | hp <;> simp [hp]
    have hne : ∀ p, p ∈ a ∨ p ∈ b → p.1 ≠ v.scope ∧ p.2.ownBlock ≠ u.ownBlock := fun p hp => by
      rcases hp with hp | hp
      · exact ⟨hnd.2.2 p hp _ (List.mem_cons_self ..), hap.2.2 p hp _ (List.mem_cons_self ..)⟩
      · exact ⟨fun e => hnd.2.1.1 p hp e.symm, fun e => hap.2.1.1 p hp e.symm⟩
    have hkeep : ∀ {u : Value} {k : Nat} {xs : List Value}, w'.ownsRow B 29 7 u k xs → W'.ownsRow B 29 7 u k xs := fun {u k xs} ho => ownsRow_sameH ho (fun b hb' => hk.block b (ho.lt b hb').2 (fun e => by have := (ho.lt b hb').1; have := h.rB; have e' : b = r := e; omega))
    have hoth2 := fun p hp => hother p (hmem p hp) (hne p hp).1 (hne p hp).2
    have hmm : ∀ p, p ∈ a ++ (v.scope, v') :: b → p = (v.scope, v') ∨ (p ∈ a ∨ p ∈ b) := fun p hp => by
      rcases List.mem_append.1 hp with hp | hp
      · exact .inr (.inl hp)
      · rcases List.mem_cons.1 hp with hp | hp
        · exact .inl hp
        · exact .inr (.inr hp)
    refine ⟨W', a ++ (v.scope, v') :: b, hrun, ⟨?_, ?_, ?_, ?_, ?_, ?_, ?_, h.rB⟩, hk, hz⟩
    · have e : entL (a ++ (v.scope, v') :: b) = entL a ++ (.int .i64 v.scope, v') :: entL b := by unfold entL; rw [List.map_append]; rfl
      rw [e]; exact hm2
    · rw [List.pairwise_append, List.pairwise_cons]
      refine ⟨hnd.1, ⟨fun q hq => hnd.2.1.1 q hq, hnd.2.1.2⟩, fun p hp q hq => ?_⟩
      rcases List.mem_cons.1 hq with rfl | hq
      · exact (hne p (.inl hp)).1
      · exact hnd.2.2 p hp q (List.mem_cons_of_mem _ hq)
    · intro p hp
      rcases hmm p hp with rfl | hp
      · show W'.ownsRow B _ 7 v' (fil v.scope (done ++ [v])).length _
        rw [fil_snoc, if_pos rfl, List.length_append, List.length_singleton, ← hn]
        exact hkeep ho
      · rw [fil_snoc, if_neg (fun e => (hne p hp).1 e.symm), List.append_nil]
        exact hkeep (hoth2 p hp).1
    · rw [List.pairwise_append, List.pairwise_cons]
      refine ⟨hap.1, ⟨fun q hq e => (hoth2 q (.inr hq)).2 e.symm, hap.2.1.2⟩, fun p hp q hq => ?_⟩
      rcases List.mem_cons.1 hq with rfl | hq
      · exact (hoth2 p (.inl hp)).2
      · exact hap.2.2 p hp q (List.mem_cons_of_mem _ hq)
    · intro p hp
      rcases hmm p hp with rfl | hp
      · show 0 < (fil v.scope (done ++ [v])).length
        rw [fil_snoc, if_pos rfl, List.length_append, List.length_singleton]; omega
      · rw [fil_snoc, List.length_append]; have := h.pos p (hmem p hp); omega
    · intro x hx
      have hback : ∀ p, p ∈ es → ∃ q ∈ a ++ (v.scope, v') :: b, q.1 = p.1 := fun p hp => by
        rw [h1] at hp
        rcases List.mem_append.1 hp with hp | hp
        · exact ⟨p, by simp [hp], rfl⟩
        · rcases List.mem_cons.1 hp with rfl | hp
          · exact ⟨(v.scope, v'), by simp, rfl⟩
          · exact ⟨p, by simp [hp], rfl⟩
      rcases List.mem_append.1 hx with hx | hx
      · obtain ⟨p, hp, e⟩ := h.all x hx
        obtain ⟨q, hq, e2⟩ := hback p hp
        exact ⟨q, hq, e2.trans e⟩
      · obtain rfl := List.mem_singleton.1 hx
        exact ⟨(x.scope, v'), by simp, rfl⟩
    · intro p hp
      rcases hmm p hp with rfl | hp
      · exact hs
      · exact h.big p (hmem p hp)
end Go.Proofs.Ytpfiofgchkfkhaa

/- What is left of a map of rows of variables (for HierarchyMixed). -/
set_option linter.unusedVariables false
set_option linter.unusedSimpArgs false
namespace Go.Proofs.Ytpfiofgchkfkhaa
open Go.RowKit Go.Shelf Go.Maps
theorem own_cap {W : World} {base : Nat} {t : TypeId} {v : Value} {xs : List Va} {n : Nat} (h : W.ownsRow base t 7 v n (xs.flatMap vaE)) (hn : n = xs.length) :
    ∃ A c, v = .slice A xs.length c ∧ xs.length ≤ c ∧ VaS W A xs ∧ ∀ a, A = some a → base ≤ a.block := by
  subst hn
  obtain ⟨A, c, e, hs⟩ := FlS.own vaE_len h
  refine ⟨A, c, e, ?_, hs, ?_⟩
  · rcases h.2 with ⟨h1, h2⟩ | ⟨g, cap, cur, h1, _, _, h4, _⟩
    · rw [h2]; exact Nat.zero_le _
    · rw [e] at h1; cases h1; exact h4
  · intro a ha
    subst ha
    rcases h.2 with ⟨h1, _⟩ | ⟨g, cap, cur, h1, h2, _⟩
    · rw [e] at h1; cases h1
    · rw [e] at h1; cases h1; exact h2
/-- the rows of the map hold what is left of each scope's variables; they lie as in world w2 -/
structure RemK (w2 W : World) (r : Nat) (es : List (Int × Value)) (R : Int → List Va) : Prop where
  mp : MpB W r (entL es)
  nd : es.Pairwise fun p q => p.1 ≠ q.1
  row : ∀ p ∈ es, ∃ A c, p.2 = .slice A (R p.1).length c ∧ (R p.1).length ≤ c ∧ VaS w2 A (R p.1) ∧ ∀ a, A = some a → a.block ≠ r
  out : ∀ s, (∀ p ∈ es, p.1 ≠ s) → R s = []
  big : ∀ p ∈ es, In64 p.1
theorem RemK.start {W : World} {r B : Nat} {es : List (Int × Value)} {vs : List Va} (h : LefK W r B es vs) : RemK W W r es (fun s => fil s vs) := by
  refine ⟨h.mp, h.nd, fun p hp => ?_, fun s hs => ?_, h.big⟩
  · obtain ⟨A, c, h1, h2, h3, h4⟩ := own_cap (h.own p hp) rfl
    exact ⟨A, c, h1, h2, h3, fun a ha e => by have := h4 a ha; have := h.rB; omega⟩
  · rcases h.cases s with ⟨_, _, h3⟩ | ⟨a, b, h1⟩
    · exact h3
    · exact absurd rfl (hs _ ((show ∀ u, es = a ++ (s, u) :: b → (s, u) ∈ es from fun u e => by rw [e]; simp) _ h1))
theorem RemK.of_eq {w2 W W' : World} {r : Nat} {es : List (Int × Value)} {R : Int → List Va} (h : RemK w2 W r es R) (hk : W'.heap[r]? = W.heap[r]?) : RemK w2 W' r es R := ⟨h.mp.of_eq hk, h.nd, h.row, h.out, h.big⟩
theorem RemK.find {w2 W : World} {r : Nat} {es : List (Int × Value)} {R : Int → List Va} (h : RemK w2 W r es R) (s : Int) : ((∀ p ∈ es, p.1 ≠ s) ∧ R s = []) ∨ ∃ a b u, es = a ++ (s, u) :: b := by
  by_cases hs : ∀ p ∈ es, p.1 ≠ s
  · exact .inl ⟨hs, h.out s hs⟩
  · right
    simp only [Classical.not_forall, not_imp, Classical.not_not] at hs
    obtain ⟨p, hp, e⟩ := hs
    obtain ⟨a, b, hab⟩ := List.append_of_mem hp
    exact ⟨a, b, p.2, by rw [hab, ← e]⟩
/-- a look at a scope with nothing left -/
theorem RemK.look_none {w2 W : World} {r : Nat} {es : List (Int × Value)} {R : Int → List Va} (h : RemK w2 W r es R) {s : Int} (hs : In64 s) (hR : R s = []) :
    ∃ A c, (Instr.lookup 27 (.map (some r)) (.int .i64 s) false).run Try.prog W = .ok (.slice A 0 c) W := by
  rcases h.find s with ⟨h1, _⟩ | ⟨a, b, u, h1⟩
  · have := run_look_out keyedInt Try.underlying27 h.mp.mp (entL_key h.big) (keyInt hs) (entL_out h1) (zeroVas W) false
    exact ⟨none, 0, by simpa using this⟩
  · have hm : (s, u) ∈ es := by rw [h1]; simp
    obtain ⟨A, c, h2, _⟩ := h.row _ hm
    have h2' : u = .slice A (R s).length c := h2
    rw [hR] at h2'
    have := run_look_in keyedInt Try.underlying27 h.mp.mp (entL_key h.big) (entL_dist h.nd) (keyInt hs) (v := u) (List.mem_map.2 ⟨_, hm, rfl⟩) false
    refine ⟨A, c, ?_⟩
    rw [h2'] at this
    simpa using this
/-- a look at a scope with something left, its entry, and a store there -/
theorem RemK.take {w2 W : World} {r : Nat} {es : List (Int × Value)} {R : Int → List Va} (h : RemK w2 W r es R) {s : Int} (hs : In64 s) {v : Va} {rest : List Va} (hR : R s = v :: rest) :
    ∃ b off c st, (∀ W2 : World, W2.heap[r]? = W.heap[r]? → (Instr.lookup 27 (.map (some r)) (.int .i64 s) false).run Try.prog W2 = .ok (.slice (some ⟨b, off, none⟩) (rest.length + 1) c) W2) ∧ rest.length + 1 ≤ c ∧ b ≠ r ∧ VaS w2 (some ⟨b, off, none⟩) (v :: rest) ∧
      (∀ W2 : World, W2.heap[r]? = W.heap[r]? → (Instr.mapEntry 27 (.map (some r)) (.int .i64 s)).run Try.prog W2 = .ok (.tuple #[.slice (some ⟨b, off, none⟩) (rest.length + 1) c, .int .i64 ((st : Nat) : Int)]) W2) ∧
      ∀ W2 : World, W2.heap[r]? = W.heap[r]? → ∀ (a' : Addr) (c' : Nat), rest.length ≤ c' → a'.block = b → VaS w2 (some a') rest →
        ∃ W3 es', (Instr.entryStore 27 (.map (some r)) (.int .i64 ((st : Nat) : Int)) (.slice (some a') rest.length c')).run Try.prog W2 = .ok () W3 ∧ RemK w2 W3 r es' (fun x => if x = s then rest else R x) ∧ Keeps (fun b => b = r) W2 W3 ∧ W3.heap.size = W2.heap.size := by
  rcases h.find s with ⟨h1, h2⟩ | ⟨a, b, u, h1⟩
  · rw [hR] at h2; cases h2
  · have hm : (s, u) ∈ es := by rw [h1]; simp
    obtain ⟨A, c, h2, h3, h4, h5⟩ := h.row _ hm
    have h2' : u = .slice A (R s).length c := h2
    have h3' : (R s).length ≤ c := h3
    have h4' : VaS w2 A (R s) := h4
    rw [hR] at h2' h3' h4'
    obtain ⟨bA, off, rfl, _⟩ := id h4' (by simp)
    have hsplit : entL es = entL a ++ (.int .i64 s, u) :: entL b := by rw [h1]; unfold entL; rw [List.map_append, List.map_cons]; rfl
    obtain ⟨st, hst⟩ := run_entry_old keyedInt Try.underlying27 h.mp (entL_key h.big) (keyInt hs) hsplit (entL_dist h.nd)
    refine ⟨bA, off, c, st, fun W2 hW2 => ?_, h3', h5 _ rfl, h4', fun W2 hW2 => ?_, fun W2 hW2 a' c' hc ha hv => ?_⟩
    · have := run_look_in keyedInt Try.underlying27 (h.mp.of_eq hW2).mp (entL_key h.big) (entL_dist h.nd) (keyInt hs) (v := u) (List.mem_map.2 ⟨_, hm, rfl⟩) false
      rw [h2'] at this
      simpa using this
    · have := (hst W2 hW2).1
      rw [h2'] at this
      exact this
    · obtain ⟨W3, hr3, hm3, hk3, hz3⟩ := (hst W2 hW2).2 (.slice (some a') rest.length c')
      have hnd := h.nd
      rw [h1, List.pairwise_append, List.pairwise_cons] at hnd
      have hmem : ∀ p, p ∈ a ∨ p ∈ b → p ∈ es := fun p hp => by rw [h1]; rcases hp with hp | hp <;> simp [hp]
      have hne : ∀ p, p ∈ a ∨ p ∈ b → p.1 ≠ s := fun p hp => by
        rcases hp with hp | hp
        · exact hnd.2.2 p hp _ (List.mem_cons_self ..)
        · exact fun e => hnd.2.1.1 p hp e.symm
      have hmm : ∀ p, p ∈ a ++ (s, Value.slice (some a') rest.length c') :: b → p = (s, Value.slice (some a') rest.length c') ∨ (p ∈ a ∨ p ∈ b) := fun p hp => by
        rcases List.mem_append.1 hp with hp | hp
        · exact .inr (.inl hp)
        · rcases List.mem_cons.1 hp with hp | hp
          · exact .inl hp
          · exact .inr (.inr hp)
      refine ⟨W3, a ++ (s, .slice (some a') rest.length c') :: b, hr3, ⟨?_, ?_, ?_, ?_, ?_⟩, hk3, hz3⟩
      · have e : entL (a ++ (s, Value.slice (some a') rest.length c') :: b) = entL a ++ (.int .i64 s, .slice (some a') rest.length c') :: entL b := by unfold entL; rw [List.map_append, List.map_cons]; rfl
        rw [e]; exact hm3
      · rw [List.pairwise_append, List.pairwise_cons]
        refine ⟨hnd.1, ⟨fun q hq => hnd.2.1.1 q hq, hnd.2.1.2⟩, fun p hp q hq => ?_⟩
        rcases List.mem_cons.1 hq with rfl | hq
        · exact hne p (.inl hp)
        · exact hnd.2.2 p hp q (List.mem_cons_of_mem _ hq)
      · intro p hp
        rcases hmm p hp with rfl | hp
        · refine ⟨some a', c', ?_, ?_, ?_, ?_⟩
          · simp
          · simpa using hc
          · simpa using hv
          · intro x hx; cases hx; rw [ha]; exact h5 _ rfl
        · have e := hne p hp
          simp only [if_neg e]
          exact h.row p (hmem p hp)
      · intro x hx
        have e : x ≠ s := fun e => hx (s, .slice (some a') rest.length c') (by simp) e.symm
        simp only [if_neg e]
        refine h.out x (fun p hp => ?_)
        rw [h1] at hp
        rcases List.mem_append.1 hp with hp | hp
        · exact hx p (by simp [hp])
        · rcases List.mem_cons.1 hp with rfl | hp
          · exact fun e' => e e'.symm
          · exact hx p (by simp [hp])
      · intro p hp
        rcases hmm p hp with rfl | hp
        · exact hs
        · exact h.big p (hmem p hp)
/-- how far it is to the next scope with something left -/
def gapH (R : Int → List Va) (S : Nat) : Nat → Nat → Nat
  | 0, _ => 0
  | f + 1, n => if R (((n % S : Nat) : Int) - 1) = [] then 1 + gapH R S f (n + 1) else 0
theorem gapH_le (R : Int → List Va) (S : Nat) : ∀ (f n : Nat), gapH R S f n ≤ f
  | 0, _ => Nat.le_refl _
  | f + 1, n => by
    unfold gapH
    split
    · have := gapH_le R S f (n + 1); omega
    · omega
theorem gapH_more (R : Int → List Va) (S : Nat) : ∀ (f n j : Nat), j < f → R ((((n + j) % S : Nat) : Int) - 1) ≠ [] → gapH R S (f + 1) n = gapH R S f n
  | 0, n, j, h, _ => absurd h (Nat.not_lt_zero _)
  | f + 1, n, j, h, hr => by
    rw [gapH]
    conv => rhs; rw [gapH]
    by_cases e : R (((n % S : Nat) : Int) - 1) = []
    · rw [if_pos e, if_pos e]
      cases j with
      | zero => exact absurd e (by simpa using hr)
      | succ j => rw [gapH_more R S f (n + 1) j (by omega) (by rw [show n + 1 + j = n + (j + 1) by omega]; exact hr)]
    · rw [if_neg e, if_neg e]
/-- a step without a hit brings it nearer -/
theorem gapH_step {R : Int → List Va} {S n : Nat} (hS : 0 < S) {s : Int} (h1 : -1 ≤ s) (h2 : s + 1 < S) (hs : R s ≠ []) (hn : R (((n % S : Nat) : Int) - 1) = []) : gapH R S S (n + 1) + 1 ≤ gapH R S S n := by
  obtain ⟨f, rfl⟩ : ∃ f, S = f + 1 := ⟨S - 1, by omega⟩
  conv => rhs; rw [gapH]
  rw [if_pos hn]
  obtain ⟨t, ht⟩ : ∃ t : Nat, s + 1 = (t : Int) := ⟨(s + 1).toNat, by omega⟩
  have htS : t < f + 1 := by omega
  have hsne : s = (t : Int) - 1 := by omega
  -- some step j < f + 1 from n + 1 on comes to t; it is not the last one, for that is n's own place
  obtain ⟨j, hj, hjt⟩ : ∃ j, j < f + 1 ∧ (n + 1 + j) % (f + 1) = t := by
    refine ⟨(t + (f + 1) - (n + 1) % (f + 1)) % (f + 1), Nat.mod_lt _ (by omega), ?_⟩
    have h1 : (n + 1) % (f + 1) < f + 1 := Nat.mod_lt _ (by omega)
    rw [Nat.add_mod, Nat.mod_mod, ← Nat.add_mod]
    have h3 : (n + 1 + (t + (f + 1) - (n + 1) % (f + 1))) % (f + 1) = (t + (f + 1)) % (f + 1) := by
      have h4 : n + 1 = (f + 1) * ((n + 1) / (f + 1)) + (n + 1) % (f + 1) := (Nat.div_add_mod _ _).symm
      have h5 : n + 1 + (t + (f + 1) - (n + 1) % (f + 1)) = (t + (f + 1)) + (f + 1) * ((n + 1) / (f + 1)) := by omega
      rw [h5, Nat.add_mul_mod_self_left]
    rw [h3, Nat.add_mod_right, Nat.mod_eq_of_lt htS]
  have hjf : j < f := by
    rcases Nat.lt_or_ge j f with h | h
    · exact h
    · obtain rfl : j = f := by omega
      rw [show n + 1 + j = n + (j + 1) by omega, Nat.add_mod_right] at hjt
      rw [hjt, ← hsne] at hn
      exact absurd hn hs
  rw [gapH_more R (f + 1) f (n + 1) j hjf (by rw [hjt, ← hsne]; exact hs)]
  omega
/-- how many rounds are to come at most -/
def leftH (R : Int → List Va) (S C m n k : Nat) : Nat := (C - n) * (S + 1) + (m - k) * (S + 1) + (if n < C then 0 else gapH R S S n)
theorem leftH_lt1 {R R' : Int → List Va} {S C m n k k' : Nat} (h : n < C) (hk : k ≤ k') : leftH R' S C m (n + 1) k' < leftH R S C m n k := by
  unfold leftH
  rw [if_pos h]
  have h1 := gapH_le R' S S (n + 1)
  have h2 : (m - k') * (S + 1) ≤ (m - k) * (S + 1) := Nat.mul_le_mul_right _ (by omega)
  have h3 : (C - n) * (S + 1) = (C - (n + 1)) * (S + 1) + (S + 1) := by rw [← Nat.succ_mul]; congr 1; omega
  split <;> omega
theorem leftH_lt2 {R R' : Int → List Va} {S C m n k : Nat} (h : ¬ n < C) (hk : k < m) : leftH R' S C m (n + 1) (k + 1) < leftH R S C m n k := by
  unfold leftH
  rw [if_neg h, if_neg (by omega)]
  have h1 := gapH_le R' S S (n + 1)
  have h2 : (m - k) * (S + 1) = (m - (k + 1)) * (S + 1) + (S + 1) := by rw [← Nat.succ_mul]; congr 1; omega
  have h3 : C - n = 0 := by omega
  have h4 : C - (n + 1) = 0 := by omega
  rw [h3, h4, h2]
  omega
theorem leftH_lt3 {R : Int → List Va} {S C m n k : Nat} (h : ¬ n < C) (hg : gapH R S S (n + 1) + 1 ≤ gapH R S S n) : leftH R S C m (n + 1) k < leftH R S C m n k := by
  unfold leftH
  rw [if_neg h, if_neg (by omega)]
  have h3 : C - n = 0 := by omega
  have h4 : C - (n + 1) = 0 := by omega
  rw [h3, h4]
  omega
theorem perm_rest : ∀ (M vs : List Va), (∀ a, List.count a M ≤ List.count a vs) → ∃ L, (M ++ L).Perm vs
  | [], vs, _ => ⟨vs, List.Perm.refl _⟩
  | x :: M, vs, h => by
    have hx : x ∈ vs := List.count_pos_iff.1 (by have := h x; rw [List.count_cons_self] at this; omega)
    obtain ⟨L, hL⟩ := perm_rest M (vs.erase x) (fun a => by
      have h1 := h a
      by_cases e : a = x
      · subst e
        rw [List.count_cons_self] at h1
        rw [List.count_erase_self]; omega
      · rw [List.count_cons_of_ne (fun e' => e e'.symm)] at h1
        rw [List.count_erase_of_ne e]; exact h1)
    exact ⟨L, (List.Perm.cons x hL).trans (List.perm_cons_erase hx).symm⟩
theorem take_len {vs M : List Va} {R : Int → List Va} (hf : ∀ s, fil s M ++ R s = fil s vs) : (M.length < vs.length → ∃ s, R s ≠ []) ∧ (M.length = vs.length → ∀ s, R s = []) := by
  have hcount : ∀ a, List.count a M ≤ List.count a vs := fun a => by
    have e : ∀ l : List Va, List.count a l = List.count a (fil a.scope l) := by
      intro l
      unfold fil
      rw [List.count_filter (by simp)]
    rw [e, e vs, ← hf, List.count_append]
    omega
  obtain ⟨L, hL⟩ := perm_rest M vs hcount
  have hLl := hL.length_eq
  rw [List.length_append] at hLl
  refine ⟨fun h => ?_, fun h s => ?_⟩
  · refine Classical.byContradiction fun hn => ?_
    have hall : ∀ s, R s = [] := fun s => Classical.byContradiction fun e => hn ⟨s, e⟩
    have hp : M.Perm vs := fil_perm (fun s => by rw [← hf s, hall s, List.append_nil])
    have := hp.length_eq
    omega
  · have hp : M.Perm vs := by rw [List.eq_nil_of_length_eq_zero (show L.length = 0 by omega), List.append_nil] at hL; exact hL
    have h1 : (fil s M).Perm (fil s vs) := by unfold fil; exact hp.filter _
    have h2 := h1.length_eq
    rw [← hf s, List.length_append] at h2
    exact List.eq_nil_of_length_eq_zero (by omega)
theorem rem_scope {vs M : List Va} {R : Int → List Va} (hf : ∀ s, fil s M ++ R s = fil s vs) {s : Int} : ∀ v ∈ R s, v ∈ vs ∧ v.scope = s := fun v hv => by
  have h1 : v ∈ fil s vs := by rw [← hf s]; exact List.mem_append.2 (.inr hv)
  refine ⟨?_, fil_scope v h1⟩
  unfold fil at h1
  exact (List.mem_filter.1 h1).1
/-- one variable more is taken -/
theorem rem_take {vs M : List Va} {R : Int → List Va} (hf : ∀ s, fil s M ++ R s = fil s vs) {s : Int} {v : Va} {rest : List Va} (hR : R s = v :: rest) : ∀ x, fil x (M ++ [v]) ++ (fun x => if x = s then rest else R x) x = fil x vs := fun x => by
  have hv := (rem_scope hf (s := s) v (by rw [hR]; simp)).2
  show fil x (M ++ [v]) ++ (if x = s then rest else R x) = fil x vs
  rw [fil_snoc]
  by_cases e : x = s
  · subst e
    rw [if_pos hv, if_pos rfl, ← hf x, hR, List.append_assoc]; rfl
  · rw [if_neg (fun e' => e (e'.symm.trans hv)), if_neg e, List.append_nil, hf x]
end Go.Proofs.Ytpfiofgchkfkhaa
