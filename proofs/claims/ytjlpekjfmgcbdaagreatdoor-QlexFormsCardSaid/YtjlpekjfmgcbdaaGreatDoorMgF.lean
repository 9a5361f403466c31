/- MgF: the texts QmA QmB QmC QmD QmE QmF in one. -/
import Derived.Test.YtjlpekjfmgcbdaaGreatDoorMgE
import Derived.Test.YtjlpekjfmgcbdaaGreatDoorMgA
import Derived.RegionIn
/- Plain: the words of a text, and what Lex answers. -/
set_option linter.unusedVariables false
set_option linter.unusedSimpArgs false
namespace Go.Proofs.YtjlpekjfmgcbdaaGreatDoor
open Go.RowKit Go.Shelf
theorem pathF_len : ∀ (n : Nat) (l : List UInt8) (p : List UInt8 × Nat), pathF n l = some p → 1 ≤ p.2 ∧ p.2 ≤ l.length
  | 0, _, _, h => by cases h
  | n + 1, l, p, h => by
    unfold pathF at h
    cases hs : segQ l with
    | none => rw [hs] at h; cases h
    | some q =>
      obtain ⟨h1, h2⟩ := segQ_len hs
      rw [hs] at h
      simp only [Option.bind_some] at h
      split at h
      · rename_i hh
        have hlt : q.2 < l.length := by
          rcases Nat.lt_or_ge q.2 l.length with h | h
          · exact h
          · rw [List.drop_eq_nil_of_le h] at hh; cases hh
        cases hr : pathF n (l.drop (q.2 + 1)) with
        | none => rw [hr] at h; cases h
        | some r =>
          rw [hr] at h
          cases h
          have := pathF_len n _ r hr
          rw [List.length_drop] at this
          exact ⟨by show 1 ≤ q.2 + 1 + r.2; omega, by show q.2 + 1 + r.2 ≤ l.length; omega⟩
      · cases h; exact ⟨h1, h2⟩
theorem wrongQ_err {e : Int} (h : (wrongQ e).err = 0) : e = 0 := h
theorem pathQ_size {l : List UInt8} (h : (pathQ l).err = 0) : 1 ≤ (pathQ l).size ∧ (pathQ l).size ≤ l.length := by
  unfold pathQ at h ⊢
  cases hp : pathF (l.length + 1) l with
  | none => rw [hp] at h; exact absurd (wrongQ_err h) (by decide)
  | some p => exact pathF_len _ _ _ hp
theorem numQ_size {l : List UInt8} {c : UInt8} {r : List UInt8} (hl : l = c :: r) (hd : dgQ c = true) (h : (numQ l).err = 0) : 1 ≤ (numQ l).size ∧ (numQ l).size ≤ l.length := by
  unfold numQ numW at h ⊢
  have hn1 : 1 ≤ spn dgQ l := by rw [hl, spn_yes hd]; omega
  have hnl := spn_le dgQ l
  have hC := constQ_le l (spn dgQ l)
  have h1 := dotQ_le hnl
  have h2 := expQ_le h1.2
  have h3 := unitQ_le (l.drop (spn dgQ l))
  rw [List.length_drop] at h3
  generalize spn dgQ l = n at *
  generalize constQ l n = C at *
  generalize expQ l (dotQ l n) = e2 at *
  generalize unitQ (l.drop n) = k at *
  generalize dotQ l n = e1 at *
  by_cases c1 : 0 < C
  · rw [if_pos c1] at h ⊢
    by_cases c2 : aloneQ l C = true
    · rw [if_pos c2]; exact ⟨c1, hC⟩
    · rw [if_neg c2] at h; exact absurd (wrongQ_err h) (by decide)
  · rw [if_neg c1] at h ⊢
    by_cases c3 : n < e2
    · rw [if_pos c3] at h ⊢
      by_cases c2 : aloneQ l e2 = true
      · rw [if_pos c2]; exact ⟨by show 1 ≤ e2; omega, h2.2⟩
      · rw [if_neg c2] at h; exact absurd (wrongQ_err h) (by decide)
    · rw [if_neg c3] at h ⊢
      by_cases c4 : aloneQ l (n + k) = false
      · rw [if_pos c4] at h; exact absurd (wrongQ_err h) (by decide)
      · rw [if_neg c4] at h ⊢
        by_cases c5 : 15 < (stripQ (l.take n)).length
        · rw [if_pos c5] at h; exact absurd (wrongQ_err h) (by decide)
        · rw [if_neg c5]
          exact ⟨by show 1 ≤ n + k; omega, by show n + k ≤ l.length; omega⟩
theorem quotedQ_size {l : List UInt8} (h : (quotedQ l).err = 0) : 1 ≤ (quotedQ l).size ∧ (quotedQ l).size ≤ l.length := by
  rw [quotedQ_eq] at h ⊢
  unfold quotedW at h ⊢
  generalize 1 + closeW (l.drop 1) = E at *
  by_cases c1 : l.length ≤ E
  · rw [if_pos c1] at h; exact absurd (wrongQ_err h) (by decide)
  · rw [if_neg c1]; exact ⟨by show 1 ≤ E + 1; omega, by show E + 1 ≤ l.length; omega⟩
theorem firstS_some : ∀ {us : List (List UInt8)} {t u : List UInt8}, firstS us t = some u → u ∈ us ∧ Lib.hasPrefix t u = true
  | [], _, _, h => by cases h
  | v :: us, t, u, h => by
    unfold firstS at h
    split at h
    · rename_i hp; cases h; exact ⟨List.mem_cons_self, hp⟩
    · have := firstS_some h
      exact ⟨List.mem_cons_of_mem _ this.1, this.2⟩
theorem symW_size {l : List UInt8} (h : (symW (firstS symsQ l)).err = 0) : 1 ≤ (symW (firstS symsQ l)).size ∧ (symW (firstS symsQ l)).size ≤ l.length := by
  cases hs : firstS symsQ l with
  | none => rw [hs] at h; exact absurd (wrongQ_err h) (by decide)
  | some u =>
    obtain ⟨h1, h2⟩ := firstS_some hs
    refine ⟨(show ∀ v ∈ symsQ, 1 ≤ v.length by decide) u h1, ?_⟩
    exact (List.isPrefixOf_iff_prefix.1 h2).length_le
theorem readQ_cons (c : UInt8) (r : List UInt8) : readQ (c :: r) = if fiQ c = true ∨ c = 92 then pathQ (c :: r) else if dgQ c then numQ (c :: r) else if c = 34 then quotedQ (c :: r) else symW (firstS symsQ (c :: r)) := rfl
theorem readQ_size {l : List UInt8} (hl : 0 < l.length) (h : (readQ l).err = 0) : 1 ≤ (readQ l).size ∧ (readQ l).size ≤ l.length := by
  cases l with
  | nil => cases hl
  | cons c r =>
    rw [readQ_cons] at h ⊢
    by_cases c1 : fiQ c = true ∨ c = 92
    · rw [if_pos c1] at h ⊢; exact pathQ_size h
    · rw [if_neg c1] at h ⊢
      by_cases c2 : dgQ c = true
      · rw [if_pos c2] at h ⊢; exact numQ_size rfl c2 h
      · rw [if_neg c2] at h ⊢
        by_cases c3 : c = 34
        · rw [if_pos c3] at h ⊢; exact quotedQ_size h
        · rw [if_neg c3] at h ⊢; exact symW_size h
/-- the place of the next word -/
def nextQ (l : List UInt8) (at0 : Nat) : Nat := at0 + skipQ (l.drop at0)
/-- the words from a place on, with their places, up to the first one that is wrong -/
def wordsF (l : List UInt8) : Nat → Nat → List (Nat × Wq)
  | 0, _ => []
  | k + 1, a => if a < l.length then (a, readQ (l.drop a)) :: (if (readQ (l.drop a)).err = 0 then wordsF l k (nextQ l (a + (readQ (l.drop a)).size)) else []) else []
theorem skipF_le : ∀ (k : Nat) (l : List UInt8), skipF k l ≤ l.length
  | 0, _ => Nat.zero_le _
  | _ + 1, [] => Nat.zero_le _
  | k + 1, c :: t => by
    simp only [skipF]
    rw [List.length_cons]
    split
    · have := skipF_le k t; omega
    · split
      · have h1 := skipF_le k (t.drop (spn (· != 10) t))
        have h2 := spn_le (· != 10) t
        rw [List.length_drop] at h1
        omega
      · omega
theorem nextQ_le {l : List UInt8} {a : Nat} (h : a ≤ l.length) : nextQ l a ≤ l.length := by
  unfold nextQ skipQ
  have := skipF_le (l.drop a).length (l.drop a)
  rw [List.length_drop] at this
  rw [List.length_drop]
  omega
theorem nextQ_ge (l : List UInt8) (a : Nat) : a ≤ nextQ l a := Nat.le_add_right _ _
theorem wordsF_fuel (l : List UInt8) : ∀ (n m a : Nat), l.length ≤ a + n → l.length ≤ a + m → wordsF l n a = wordsF l m a
  | 0, 0, _, _, _ => rfl
  | 0, m + 1, a, h, _ => by unfold wordsF; rw [if_neg (by omega)]
  | n + 1, 0, a, _, h => by unfold wordsF; rw [if_neg (by omega)]
  | n + 1, m + 1, a, hn, hm => by
    unfold wordsF
    by_cases c1 : a < l.length
    · rw [if_pos c1, if_pos c1]
      by_cases c2 : (readQ (l.drop a)).err = 0
      · rw [if_pos c2, if_pos c2]
        have h1 := (readQ_size (by rw [List.length_drop]; omega) c2).1
        have h2 := nextQ_ge l (a + (readQ (l.drop a)).size)
        rw [wordsF_fuel l n m _ (by omega) (by omega)]
      · rw [if_neg c2, if_neg c2]
    · rw [if_neg c1, if_neg c1]
def wordsFrom (l : List UInt8) (a : Nat) : List (Nat × Wq) := wordsF l l.length a
theorem wordsFrom_end {l : List UInt8} {a : Nat} (h : l.length ≤ a) : wordsFrom l a = [] := by
  unfold wordsFrom
  rw [wordsF_fuel l l.length 0 a (by omega) (by omega)]
  rfl
theorem wordsFrom_step {l : List UInt8} {a : Nat} (h : a < l.length) : wordsFrom l a = (a, readQ (l.drop a)) :: (if (readQ (l.drop a)).err = 0 then wordsFrom l (nextQ l (a + (readQ (l.drop a)).size)) else []) := by
  unfold wordsFrom
  rw [wordsF_fuel l l.length (l.length + 1) a (by omega) (by omega)]
  conv => lhs; unfold wordsF
  rw [if_pos h]
def wordsQ (l : List UInt8) : List (Nat × Wq) := wordsFrom l (nextQ l 0)
/-- a lexeme -/
structure Lx where
  kind : Int
  text : List UInt8
  at0 : Nat
/-- what Lex makes of the words -/
def lexF : List (Nat × Wq) → List Lx → List Lx × Nat × Int
  | [], out => (out, 0, 0)
  | (a, x) :: r, out => if x.err = 0 then (if out.length = 512 then ([], a, 9) else lexF r (out ++ [⟨x.kind, x.text, a⟩])) else ([], a, x.err)
def lexQ (l : List UInt8) : List Lx × Nat × Int := if 16384 < l.length then ([], 0, 9) else lexF (wordsQ l) []
end Go.Proofs.YtjlpekjfmgcbdaaGreatDoor

/- The iterator of qlex: the words of a text with their places. -/
set_option linter.unusedVariables false
set_option linter.unusedSimpArgs false
namespace Go.Proofs.YtjlpekjfmgcbdaaGreatDoor
open Go.RowKit Go.Shelf
attribute [local go_sem] Oper.semAt_some
theorem Gl.kept {C : Nat → Prop} {W W' : World} (h : Gl W) (hk : Keeps C W W') (h1 : ¬ C 3) (h2 : ¬ C 2) : Gl W' :=
  h.keep fun b hb he => hk.block b hb (by rcases he with rfl | rfl; exact h1; exact h2)
def ReadsQ (bt b : Nat) : Prop := b = bt ∨ b = 3 ∨ b = 2
theorem drop_cons {α : Type} {xs : List α} {k : Nat} {x : α} {r : List α} (h : xs.drop k = x :: r) : xs[k]? = some x ∧ xs.drop (k + 1) = r ∧ k < xs.length := by
  have h1 : (xs.drop k)[0]? = some x := by rw [h]; rfl
  rw [List.getElem?_drop, Nat.add_zero] at h1
  refine ⟨h1, ?_, (List.getElem?_eq_some_iff.1 h1).1⟩
  have h2 : (xs.drop k).drop 1 = r := by rw [h]; rfl
  rw [List.drop_drop] at h2
  exact h2
theorem drop_none {α : Type} {xs : List α} {k : Nat} (h : xs.drop k = []) (hk : k ≤ xs.length) : k = xs.length := by
  rw [List.drop_eq_nil_iff] at h; omega
set_option maxHeartbeats 4000000 in
set_option maxRecDepth 20000 in
theorem words_iter (l : List UInt8) (hl : l.length ≤ 20000) (bt : Nat) (w : World) (hb : Row w bt 9 #[.string (bsQ l)]) (hG : Gl w) :
    Iter Tryz.prog 54 #[.pointer (some ⟨bt, 0, none⟩)] (fun x : Nat × Wq => #[.int .i64 (x.1 : Int), wordV x.2]) (wordsQ l) (ReadsQ bt) w := by
  intro lp J Jx C0 W hR hRC hC hRl hJ hJx hY h0
  have hbW : Row W bt 9 #[.string (bsQ l)] := (hR.block bt (.inl rfl)).trans hb
  have hGW : Gl W := hG.keep fun b _ he => hR.block b (.inr he)
  have hbt : bt < W.heap.size := hbW.lt
  have hcell : W.cell? ⟨bt, 0, none⟩ = some (.string (bsQ l)) := hbW.cell 0
  have hnC : ¬ C0 bt := hRC bt (.inl rfl)
  have hn1 : ¬ C0 3 := hRC _ (.inr (.inl rfl))
  have hn2 : ¬ C0 2 := hRC _ (.inr (.inr rfl))
  have HY := hide hY
  have HGW := hide hGW
  have HN := hide (And.intro hnC (And.intro hn1 hn2))
  have hz := bsQ_size l
  have hx : ∀ i, (bsQ l).extract i (bsQ l).size = bsQ (l.drop i) := bsQ_drop l
  have SK := hide (fun (a : Nat) (W : World) (h : a ≤ 100000) => show Calls Tryz.prog 55 #[.string (bsQ l), .int .i64 (a : Int)] W fun e w' => e = .returned (.int .i64 ((nextQ l a : Nat) : Int)) ∧ Below W.heap.size W w' from skipQ_any l a W (by omega) h)
  have SK0 := hide (fun (W : World) => show Calls Tryz.prog 55 #[.string (bsQ l), .int .i64 0] W fun e w' => e = .returned (.int .i64 ((nextQ l 0 : Nat) : Int)) ∧ Below W.heap.size W w' from skipQ_any l 0 W (by omega) (by omega))
  have RD := hide (fun (a : Nat) (W : World) (h : a < l.length) (hg : Gl W) => readQ_any (l.drop a) W (by rw [List.length_drop]; omega) (by rw [List.length_drop]; omega) hg)
  have Hx := hide hx
  have HbW := hide hbW
  have HC := hide hC
  have HJ := hide hJ
  have H0 := hide h0
  obtain ⟨a0, ha0⟩ : ∃ a0, nextQ l 0 = a0 := ⟨_, rfl⟩
  have hWq : wordsQ l = wordsFrom l a0 := by rw [← ha0]; rfl
  have HWq := hide hWq
  have Ha := hide (show a0 ≤ l.length by rw [← ha0]; exact nextQ_le (Nat.zero_le _))
  rw [ha0] at SK0
  clear hY hG hb hR hRC hRl hx hGW hnC hn1 hn2 hbW hC hJ hJx h0 ha0 hWq
  generalize bsQ l = s at *
  have Hz := hide hz
  clear hz
  refine callsIn_of_wp Tryz.func54 rfl trivial ?_
  simp only [Tryz.ntmps54, List.size_toArray, List.length_cons, List.length_nil, Nat.reduceAdd, Nat.reduceSub, Array.replicate_succ, Array.replicate_zero, List.push_toArray, List.append_toArray, List.nil_append, List.cons_append]
  gi_wp2_with fail
  refine (callsIn_wide.2 (SK0.out _)).mono ?_
  rintro e w1 ⟨rfl, hb1⟩
  have HK1 := hide (show Keeps C0 W w1 from Keeps.of_below hb1 (Nat.le_refl _))
  have HJ1 := hide (show J 0 C0 w1 from HJ.out _ _ _ _ H0.out (Same.of_below hb1 (fun b hb => hb.elim id (HC.out b))))
  have HG1 := hide (show Grew C0 W C0 w1 from HC.out.grew.later hb1.size)
  have Ha0 := hide (show a0 ≤ l.length from Ha.out)
  clear hb1 hcell
  gi_wp2_with fail
  gi_loopw [3] (fun v wr => ∃ (a k : Nat) (C : Nat → Prop), v = .int .i64 (a : Int) ∧ a ≤ l.length ∧ k ≤ (wordsQ l).length ∧ (wordsQ l).drop k = wordsFrom l a ∧ J k C wr ∧ ¬ C bt ∧ Keeps C0 W wr ∧ Grew C0 W C wr) (fun v _ => l.length - (intOf v).toNat)
  case atStart => exact ⟨a0, 0, C0, rfl, Ha0.out, Nat.zero_le _, HWq.out, HJ1.out, HN.out.1, HK1.out, HG1.out⟩
  case round =>
    obtain ⟨a, k, C, rfl, ha, hk, hdr, hj, hCb, hkp, hgr⟩ := hrel
    have hbx : Row wr bt 9 #[.string s] := HbW.out.keep hkp HN.out.1
    have hcb : wr.cell? ⟨bt, 0, none⟩ = some (.string s) := hbx.cell 0
    have hgl : Gl wr := HGW.out.kept hkp HN.out.2.1 HN.out.2.2
    by_cases hlt : a < l.length
    · have hi' : (a : Int) < (s.size : Int) := by have := Hz.out; omega
      have hi0 : (0 : Int) ≤ (a : Int) := by omega
      have hi2 : (a : Int) ≤ (s.size : Int) := by omega
      have x1 := Hx.out a
      have RDa := hide (RD.out a wr hlt hgl)
      rw [wordsFrom_step hlt] at hdr
      have hsz := fun h => readQ_size (l := l.drop a) (by rw [List.length_drop]; omega) h
      rw [List.length_drop] at hsz
      obtain ⟨X, hX⟩ : ∃ X, readQ (l.drop a) = X := ⟨_, rfl⟩
      rw [hX] at hdr hsz RDa
      obtain ⟨d1, d2, d3⟩ := drop_cons hdr
      have D1 := hide d1
      have D2 := hide d2
      have D3 := hide d3
      have Hbx := hide hbx
      have Hsz := hide hsz
      have Hj := hide hj
      have Hkp := hide hkp
      have Hgr := hide hgr
      obtain ⟨kd, tx, sz, er⟩ := X
      have RDa := hide (show Calls Tryz.prog 56 #[.string (bsQ (l.drop a))] wr fun e w' => e = .returned (.agg #[.int .i64 kd, .string (bsQ tx), .int .i64 0, .int .i64 (sz : Int), .int .i64 er]) ∧ Below wr.heap.size wr w' from RDa.out)
      generalize bsQ (l.drop a) = sp at *
      clear hX hdr d1 d2 d3 hbx hsz hj hkp hgr hgl
      gi_wp2_with fail
      refine (callsIn_wide.2 RDa.out).mono ?_
      rintro e w2 ⟨rfl, hb2⟩
      gi_wp2_with fail
      obtain ⟨A, hA⟩ : ∃ A, w2.heap.size = A := ⟨_, rfl⟩
      rw [hA]
      obtain ⟨W5, hW5⟩ : ∃ W5, w2.alloc (.cells #[.int .i64 kd, .string (bsQ tx), .int .i64 0, .int .i64 (sz : Int), .int .i64 er] 44) = W5 := ⟨_, rfl⟩
      rw [hW5]
      have hz5 : W5.heap.size = A + 1 := by rw [← hW5, World.size_alloc, hA]
      have hzr : wr.heap.size ≤ A := by rw [← hA]; exact hb2.size
      have hb5 : Below wr.heap.size wr W5 := by rw [← hW5]; exact hb2.alloc hb2.size _
      have hrow : Row W5 A 44 #[.int .i64 kd, .string (bsQ tx), .int .i64 0, .int .i64 (sz : Int), .int .i64 er] := by rw [← hW5, ← hA]; exact Row.new _ _ _
      have hkp5 : Keeps C0 W W5 := Hkp.out.trans_grew (Keeps.of_below hb5 (Nat.le_refl _)) Hgr.out
      have hgr5 : Grew C0 W C W5 := Hgr.out.later hb5.size
      have hj5 : J k C W5 := HJ.out _ _ _ _ Hj.out (Same.of_below hb5 (fun b hb => hb.elim (fun h => Nat.lt_of_lt_of_le h Hkp.out.size) (fun h => (Hgr.out b h).2)))
      have hCA : ¬ C A := fun e => by have := (Hgr.out A e).2; omega
      have hbx5 : Row W5 bt 9 #[.string s] := Hbx.out.below hb5 Hbx.out.lt
      have hbtA : bt < A := Nat.lt_of_lt_of_le Hbx.out.lt hzr
      obtain ⟨fn, tmps, assign, body, hy, hR⟩ := HY.out k _ C W5 D1.out hj5 (fun b hb => (hgr5 b hb).2)
      simp only [wordV] at hy
      rw [hy]
      have HR := hide hR
      have Hkp5 := hide hkp5
      have Hgr5 := hide hgr5
      have Hrow := hide hrow
      have Hbx5 := hide hbx5
      have Hz5 := hide hz5
      clear hR hkp5 hgr5 hrow hbx5 hz5 hb5 hj5 hW5 hb2 hA
      gi_wp2_with fail
      refine HR.out.mono ?_
      rintro e W6 ⟨C', hk6, hg6, hj6⟩
      have HK := hide (Hkp5.out.trans_grew hk6 Hgr5.out)
      have HG := hide (Hgr5.out.trans hg6 Hkp5.out.size)
      have HCb := hide (show ¬ C' bt from fun e => (hg6 _ e).1.elim hCb (fun h => by have := Hz5.out; omega))
      have hrow6 := Hrow.out.keep hk6 hCA
      have hbx6 := Hbx5.out.keep hk6 hCb
      have hc3 : W6.cell? ⟨A, 3, none⟩ = some (.int .i64 (sz : Int)) := hrow6.cell 3
      have hc4 : W6.cell? ⟨A, 4, none⟩ = some (.int .i64 er) := hrow6.cell 4
      have hcb6 : W6.cell? ⟨bt, 0, none⟩ = some (.string s) := hbx6.cell 0
      clear hk6 hg6 hrow6 hbx6 hy
      rcases hj6 with ⟨rfl, hj6⟩ | ⟨rfl, hj6⟩
      · have Hj6 := hide hj6
        clear hj6
        by_cases her : er = 0
        · subst her
          obtain ⟨s1, s2⟩ := Hsz.out rfl
          have hsz1 : 1 ≤ sz := s1
          have hsz2 : sz ≤ l.length - a := s2
          have SKa := hide (fun W : World => SK.out (a + sz) W (by omega))
          have hD2 := D2.out
          rw [if_pos rfl] at hD2
          have HD2 := hide hD2
          have hw : ((a + sz : Nat) : Int) = (a : Int) + (sz : Int) := by omega
          rw [hw] at SKa
          have hle := nextQ_le (l := l) (a := a + sz) (by omega)
          have hge := nextQ_ge l (a + sz)
          obtain ⟨a2, ha2⟩ : ∃ a2, nextQ l (a + sz) = a2 := ⟨_, rfl⟩
          rw [ha2] at SKa hle hge
          have HD3 := hide (show (wordsQ l).drop (k + 1) = wordsFrom l a2 by rw [← ha2]; exact HD2.out)
          clear ha2 hw hD2
          gi_wp2_with fail
          refine (callsIn_wide.2 (SKa.out _)).mono ?_
          rintro e w7 ⟨rfl, hb7⟩
          have HK7 := hide (HK.out.trans_grew (Keeps.of_below hb7 (Nat.le_refl _)) HG.out)
          have HG7 := hide (HG.out.later hb7.size)
          have HJ7 := hide (HJ.out _ _ _ _ Hj6.out (Same.of_below hb7 (fun b hb => hb.elim (fun h => Nat.lt_of_lt_of_le h HK.out.size) (fun h => (HG.out b h).2))))
          clear hb7
          gi_wp2
          go_roundw
          case rel => exact ⟨a2, k + 1, C', rfl, hle, by have := D3.out; omega, HD3.out, HJ7.out, HCb.out, HK7.out, HG7.out⟩
          case measure => simp [intOf]; omega
        · have e1 : (er == 0) = false := beq_eq_false_iff_ne.2 her
          have e2 : (er != 0) = true := by rw [bne, e1]; rfl
          have hD2 := D2.out
          rw [if_neg her] at hD2
          have hkl := drop_none hD2 (by have := D3.out; omega)
          have HJE := hide (show J (wordsQ l).length C' W6 by rw [← hkl]; exact Hj6.out)
          clear hD2 hkl her
          gi_wp2
          refine bodyPost_ret (results_none rfl _ _ _) rfl ?_
          exact ⟨⟨_, rfl⟩, C', HK.out, HG.out, .inl HJE.out⟩
      · have Hj6 := hide hj6
        clear hj6
        gi_wp2
        refine bodyPost_ret (results_none rfl _ _ _) rfl ?_
        exact ⟨⟨_, rfl⟩, C', HK.out, HG.out, .inr ⟨k + 1, by have := D3.out; omega, Hj6.out⟩⟩
    · have hi' : ¬ (a : Int) < (s.size : Int) := by have := Hz.out; omega
      rw [wordsFrom_end (by omega)] at hdr
      have hkl := drop_none hdr hk
      have HJE := hide (show J (wordsQ l).length C wr by rw [← hkl]; exact hj)
      have Hkp := hide hkp
      have Hgr := hide hgr
      clear hdr hj hkp hgr hbx hgl hkl hk
      gi_wp2
      go_end0
      exact ⟨⟨_, rfl⟩, Hkp.out, C, Hgr.out, .inl HJE.out⟩
end Go.Proofs.YtjlpekjfmgcbdaaGreatDoor

/- Contract of qlex's Lex, over its iterator. -/
set_option linter.unusedVariables false
set_option linter.unusedSimpArgs false
namespace Go
open Go.RowKit
theorem results_cell3 {P : Program} {fn : Func} {p q r : Tmp} {t u s : TypeId} (h : fn.results = #[.cell p t, .cell q u, .cell r s]) (tmps : Array Value) (w : World) (a b c : Addr) (x y z : Value)
    (hp : tmps.getD p undef = .pointer (some a)) (hq : tmps.getD q undef = .pointer (some b)) (hr : tmps.getD r undef = .pointer (some c))
    (hx : (loadVar t a).run P w = .ok x w) (hy : (loadVar u b).run P w = .ok y w) (hz : (loadVar s c).run P w = .ok z w) :
    (results fn tmps).run P w = .ok (.tuple #[x, y, z]) w := by
  have hp' : tmps[p]?.getD undef = .pointer (some a) := by simpa using hp
  have hq' : tmps[q]?.getD undef = .pointer (some b) := by simpa using hq
  have hr' : tmps[r]?.getD undef = .pointer (some c) := by simpa using hr
  have e : (results fn tmps).run P w = ((asAddr (tmps.getD p undef)).run P w).andThen fun a w₁ => ((loadVar t a).run P w₁).andThen fun x w₂ => ((asAddr (tmps.getD q undef)).run P w₂).andThen fun b w₃ => ((loadVar u b).run P w₃).andThen fun y w₄ => ((asAddr (tmps.getD r undef)).run P w₄).andThen fun c w₅ => ((loadVar s c).run P w₅).andThen fun z w₆ => .ok (.tuple #[x, y, z]) w₆ := by
    simp only [results, h]
    simp [Sem.run_bind, Result.andThen]
  rw [e]
  simp [hp', hq', hr', asAddr, Result.andThen, hx, hy, hz]
theorem run_loadVar_one {P : Program} (w : World) (g : Nat) (ty : TypeId) (v : Value) (d : TypeDesc) (hg : w.cell? ⟨g, 0, none⟩ = some v)
    (hu : P.underlying ty = some d) (hd : (match d with | .struct _ | .array _ _ => true | _ => false) = false) : (loadVar ty ⟨g, 0, none⟩).run P w = .ok v w := by
  have h1 : (isAgg ty).run P w = .ok false w := by
    simp [isAgg, run_underlying hu, Result.andThen]
    cases d <;> simp_all
  simp [loadVar, h1, Result.andThen, hg]
end Go
namespace Go.Proofs.YtjlpekjfmgcbdaaGreatDoor
open Go.RowKit Go.Shelf
attribute [local go_sem] Oper.semAt_some
theorem But_below {D n : Nat} {W W' : World} (h : But D W W') (hD : n ≤ D) : Below n W W' := ⟨h.os, h.tape, h.output, Nat.le_of_eq h.size.symm, fun b hb => h.block b (by omega)⟩
theorem words_any (s : ByteArray) (w : World) :
    Calls Tryz.prog 28 #[.string s] w fun e w' => e = .returned (.func (.func 54) #[] #[.pointer (some ⟨w.heap.size, 0, none⟩)]) ∧ w.alloc (.cells #[.string s] 9) = w' := by
  have hmf : ∀ (fn : Fn) (first cap : Array Value) (w : World), (Instr.makeFunc fn first cap).run Tryz.prog w = .ok (.func fn first cap) w := fun _ _ _ _ => rfl
  go_enter Tryz.func28, Tryz.ntmps28
  go_wp2
  go_ret
  exact ⟨rfl, rfl⟩
/-- lexemes as cells -/
def lxCells (out : List Lx) : List Value := out.flatMap fun x => [.int .i64 x.kind, .string (bsQ x.text), .int .i64 (x.at0 : Int)]
theorem lxCells_snoc (out : List Lx) (x : Lx) : lxCells (out ++ [x]) = lxCells out ++ [.int .i64 x.kind, .string (bsQ x.text), .int .i64 (x.at0 : Int)] := by
  unfold lxCells; simp
theorem infoLx : (Tryz.prog.info? 33).map (fun i => (i.zero, i.size, i.bytes)) = some (some (.agg #[.int .i64 0, .string ⟨#[]⟩, .int .i64 0]), 3, 32) := by kernel_rfl
theorem ownsRow_sameQ {W1 W2 : World} {base : Nat} {e : TypeId} {size : Nat} {v : Value} {n : Nat} {xs : List Value} (h : W1.ownsRow base e size v n xs)
    (hb : ∀ b, v.ownBlock = some b → W2.heap[b]? = W1.heap[b]?) : W2.ownsRow base e size v n xs := by
  refine ⟨h.1, ?_⟩
  rcases h.2 with hn | ⟨g, cap, cur, rfl, hbs, hg, rest⟩
  · exact .inl hn
  · exact .inr ⟨g, cap, cur, rfl, hbs, (hb g (by simp [Value.ownBlock])).trans hg, rest⟩
theorem own_slG {w : World} {B n size : Nat} {u : Value} {e : TypeId} {xs : List Value} (h : w.ownsRow B e size u n xs) : ∃ A cap, u = .slice A n cap := by
  obtain ⟨_, h2⟩ := h
  rcases h2 with ⟨rfl, h0⟩ | ⟨g, cap, cs, rfl, _⟩
  · exact ⟨none, 0, by rw [h0]⟩
  · exact ⟨_, cap, rfl⟩
theorem ownsRow_baseQ {W : World} {base base' : Nat} {e : TypeId} {size : Nat} {v : Value} {n : Nat} {xs : List Value} (h : W.ownsRow base e size v n xs) (hb : base' ≤ base) : W.ownsRow base' e size v n xs := by
  refine ⟨h.1, ?_⟩
  rcases h.2 with hn | ⟨g, cap, cur, rfl, hbs, rest⟩
  · exact .inl hn
  · exact .inr ⟨g, cap, cur, rfl, Nat.le_trans hb hbs, rest⟩
/-- the blocks of Lex's own -/
def LexC (B : Nat) (v : Value) (b : Nat) : Prop := b = B ∨ b = B + 1 ∨ b = B + 2 ∨ b = B + 3 ∨ v.ownBlock = some b
/-- what the loop of Lex holds after k words -/
def LexInv (xs : List (Nat × Wq)) (R : List Lx × Nat × Int) (B : Nat) (k : Nat) (C : Nat → Prop) (W : World) : Prop :=
  ∃ v out, C = LexC B v ∧ Row W B 23 #[.slice none 0 0] ∧ Row W (B + 1) 3 #[.int .i64 0] ∧ Row W (B + 2) 24 #[.int .i64 0] ∧ Row W (B + 3) 23 #[v] ∧
    W.ownsRow (B + 5) 33 3 v out.length (lxCells out) ∧ out.length ≤ 512 ∧ lexF (xs.drop k) out = R
def LexEnd (R : List Lx × Nat × Int) (B : Nat) (c : Code) (k : Nat) (C : Nat → Prop) (W : World) : Prop :=
  c = .ret ∧ ∃ v at0 er, C = LexC B v ∧ (∀ b, v.ownBlock = some b → B + 5 ≤ b) ∧ Row W B 23 #[.slice none 0 0] ∧ Row W (B + 1) 3 #[.int .i64 (at0 : Nat)] ∧ Row W (B + 2) 24 #[.int .i64 er] ∧ R = ([], at0, er)
theorem lex_row {W2 w1 : World} {X B b n cap : Nat} {A : Option Addr} {t u : TypeId} {cs ds : Array Value} {a : Value} (hg : World.grownBy ((W2.setCell ⟨X, 2, none⟩ a).alloc (.cells ds u)) w1 (Value.slice A n cap).ownBlock) (h : Row W2 b t cs) (hX : B + 5 ≤ X)
    (hv : ∀ b, (Value.slice A n cap).ownBlock = some b → B + 5 ≤ b) (hb : b < B + 5) : Row w1 b t cs :=
  ((h.off (by omega) 2 a).alloc _).grown hg (fun e => by have := hv b e.symm; omega)
theorem lex_end {xs : List (Nat × Wq)} {R : List Lx × Nat × Int} {B k a : Nat} {v : Value} {er : Int} {W W2 W3 : World} {act : Act} (hk : Keeps (fun b => LexC B v b ∨ W.heap.size ≤ b) W2 W3) (hg : Grew (LexC B v) W (LexC B v) W3)
    (h0 : Row W3 B 23 #[.slice none 0 0]) (h1 : Row W3 (B + 1) 3 #[.int .i64 0]) (h2 : Row W3 (B + 2) 24 #[.int .i64 0]) (hv : ∀ b, v.ownBlock = some b → B + 5 ≤ b) (hR : R = ([], a, er)) :
    roundEnd2 (LexInv xs R B) (LexEnd R B) k (LexC B v) W W2 .ret act (((W3.setCell ⟨B, 0, none⟩ (.slice none 0 0)).setCell ⟨B + 1, 0, none⟩ (.int .i64 (a : Int))).setCell ⟨B + 1 + 1, 0, none⟩ (.int .i64 er)).drew :=
  ⟨LexC B v, (((hk.set (.inl (.inl (.inl rfl))) _ _).set (.inl (.inl (.inr (.inl rfl)))) _ _).set (.inl (.inl (.inr (.inr (.inl rfl))))) _ _).drew, hg.later (by simp [World.setCell]), rfl, v, a, er, rfl, hv,
    (((h0.set_ 0 (.slice none 0 0)).off (by omega) _ _).off (by omega) _ _).drew, (((h1.off (by omega) _ _).set_ 0 (.int .i64 (a : Int))).off (by omega) _ _).drew, (((h2.off (by omega) _ _).off (by omega) _ _).set_ 0 (.int .i64 er)).drew, hR⟩
set_option maxHeartbeats 8000000 in
set_option maxRecDepth 20000 in
theorem Lex_any (l : List UInt8) (hl : l.length ≤ 1000000) (w : World) (hG : Gl w) :
    Calls Tryz.prog 10 #[.string (bsQ l)] w fun e w' => ∃ v, e = .returned (.tuple #[v, .int .i64 ((lexQ l).2.1 : Int), .int .i64 (lexQ l).2.2]) ∧ w'.ownsRow w.heap.size 33 3 v (lexQ l).1.length (lxCells (lexQ l).1) ∧ Below w.heap.size w w' := by
  have hz := bsQ_size l
  refine (callsIn_wide (n := 0)).1 (callsIn_of_wp_marks Tryz.func10 rfl trivial ?_)
  simp only [Tryz.ntmps10, List.size_toArray, List.length_cons, List.length_nil, Nat.reduceAdd, Nat.reduceSub, Array.replicate_succ, Array.replicate_zero, List.push_toArray, List.append_toArray, List.nil_append, List.cons_append]
  by_cases hbig : 16384 < l.length
  · have hs' : (16384 : Int) < ((bsQ l).size : Int) := by omega
    have hV : lexQ l = ([], 0, 9) := by unfold lexQ; rw [if_pos hbig]
    have HV := hide hV
    clear hV hbig hz
    generalize bsQ l = s at *
    gi_wp2
    obtain ⟨B, hB⟩ : ∃ B, w.heap.size = B := ⟨_, rfl⟩
    generalize hW0 : World.alloc (World.alloc (World.alloc w _) _) _ = W0
    have hr0 : Row W0 w.heap.size 23 #[.slice none 0 0] := by rw [← hW0]; exact ((Row.new _ _ _).alloc _).alloc _
    have hr1 : Row W0 (w.heap.size + 1) 3 #[.int .i64 0] := by
      rw [← hW0]; have := Row.new (w.alloc (.cells #[.slice none 0 0] 23)) 3 #[.int .i64 0]; simp only [World.size_alloc] at this; exact this.alloc _
    have hr2 : Row W0 (w.heap.size + 1 + 1) 24 #[.int .i64 9] := by
      rw [← hW0]; have := Row.new ((w.alloc (.cells #[.slice none 0 0] 23)).alloc (.cells #[.int .i64 0] 3)) 24 #[.int .i64 9]; simp only [World.size_alloc] at this; exact this
    refine ⟨.tuple #[.slice none 0 0, .int .i64 0, .int .i64 9], results_cell3 rfl _ _ ⟨w.heap.size, 0, none⟩ ⟨w.heap.size + 1, 0, none⟩ ⟨w.heap.size + 1 + 1, 0, none⟩ _ _ _ rfl rfl rfl (run_loadVar_one _ _ 23 _ _ (hr0.cell 0) Tryz.underlying23 rfl) (run_loadVar_one _ _ 3 _ _ (hr1.cell 0) Tryz.underlying3 rfl) (run_loadVar_one _ _ 24 _ _ (hr2.cell 0) Tryz.underlying24 rfl), ?_⟩
    refine ⟨_, by rw [HV.out]; rfl, by rw [HV.out]; exact World.ownsRow_nil _ _ _ _, ?_⟩
    rw [← hW0]
    exact (((Below.refl _ _).alloc (Nat.le_refl _) _).alloc (by simp) _).alloc (by simp; omega) _
  have hs' : ¬ (16384 : Int) < ((bsQ l).size : Int) := by omega
  have HV := hide (show lexQ l = lexF (wordsQ l) [] by unfold lexQ; rw [if_neg hbig])
  obtain ⟨R, hR⟩ : ∃ R, lexF (wordsQ l) [] = R := ⟨_, rfl⟩
  rw [hR] at HV
  have HR := hide hR
  have IT := hide (fun (bt : Nat) (w : World) (hb : Row w bt 9 #[.string (bsQ l)]) (hG : Gl w) => words_iter l (by omega) bt w hb hG)
  obtain ⟨xs, hxs⟩ : ∃ xs, wordsQ l = xs := ⟨_, rfl⟩
  rw [hxs] at IT HR
  clear hbig hR hxs hz
  generalize bsQ l = s at *
  gi_wp2_with (gi_at_call 28; refine (callsIn_wide.2 (words_any _ _)).mono ?_; rintro e w' ⟨rfl, rfl⟩)
  obtain ⟨B, hB⟩ : ∃ B, w.heap.size = B := ⟨_, rfl⟩
  rw [hB]
  generalize hW0 : World.alloc (World.alloc (World.alloc (World.alloc (World.alloc w _) _) _) _) _ = W0
  have hz0 : W0.heap.size = B + 5 := by rw [← hW0]; simp [hB]
  have hr0 : Row W0 B 23 #[.slice none 0 0] := by rw [← hW0, ← hB]; exact ((((Row.new _ _ _).alloc _).alloc _).alloc _).alloc _
  have hr1 : Row W0 (B + 1) 3 #[.int .i64 0] := by
    rw [← hW0, ← hB]; have := Row.new (w.alloc (.cells #[.slice none 0 0] 23)) 3 #[.int .i64 0]; simp only [World.size_alloc] at this; exact ((this.alloc _).alloc _).alloc _
  have hr2 : Row W0 (B + 2) 24 #[.int .i64 0] := by
    rw [← hW0, ← hB]; have := Row.new ((w.alloc (.cells #[.slice none 0 0] 23)).alloc (.cells #[.int .i64 0] 3)) 24 #[.int .i64 0]; simp only [World.size_alloc] at this; exact (this.alloc _).alloc _
  have hr3 : Row W0 (B + 3) 23 #[.slice none 0 0] := by
    rw [← hW0, ← hB]; have := Row.new (((w.alloc (.cells #[.slice none 0 0] 23)).alloc (.cells #[.int .i64 0] 3)).alloc (.cells #[.int .i64 0] 24)) 23 #[.slice none 0 0]; simp only [World.size_alloc] at this; exact this.alloc _
  have hr4 : Row W0 (B + 4) 9 #[.string s] := by
    rw [← hW0, ← hB]; have := Row.new ((((w.alloc (.cells #[.slice none 0 0] 23)).alloc (.cells #[.int .i64 0] 3)).alloc (.cells #[.int .i64 0] 24)).alloc (.cells #[.slice none 0 0] 23)) 9 #[.string s]; simp only [World.size_alloc] at this; exact this
  have hbl : Below B w W0 := by rw [← hW0]; exact (((((Below.refl _ _).alloc (by omega) _).alloc (by simp; omega) _).alloc (by simp; omega) _).alloc (by simp; omega) _).alloc (by simp; omega) _
  have hGW : Gl W0 := hG.below (by rw [hB]; exact hbl)
  have hGl := hG.lt
  rw [hB] at hGl
  have HBl := hide hbl
  have Hz0 := hide hz0
  have HGl := hide hGl
  have HwB := hide hB
  clear hW0 hG hB hbl
  refine wpIn_range2 (gf := 54) (lb := #[.pointer (some ⟨B + 4, 0, none⟩)]) rfl (enters_of Tryz.func54 (by kernel_rfl) rfl) (IT.out (B + 4) W0 hr4 hGW) (fun _ => rfl) (Same.refl _ _)
    (LexC B (.slice none 0 0)) (fun b hb e => by
      have h := HGl.out
      rcases hb with rfl | rfl | rfl
      · rcases e with e | e | e | e | e
        · omega
        · omega
        · omega
        · omega
        · simp [Value.ownBlock] at e
      · rcases e with e | e | e | e | e
        · omega
        · omega
        · omega
        · omega
        · simp [Value.ownBlock] at e
      · rcases e with e | e | e | e | e
        · omega
        · omega
        · omega
        · omega
        · simp [Value.ownBlock] at e)
    (fun b hb => by have h := HGl.out; rcases hb with rfl | rfl | rfl <;> omega)
    (fun b hb => by
      rcases hb with e | e | e | e | e
      · omega
      · omega
      · omega
      · omega
      · simp [Value.ownBlock] at e)
    (LexInv xs R B) (LexEnd R B)
    (fun k C W1 W2 h hs => by
      obtain ⟨v, out, rfl, h0, h1, h2, h3, h4, h5⟩ := h
      exact ⟨v, out, rfl, h0.same hs (.inl (by omega)), h1.same hs (.inl (by omega)), h2.same hs (.inl (by omega)), h3.same hs (.inl (by omega)), ownsRow_sameQ h4 (fun b hb => hs.block b (.inr (.inr (.inr (.inr (.inr hb)))))), h5⟩)
    (fun c k C W1 W2 h hs => by
      obtain ⟨hc, v, a, er, rfl, hv, h0, h1, h2, h5⟩ := h
      exact ⟨hc, v, a, er, rfl, hv, h0.same hs (.inl (by omega)), h1.same hs (.inl (by omega)), h2.same hs (.inl (by omega)), h5⟩)
    ⟨_, [], rfl, hr0, hr1, hr2, hr3, World.ownsRow_nil _ _ _ _, Nat.zero_le _, HR.out⟩ ?round ?done ?stop
  case round =>
    rintro lp k x C W hlp hlp2 hClp hx hinv hgr hsz
    obtain ⟨v, out, rfl, hR0, hR1, hR2, hR3, hown, hlen, hlex⟩ := hinv
    obtain ⟨a, kd, tx, sz, er⟩ := x
    have hdr : xs.drop k = (a, ⟨kd, tx, sz, er⟩) :: xs.drop (k + 1) := by
      obtain ⟨hk, he⟩ := List.getElem?_eq_some_iff.1 hx
      rw [List.drop_eq_getElem_cons hk, he]
    rw [hdr] at hlex
    simp only [lexF] at hlex
    have Hlex := hide hlex
    have HClp := hide hClp
    clear hx hdr hlex hClp
    obtain ⟨A, cap, rfl⟩ := own_slG hown
    obtain ⟨n, hn⟩ : ∃ n, out.length = n := ⟨_, rfl⟩
    rw [hn] at hlen
    have Hn := hide hn
    have hR3 : Row W (B + 3) 23 #[.slice A n cap] := by rw [← hn]; exact hR3
    have hown : W.ownsRow (B + 5) 33 3 (.slice A n cap) n (lxCells out) := by rw [← hn]; exact hown
    have hClp : ¬ LexC B (.slice A n cap) lp := by rw [← hn]; exact HClp.out
    have hgr : Grew (LexC B (.slice none 0 0)) W0 (LexC B (.slice A n cap)) W := by rw [← hn]; exact hgr
    rw [show LexC B (.slice A out.length cap) = LexC B (.slice A n cap) by rw [hn]]
    clear hn HClp
    simp only [wordV]
    gi_wp2
    refine ⟨(Keeps.refl _ _).alloc _, fun W2 hb => ?_⟩
    obtain ⟨X, hX⟩ : ∃ X, W.heap.size = X := ⟨_, rfl⟩
    rw [hX]
    have hlpB : B + 5 ≤ lp := by have := Hz0.out; omega
    have hXB : B + 5 ≤ X := by have := Hz0.out; omega
    have hvB : ∀ b, (Value.slice A n cap).ownBlock = some b → B + 5 ≤ b := fun b hb => (hown.lt b hb).1
    have hvX : ∀ b, (Value.slice A n cap).ownBlock = some b → b < X := fun b hb => by rw [← hX]; exact (hown.lt b hb).2
    have hvl : (Value.slice A n cap).ownBlock ≠ some lp := fun e => hClp (.inr (.inr (.inr (.inr e))))
    have hSX : Row W2 X 44 #[.int .i64 kd, .string (bsQ tx), .int .i64 0, .int .i64 (sz : Int), .int .i64 er] := by
      rw [← hX]; exact (Row.new W _ _).but hb (by omega)
    have hS0 : Row W2 B 23 #[.slice none 0 0] := (hR0.alloc _).but hb (by omega)
    have hS1 : Row W2 (B + 1) 3 #[.int .i64 0] := (hR1.alloc _).but hb (by omega)
    have hS2 : Row W2 (B + 2) 24 #[.int .i64 0] := (hR2.alloc _).but hb (by omega)
    have hS3 : Row W2 (B + 3) 23 #[.slice A n cap] := (hR3.alloc _).but hb (by omega)
    have hS4 : W2.ownsRow (B + 5) 33 3 (.slice A n cap) n (lxCells out) := ownsRow_sameQ (hown.alloc _) (fun b hb' => hb.block b (fun e => hvl (e ▸ hb')))
    have hz2 : W2.heap.size = X + 1 := by rw [hb.size, World.size_alloc, hX]
    have hgr2 : Grew (LexC B (.slice A n cap)) W (LexC B (.slice A n cap)) W2 := fun b hb' => ⟨.inl hb', by have := (hgr b hb').2; omega⟩
    have hc3 : W2.cell? ⟨B + 3, 0, none⟩ = some (.slice A n cap) := hS3.cell 0
    have hc0 : W2.cell? ⟨B, 0, none⟩ = some (.slice none 0 0) := hS0.cell 0
    have hc1 : W2.cell? ⟨B + 1, 0, none⟩ = some (.int .i64 0) := hS1.cell 0
    have hc2 : W2.cell? ⟨B + 2, 0, none⟩ = some (.int .i64 0) := hS2.cell 0
    have hx0 : W2.cell? ⟨X, 0, none⟩ = some (.int .i64 kd) := hSX.cell 0
    have hx1 : W2.cell? ⟨X, 1, none⟩ = some (.string (bsQ tx)) := hSX.cell 1
    have hx2 : W2.cell? ⟨X, 2, none⟩ = some (.int .i64 0) := hSX.cell 2
    have hx4 : W2.cell? ⟨X, 4, none⟩ = some (.int .i64 er) := hSX.cell 4
    have hf0 := hS0.frozen 0
    have hf1 := hS1.frozen 0
    have hf2 := hS2.frozen 0
    have hf3 := hS3.frozen 0
    have hfx2 := hSX.frozen 2
    have hfx4 := hSX.frozen 4
    have HS0 := hide hS0
    have HS1 := hide hS1
    have HS2 := hide hS2
    have HS3 := hide hS3
    have HS4 := hide hS4
    have HSX := hide hSX
    have HvB := hide hvB
    have HvX := hide hvX
    have Hgr := hide hgr
    clear hb hS0 hS1 hS2 hS3 hS4 hSX hvB hvX hR0 hR1 hR2 hR3 hown hgr
    by_cases her : er = 0
    rotate_left
    · have e1 : (er == 0) = false := beq_eq_false_iff_ne.2 her
      have e2 : (er != 0) = true := by rw [bne, e1]; rfl
      have HRv := hide (show R = ([], a, er) by rw [← Hlex.out, if_neg her])
      clear her
      gi_wp2_with fail
      gi_region
      all_goals
        gi_wp2_with fail
        exact lex_end (Keeps.refl _ W2) hgr2 HS0.out HS1.out HS2.out HvB.out HRv.out
    subst her
    by_cases hfull : n = 512
    · subst hfull
      have HRv := hide (show R = ([], a, 9) by rw [← Hlex.out, if_pos rfl, if_pos Hn.out])
      have hkx : Keeps (fun b => LexC B (.slice A 512 cap) b ∨ W.heap.size ≤ b) W2 (W2.setCell ⟨X, 4, none⟩ (.int .i64 9)) := (Keeps.refl _ W2).set (.inl (.inr (Nat.le_of_eq hX))) _ _
      have Hgx := hide (hgr2.later (W2 := W2.setCell ⟨X, 4, none⟩ (.int .i64 9)) (by simp [World.setCell]))
      have HX0 := hide (HS0.out.off (b := X) (by omega) 4 (.int .i64 9))
      have HX1 := hide (HS1.out.off (b := X) (by omega) 4 (.int .i64 9))
      have HX2 := hide (HS2.out.off (b := X) (by omega) 4 (.int .i64 9))
      have Hkx := hide hkx
      clear hkx
      gi_wp2_with fail
      gi_region
      all_goals
        gi_wp2_with fail
        exact lex_end Hkx.out Hgx.out HX0.out HX1.out HX2.out HvB.out HRv.out
    have hn1 : ((n : Int) == 512) = false := beq_eq_false_iff_ne.2 (by omega)
    have HRv := hide (show lexF (xs.drop (k + 1)) (out ++ [⟨kd, tx, a⟩]) = R by rw [← Hlex.out, if_pos rfl, if_neg (by rw [Hn.out]; exact hfull)])
    have hnl : n ≤ 511 := by omega
    clear hfull
    have hown2 : (W2.setCell ⟨X, 2, none⟩ (.int .i64 (a : Int))).ownsRow (B + 5) 33 3 (.slice A n cap) n (lxCells out) := ownsRow_sameQ HS4.out (fun b hb => Below.heap_setCell _ ⟨X, 2, none⟩ _ b (by have := HvX.out b hb; show b ≠ X; omega))
    have hz3 : (W2.setCell ⟨X, 2, none⟩ (.int .i64 (a : Int))).heap.size = X + 1 := by simpa [World.setCell] using hz2
    have c1 := hown2.alloc (.cells #[.int .i64 kd, .string (bsQ tx), .int .i64 (a : Int)] 33)
    have c2 : ∀ j u, [Value.int .i64 kd, .string (bsQ tx), .int .i64 (a : Int)][j]? = some u → ((W2.setCell ⟨X, 2, none⟩ (.int .i64 (a : Int))).alloc (.cells #[.int .i64 kd, .string (bsQ tx), .int .i64 (a : Int)] 33)).cell? ((⟨X + 1, 0, none⟩ : Addr).add j) = some u := cells_new _ _ hz3.symm
    have c3 : ∀ u ∈ [Value.int .i64 kd, .string (bsQ tx), .int .i64 (a : Int)], u.oneCell' = true := by intro u hu; simp only [List.mem_cons, List.not_mem_nil, or_false] at hu; rcases hu with rfl | rfl | rfl <;> rfl
    have c4 : B + 5 ≤ ((W2.setCell ⟨X, 2, none⟩ (.int .i64 (a : Int))).alloc (.cells #[.int .i64 kd, .string (bsQ tx), .int .i64 (a : Int)] 33)).heap.size := by rw [World.size_alloc, hz3]; omega
    have C1 := hide c1
    have C2 := hide c2
    have C3 := hide c3
    have C4 := hide c4
    clear c1 c2 c3 c4
    have c5 : n + 1 ≤ maxLen := by unfold maxLen; omega
    have c6 : (n + 1) * 32 ≤ 140737488355328 := by omega
    gi_wp2_with (gi_at_builtin; refine wpListIn_append_at _ rfl _ _ 23 rfl (B + 5) 33 infoLx Tryz.underlying23 rfl (by decide) (.slice A n cap) n (lxCells out) rfl C1.out ⟨X + 1, 0, none⟩ 1 1 [.int .i64 kd, .string (bsQ tx), .int .i64 (a : Int)] rfl rfl C2.out C3.out c5 c6 C4.out ?_; intro v1 w1 hown1 hgrow1 _ hat1; obtain ⟨A1, cap1, rfl⟩ := own_slG hown1; have hT3 := lex_row hgrow1 HS3.out hXB HvB.out (by omega); have hc3' := hT3.cell 0; have hf3' := hT3.frozen 0; have HT3 := hide hT3; have HT0 := hide (lex_row hgrow1 HS0.out hXB HvB.out (by omega)); have HT1 := hide (lex_row hgrow1 HS1.out hXB HvB.out (by omega)); have HT2 := hide (lex_row hgrow1 HS2.out hXB HvB.out (by omega)); have HO1 := hide hown1; have Hg1 := hide hgrow1; have Hat := hide hat1; clear hT3 hown1 hgrow1 hat1)
    have hgz := Hg1.out.size
    rw [World.size_alloc, hz3] at hgz
    have hgX : ∀ b, (Value.slice A1 (n + 1) cap1).ownBlock = some b → (LexC B (.slice A n cap) b ∨ W.heap.size ≤ b) := fun b hb => by
      rcases Hat.out with h | h
      · exact .inl (.inr (.inr (.inr (.inr (h ▸ hb)))))
      · rw [h] at hb
        rw [World.size_alloc, hz3] at hb
        exact .inr (by have := Option.some.inj hb; omega)
    refine ⟨LexC B (.slice A1 (n + 1) cap1), ?_, ?_, _, out ++ [⟨kd, tx, a⟩], rfl, HT0.out.off (by omega) _ _, HT1.out.off (by omega) _ _, HT2.out.off (by omega) _ _, HT3.out.set_ 0 _, ?_, ?_, HRv.out⟩
    · exact ((((Keeps.refl (fun b => LexC B (.slice A n cap) b ∨ W.heap.size ≤ b) W2).set (.inl (.inr (Nat.le_of_eq hX))) _ _).alloc _).grown Hg1.out (fun b hb => .inl (.inl (.inr (.inr (.inr (.inr hb))))))).set (.inl (.inl (.inr (.inr (.inr (.inl rfl)))))) _ _
    · intro b hb
      have hsz' : (w1.setCell ⟨B + 1 + 1 + 1, 0, none⟩ (.slice A1 (n + 1) cap1)).heap.size = w1.heap.size := by simp [World.setCell]
      rw [hsz']
      rcases hb with rfl | rfl | rfl | rfl | hb
      · exact ⟨.inl (.inl rfl), by omega⟩
      · exact ⟨.inl (.inr (.inl rfl)), by omega⟩
      · exact ⟨.inl (.inr (.inr (.inl rfl))), by omega⟩
      · exact ⟨.inl (.inr (.inr (.inr (.inl rfl)))), by omega⟩
      · exact ⟨hgX b hb, (HO1.out.lt b hb).2⟩
    · rw [List.length_append, Hn.out, lxCells_snoc]
      exact ownsRow_sameQ HO1.out (fun b hb => Below.heap_setCell _ ⟨B + 1 + 1 + 1, 0, none⟩ _ b (by have := (HO1.out.lt b hb).1; show b ≠ B + 1 + 1 + 1; omega))
    · rw [List.length_append, Hn.out]; show n + 1 ≤ 512; omega
  case done =>
    rintro D C W hD hCD hK ⟨v, out, rfl, hR0, hR1, hR2, hR3, hown, hlen, hlex⟩ hkp hgr
    obtain ⟨A, cap, rfl⟩ := own_slG hown
    have hlen0 : (0 : Int) ≤ (out.length : Int) := by omega
    obtain ⟨n, hn⟩ : ∃ n, out.length = n := ⟨_, rfl⟩
    rw [hn] at hR3 hown
    have Hn := hide hn
    clear hn
    have hc0 : W.cell? ⟨B, 0, none⟩ = some (.slice none 0 0) := hR0.cell 0
    have hc1 : W.cell? ⟨B + 1, 0, none⟩ = some (.int .i64 0) := hR1.cell 0
    have hc2 : W.cell? ⟨B + 2, 0, none⟩ = some (.int .i64 0) := hR2.cell 0
    have hc3 : W.cell? ⟨B + 3, 0, none⟩ = some (.slice A n cap) := hR3.cell 0
    have hf0 := hR0.frozen 0
    have hf1 := hR1.frozen 0
    have hf2 := hR2.frozen 0
    have hRv : R = (out, 0, 0) := by rw [← hlex, List.drop_eq_nil_of_le (Nat.le_refl _)]; rfl
    have hv5 : ∀ b, (Value.slice A n cap).ownBlock = some b → B + 5 ≤ b := fun b hb => (hown.lt b hb).1
    have T0 : Row (((W.setCell ⟨B, 0, none⟩ (.slice A n cap)).setCell ⟨B + 1, 0, none⟩ (.int .i64 0)).setCell ⟨B + 2, 0, none⟩ (.int .i64 0)) B 23 #[.slice A n cap] := ((hR0.set_ 0 (.slice A n cap)).off (by omega) _ _).off (by omega) _ _
    have T1 : Row (((W.setCell ⟨B, 0, none⟩ (.slice A n cap)).setCell ⟨B + 1, 0, none⟩ (.int .i64 0)).setCell ⟨B + 2, 0, none⟩ (.int .i64 0)) (B + 1) 3 #[.int .i64 0] := ((hR1.off (by omega) _ _).set_ 0 (.int .i64 0)).off (by omega) _ _
    have T2 : Row (((W.setCell ⟨B, 0, none⟩ (.slice A n cap)).setCell ⟨B + 1, 0, none⟩ (.int .i64 0)).setCell ⟨B + 2, 0, none⟩ (.int .i64 0)) (B + 2) 24 #[.int .i64 0] := ((hR2.off (by omega) _ _).off (by omega) _ _).set_ 0 (.int .i64 0)
    have hKs : (((W.setCell ⟨B, 0, none⟩ (.slice A n cap)).setCell ⟨B + 1, 0, none⟩ (.int .i64 0)).setCell ⟨B + 2, 0, none⟩ (.int .i64 0)).heap[D]? = some (.deferred (some [])) :=
      (Below.heap_setCell _ ⟨B + 2, 0, none⟩ _ D (by show D ≠ B + 2; omega)).trans ((Below.heap_setCell _ ⟨B + 1, 0, none⟩ _ D (by show D ≠ B + 1; omega)).trans ((Below.heap_setCell _ ⟨B, 0, none⟩ _ D (by show D ≠ B; omega)).trans hK))
    have hownS : (((W.setCell ⟨B, 0, none⟩ (.slice A n cap)).setCell ⟨B + 1, 0, none⟩ (.int .i64 0)).setCell ⟨B + 2, 0, none⟩ (.int .i64 0)).ownsRow (B + 5) 33 3 (.slice A n cap) n (lxCells out) :=
      ownsRow_sameQ hown (fun b hb => by
        have h5 := hv5 b hb
        exact (Below.heap_setCell _ ⟨B + 2, 0, none⟩ _ b (by show b ≠ B + 2; omega)).trans ((Below.heap_setCell _ ⟨B + 1, 0, none⟩ _ b (by show b ≠ B + 1; omega)).trans (Below.heap_setCell _ ⟨B, 0, none⟩ _ b (by show b ≠ B; omega))))
    have hbS : Below B w (((W.setCell ⟨B, 0, none⟩ (.slice A n cap)).setCell ⟨B + 1, 0, none⟩ (.int .i64 0)).setCell ⟨B + 2, 0, none⟩ (.int .i64 0)) :=
      (((HBl.out.trans (hkp.below (fun b hb => by
        rcases hb with e | e | e | e | e
        · omega
        · omega
        · omega
        · omega
        · simp [Value.ownBlock] at e) (by omega))).setCell (p := ⟨B, 0, none⟩) (Nat.le_refl _) _).setCell (p := ⟨B + 1, 0, none⟩) (by show B ≤ B + 1; omega) _).setCell (p := ⟨B + 2, 0, none⟩) (by show B ≤ B + 2; omega) _
    have HT0 := hide T0
    have HT1 := hide T1
    have HT2 := hide T2
    have HKs := hide hKs
    have HownS := hide hownS
    have HbS := hide hbS
    have HRv := hide hRv
    have Hv5 := hide hv5
    clear T0 T1 T2 hKs hownS hbS hRv hv5 hown hlex
    gi_wp2
    refine bodyPostM_mark HKs.out (v := .tuple #[.slice A n cap, .int .i64 0, .int .i64 0]) (results_cell3 rfl _ _ ⟨B, 0, none⟩ ⟨B + 1, 0, none⟩ ⟨B + 2, 0, none⟩ _ _ _ rfl rfl rfl (run_loadVar_one _ _ 23 _ _ ((HT0.out.but (But.putObj _ D _) (by omega)).cell 0) Tryz.underlying23 rfl) (run_loadVar_one _ _ 3 _ _ ((HT1.out.but (But.putObj _ D _) (by omega)).cell 0) Tryz.underlying3 rfl) (run_loadVar_one _ _ 24 _ _ ((HT2.out.but (But.putObj _ D _) (by omega)).cell 0) Tryz.underlying24 rfl)) ?_
    refine ⟨_, by rw [HV.out, HRv.out]; rfl, ?_, ?_⟩
    · rw [HV.out, HRv.out, HwB.out]
      show World.ownsRow _ _ _ _ _ out.length _
      rw [Hn.out]
      exact ownsRow_baseQ (ownsRow_sameQ HownS.out (fun b hb => World.putObj_heap_other (fun e => hCD (.inr (.inr (.inr (.inr (by rw [Hn.out]; exact e ▸ hb)))))))) (by omega)
    · rw [HwB.out]; exact HbS.out.trans (But_below (But.putObj _ D _) (by omega))
  case stop =>
    rintro D c k C W hD hCD hK hk ⟨rfl, v, a, er, rfl, hv, hR0, hR1, hR2, hRR⟩ hkp hgr
    have hc0 : (W.putObj D (.deferred none)).cell? ⟨B, 0, none⟩ = some (.slice none 0 0) := (hR0.but (But.putObj W D _) (by omega)).cell 0
    have hc1 : (W.putObj D (.deferred none)).cell? ⟨B + 1, 0, none⟩ = some (.int .i64 (a : Int)) := (hR1.but (But.putObj W D _) (by omega)).cell 0
    have hc2 : (W.putObj D (.deferred none)).cell? ⟨B + 2, 0, none⟩ = some (.int .i64 er) := (hR2.but (But.putObj W D _) (by omega)).cell 0
    gi_wp2
    refine bodyPostM_mark hK (v := .tuple #[.slice none 0 0, .int .i64 (a : Int), .int .i64 er]) (results_cell3 rfl _ _ ⟨B, 0, none⟩ ⟨B + 1, 0, none⟩ ⟨B + 2, 0, none⟩ _ _ _ rfl rfl rfl (run_loadVar_one _ _ 23 _ _ hc0 Tryz.underlying23 rfl) (run_loadVar_one _ _ 3 _ _ hc1 Tryz.underlying3 rfl) (run_loadVar_one _ _ 24 _ _ hc2 Tryz.underlying24 rfl)) ?_
    refine ⟨_, by rw [HV.out, hRR], by rw [HV.out, hRR]; exact World.ownsRow_nil _ _ _ _, ?_⟩
    rw [HwB.out]
    exact HBl.out.trans (hkp.putObj (.inr hD) _ |>.below (fun b hb => by
      rcases hb with e | e | e | e | e
      · omega
      · omega
      · omega
      · omega
      · simp [Value.ownBlock] at e) (by omega))
end Go.Proofs.YtjlpekjfmgcbdaaGreatDoor

/- Slices of lexemes; contract of the reference's Alike; the examples of the chapter. -/
set_option linter.unusedVariables false
set_option linter.unusedSimpArgs false
namespace Go.Proofs.YtjlpekjfmgcbdaaGreatDoor
open Go.RowKit Go.Shelf
/-- the slice at A holds lexemes -/
def LxSl (W : World) (A : Option Addr) (xs : List Lx) : Prop :=
  0 < xs.length → ∃ b off, A = some ⟨b, off, none⟩ ∧ ∀ i (h : i < xs.length), W.cell? ⟨b, off + i * 3, none⟩ = some (.int .i64 xs[i].kind) ∧ W.cell? ⟨b, off + i * 3 + 1, none⟩ = some (.string (bsQ xs[i].text)) ∧ W.cell? ⟨b, off + i * 3 + 2, none⟩ = some (.int .i64 (xs[i].at0 : Int))
theorem LxSl.below {W W' : World} {A : Option Addr} {xs : List Lx} (h : LxSl W A xs) (hb : Below W.heap.size W W') : LxSl W' A xs := by
  intro hp
  obtain ⟨b, off, rfl, hat⟩ := h hp
  have hbz : b < W.heap.size := World.block_lt_of_cell? W _ (hat 0 hp).1
  refine ⟨b, off, rfl, fun i hi => ?_⟩
  obtain ⟨h1, h2, h3⟩ := hat i hi
  exact ⟨(hb.cell (p := ⟨b, _, none⟩) hbz).trans h1, (hb.cell (p := ⟨b, _, none⟩) hbz).trans h2, (hb.cell (p := ⟨b, _, none⟩) hbz).trans h3⟩
/-- in whatever later world -/
theorem LxSl.at {W : World} {A : Option Addr} {xs : List Lx} (h : LxSl W A xs) {i : Nat} (hi : i < xs.length) :
    ∃ b off, A = some ⟨b, off, none⟩ ∧ b < W.heap.size ∧ ∀ W', Below W.heap.size W W' → W'.cell? ⟨b, off + i * 3, none⟩ = some (.int .i64 xs[i].kind) ∧ W'.cell? ⟨b, off + i * 3 + 1, none⟩ = some (.string (bsQ xs[i].text)) ∧ W'.cell? ⟨b, off + i * 3 + 2, none⟩ = some (.int .i64 (xs[i].at0 : Int)) := by
  obtain ⟨b, off, rfl, hat⟩ := id h (by omega)
  have hbz : b < W.heap.size := World.block_lt_of_cell? W _ (hat i hi).1
  refine ⟨b, off, rfl, hbz, fun W' hb => ?_⟩
  obtain ⟨h1, h2, h3⟩ := hat i hi
  exact ⟨(hb.cell (p := ⟨b, _, none⟩) hbz).trans h1, (hb.cell (p := ⟨b, _, none⟩) hbz).trans h2, (hb.cell (p := ⟨b, _, none⟩) hbz).trans h3⟩
theorem lxCells_get : ∀ (out : List Lx) (i : Nat) (h : i < out.length), (lxCells out)[i * 3]? = some (.int .i64 out[i].kind) ∧ (lxCells out)[i * 3 + 1]? = some (.string (bsQ out[i].text)) ∧ (lxCells out)[i * 3 + 2]? = some (.int .i64 (out[i].at0 : Int))
  | x :: out, 0, _ => ⟨rfl, rfl, rfl⟩
  | x :: out, i + 1, h => by
    have := lxCells_get out i (by simpa using h)
    rw [show (i + 1) * 3 = i * 3 + 3 by omega]
    exact this
theorem lxCells_len (out : List Lx) : (lxCells out).length = out.length * 3 := by
  induction out with
  | nil => rfl
  | cons x t ih =>
    show (lxCells t).length + 3 = _
    rw [ih, List.length_cons]; omega
theorem lx_own {W : World} {base : Nat} {v : Value} {out : List Lx} (h : W.ownsRow base 33 3 v out.length (lxCells out)) :
    ∃ A cap, v = .slice A out.length cap ∧ LxSl W A out := by
  rcases Nat.eq_zero_or_pos out.length with h0 | h0
  · obtain ⟨A, cap, hv⟩ := own_slG h
    exact ⟨A, cap, hv, fun hp => absurd hp (by omega)⟩
  · obtain ⟨g, cap, rfl, _⟩ := World.ownsRow.form h h0
    refine ⟨_, cap, rfl, fun hp => ⟨g, 0, rfl, fun i hi => ?_⟩⟩
    obtain ⟨h1, h2, h3⟩ := lxCells_get out i hi
    have hc := fun j (hj : j < out.length * 3) => World.ownsRow.cellAt h j hj
    refine ⟨?_, ?_, ?_⟩
    · rw [Nat.zero_add, hc (i * 3) (by omega)]; exact h1
    · rw [Nat.zero_add, hc (i * 3 + 1) (by omega)]; exact h2
    · rw [Nat.zero_add, hc (i * 3 + 2) (by omega)]; exact h3
theorem lx_new {W : World} {g : Nat} {t : TypeId} {xs : List Lx} (h : Row W g t (lxCells xs).toArray) : LxSl W (some ⟨g, 0, none⟩) xs := fun hp => by
  refine ⟨g, 0, rfl, fun i hi => ?_⟩
  obtain ⟨h1, h2, h3⟩ := lxCells_get xs i hi
  refine ⟨?_, ?_, ?_⟩
  · rw [Nat.zero_add, h.cell, List.getElem?_toArray]; exact h1
  · rw [Nat.zero_add, h.cell, List.getElem?_toArray]; exact h2
  · rw [Nat.zero_add, h.cell, List.getElem?_toArray]; exact h3
def alikeB : List Lx → List Lx → Bool
  | [], [] => true
  | x :: xs, y :: ys => (x.kind == y.kind && x.text == y.text) && alikeB xs ys
  | _, _ => false
theorem alikeB_len : ∀ {xs ys : List Lx}, alikeB xs ys = true → xs.length = ys.length
  | [], [], _ => rfl
  | [], _ :: _, h => by cases h
  | _ :: _, [], h => by cases h
  | x :: xs, y :: ys, h => by
    simp only [alikeB, Bool.and_eq_true] at h
    rw [List.length_cons, List.length_cons, alikeB_len h.2]
theorem bsQ_inj {a b : List UInt8} (h : bsQ a = bsQ b) : a = b := by
  have := congrArg (fun s : ByteArray => s.data.toList) h
  exact this
theorem bsQ_beq (a b : List UInt8) : ((bsQ a).toList == (bsQ b).toList) = (a == b) := by
  rw [Lib.toList_data, Lib.toList_data, bsQ_list, bsQ_list]
set_option maxRecDepth 20000 in
set_option maxHeartbeats 4000000 in
theorem Alike_any (A A' : Option Addr) (cap cap' : Nat) (xs ys : List Lx) (w : World) (hx : LxSl w A xs) (hy : LxSl w A' ys) (hl : xs.length ≤ 1000000) (hl' : ys.length ≤ 1000000) :
    Calls Tryz.prog 21 #[.slice A xs.length cap, .slice A' ys.length cap'] w fun e w' => e = .returned (.bool (alikeB xs ys)) ∧ Below w.heap.size w w' := by
  by_cases hne : xs.length = ys.length
  rotate_left
  · have HV := hide (show alikeB xs ys = false from Bool.eq_false_iff.2 fun h => hne (alikeB_len h))
    have e1 : ((xs.length : Int) == (ys.length : Int)) = false := beq_eq_false_iff_ne.2 (by omega)
    have e2 : ((xs.length : Int) != (ys.length : Int)) = true := by rw [bne, e1]; rfl
    clear hne
    go_enter Tryz.func21, Tryz.ntmps21
    go_wp2
    go_ret
    exact ⟨retQ_b HV.out, Below.refl _ _⟩
  obtain ⟨n, hn⟩ : ∃ n, xs.length = n := ⟨_, rfl⟩
  have hn2 : ys.length = n := by omega
  rw [hn, hn2]
  have Hx := hide hx
  have Hy := hide hy
  obtain ⟨R, hR⟩ : ∃ R, alikeB xs ys = R := ⟨_, rfl⟩
  have HR := hide hR
  rw [hR]
  have Hn := hide (And.intro hn hn2)
  have hnl : n ≤ 1000000 := by omega
  have e1 : ((n : Int) == (n : Int)) = true := beq_self_eq_true _
  clear hx hy hR hn hn2 hne hl hl'
  go_enter Tryz.func21, Tryz.ntmps21
  go_wp2_with fail
  go_loopw [5] (fun v wr => ∃ i : Nat, v = .int .i64 (i : Int) ∧ i ≤ n ∧ alikeB (xs.drop i) (ys.drop i) = R ∧ Below w.heap.size w wr) (fun v _ => n - (intOf v).toNat)
  case atStart => exact ⟨0, rfl, Nat.zero_le _, HR.out, Below.refl _ _⟩
  case round =>
    obtain ⟨i, rfl, hi, hRi, hb⟩ := hrel
    have Hb := hide hb
    by_cases hlt : i < n
    · have hi' : (i : Int) < (n : Int) := by omega
      have hi0 : (0 : Int) ≤ (i : Int) := by omega
      have hix : i < xs.length := by rw [Hn.out.1]; exact hlt
      have hiy : i < ys.length := by rw [Hn.out.2]; exact hlt
      obtain ⟨bA, oA, rfl, hzA, hcA⟩ := Hx.out.at hix
      obtain ⟨bB, oB, rfl, hzB, hcB⟩ := Hy.out.at hiy
      obtain ⟨ca0, ca1, _⟩ := hcA wr hb
      obtain ⟨cb0, cb1, _⟩ := hcB wr hb
      rw [List.drop_eq_getElem_cons hix, List.drop_eq_getElem_cons hiy] at hRi
      obtain ⟨x, hx⟩ : ∃ x, xs[i]'hix = x := ⟨_, rfl⟩
      obtain ⟨y, hy⟩ : ∃ y, ys[i]'hiy = y := ⟨_, rfl⟩
      rw [hx] at hRi ca0 ca1
      rw [hy] at hRi cb0 cb1
      simp only [alikeB] at hRi
      have hbq := bsQ_beq x.text y.text
      clear hx hy hcA hcB hb
      have hw : IntKind.i64.wrap ((i : Int) + 1) = (i : Int) + 1 := IntWalk.i64_in _ (by omega)
      cases hk : (x.kind == y.kind) with
      | false =>
        have k2 : (x.kind != y.kind) = true := by rw [bne, hk]; rfl
        have HRf := hide (show false = R by rw [← hRi, hk]; rfl)
        clear hRi hbq
        go_wp2_with fail
        go_quiet (fail)
        go_wp2
        go_ret
        exact ⟨retQ_b HRf.out.symm, Below_drewN Hb.out _⟩
      | true =>
        have k2 : (x.kind != y.kind) = false := by rw [bne, hk]; rfl
        rw [hk, Bool.true_and] at hRi
        cases ht : (x.text == y.text) with
        | false =>
          rw [ht] at hbq hRi
          have HRf := hide (show false = R by rw [← hRi]; rfl)
          have k4 : ((bsQ x.text).toList != (bsQ y.text).toList) = true := by rw [bne, hbq]; rfl
          generalize bsQ x.text = sx at *
          generalize bsQ y.text = sy at *
          clear hRi ht
          go_wp2_with fail
          go_quiet (fail)
          go_wp2
          go_ret
          exact ⟨retQ_b HRf.out.symm, Below_drewN Hb.out _⟩
        | true =>
          rw [ht] at hbq hRi
          rw [Bool.true_and] at hRi
          have HRf := hide hRi
          have k4 : ((bsQ x.text).toList != (bsQ y.text).toList) = false := by rw [bne, hbq]; rfl
          generalize bsQ x.text = sx at *
          generalize bsQ y.text = sy at *
          clear hRi ht
          go_wp2_with fail
          go_quiet (fail)
          go_wp2
          go_roundw
          case rel => exact ⟨i + 1, by go_num, by omega, HRf.out, Below_drewN Hb.out _⟩
          case measure => simp [intOf]; omega
    · have hi' : ¬ (i : Int) < (n : Int) := by omega
      have HRt := hide (show true = R by rw [← hRi, List.drop_eq_nil_of_le (by rw [Hn.out.1]; omega), List.drop_eq_nil_of_le (by rw [Hn.out.2]; omega)]; rfl)
      clear hRi hb
      go_wp2
      go_ret
      exact ⟨retQ_b HRt.out.symm, Hb.out⟩
theorem lex1 : lexQ [116, 111, 112, 46, 97, 61, 61, 52, 39, 104, 65, 32, 35, 32, 120] = ([⟨0, [116, 111, 112, 46, 97], 0⟩, ⟨6, [61, 61], 5⟩, ⟨3, [49, 48, 49, 48], 7⟩], 0, 0) := by kernel_rfl
theorem lex2 : lexQ [53, 110, 115, 45, 62, 114, 105, 115, 101] = ([⟨2, [53, 110, 115], 0⟩, ⟨6, [45, 62], 3⟩, ⟨0, [114, 105, 115, 101], 5⟩], 0, 0) := by kernel_rfl
theorem lex3 : lexQ [53, 110, 120] = ([], 0, 3) := by kernel_rfl
end Go.Proofs.YtjlpekjfmgcbdaaGreatDoor

/- The examples of chapter 48 hold. -/
set_option linter.unusedVariables false
set_option linter.unusedSimpArgs false
namespace Go.Proofs.YtjlpekjfmgcbdaaGreatDoor
open Go.RowKit Go.Shelf
def ex1 : List Lx := [⟨0, [116, 111, 112, 46, 97], 0⟩, ⟨6, [61, 61], 5⟩, ⟨3, [49, 48, 49, 48], 7⟩]
def ex1b : List Lx := [⟨0, [116, 111, 112, 46, 97], 0⟩, ⟨6, [61, 61], 0⟩, ⟨3, [49, 48, 49, 48], 0⟩]
def ex2 : List Lx := [⟨2, [53, 110, 115], 0⟩, ⟨6, [45, 62], 3⟩, ⟨0, [114, 105, 115, 101], 5⟩]
/-- Lex of a text whose lexemes are known -/
theorem Lex_at (l : List UInt8) (hl : l.length ≤ 1000000) (out : List Lx) (a : Nat) (er : Int) (h : lexQ l = (out, a, er)) (w : World) (hG : Gl w) :
    Calls Tryz.prog 10 #[.string (bsQ l)] w fun e w' => ∃ A cap, e = .returned (.tuple #[.slice A out.length cap, .int .i64 (a : Int), .int .i64 er]) ∧ LxSl w' A out ∧ Below w.heap.size w w' :=
  (Lex_any l hl w hG).mono (by
    rintro e w' ⟨v, rfl, ho, hb⟩
    rw [h] at ho
    obtain ⟨A, cap, rfl, hs⟩ := lx_own (out := out) ho
    exact ⟨A, cap, by rw [h], hs, hb⟩)
set_option maxRecDepth 20000 in
set_option maxHeartbeats 4000000 in
theorem awakeQ_any (w : World) (hG : Gl w) : Calls Tryz.prog 9 #[] w fun e w' => e = .returned (.bool true) ∧ Below w.heap.size w w' := by
  have L1 := hide (fun (W : World) (hg : Gl W) => show Calls Tryz.prog 10 #[.string ⟨#[116, 111, 112, 46, 97, 61, 61, 52, 39, 104, 65, 32, 35, 32, 120]⟩] W fun e w' => ∃ A cap, e = .returned (.tuple #[.slice A 3 cap, .int .i64 0, .int .i64 0]) ∧ LxSl w' A ex1 ∧ Below W.heap.size W w' from Lex_at _ (by decide) _ _ _ lex1 W hg)
  have L2 := hide (fun (W : World) (hg : Gl W) => show Calls Tryz.prog 10 #[.string ⟨#[53, 110, 115, 45, 62, 114, 105, 115, 101]⟩] W fun e w' => ∃ A cap, e = .returned (.tuple #[.slice A 3 cap, .int .i64 0, .int .i64 0]) ∧ LxSl w' A ex2 ∧ Below W.heap.size W w' from Lex_at _ (by decide) _ _ _ lex2 W hg)
  have L3 := hide (fun (W : World) (hg : Gl W) => show Calls Tryz.prog 10 #[.string ⟨#[53, 110, 120]⟩] W fun e w' => ∃ A cap, e = .returned (.tuple #[.slice A 0 cap, .int .i64 0, .int .i64 3]) ∧ LxSl w' A [] ∧ Below W.heap.size W w' from Lex_at _ (by decide) _ _ _ lex3 W hg)
  have AK := hide (fun (A A' : Option Addr) (cap cap' : Nat) (W : World) (hx : LxSl W A ex1) (hy : LxSl W A' ex1b) => show Calls Tryz.prog 21 #[.slice A 3 cap, .slice A' 3 cap'] W fun e w' => e = .returned (.bool true) ∧ Below W.heap.size W w' from Alike_any A A' cap cap' ex1 ex1b W hx hy (by decide) (by decide))
  have HG := hide hG
  clear hG
  go_enter Tryz.func9, Tryz.ntmps9
  go_wp2_with fail
  refine (L1.out _ HG.out).mono ?_
  rintro e w1 ⟨A1, cap1, rfl, hs1, hb1⟩
  have B1 := hide hb1
  have S1 := hide hs1
  have G1 := hide (HG.out.below hb1)
  clear hb1 hs1
  go_wp2_with fail
  refine (L2.out _ G1.out).mono ?_
  rintro e w2 ⟨A2, cap2, rfl, hs2, hb2⟩
  have B2 := hide (B1.out.trans (hb2.mono B1.out.size))
  have S12 := hide (S1.out.below hb2)
  have S2 := hide hs2
  have G2 := hide (G1.out.below hb2)
  clear hb2 hs2
  go_wp2_with fail
  refine (L3.out _ G2.out).mono ?_
  rintro e w3 ⟨A3, cap3, rfl, hs3, hb3⟩
  have B3 := hide (B2.out.trans (hb3.mono B2.out.size))
  have S13 := hide (S12.out.below hb3)
  have S23 := hide (S2.out.below hb3)
  clear hb3 hs3
  go_wp2_with fail
  have hb4 : Below w3.heap.size w3 (w3.alloc (.cells (lxCells ex1b).toArray 33)) := (Below.refl _ _).alloc (Nat.le_refl _) _
  have S14 := hide (S13.out.below hb4)
  have S24 := hide (S23.out.below hb4)
  have B4 := hide (B3.out.trans (hb4.mono B3.out.size))
  clear hb4
  refine (AK.out A1 (some ⟨w3.heap.size, 0, none⟩) cap1 3 (w3.alloc (.cells (lxCells ex1b).toArray 33)) S14.out (lx_new (Row.new _ _ _))).mono ?_
  rintro e w5 ⟨rfl, hb5⟩
  have S25 := S24.out.below hb5
  have B5 := hide (B4.out.trans (hb5.mono B4.out.size))
  clear hb5
  obtain ⟨bm, om, rfl, hat⟩ := S25 (by decide)
  have m0 : w5.cell? ⟨bm, om, none⟩ = some (.int .i64 2) := (hat 0 (by decide)).1
  have m2 : w5.cell? ⟨bm, om + 6 + 2, none⟩ = some (.int .i64 5) := (hat 2 (by decide)).2.2
  have m2' : w5.cell? ⟨bm, om + 8, none⟩ = some (.int .i64 5) := (hat 2 (by decide)).2.2
  clear hat S1 S12 S13 S14 S2 S23 S24
  go_wp2
  go_ret
  exact ⟨rfl, B5.out⟩
end Go.Proofs.YtjlpekjfmgcbdaaGreatDoor

/- Plain: a quoted string is read again. -/
set_option linter.unusedVariables false
set_option linter.unusedSimpArgs false
namespace Go.Proofs.YtjlpekjfmgcbdaaGreatDoor
open Go.RowKit Go.Shelf
theorem hexQ_fig : ∀ k : Fin 16, hexQ (figQ k.val) = (k.val : Int) := by decide +kernel
theorem fig_plain : ∀ k : Fin 16, figQ k.val ≠ 34 ∧ figQ k.val ≠ 92 := by decide +kernel
theorem esc_byte (c : UInt8) : UInt8.ofNat (16 * ((c.toNat / 16 : Nat) : Int) + ((c.toNat % 16 : Nat) : Int)).toNat = c := by
  have h : (16 * ((c.toNat / 16 : Nat) : Int) + ((c.toNat % 16 : Nat) : Int)).toNat = c.toNat := by omega
  rw [h, UInt8.ofNat_toNat]
theorem escQ_two {c : UInt8} (h : c = 34 ∨ c = 92) : escQ c = [92, c] := by unfold escQ; rw [if_pos h]
theorem escQ_four {c : UInt8} (h : ¬ (c = 34 ∨ c = 92)) (h2 : c.toNat < 32 ∨ 126 < c.toNat) : escQ c = [92, 120, figQ (c.toNat / 16), figQ (c.toNat % 16)] := by unfold escQ; rw [if_neg h, if_pos h2]
theorem escQ_one {c : UInt8} (h : ¬ (c = 34 ∨ c = 92)) (h2 : ¬ (c.toNat < 32 ∨ 126 < c.toNat)) : escQ c = [c] := by unfold escQ; rw [if_neg h, if_neg h2]
theorem step_esc (c : UInt8) (r : List UInt8) : stepU (escQ c ++ r) = some (c, (escQ c).length) := by
  have hlt := c.toNat_lt
  by_cases h : c = 34 ∨ c = 92
  · rw [escQ_two h]
    show stepU (92 :: c :: r) = _
    rw [stepU_esc]
    simp only [stepE]
    rw [if_pos h]; rfl
  · by_cases h2 : c.toNat < 32 ∨ 126 < c.toNat
    · rw [escQ_four h h2]
      show stepU (92 :: 120 :: figQ (c.toNat / 16) :: figQ (c.toNat % 16) :: r) = _
      rw [stepU_esc]
      simp only [stepE]
      rw [if_neg (by decide), if_pos trivial]
      have e1 := hexQ_fig ⟨c.toNat / 16, by omega⟩
      have e2 := hexQ_fig ⟨c.toNat % 16, by omega⟩
      simp only at e1 e2
      rw [e1, e2, if_pos ⟨by omega, by omega⟩, esc_byte]; rfl
    · rw [escQ_one h h2]
      exact stepU_pl (by omega) (by omega) (fun e => h (.inl e)) (fun e => h (.inr e))
theorem unqW_esc : ∀ l : List UInt8, unqW (l.flatMap escQ) = some l
  | [] => rfl
  | c :: t => by
    rw [escs_cons, unqW_step (step_esc c _), List.drop_left, unqW_esc t]; rfl
theorem closeW_escs (c : UInt8) (r : List UInt8) : closeW (escQ c ++ r) = (escQ c).length + closeW r := by
  have hlt := c.toNat_lt
  by_cases h : c = 34 ∨ c = 92
  · rw [escQ_two h]
    show closeW (92 :: c :: r) = 2 + closeW r
    rw [closeW_esc]; show closeW r + 2 = _; omega
  · by_cases h2 : c.toNat < 32 ∨ 126 < c.toNat
    · rw [escQ_four h h2]
      show closeW (92 :: 120 :: figQ (c.toNat / 16) :: figQ (c.toNat % 16) :: r) = 4 + closeW r
      have e1 := fig_plain ⟨c.toNat / 16, by omega⟩
      have e2 := fig_plain ⟨c.toNat % 16, by omega⟩
      rw [closeW_esc]
      show closeW (figQ (c.toNat / 16) :: figQ (c.toNat % 16) :: r) + 2 = _
      rw [closeW_pl _ e1.1 e1.2, closeW_pl _ e2.1 e2.2]; omega
    · rw [escQ_one h h2]
      show closeW (c :: r) = 1 + closeW r
      rw [closeW_pl _ (fun e => h (.inl e)) (fun e => h (.inr e))]; omega
theorem closeW_quo : ∀ l : List UInt8, closeW (l.flatMap escQ ++ [34]) = (l.flatMap escQ).length
  | [] => rfl
  | c :: t => by rw [escs_cons, List.append_assoc, closeW_escs, closeW_quo t, List.length_append]
theorem quoQ_len (l : List UInt8) : (quoQ l).length = (l.flatMap escQ).length + 2 := by
  rw [quoQ_eq, List.length_cons, List.length_append]; rfl
theorem unqQ_quo (l : List UInt8) : unqQ (quoQ l) = if 64 < l.length then ([], 9) else (l, 0) := by
  have hlen := quoQ_len l
  rw [unqQ_mid (by
    rintro (h | h | h)
    · omega
    · exact h rfl
    · rw [quoQ_eq] at h
      apply h
      rw [← List.cons_append, List.getLast?_concat])]
  have hm : ((quoQ l).drop 1).take ((quoQ l).length - 2) = l.flatMap escQ := by
    rw [hlen, quoQ_eq]
    show (l.flatMap escQ ++ [34]).take _ = _
    rw [Nat.add_sub_cancel, List.take_left]
  rw [hm]
  unfold unqR
  rw [unqW_esc]
theorem quotedQ_quo (l : List UInt8) : quotedQ (quoQ l) = ⟨5, (unqQ (quoQ l)).1, (quoQ l).length, (unqQ (quoQ l)).2⟩ := by
  have hlen := quoQ_len l
  have hc : closeW ((quoQ l).drop 1) = (l.flatMap escQ).length := closeW_quo l
  rw [quotedQ_eq, hc]
  unfold quotedW
  rw [if_neg (by omega), List.take_of_length_le (by omega), show 1 + (l.flatMap escQ).length + 1 = (quoQ l).length by omega]
theorem readQ_quo (l : List UInt8) : readQ (quoQ l) = ⟨5, (unqQ (quoQ l)).1, (quoQ l).length, (unqQ (quoQ l)).2⟩ := by
  have e : quoQ l = 34 :: (l.flatMap escQ ++ [34]) := quoQ_eq l
  rw [← quotedQ_quo, e, readQ_cons, if_neg (by decide), if_neg (by decide), if_pos rfl]
theorem wordsQ_quo (l : List UInt8) : wordsQ (quoQ l) = [(0, readQ (quoQ l))] := by
  have hn : nextQ (quoQ l) 0 = 0 := by
    unfold nextQ
    rw [List.drop_zero, Nat.zero_add, quoQ_eq]
    exact skipQ_stop (by decide) (by decide)
  have hlen := quoQ_len l
  unfold wordsQ
  rw [hn, wordsFrom_step (by omega), List.drop_zero]
  split
  · rw [wordsFrom_end]
    rw [readQ_quo]
    show (quoQ l).length ≤ nextQ (quoQ l) (0 + (quoQ l).length)
    have := nextQ_ge (quoQ l) (0 + (quoQ l).length)
    omega
  · rfl
theorem lexQ_quo (l : List UInt8) (h : l.length ≤ 100) : lexQ (quoQ l) = if 64 < l.length then ([], 0, 9) else ([⟨5, l, 0⟩], 0, 0) := by
  have hlen := quoQ_len l
  have he := escs_len l
  unfold lexQ
  rw [if_neg (by omega), wordsQ_quo, readQ_quo, unqQ_quo]
  by_cases h6 : 64 < l.length
  · rw [if_pos h6, if_pos h6]; rfl
  · rw [if_neg h6, if_neg h6]; rfl
end Go.Proofs.YtjlpekjfmgcbdaaGreatDoor
