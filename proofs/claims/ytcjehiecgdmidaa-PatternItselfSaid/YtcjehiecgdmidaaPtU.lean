/- Contracts of pattern's MatchName and Filter. -/
import Derived.Test.YtcjehiecgdmidaaPtT
set_option linter.unusedVariables false
set_option linter.unusedSimpArgs false
namespace Go.Proofs.Ytcjehiecgdmidaa
open Go.RowKit Go.Shelf

/-- what a part's matches answers, and that its method is found -/
def MatOf (w : World) (x : Pt) (v : Value) (s : ByteArray) : Prop := ∃ T u f, v = .iface T u ∧ (∀ W, Below w.heap.size w W → Calls Try.prog f #[u, .string s] W fun e w' => e = .returned (.bool (x.ok s.data.toList)) ∧ Below W.heap.size W w') ∧ ∀ W : World, (method 196 T u "wavestore/pattern.matches").run Try.prog W = .ok (f, u) W ∧ (callFunc f #[u, .string s]).run Try.prog W = .ok (.enter f #[u, .string s]) W
theorem matOf (w : World) (x : Pt) (v : Value) (s : ByteArray) (hs : s.size ≤ 1000000) (h : PartIs w none x v) : MatOf w x v s := by
  cases x with
  | any =>
    have hv3 : v = .iface 51 (.agg #[]) := h
    subst hv3
    exact ⟨51, (.agg #[]), 66, rfl, fun W _ => (anyMatches_any s W).mono (by rintro e w9 ⟨rfl, hb⟩; exact ⟨rfl, hb⟩), fun W => ⟨method_of (f := 66) (by kernel_rfl) Try.underlying51 (by intro x h; cases h) 195 (.agg #[]) W, callFunc_body (by kernel_rfl) W⟩⟩
  | lit nm =>
    obtain ⟨hv3, _⟩ := h
    subst hv3
    exact ⟨52, (.string (bsP nm)), 68, rfl, fun W _ => (literalMatches_any (bsP nm) s W).mono (by rintro e w9 ⟨rfl, rfl⟩; exact ⟨rfl, Below.refl _ _⟩), fun W => ⟨method_of (f := 68) (by kernel_rfl) Try.underlying52 (by intro x h; cases h) 195 (.string (bsP nm)) W, callFunc_body (by kernel_rfl) W⟩⟩
  | wild O =>
    obtain ⟨gO, capO, hv3, hW0, hO1, hO2, hO3, hgO, _⟩ := h
    subst hv3
    exact ⟨65, (.slice (some ⟨gO, 0, none⟩) O.length capO), 70, rfl, fun W hW => (wildMatches_any W gO 0 capO O s (WIt.items (hW0.below hW hgO)) (by omega) hs hO2).mono (by rintro e w9 ⟨rfl, n, rfl⟩; exact ⟨rfl, Below_drewN (Below.refl _ _) n⟩), fun W => ⟨method_of (f := 70) (by kernel_rfl) Try.underlying65 (by intro x h; cases h) 195 (.slice (some ⟨gO, 0, none⟩) O.length capO) W, callFunc_body (by kernel_rfl) W⟩⟩
set_option maxRecDepth 20000 in
set_option maxHeartbeats 8000000 in
theorem MatchName_pt (l : List UInt8) (s : ByteArray) (w : World) (hl : l.length ≤ 1000000) (hs : s.size ≤ 1000000) (hg : Gm w) :
    Calls Try.prog 16 #[.string (bsP l), .string s] w fun e w' => e = .returned (.bool (nameV l s.data.toList)) ∧ Below w.heap.size w w' := by
  have Rd := hide (read_any l w hl hg)
  have hm : nameV l s.data.toList = (match readV l with | some [x] => x.ok s.data.toList | _ => false) := rfl
  obtain ⟨res, hres⟩ : ∃ res, nameV l s.data.toList = res := ⟨_, rfl⟩
  rw [hres]
  rw [hres] at hm
  generalize readV l = R at *
  have Hm := hide hm
  clear hm hres
  go_enter Try.func16, Try.ntmps16
  go_wp2_with fail
  refine Rd.out.mono ?_
  rintro e w1 h1
  cases R with
  | none =>
    obtain ⟨rfl, hb⟩ := h1
    have Hb := hide hb
    clear hb
    go_wp2
    go_ret
    exact ⟨ret_b Hm.out, Hb.out⟩
  | some ps =>
    obtain ⟨A, cap, xs, rfl, hsl, hps, hcap, hp16, hA, hb⟩ := h1
    have Hb := hide hb
    by_cases h1 : ps.length = 1
    · obtain ⟨x, rfl⟩ := List.length_eq_one_iff.1 h1
      obtain ⟨v, hv, hpi⟩ := hps.2 0 (by rw [List.length_singleton]; exact Nat.one_pos)
      have hxi : 0 < xs.length := by rw [hps.1]; exact Nat.one_pos
      have hv2 : xs[0]'hxi = v := by rw [List.getElem?_eq_getElem hxi] at hv; exact Option.some.inj hv
      obtain ⟨b, off, rfl, hbl, hcell⟩ := hsl.at hxi
      have hc := hcell w1 (Below.refl _ _)
      rw [hv2] at hc
      have hc' : w1.cell? ⟨b, off, none⟩ = some v := hc
      have hmo := matOf w1 x v s hs hpi
      clear hv hv2 hcell hpi hc hxi hsl hps hcap hp16 hA hb h1
      obtain ⟨T, u, f, hvT, hF, hmeth0⟩ := hmo
      have hmeth := fun W => (hmeth0 W).1
      have hcall := fun W => (hmeth0 W).2
      clear hmeth0
      subst hvT
      have HF := hide (hF w1 (Below.refl _ _))
      have hl1 : ([x] : List Pt).length = 1 := rfl
      rw [hl1]
      clear hF hl1
      have hx : res = x.ok s.data.toList := Hm.out
      rw [← hx] at HF
      clear hx
      go_wp2_with fail
      refine HF.out.mono ?_
      rintro e w2 ⟨rfl, hb2⟩
      have Hb2 := hide (Hb.out.trans (hb2.mono Hb.out.size))
      clear hb2
      go_wp2
      go_ret
      exact ⟨rfl, Hb2.out⟩
    · have h1' : ((ps.length : Int) == 1) = false := beq_eq_false_iff_ne.2 (by omega)
      have Hf := hide (show res = false by
        rw [Hm.out]
        match ps, h1 with
        | [], _ => rfl
        | [x], h => exact absurd rfl h
        | x :: y :: r, _ => rfl)
      clear hsl hps hcap hp16 hA hb h1
      go_wp2
      go_ret
      exact ⟨ret_b Hf.out, Hb.out⟩
/-- a slice of slices of strings -/
def SlP (W : World) (A : Option Addr) (Ls : List (List ByteArray)) : Prop :=
  0 < Ls.length → ∃ b off, A = some ⟨b, off, none⟩ ∧ b < W.heap.size ∧ ∀ i, ∀ h : i < Ls.length, ∃ Ai capi, W.cell? ⟨b, off + i, none⟩ = some (.slice Ai Ls[i].length capi) ∧ Sl Value.string W Ai Ls[i]
theorem infoIntP : (Try.prog.info? 3).map (fun i => (i.zero, i.size, i.bytes)) = some (some (.int .i64 0), 1, 8) := by kernel_rfl
def CountPost (n B : Nat) (w : World) (e : Ending) (w' : World) : Prop := ∃ A cap, e = .returned (.slice A n cap) ∧ Below B w w'
def countV (l : List UInt8) (Ls : List (List ByteArray)) : Nat := (Ls.filter fun L => matchV l (bl L)).length
set_option maxRecDepth 20000 in
set_option maxHeartbeats 8000000 in
theorem Filter_pt (l : List UInt8) (Ap : Option Addr) (capp : Nat) (Ls : List (List ByteArray)) (w : World) (hl : l.length ≤ 1000000) (hg : Gm w) (hAp : SlP w Ap Ls) (hL : Ls.length ≤ 1000000) (hz : ∀ L ∈ Ls, L.length ≤ 1000000 ∧ ∀ s ∈ L, s.size ≤ 1000000) :
    Calls Try.prog 18 #[.string (bsP l), .slice Ap Ls.length capp] w (CountPost (countV l Ls) w.heap.size w) := by
  have Rd := hide (read_any l w hl hg)
  have HAp := hide hAp
  have HZ := hide hz
  clear hAp hz
  have hm : ∀ P, matchV l P = (match readV l with | some ps => mP ps P | none => false) := fun _ => rfl
  generalize hR : readV l = R at *
  obtain ⟨C, hC⟩ : ∃ C : List (List ByteArray) → Nat, C = fun Ls => (Ls.filter fun L => matchV l (bl L)).length := ⟨_, rfl⟩
  have hcv : countV l Ls = C Ls := by rw [hC]; rfl
  have HCv := hide hcv
  have HC := hide hC
  have HM := hide hm
  clear hC hcv hm hR
  go_enter Try.func18, Try.ntmps18
  go_wp2_with fail
  refine Rd.out.mono ?_
  rintro e w1 h1
  cases R with
  | none =>
    obtain ⟨rfl, hb⟩ := h1
    have Hb := hide hb
    clear hb
    go_wp2
    go_ret
    rw [show countV l Ls = 0 by
      unfold countV
      rw [List.length_eq_zero_iff, List.filter_eq_nil_iff]
      intro L _
      rw [HM.out]; decide]
    exact ⟨none, 0, rfl, Hb.out⟩
  | some ps =>
    obtain ⟨A, cap, xs, rfl, hsl, hps, hcap, hp16, hA, hb⟩ := h1
    have Hb := hide hb
    have HSl := hide hsl
    have HP := hide hps
    have HA := hide hA
    clear hb hsl hps hcap hA
    go_upto_region 6 with fail
    go_loopw [7, 19] (fun v7 v19 wr => ∃ (i : Nat) (ys : List Value), v19 = .int .i64 (i : Int) ∧ i ≤ Ls.length ∧ ys.length = C (Ls.take i) ∧ wr.ownsRow w1.heap.size 3 1 v7 ys.length ys ∧ Below w1.heap.size w1 wr) (fun _ v _ => Ls.length - (intOf v).toNat)
    case atStart => exact ⟨0, [], rfl, Nat.zero_le _, by rw [HC.out]; rfl, World.ownsRow_nil _ _ _ _, Below.refl _ _⟩
    case round =>
      obtain ⟨i, ys, rfl, hi, hys, hown, hbr⟩ := hrel
      have Hown := hide hown
      have Hbr := hide hbr
      have HYs := hide hys
      clear hown hbr hys
      by_cases hlt : i < Ls.length
      · obtain ⟨b, off, rfl, hbl, hcell⟩ := HAp.out (Nat.lt_of_le_of_lt (Nat.zero_le _) hlt)
        obtain ⟨Ai, capi, hc, hAi⟩ := hcell i hlt
        have hbw := Hb.out.trans (Hbr.out.mono Hb.out.size)
        have hc' : wr.cell? ⟨b, off + i, none⟩ = some (.slice Ai Ls[i].length capi) := by rw [← hc]; exact World.cell?_of_block (hbw.block b hbl)
        have hAi' := hAi.below hbw
        have hzi := HZ.out Ls[i] (List.getElem_mem hlt)
        have htk : Ls.take (i + 1) = Ls.take i ++ [Ls[i]] := by rw [List.take_add_one, List.getElem?_eq_getElem hlt]; rfl
        have hstep : C (Ls.take (i + 1)) = C (Ls.take i) + (if mP ps (bl Ls[i]) then 1 else 0) := by
          rw [htk, HC.out]
          simp only [List.filter_append, List.length_append]
          congr 1
          have e := HM.out (bl Ls[i])
          rw [List.filter_cons, List.filter_nil, e]
          split <;> rfl
        generalize Ls[i] = L at *
        have M := hide (match_any A cap capi Ai ps xs L wr (HSl.out.below Hbr.out) (HP.out.below Hbr.out) hAi' (by omega) hzi.1 hzi.2)
        have hi' : (i : Int) < (Ls.length : Int) := by omega
        have hwi : IntKind.i64.wrap ((i : Int) + 1) = (i : Int) + 1 := IntWalk.i64_in _ (by omega)
        have hyl : ys.length ≤ i := by
          rw [HYs.out, HC.out]
          exact Nat.le_trans (List.length_filter_le _ _) (by rw [List.length_take]; omega)
        have HSt := hide hstep
        have HYl := hide hyl
        clear hcell hc hAi hAi' hzi htk hstep hbw hyl
        go_wp2_with fail
        refine M.out.mono ?_
        rintro e w2 ⟨rfl, hb2⟩
        have Hown2 := hide (ownsRow_below Hown.out hb2)
        have Hb2 := hide (Hbr.out.trans (hb2.mono Hbr.out.size))
        clear hb2
        cases hmm : mP ps (bl L) with
        | false =>
          have HS2 := hide (show C (Ls.take (i + 1)) = C (Ls.take i) by rw [HSt.out, hmm]; rfl)
          clear hmm
          go_wp2
          go_roundw
          case rel => exact ⟨i + 1, ys, by go_num, hlt, by rw [HS2.out]; exact HYs.out, Hown2.out, Hb2.out⟩
          case measure => simp [intOf]; omega
        | true =>
          have HS2 := hide (show C (Ls.take (i + 1)) = C (Ls.take i) + 1 by rw [HSt.out, hmm]; rfl)
          clear hmm
          go_wp2_with (at_builtin; have hown9 := Hown2.out.alloc (.cells #[.int .i64 (i : Int)] 3); refine wpList_append_at _ rfl _ _ 36 rfl w1.heap.size 3 infoIntP Try.underlying36 rfl (by decide) _ ys.length ys rfl hown9 ⟨w2.heap.size, 0, none⟩ 1 1 [.int .i64 (i : Int)] rfl rfl (cells_new _ _ rfl) (by intro u hu; simp only [List.mem_cons, List.not_mem_nil, or_false] at hu; rcases hu with rfl; rfl) (by unfold maxLen; have := HYl.out; omega) (by have := HYl.out; omega) (by rw [World.size_alloc]; have := Hb2.out.size; omega) ?_; intro v' w5 hown5 hgrow5 _ _)
          have Hown5 := hide (show w5.ownsRow w1.heap.size 3 1 v' (ys ++ [Value.int .i64 (i : Int)]).length (ys ++ [Value.int .i64 (i : Int)]) by rw [List.length_append]; exact hown5)
          have HB5 := hide ((Hb2.out.alloc Hb2.out.size (.cells #[.int .i64 (i : Int)] 3)).grown hgrow5 (by rw [World.size_alloc]; have := Hb2.out.size; omega) (fun j hj => (World.ownsRow.lt hown9 j hj).1))
          clear hown5 hgrow5 hown9
          go_wp2
          go_roundw
          case rel => exact ⟨i + 1, ys ++ [.int .i64 (i : Int)], by go_num, hlt, by rw [List.length_append, HS2.out, HYs.out]; rfl, Hown5.out, HB5.out⟩
          case measure => simp [intOf]; omega
      · obtain rfl : i = Ls.length := by omega
        have hni : ¬ (Ls.length : Int) < (Ls.length : Int) := by omega
        obtain ⟨A7, cap7, hv7, _, _⟩ := Sl_own (f := id) (xs := ys) (by rw [List.map_id]; exact Hown.out) rfl
        have hyc : ys.length = C Ls := by have := HYs.out; rwa [List.take_length] at this
        have HYc := hide hyc
        subst hv7
        clear hlt hi hyc
        go_wp2
        go_ret
        rw [HCv.out, ← HYc.out]
        exact ⟨A7, cap7, rfl, Hb.out.trans (Hbr.out.mono Hb.out.size)⟩
end Go.Proofs.Ytcjehiecgdmidaa
