/- Contracts of pattern's Valid, Match, MatchName, Prefix. -/
import Derived.Test.YtcjehiecgdmidaaPtS
set_option linter.unusedVariables false
set_option linter.unusedSimpArgs false
namespace Go.Proofs.Ytcjehiecgdmidaa
open Go.RowKit Go.Shelf

def matchV (l : List UInt8) (P : List (List UInt8)) : Bool := match readV l with | some ps => mP ps P | none => false
def nameV (l : List UInt8) (s : List UInt8) : Bool := match readV l with | some [x] => x.ok s | _ => false
def prefV (l : List UInt8) : List (List UInt8) := match readV l with | some ps => prefixV ps | none => []

theorem Valid_pt (l : List UInt8) (w : World) (hl : l.length ≤ 1000000) (hg : Gm w) :
    Calls Try.prog 11 #[.string (bsP l)] w fun e w' => e = .returned (.bool (readV l).isSome) ∧ Below w.heap.size w w' := by
  have Rd := hide (read_any l w hl hg)
  generalize readV l = R at *
  go_enter Try.func11, Try.ntmps11
  go_wp2_with fail
  refine Rd.out.mono ?_
  rintro e w1 h1
  cases R with
  | none =>
    obtain ⟨rfl, hb⟩ := h1
    have Hb := hide hb
    clear hb
    go_wp2
    go_ret
    exact ⟨rfl, Hb.out⟩
  | some ps =>
    obtain ⟨A, cap, xs, rfl, h2, h3, h4, h5, h6, hb⟩ := h1
    have Hb := hide hb
    clear hb h2 h3 h4 h5 h6
    go_wp2
    go_ret
    exact ⟨rfl, Hb.out⟩
theorem Match_pt (l : List UInt8) (Ap : Option Addr) (capp : Nat) (L : List ByteArray) (w : World) (hl : l.length ≤ 1000000) (hg : Gm w) (hAp : Sl Value.string w Ap L) (hL : L.length ≤ 1000000) (hz : ∀ s ∈ L, s.size ≤ 1000000) :
    Calls Try.prog 12 #[.string (bsP l), .slice Ap L.length capp] w fun e w' => e = .returned (.bool (matchV l (bl L))) ∧ Below w.heap.size w w' := by
  have Rd := hide (read_any l w hl hg)
  have hm : matchV l (bl L) = (match readV l with | some ps => mP ps (bl L) | none => false) := rfl
  rw [hm]
  clear hm
  generalize readV l = R at *
  have HAp := hide hAp
  have HZ := hide hz
  clear hAp hz
  go_enter Try.func12, Try.ntmps12
  go_wp2_with fail
  refine Rd.out.mono ?_
  rintro e w1 h1
  cases R with
  | none =>
    obtain ⟨rfl, hb⟩ := h1
    have Hb := hide hb
    clear hb
    go_wp2
    go_ret
    exact ⟨rfl, Hb.out⟩
  | some ps =>
    obtain ⟨A, cap, xs, rfl, h2, h3, h4, h5, h6, hb⟩ := h1
    have Hb := hide hb
    have M := hide (match_any A cap capp Ap ps xs L w1 h2 h3 (HAp.out.below hb) (by omega) hL HZ.out)
    clear hb h2 h3 h4 h5 h6
    go_wp2_with fail
    refine M.out.mono ?_
    rintro e w2 ⟨rfl, hb2⟩
    have Hb2 := hide (Hb.out.trans (hb2.mono Hb.out.size))
    clear hb2
    go_wp2
    go_ret
    exact ⟨rfl, Hb2.out⟩

/-- a list of strings handed back in new memory -/
def PrefPost (N : List (List UInt8)) (w : World) (e : Ending) (w' : World) : Prop :=
  ∃ A cap, e = .returned (.slice A N.length cap) ∧ Sl Value.string w' A (N.map bsP) ∧ N.length ≤ cap ∧ Below w.heap.size w w'
theorem infoStrP : (Try.prog.info? 9).map (fun i => (i.zero, i.size, i.bytes)) = some (some (.string ⟨#[]⟩), 1, 16) := by kernel_rfl
def strP (N : List (List UInt8)) : List Value := N.map fun n => Value.string (bsP n)
theorem strP_snoc (N : List (List UInt8)) (n : List UInt8) : strP N ++ [Value.string (bsP n)] = strP (N ++ [n]) := by unfold strP; rw [List.map_append]; rfl
/-- what a part's fixed answers, and that its method is found -/
def FixOf (w : World) (x : Pt) (v : Value) : Prop := ∃ T u f, v = .iface T u ∧ (∀ W, Below w.heap.size w W → Calls Try.prog f #[u] W (FixPost x.fixed W)) ∧ ∀ W : World, (method 196 T u "wavestore/pattern.fixed").run Try.prog W = .ok (f, u) W ∧ (callFunc f #[u]).run Try.prog W = .ok (.enter f #[u]) W
theorem callFunc_body {P : Program} {f : FuncId} {args : Array Value} (h : (P.funcs[f]?).map (fun fn => (fn.name == "runtime.NumGoroutine", fn.body.isNone)) = some (false, false)) (w : World) :
    (callFunc f args).run P w = .ok (.enter f args) w := by
  cases hf : P.funcs[f]? with
  | none => rw [hf] at h; cases h
  | some fn =>
    rw [hf] at h
    simp only [Option.map_some, Option.some.injEq, Prod.mk.injEq] at h
    have h1 : fn.name ≠ "runtime.NumGoroutine" := by simpa using h.1
    cases hc : fn.body with
    | none => rw [hc] at h; cases h.2
    | some c => simp [callFunc, go_sem, hf, h1, hc]
set_option maxRecDepth 20000 in
set_option maxHeartbeats 8000000 in
theorem Prefix_pt (l : List UInt8) (w : World) (hl : l.length ≤ 1000000) (hg : Gm w) :
    Calls Try.prog 10 #[.string (bsP l)] w (PrefPost (prefV l) w) := by
  have Rd := hide (read_any l w hl hg)
  have hm : prefV l = (match readV l with | some ps => prefixV ps | none => []) := rfl
  rw [hm]
  clear hm
  generalize readV l = R at *
  go_enter Try.func10, Try.ntmps10
  go_wp2_with fail
  refine Rd.out.mono ?_
  rintro e w1 h1
  cases R with
  | none =>
    obtain ⟨rfl, hb⟩ := h1
    have Hb := hide hb
    clear hb
    go_upto_region 4 with fail
    go_loopw [5, 17] (fun v5 v17 wr => v5 = .slice none 0 0 ∧ v17 = .int .i64 0 ∧ wr = w1) (fun _ _ _ => 0)
    case atStart => exact ⟨rfl, rfl, rfl⟩
    case round =>
      obtain ⟨rfl, rfl, rfl⟩ := hrel
      go_wp2
      go_ret
      exact ⟨none, 0, rfl, Sl.nil _ _ _, Nat.le_refl _, Hb.out⟩
  | some ps =>
    obtain ⟨A, cap, xs, rfl, hsl, hps, hcap, hp16, hA, hb⟩ := h1
    have Hb := hide hb
    have HSl := hide hsl
    have HP := hide hps
    obtain ⟨N0, hN0⟩ : ∃ N0, prefixV ps = N0 := ⟨_, rfl⟩
    have HN0 := hide hN0
    clear hb hsl hps hcap hA hN0
    go_upto_region 4 with fail
    go_loopw [5, 17] (fun v5 v17 wr => ∃ (i : Nat) (N : List (List UInt8)), v17 = .int .i64 (i : Int) ∧ i ≤ ps.length ∧ N.length = i ∧ N0 = N ++ prefixV (ps.drop i) ∧ wr.ownsRow w1.heap.size 9 1 v5 i (strP N) ∧ Below w1.heap.size w1 wr) (fun _ v _ => ps.length - (intOf v).toNat)
    case atStart => exact ⟨0, [], rfl, Nat.zero_le _, rfl, HN0.out.symm, World.ownsRow_nil _ _ _ _, Below.refl _ _⟩
    case round =>
      obtain ⟨i, N, rfl, hi, hNl, hN, hown, hbr⟩ := hrel
      have Hown := hide hown
      have Hbr := hide hbr
      have HN := hide hN
      have HNl := hide hNl
      clear hown hbr hN hNl
      obtain ⟨A5, cap5, hv5, hsl5, _⟩ := Sl_own (f := fun n => Value.string (bsP n)) (xs := N) Hown.out HNl.out.symm
      subst hv5
      have HDone := hide (show ∀ (hN0 : N0 = N), PrefPost N0 w (.returned (.slice A5 i cap5)) wr from fun e => by
        rw [e]
        refine ⟨A5, cap5, by rw [HNl.out], ?_, by rw [HNl.out]; exact ownP_cap Hown.out, Hb.out.trans (Hbr.out.mono Hb.out.size)⟩
        intro hp
        rw [List.length_map] at hp
        obtain ⟨b, off, h1, h2⟩ := hsl5 hp
        exact ⟨b, off, h1, fun j hj => by rw [h2 j (by rw [List.length_map] at hj; exact hj), List.getElem_map]⟩)
      clear hsl5
      by_cases hlt : i < ps.length
      · obtain ⟨v, hv, hpi⟩ := HP.out.2 i hlt
        have hxi : i < xs.length := by rw [HP.out.1]; exact hlt
        have hv2 : xs[i]'hxi = v := by rw [List.getElem?_eq_getElem hxi] at hv; exact Option.some.inj hv
        obtain ⟨b, off, rfl, hbl, hcell⟩ := HSl.out.at hxi
        have hc := hcell wr (Hbr.out.mono (Nat.le_refl _))
        rw [hv2] at hc
        have hc' : wr.cell? ⟨b, off + i, none⟩ = some v := hc
        have hdr : ps.drop i = ps[i] :: ps.drop (i + 1) := List.drop_eq_getElem_cons hlt
        have hi' : (i : Int) < (ps.length : Int) := by omega
        have hwi : IntKind.i64.wrap ((i : Int) + 1) = (i : Int) + 1 := IntWalk.i64_in _ (by omega)
        have HDr := hide hdr
        have Hpi := hide hpi
        clear hv hv2 hcell hpi hc hdr hxi
        obtain ⟨x, hx⟩ : ∃ x, ps[i] = x := ⟨_, rfl⟩
        rw [hx] at HDr Hpi
        clear hx
        have hfo : FixOf w1 x v := by
          cases x with
          | any =>
            have hv3 : v = .iface 51 (.agg #[]) := Hpi.out
            subst hv3
            exact ⟨51, (.agg #[]), 65, rfl, fun W _ => (anyFixed_any W).mono (by rintro e w9 ⟨rfl, hb⟩; exact ⟨rfl, hb⟩), fun W => ⟨method_of (f := 65) (by kernel_rfl) Try.underlying51 (by intro x h; cases h) 195 (.agg #[]) W, callFunc_body (by kernel_rfl) W⟩⟩
          | lit nm =>
            obtain ⟨hv3, _⟩ := Hpi.out
            subst hv3
            exact ⟨52, (.string (bsP nm)), 67, rfl, fun W _ => (literalFixed_any (bsP nm) W).mono (by rintro e w9 ⟨rfl, rfl⟩; exact ⟨rfl, Below.refl _ _⟩), fun W => ⟨method_of (f := 67) (by kernel_rfl) Try.underlying52 (by intro x h; cases h) 195 (.string (bsP nm)) W, callFunc_body (by kernel_rfl) W⟩⟩
          | wild O =>
            obtain ⟨gO, capO, hv3, hW0, hO1, hO2, hO3, hgO, _⟩ := Hpi.out
            subst hv3
            have HW0 := hide hW0
            exact ⟨65, (.slice (some ⟨gO, 0, none⟩) O.length capO), 69, rfl, fun W hW => wildFixed_any gO capO O W (HW0.out.below hW hgO) (Nat.lt_of_lt_of_le hgO hW.size) (by omega), fun W => ⟨method_of (f := 69) (by kernel_rfl) Try.underlying65 (by intro x h; cases h) 195 (.slice (some ⟨gO, 0, none⟩) O.length capO) W, callFunc_body (by kernel_rfl) W⟩⟩
        obtain ⟨T, u, f, hvT, hF, hmeth0⟩ := hfo
        have hmeth := fun W => (hmeth0 W).1
        have hcall := fun W => (hmeth0 W).2
        clear hmeth0
        subst hvT
        have HF := hide (hF wr (Hbr.out.mono (Nat.le_refl _)))
        clear hF
        have hpv : N0 = N ++ (match x.fixed with | some n => n :: prefixV (ps.drop (i + 1)) | none => []) := by rw [HN.out, HDr.out]; rfl
        cases hfx : x.fixed with
        | none =>
          rw [hfx] at HF hpv
          have HD2 := hide (HDone.out (by rw [hpv]; exact List.append_nil _))
          clear hpv
          go_wp2_with fail
          refine HF.out.mono ?_
          rintro e w2 ⟨rfl, hb2⟩
          have Hb2 := hide hb2
          clear hb2
          go_wp2
          go_ret
          show PrefPost (prefixV ps) w _ _
          rw [HN0.out]
          obtain ⟨A6, cap6, e6, hs6, hc6, hb6⟩ := HD2.out
          exact ⟨A6, cap6, e6, hs6.below Hb2.out, hc6, hb6.trans (Hb2.out.mono hb6.size)⟩
        | some n =>
          rw [hfx] at HF hpv
          have HPv := hide (show N0 = (N ++ [n]) ++ prefixV (ps.drop (i + 1)) by rw [hpv, List.append_assoc]; rfl)
          clear hpv
          go_wp2_with fail
          refine HF.out.mono ?_
          rintro e w2 ⟨rfl, hb2⟩
          have Hown2 := hide (ownsRow_below Hown.out hb2)
          have Hb2 := hide (Hbr.out.trans (hb2.mono Hbr.out.size))
          clear hb2
          go_wp2_with (at_builtin; have hown9 := Hown2.out.alloc (.cells #[.string (bsP n)] 9); refine wpList_append_at _ rfl _ _ 22 rfl w1.heap.size 9 infoStrP Try.underlying22 rfl (by decide) _ i (strP N) rfl hown9 ⟨w2.heap.size, 0, none⟩ 1 1 [.string (bsP n)] rfl rfl (cells_new _ _ rfl) (by intro u hu; simp only [List.mem_cons, List.not_mem_nil, or_false] at hu; rcases hu with rfl; rfl) (by unfold maxLen; omega) (by omega) (by rw [World.size_alloc]; have := Hb2.out.size; omega) ?_; intro v' w5 hown5 hgrow5 _ _)
          have Hown5 := hide (show w5.ownsRow w1.heap.size 9 1 v' (i + 1) (strP (N ++ [n])) by rw [← strP_snoc]; exact hown5)
          have HB5 := hide ((Hb2.out.alloc Hb2.out.size (.cells #[.string (bsP n)] 9)).grown hgrow5 (by rw [World.size_alloc]; have := Hb2.out.size; omega) (fun j hj => (World.ownsRow.lt hown9 j hj).1))
          clear hown5 hgrow5 hown9
          go_wp2
          go_roundw
          case rel => exact ⟨i + 1, N ++ [n], by go_num, hlt, by rw [List.length_append, HNl.out]; rfl, HPv.out, Hown5.out, HB5.out⟩
          case measure => simp [intOf]; omega
      · obtain rfl : i = ps.length := by omega
        have HD2 := hide (HDone.out (by rw [HN.out, List.drop_length]; exact List.append_nil _))
        have hni : ¬ (ps.length : Int) < (ps.length : Int) := by omega
        clear hlt hi
        go_wp2
        go_ret
        show PrefPost (prefixV ps) w _ _
        rw [HN0.out]
        exact HD2.out
end Go.Proofs.Ytcjehiecgdmidaa
