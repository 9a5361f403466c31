/- MgL: the texts HkD HkE in one. -/
import Derived.Test.YtpfiofgchkfkhaaMgK
import Derived.Test.YtpfiofgchkfkhaaMgD
import Derived.Deep.RegionWith
/- Contract of Search where it returns paths. -/
set_option linter.unusedVariables false
set_option linter.unusedSimpArgs false
namespace Go.Proofs.Ytpfiofgchkfkhaa
open Go.RowKit Go.Shelf Go.Maps
/-- what the paths' slices hold; none of them lies in the row v -/
def PathsAt (W : World) (v : Value) (Ls : List (List ByteArray)) (zs : List Value) : Prop :=
  zs.length = Ls.length ∧ ∀ j (h : j < Ls.length), ∃ Aj cj, zs[j]? = some (.slice Aj Ls[j].length cj) ∧ Sl Value.string W Aj Ls[j] ∧ ∀ a, Aj = some a → v.ownBlock ≠ some a.block ∧ a.block < W.heap.size
theorem PathsAt.nil (W : World) (v : Value) : PathsAt W v [] [] := ⟨rfl, fun j h => absurd h (by simp)⟩
theorem PathsAt.below {W W' : World} {v : Value} {Ls : List (List ByteArray)} {zs : List Value} (h : PathsAt W v Ls zs) (hb : Below W.heap.size W W') : PathsAt W' v Ls zs :=
  ⟨h.1, fun j hj => by
    obtain ⟨Aj, cj, h1, h2, h3⟩ := h.2 j hj
    exact ⟨Aj, cj, h1, h2.below hb, fun a ha => ⟨(h3 a ha).1, Nat.lt_of_lt_of_le (h3 a ha).2 hb.size⟩⟩⟩
theorem PathsAt.grown {W W' : World} {v v' : Value} {Ls : List (List ByteArray)} {zs : List Value} {g : Nat} (h : PathsAt W v Ls zs) (hg : W.grownBy W' v.ownBlock) (hv : v'.ownBlock = some g) (hat : v.ownBlock = some g ∨ g = W.heap.size) : PathsAt W' v' Ls zs :=
  ⟨h.1, fun j hj => by
    obtain ⟨Aj, cj, h1, h2, h3⟩ := h.2 j hj
    refine ⟨Aj, cj, h1, fun hp => ?_, fun a ha => ⟨fun e => ?_, Nat.lt_of_lt_of_le (h3 a ha).2 hg.size⟩⟩
    · obtain ⟨b, off, rfl, hc⟩ := h2 hp
      have h4 := h3 _ rfl
      exact ⟨b, off, rfl, fun i hi => (hg.cell_far ⟨b, off + i, none⟩ h4.2 (fun e => h4.1 e.symm)).trans (hc i hi)⟩
    · have h4 := h3 a ha
      rw [hv] at e
      have e2 : g = a.block := Option.some.inj e
      rcases hat with h5 | h5
      · exact h4.1 (h5.trans e)
      · omega⟩
theorem PathsAt.snoc {W : World} {v : Value} {Ls : List (List ByteArray)} {zs : List Value} {F : List ByteArray} {A : Option Addr} {c : Nat} (h : PathsAt W v Ls zs) (hs : Sl Value.string W A F) (ha : ∀ a, A = some a → v.ownBlock ≠ some a.block ∧ a.block < W.heap.size) : PathsAt W v (Ls ++ [F]) (zs ++ [.slice A F.length c]) := by
  refine ⟨by simp [h.1], fun j hj => ?_⟩
  rcases Nat.lt_or_ge j Ls.length with h1 | h1
  · obtain ⟨Aj, cj, e1, e2, e3⟩ := h.2 j h1
    rw [List.getElem_append_left h1]
    exact ⟨Aj, cj, by rw [List.getElem?_append_left (by rw [h.1]; exact h1)]; exact e1, e2, e3⟩
  · have : j = Ls.length := by simp at hj; omega
    subst this
    rw [List.getElem_append_right (Nat.le_refl _)]
    simp only [Nat.sub_self, List.getElem_singleton]
    exact ⟨A, c, by rw [← h.1, List.getElem?_append_right (Nat.le_refl _), Nat.sub_self]; rfl, hs, ha⟩
theorem PathsAt.slp {W : World} {B : Nat} {A : Option Addr} {n cap : Nat} {Ls : List (List ByteArray)} {zs : List Value} (h : PathsAt W (.slice A n cap) Ls zs) (ho : W.ownsRow B 37 1 (.slice A n cap) n zs) (hn : n = Ls.length) : SlP W A Ls := by
  intro hp
  obtain ⟨g, c, he, _, hlt⟩ := World.ownsRow.form ho (by omega)
  cases he
  refine ⟨g, 0, rfl, hlt, fun i hi => ?_⟩
  obtain ⟨Aj, cj, e1, e2, _⟩ := h.2 i hi
  exact ⟨Aj, cj, by rw [Nat.zero_add, World.ownsRow.cellAt ho i (by omega), e1], e2⟩
theorem FullOf_sizes {scs : List Sc} (hz : ∀ x ∈ scs, x.name.size ≤ 1000000) {v : Va} (hv : v.name.size ≤ 1000000) : ∀ s ∈ FullOf scs v, s.size ≤ 1000000 := by
  intro s hs
  unfold FullOf at hs
  split at hs
  · rcases List.mem_append.1 hs with h | h
    · unfold pathH at h
      rw [List.mem_reverse, List.mem_map] at h
      obtain ⟨k, _, rfl⟩ := h
      unfold scH
      rw [List.getD_eq_getElem?_getD]
      rcases Nat.lt_or_ge k scs.length with h1 | h1
      · rw [List.getElem?_eq_getElem h1]; exact hz _ (List.getElem_mem h1)
      · rw [List.getElem?_eq_none h1]; decide
    · obtain rfl := List.mem_singleton.1 h; exact hv
  · cases hs
theorem infoSlH : (Try.prog.info? 37).map (fun i => (i.zero, i.size, i.bytes)) = some (some (.slice none 0 0), 1, 24) := by kernel_rfl
set_option maxRecDepth 20000 in
set_option maxHeartbeats 8000000 in
theorem Search_good {w : World} {scs : List Sc} {vs : List Va} {A A' : Option Addr} (cap cap' : Nat) (l : List UInt8) (h : InH w scs vs A A' cap') (hl : scs.length ≤ 100000) (hl' : vs.length ≤ 100000) (hg : Gm w) (hll : l.length ≤ 1000000) (hv : validH scs vs = true) (hp : (readV l).isSome = true) :
    Calls Try.prog 23 #[.slice A scs.length cap, .slice A' vs.length cap', .string (bsP l)] w fun e w' => ∃ B c, e = .returned (.tuple #[.slice B (countV l (vs.map (FullOf scs))) c, .int .i64 0]) ∧ Below w.heap.size w w' := by
  have VH := hide (fun W (hb : Below w.heap.size w W) => Valid_H scs vs A A' cap cap' W (h.below hb))
  have PV := hide (fun W (hb : Below w.heap.size w W) => Valid_pt l W hll (hg.below hb))
  have FU := hide (fun (x : Va) W (hb : Below w.heap.size w W) => Full_any cap x (h.toS.below hb) hl)
  have FI := hide (fun (W : World) (hb : Below w.heap.size w W) (Ap : Option Addr) (cp : Nat) (hs : SlP W Ap (vs.map (FullOf scs))) => Filter_pt l Ap cp (vs.map (FullOf scs)) W hll (hg.below hb) hs (by rw [List.length_map]; exact h.hl') (by
    intro L hL
    obtain ⟨x, hx, rfl⟩ := List.mem_map.1 hL
    exact ⟨by have := FullOf_len scs x; omega, FullOf_sizes h.z (h.z' x hx)⟩))
  have FL := hide (fun x => FullOf_len scs x)
  have HVS := hide h.hv
  rw [hv] at VH
  rw [hp] at PV
  generalize countV l (vs.map (FullOf scs)) = C at *
  generalize bsP l = pl at *
  have FI' := FI.out
  rw [List.length_map] at FI'
  obtain ⟨m, hm⟩ : ∃ m, vs.length = m := ⟨_, rfl⟩
  rw [hm] at FI' VH hl'
  rw [hm]
  obtain ⟨n, hn⟩ : ∃ n, scs.length = n := ⟨_, rfl⟩
  rw [hn] at hl
  have VH' := VH.out
  have FU' := FU.out
  have FL' := FL.out
  rw [hn] at VH' FU' FL'
  rw [hn]
  have Hm := hide hm
  have FI2 := hide FI'
  have VH2 := hide VH'
  have FU2 := hide FU'
  have FL2 := hide FL'
  clear h hg hv hp FI FI' VH VH' FU FU' FL FL' hm hn
  go_enter Try.func23, Try.ntmps23
  go_wp2_with fail
  refine (VH2.out _ (Below.refl _ _)).mono ?_
  rintro e w1 ⟨rfl, hb⟩
  have Hb1 := hide hb
  clear hb
  go_wp2_with fail
  refine (PV.out _ Hb1.out).mono ?_
  rintro e w2 ⟨rfl, hb⟩
  have Hb2 := hide (Hb1.out.trans (hb.mono Hb1.out.size))
  clear hb
  go_wp2_with fail
  go_loopw [8, 20] (fun v8 v20 wr => ∃ (i : Nat) (zs : List Value), v20 = .int .i64 (i : Int) ∧ i ≤ m ∧ Hid (PathsAt wr v8 ((vs.take i).map (FullOf scs)) zs) ∧ Hid (wr.ownsRow w2.heap.size 37 1 v8 i zs) ∧ Hid (Below w2.heap.size w2 wr)) (fun _ v _ => m - (intOf v).toNat)
  case atStart => exact ⟨0, [], rfl, Nat.zero_le _, hide (PathsAt.nil _ _), hide (World.ownsRow_nil _ _ _ _), hide (Below.refl _ _)⟩
  case round =>
    obtain ⟨i, zs, rfl, hi, HP, HO, HB⟩ := hrel
    by_cases hlt : i < m
    · have hi' : (i : Int) < (m : Int) := by omega
      have hi0 : (0 : Int) ≤ (i : Int) := by omega
      have hw1 : IntKind.i64.wrap ((i : Int) + 1) = (i : Int) + 1 := IntWalk.i64_in _ (by omega)
      have hix : i < vs.length := by rw [Hm.out]; exact hlt
      have hbw := Hb2.out.trans (HB.out.mono Hb2.out.size)
      obtain ⟨b, off, rfl, hbz, hat⟩ := va_at HVS.out hix
      obtain ⟨c0, c1, c2, c3, c4, c5, c6⟩ := hat wr hbw
      have htk : (vs.take (i + 1)).map (FullOf scs) = (vs.take i).map (FullOf scs) ++ [FullOf scs vs[i]] := by rw [List.take_succ_eq_append_getElem hix, List.map_append]; rfl
      have HTK := hide htk
      generalize vs[i]'hix = x at *
      have FX := hide (FU2.out x)
      have hfl := FL2.out x
      obtain ⟨F, hF⟩ : ∃ F, FullOf scs x = F := ⟨_, rfl⟩
      rw [hF] at HTK FX hfl
      obtain ⟨k, hk⟩ : ∃ k, F.length = k := ⟨_, rfl⟩
      rw [hk] at FX hfl
      have HK := hide hk
      obtain ⟨nm, ty, sc, sg, rg, msb, lsb⟩ := x
      unfold vaV at FX
      simp only at FX
      simp only at c0 c1 c2 c3 c4 c5 c6
      obtain ⟨A8, cp8, rfl⟩ := ownH_sl HO.out
      obtain ⟨W0, hW0⟩ : ∃ W0, wr.alloc (.cells #[.string nm, .int .i64 ty, .int .i64 sc, .int .i64 sg, .bool rg, .int .i64 msb, .int .i64 lsb] 29) = W0 := ⟨_, rfl⟩
      have HR := hide (show Row W0 wr.heap.size 29 _ from hW0 ▸ Row.new wr 29 #[.string nm, .int .i64 ty, .int .i64 sc, .int .i64 sg, .bool rg, .int .i64 msb, .int .i64 lsb])
      have HB0 := hide (show Below w2.heap.size w2 W0 from hW0 ▸ HB.out.alloc HB.out.size _)
      have HBw := hide (show Below w.heap.size w W0 from hW0 ▸ hbw.alloc hbw.size _)
      have HP0 := hide (show PathsAt W0 (.slice A8 i cp8) ((vs.take i).map (FullOf scs)) zs from hW0 ▸ HP.out.below ((Below.refl _ _).alloc (Nat.le_refl _) _))
      have HO0 := hide (show W0.ownsRow w2.heap.size 37 1 (.slice A8 i cp8) i zs from hW0 ▸ HO.out.alloc _)
      have e0 : W0.cell? ⟨wr.heap.size, 0, none⟩ = some (.string nm) := HR.out.cell 0
      have e1 : W0.cell? ⟨wr.heap.size, 1, none⟩ = some (.int .i64 ty) := HR.out.cell 1
      have e2 : W0.cell? ⟨wr.heap.size, 2, none⟩ = some (.int .i64 sc) := HR.out.cell 2
      have e3 : W0.cell? ⟨wr.heap.size, 3, none⟩ = some (.int .i64 sg) := HR.out.cell 3
      have e4 : W0.cell? ⟨wr.heap.size, 4, none⟩ = some (.bool rg) := HR.out.cell 4
      have e5 : W0.cell? ⟨wr.heap.size, 5, none⟩ = some (.int .i64 msb) := HR.out.cell 5
      have e6 : W0.cell? ⟨wr.heap.size, 6, none⟩ = some (.int .i64 lsb) := HR.out.cell 6
      obtain ⟨iS, hiS, hz0', hz1', hz2'⟩ := info_parts infoSlH
      have HI := hide hiS
      have HZ0 := hide hz0'
      have HZ1 := hide hz1'
      have HZ2 := hide hz2'
      have HK1 := hide (show i + 1 ≤ maxLen by unfold maxLen; omega)
      have HK2 := hide (show (i + 1) * 24 ≤ 140737488355328 by omega)
      clear hat hiS hz0' hz1' hz2' htk hF hk hbw
      go_wp2_with fail
      clear hW0
      refine (FX.out W0 HBw.out).mono ?_
      rintro e w5 ⟨v1, rfl, ho5, hb5⟩
      obtain ⟨A1, cp1, rfl⟩ := ownH_sl ho5
      have Ho5 := hide (Sl_own ho5 HK.out.symm)
      have HB5 := hide (HB0.out.trans (hb5.mono HB0.out.size))
      have HP5 := hide (HP0.out.below hb5)
      have HO5 := hide (ownsRow_below HO0.out hb5)
      have Hz5 := hide (show W0.heap.size ≤ w5.heap.size from hb5.size)
      clear ho5 hb5
      go_wp2_with (at_builtin; refine wpList_append_lies _ rfl _ _ 75 rfl w2.heap.size 37 iS _ 1 24 Try.underlying75 HI.out HZ0.out HZ1.out HZ2.out rfl (by decide) (.slice A8 i cp8) i zs rfl (HO5.out.alloc _) ⟨w5.heap.size, 0, none⟩ 1 1 [.slice A1 k cp1] rfl rfl (cells_new _ _ rfl) (by intro u hu; simp only [List.mem_cons, List.not_mem_nil, or_false] at hu; rcases hu with rfl; rfl) (by decide) HK1.out HK2.out (Nat.le_trans HB5.out.size (by rw [World.size_alloc]; exact Nat.le_succ _)) _ rfl ?_; intro g6 cap6 w6 hown6 hgrow6 hat6 hlt6)
      have hps := (HP5.out.snoc (F := F) (c := cp1) (by obtain ⟨A9, c9, e9, h9, _⟩ := Ho5.out; cases e9; exact h9) (by obtain ⟨A9, c9, e9, _, h9⟩ := Ho5.out; cases e9; exact fun a ha => ⟨fun e => by have := (HO0.out.lt _ e).2; have := (h9 a ha).1; omega, (h9 a ha).2⟩)).below ((Below.refl _ _).alloc (Nat.le_refl _) (.cells #[.slice A1 k cp1] 37))
      rw [HK.out, ← HTK.out] at hps
      have HF := hide (show w6.ownsRow w2.heap.size 37 1 (.slice (some ⟨g6, 0, none⟩) (i + 1) cap6) (i + 1) (zs ++ [.slice A1 k cp1]) ∧ PathsAt w6 (.slice (some ⟨g6, 0, none⟩) (i + 1) cap6) ((vs.take (i + 1)).map (FullOf scs)) (zs ++ [.slice A1 k cp1]) ∧ Below w2.heap.size w2 w6 from ⟨hown6, PathsAt.grown hps hgrow6 (by simp [Value.ownBlock]) hat6, (HB5.out.alloc HB5.out.size _).grown hgrow6 (Nat.le_trans HB5.out.size (by rw [World.size_alloc]; exact Nat.le_succ _)) (fun j hj => (World.ownsRow.lt (HO5.out.alloc (.cells #[.slice A1 k cp1] 37)) j hj).1)⟩)
      clear hown6 hgrow6 hat6 hlt6 hps
      go_wp2
      go_roundw
      case rel => exact ⟨i + 1, _, by go_num, by omega, hide HF.out.2.1, hide HF.out.1, hide HF.out.2.2⟩
      case measure => simp [intOf]; omega
    · obtain rfl : i = m := by omega
      have hi' : ¬ (i : Int) < (i : Int) := by omega
      obtain ⟨A8, cp8, rfl⟩ := ownH_sl HO.out
      have hbw := Hb2.out.trans (HB.out.mono Hb2.out.size)
      have HFI := hide (FI2.out wr hbw A8 cp8 (by
        have h1 := HP.out
        rw [List.take_of_length_le (Nat.le_of_eq Hm.out)] at h1
        exact h1.slp HO.out (by rw [List.length_map]; exact Hm.out.symm)))
      have HBw := hide hbw
      clear hbw
      go_wp2_with fail
      refine HFI.out.mono ?_
      rintro e w5 ⟨B, c, rfl, hb5⟩
      have HB5 := hide (HBw.out.trans (hb5.mono HBw.out.size))
      clear hb5
      go_wp2
      go_ret2
      exact ⟨B, c, rfl, HB5.out⟩
end Go.Proofs.Ytpfiofgchkfkhaa

/- awake of the laws 21. -/
set_option linter.unusedVariables false
set_option linter.unusedSimpArgs false
namespace Go.Proofs.Ytpfiofgchkfkhaa
open Go.RowKit Go.Shelf Go.Maps
def exS2 : List Sc := [⟨⟨#[116, 111, 112]⟩, 0, -1⟩, ⟨⟨#[117, 49]⟩, 0, 0⟩, ⟨⟨#[116, 101, 115, 116]⟩, 0, -1⟩]
def exV2 : List Va := [⟨⟨#[98]⟩, 0, 1, 0, false, 0, 0⟩, ⟨⟨#[97]⟩, 0, 2, 1, false, 0, 0⟩]
theorem exG : checkE exS exV = 0 := by decide +kernel
theorem exO1 : orderS exS = exS2 := by decide +kernel
theorem exO2 : (orderV exS exV).1 = exV2 := by decide +kernel
theorem exO3 : (orderV exS exV).2 = [9, 5] := by decide +kernel
theorem exVd : validH exS2 exV2 = true := by decide +kernel
theorem exFi : findH exS2 [⟨#[116, 111, 112]⟩, ⟨#[117, 49]⟩] = (1, 0) := by decide +kernel
theorem exDe : (PathOf exS2 1).length = 2 := by decide +kernel
theorem exFu : (FullOf exS2 ⟨⟨#[98]⟩, 0, 1, 0, false, 0, 0⟩).length = 3 := by decide +kernel
theorem exCo : countV [42, 42, 46, 98] (exV2.map (FullOf exS2)) = 1 := by decide +kernel
theorem exRd : (readV [42, 42, 46, 98]).isSome = true := by decide +kernel
theorem exInH {W : World} {a b : Option Addr} {c' : Nat} (hs : ScS W a exS) (hv : VaS W b exV) (ha : ∀ x, a = some x → x.block < W.heap.size) (hb : b = none → c' = 0) : InH W exS exV a b c' :=
  ⟨hs, hv, by decide, by decide, by intro x hx; simp only [exS, List.mem_cons, List.not_mem_nil, or_false] at hx; rcases hx with rfl | rfl | rfl <;> exact ⟨⟨by decide, by decide⟩, ⟨by decide, by decide⟩, by decide⟩,
    by intro x hx; simp only [exV, List.mem_cons, List.not_mem_nil, or_false] at hx; rcases hx with rfl | rfl <;> exact ⟨⟨by decide, by decide⟩, ⟨by decide, by decide⟩, ⟨by decide, by decide⟩, ⟨by decide, by decide⟩, ⟨by decide, by decide⟩, by decide⟩,
    by intro x hx; simp only [exS, List.mem_cons, List.not_mem_nil, or_false] at hx; rcases hx with rfl | rfl | rfl <;> decide,
    by intro x hx; simp only [exV, List.mem_cons, List.not_mem_nil, or_false] at hx; rcases hx with rfl | rfl <;> decide, ha, fun h => ⟨hb h, by obtain ⟨_, _, e, _⟩ := hv (by decide); rw [h] at e; cases e⟩⟩
theorem exInH2 {W : World} {a b : Option Addr} {c' : Nat} (hs : ScS W a exS2) (hv : VaS W b exV2) (ha : ∀ x, a = some x → x.block < W.heap.size) (hb : b = none → c' = 0) : InH W exS2 exV2 a b c' :=
  ⟨hs, hv, by decide, by decide, by intro x hx; simp only [exS2, List.mem_cons, List.not_mem_nil, or_false] at hx; rcases hx with rfl | rfl | rfl <;> exact ⟨⟨by decide, by decide⟩, ⟨by decide, by decide⟩, by decide⟩,
    by intro x hx; simp only [exV2, List.mem_cons, List.not_mem_nil, or_false] at hx; rcases hx with rfl | rfl <;> exact ⟨⟨by decide, by decide⟩, ⟨by decide, by decide⟩, ⟨by decide, by decide⟩, ⟨by decide, by decide⟩, ⟨by decide, by decide⟩, by decide⟩,
    by intro x hx; simp only [exS2, List.mem_cons, List.not_mem_nil, or_false] at hx; rcases hx with rfl | rfl | rfl <;> decide,
    by intro x hx; simp only [exV2, List.mem_cons, List.not_mem_nil, or_false] at hx; rcases hx with rfl | rfl <;> decide, ha, fun h => ⟨hb h, by obtain ⟨_, _, e, _⟩ := hv (by decide); rw [h] at e; cases e⟩⟩
/-- what Order makes of the example -/
structure ExO (W : World) (B : Nat) (b1 o1 b2 o2 b3 o3 c2 : Nat) : Prop where
  s : ScS W (some ⟨b1, o1, none⟩) exS2
  v : VaS W (some ⟨b2, o2, none⟩) exV2
  f : W.cell? ⟨b3, o3, none⟩ = some (.int .i64 9)
  l1 : b1 < W.heap.size
theorem ExO.inH {W : World} {B b1 o1 b2 o2 b3 o3 c2 : Nat} (h : ExO W B b1 o1 b2 o2 b3 o3 c2) : InH W exS2 exV2 (some ⟨b1, o1, none⟩) (some ⟨b2, o2, none⟩) c2 := exInH2 h.s h.v (fun x hx => by cases hx; exact h.l1) (fun h => by cases h)
theorem aw_order (W : World) (a b : Nat) (hs : ScS W (some ⟨a, 0, none⟩) exS) (hv : VaS W (some ⟨b, 0, none⟩) exV) (ha : a < W.heap.size) :
    Calls Try.prog 10 #[.slice (some ⟨a, 0, none⟩) 3 3, .slice (some ⟨b, 0, none⟩) 2 2] W fun e w' => (∃ b1 o1 c1 b2 o2 c2 b3 o3 c3, e = .returned (.tuple #[.slice (some ⟨b1, o1, none⟩) 3 c1, .slice (some ⟨b2, o2, none⟩) 2 c2, .slice (some ⟨b3, o3, none⟩) 2 c3, .int .i64 0]) ∧ ExO w' W.heap.size b1 o1 b2 o2 b3 o3 c2) ∧ Below W.heap.size W w' := by
  have hI := exInH (c' := 2) hs hv (fun x hx => by cases hx; exact ha) (fun h => by cases h)
  refine (order_good exS exV (some ⟨a, 0, none⟩) (some ⟨b, 0, none⟩) 3 2 W hI.hs hI.hv hI.hl hI.hl' hI.ok hI.ok' hI.z hI.z' hI.a hI.a' (checkE_ok.1 exG)).mono ?_
  rintro e w' ⟨a1, c1, a2, c2, v3, rfl, h1, h2, h3, hb, h4, _⟩
  rw [exO1] at h1
  rw [exO2] at h2
  rw [exO3] at h3
  obtain ⟨b1, o1, rfl, _⟩ := id h1 (by decide)
  obtain ⟨b2, o2, rfl, _⟩ := id h2 (by decide)
  obtain ⟨g, cap, rfl, _⟩ := World.ownsRow.form h3 (by decide)
  refine ⟨⟨b1, o1, c1, b2, o2, c2, g, 0, cap, rfl, h1, h2, ?_, h4 _ rfl⟩, hb⟩
  rw [World.ownsRow.cellAt h3 0 (by decide)]; rfl
theorem aw_find {W : World} {B b1 o1 b2 o2 b3 o3 c2 : Nat} (c1 : Nat) (h : ExO W B b1 o1 b2 o2 b3 o3 c2) :
    Calls Try.prog 14 #[.slice (some ⟨b1, o1, none⟩) 3 c1, .slice (some ⟨W.heap.size, 0, none⟩) 2 2] (W.alloc (.cells #[.string ⟨#[116, 111, 112]⟩, .string ⟨#[117, 49]⟩] 9)) fun e w' => e = .returned (.tuple #[.int .i64 1, .int .i64 0]) ∧ Below W.heap.size W w' := by
  refine (Find_any c1 2 [⟨#[116, 111, 112]⟩, ⟨#[117, 49]⟩] (h.inH.toS.below ((Below.refl _ _).alloc (Nat.le_refl _) _)) (Sl_new W _) (by decide)).mono ?_
  rintro e w' ⟨rfl, hb⟩
  exact ⟨by rw [exFi], alloc_trans hb⟩
theorem aw_search {W : World} {B b1 o1 b2 o2 b3 o3 c2 : Nat} (c1 : Nat) (h : ExO W B b1 o1 b2 o2 b3 o3 c2) (hg : Gm W) :
    Calls Try.prog 23 #[.slice (some ⟨b1, o1, none⟩) 3 c1, .slice (some ⟨b2, o2, none⟩) 2 c2, .string ⟨#[42, 42, 46, 98]⟩] W fun e w' => (∃ A c, e = .returned (.tuple #[.slice A 1 c, .int .i64 0])) ∧ Below W.heap.size W w' := by
  refine (Search_good c1 c2 [42, 42, 46, 98] h.inH (by decide) (by decide) hg (by decide) exVd exRd).mono ?_
  rintro e w' ⟨A, c, rfl, hb⟩
  exact ⟨⟨A, c, by rw [exCo]⟩, hb⟩
theorem aw_valid {W : World} {B b1 o1 b2 o2 b3 o3 c2 : Nat} (c1 : Nat) (h : ExO W B b1 o1 b2 o2 b3 o3 c2) :
    Calls Try.prog 9 #[.slice (some ⟨b1, o1, none⟩) 3 c1, .slice (some ⟨b2, o2, none⟩) 2 c2] W fun e w' => e = .returned (.bool true) ∧ Below W.heap.size W w' := by
  refine (Valid_H exS2 exV2 (some ⟨b1, o1, none⟩) (some ⟨b2, o2, none⟩) c1 c2 W h.inH).mono ?_
  rintro e w' ⟨rfl, hb⟩
  exact ⟨by rw [exVd], hb⟩
theorem aw_depth {W : World} {B b1 o1 b2 o2 b3 o3 c2 : Nat} (c1 : Nat) (h : ExO W B b1 o1 b2 o2 b3 o3 c2) :
    Calls Try.prog 16 #[.slice (some ⟨b1, o1, none⟩) 3 c1, .int .i64 1] W fun e w' => e = .returned (.int .i64 2) ∧ Below W.heap.size W w' := by
  refine (Depth_any c1 1 h.inH.toS (by decide)).mono ?_
  rintro e w' ⟨rfl, hb⟩
  exact ⟨by rw [exDe]; rfl, hb⟩
theorem aw_full {W : World} {B b1 o1 b2 o2 b3 o3 c2 : Nat} (c1 : Nat) (h : ExO W B b1 o1 b2 o2 b3 o3 c2) :
    Calls Try.prog 17 #[.slice (some ⟨b1, o1, none⟩) 3 c1, .agg #[.string ⟨#[98]⟩, .int .i64 0, .int .i64 1, .int .i64 0, .bool false, .int .i64 0, .int .i64 0]] W fun e w' => (∃ A c, e = .returned (.slice A 3 c)) ∧ Below W.heap.size W w' := by
  refine (Full_any c1 ⟨⟨#[98]⟩, 0, 1, 0, false, 0, 0⟩ h.inH.toS (by decide)).mono ?_
  rintro e w' ⟨u, rfl, ho, hb⟩
  obtain ⟨A, c, rfl⟩ := ownH_sl ho
  exact ⟨⟨A, c, by rw [exFu]⟩, hb⟩
theorem ExO.below {W W' : World} {B b1 o1 b2 o2 b3 o3 c2 : Nat} (h : ExO W B b1 o1 b2 o2 b3 o3 c2) (hb : Below W.heap.size W W') : ExO W' B b1 o1 b2 o2 b3 o3 c2 :=
  ⟨sc_below h.s hb, va_below h.v hb, by rw [hb.cell (p := ⟨b3, o3, none⟩) (World.block_lt_of_cell? W _ h.f)]; exact h.f, Nat.lt_of_lt_of_le h.l1 hb.size⟩
theorem ExO.cells {W : World} {B b1 o1 b2 o2 b3 o3 c2 : Nat} (h : ExO W B b1 o1 b2 o2 b3 o3 c2) : W.cell? ⟨b1, o1 + 3, none⟩ = some (.string ⟨#[117, 49]⟩) ∧ W.cell? ⟨b2, o2, none⟩ = some (.string ⟨#[98]⟩) ∧ W.cell? ⟨b2, o2 + 1, none⟩ = some (.int .i64 0) ∧ W.cell? ⟨b2, o2 + 2, none⟩ = some (.int .i64 1) ∧ W.cell? ⟨b2, o2 + 3, none⟩ = some (.int .i64 0) ∧ W.cell? ⟨b2, o2 + 4, none⟩ = some (.bool false) ∧ W.cell? ⟨b2, o2 + 5, none⟩ = some (.int .i64 0) ∧ W.cell? ⟨b2, o2 + 6, none⟩ = some (.int .i64 0) := by
  obtain ⟨b, o, e, _, h1⟩ := sc_at h.s (i := 1) (by decide)
  cases e
  obtain ⟨b', o', e', _, h2⟩ := va_at h.v (i := 0) (by decide)
  cases e'
  have h3 := h1 W (Below.refl _ _)
  have h4 := h2 W (Below.refl _ _)
  simp only [Nat.zero_mul, Nat.add_zero, Nat.one_mul] at h3 h4
  exact ⟨h3.1, h4.1, h4.2.1, h4.2.2.1, h4.2.2.2.1, h4.2.2.2.2.1, h4.2.2.2.2.2.1, h4.2.2.2.2.2.2⟩
set_option maxRecDepth 20000 in
set_option maxHeartbeats 4000000 in
theorem awake_hi (w : World) (hg : Gm w) : Calls Try.prog 7 #[] w fun e w' => e = .returned (.bool true) ∧ Below w.heap.size w w' := by
  have G := hide hg
  clear hg
  go_enter Try.func7, Try.ntmps7
  go_wp2_with fail
  refine (example_any w).mono ?_
  rintro e w1 ⟨a, b, rfl, hs, hv, ha1, ha2, hb1, hb2, hb⟩
  have H1 := hide hb
  have AO := hide (aw_order w1 a b hs hv ha2)
  clear hs hv hb ha1 ha2 hb1 hb2
  go_wp2_with fail
  refine AO.out.mono ?_
  rintro e w2 ⟨⟨b1, o1, c1, b2, o2, c2, b3, o3, c3, rfl, hE⟩, hb⟩
  have H2 := hide (H1.out.trans (hb.mono H1.out.size))
  have HE := hide hE
  obtain ⟨d0, d1, d2, d3, d4, d5, d6, d7⟩ := hE.cells
  have d8 := hE.f
  have AF := hide (aw_find c1 hE)
  clear hb hE
  go_wp2_with fail
  refine AF.out.mono ?_
  rintro e w3 ⟨rfl, hb⟩
  have H3 := hide (H2.out.trans (hb.mono H2.out.size))
  have HE3 := hide (HE.out.below hb)
  have AS := hide (aw_search c1 HE3.out (G.out.below H3.out))
  clear hb d0 d1 d2 d3 d4 d5 d6 d7 d8
  go_wp2_with fail
  refine AS.out.mono ?_
  rintro e w4 ⟨⟨A4, c4, rfl⟩, hb⟩
  have H4 := hide (H3.out.trans (hb.mono H3.out.size))
  have HE4 := hide (HE3.out.below hb)
  have AV := hide (aw_valid c1 HE4.out)
  clear hb
  go_wp2_with fail
  refine AV.out.mono ?_
  rintro e w5 ⟨rfl, hb⟩
  have H5 := hide (H4.out.trans (hb.mono H4.out.size))
  have HE5 := hide (HE4.out.below hb)
  have AD := hide (aw_depth c1 HE5.out)
  clear hb
  go_wp2_with fail
  refine AD.out.mono ?_
  rintro e w6 ⟨rfl, hb⟩
  have H6 := hide (H5.out.trans (hb.mono H5.out.size))
  have HE6 := hide (HE5.out.below hb)
  have AFu := hide (aw_full c1 HE6.out)
  obtain ⟨d0, d1, d2, d3, d4, d5, d6, d7⟩ := HE6.out.cells
  clear hb
  go_wp2_with fail
  refine AFu.out.mono ?_
  rintro e w7 ⟨⟨A7, c7, rfl⟩, hb⟩
  have H7 := hide (H6.out.trans (hb.mono H6.out.size))
  clear hb
  go_wp2
  go_ret
  exact ⟨rfl, H7.out⟩
end Go.Proofs.Ytpfiofgchkfkhaa
