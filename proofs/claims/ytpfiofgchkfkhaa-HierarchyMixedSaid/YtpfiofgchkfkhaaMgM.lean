/- MgM: the texts HkF HkI in one. -/
import Derived.Test.YtpfiofgchkfkhaaMgL
import Derived.Laws.OwnMore
import Derived.Test.YtpfiofgchkfkhaaMgK
/- Contract of the reference's Path. -/
set_option linter.unusedVariables false
set_option linter.unusedSimpArgs false
namespace Go.Proofs.Ytpfiofgchkfkhaa
open Go.RowKit Go.Shelf Go.Maps
/-- the names on the path of a scope, none where there is no such scope -/
def refP (scs : List Sc) (i : Int) : List ByteArray := if 0 ≤ i ∧ i < scs.length then pathH scs i else []
theorem refP_step {scs : List Sc} (hd : DeclS scs) {i : Int} (h0 : 0 ≤ i) (h1 : i < scs.length) : refP scs i = refP scs (scH scs i.toNat).parent ++ [(scH scs i.toNat).name] := by
  obtain ⟨k, rfl⟩ : ∃ k : Nat, i = k := ⟨i.toNat, by omega⟩
  have hk : k < scs.length := by omega
  obtain ⟨q1, q2⟩ := hd k hk
  have e : ((k : Int)).toNat = k := rfl
  rw [e]
  unfold refP
  rw [if_pos ⟨h0, h1⟩, pathH_step hd hk]
  by_cases h : 0 ≤ (scH scs k).parent
  · rw [if_pos ⟨h, by omega⟩]
  · rw [if_neg (by omega), pathH_neg _ (by omega)]
theorem refP_out {scs : List Sc} {i : Int} (h : ¬ (0 ≤ i ∧ i < scs.length)) : refP scs i = [] := by unfold refP; rw [if_neg h]
theorem refP_in {scs : List Sc} {i : Int} (h1 : -1 ≤ i) (h2 : i < scs.length) : refP scs i = pathH scs i := by
  unfold refP
  by_cases h : 0 ≤ i
  · rw [if_pos ⟨h, h2⟩]
  · rw [if_neg (by omega), pathH_neg _ (by omega)]
theorem refP_len (scs : List Sc) (i : Int) : (refP scs i).length ≤ scs.length := by
  unfold refP
  split
  · rename_i h
    rw [pathH_len]
    have := upF_len scs (i.toNat + 1) i
    show (upF scs (i.toNat + 1) i).length ≤ _
    omega
  · exact Nat.zero_le _
set_option maxRecDepth 20000 in
set_option maxHeartbeats 8000000 in
theorem refPath_any {w : World} {scs : List Sc} {A : Option Addr} (cap : Nat) (i : Int) (hs : ScS w A scs) (hd : DeclS scs) (hl : scs.length ≤ 100000) :
    Calls Try.prog 13 #[.slice A scs.length cap, .int .i64 i] w fun e w' => ∃ g c, e = .returned (.slice (some ⟨g, 0, none⟩) (refP scs i).length c) ∧ w'.ownsRow w.heap.size 9 1 (.slice (some ⟨g, 0, none⟩) (refP scs i).length c) (refP scs i).length ((refP scs i).map Value.string) ∧ Below w.heap.size w w' := by
  have HS := hide hs
  have HD := hide hd
  have HPL := hide (fun j => refP_len scs j)
  have HST := hide (fun (j : Int) (h0 : 0 ≤ j) (h1 : j < scs.length) => refP_step hd h0 h1)
  have HOUT := hide (fun (j : Int) (h : ¬ (0 ≤ j ∧ j < scs.length)) => refP_out h)
  obtain ⟨P, hP⟩ : ∃ P, refP scs i = P := ⟨_, rfl⟩
  have hPl := HPL.out i
  rw [hP] at hPl ⊢
  have HP := hide hP
  obtain ⟨n, hn⟩ : ∃ n, scs.length = n := ⟨_, rfl⟩
  have HST' := HST.out
  have HOUT' := HOUT.out
  rw [hn] at HST' HOUT' hl hPl
  rw [hn]
  have Hn := hide hn
  have HST2 := hide HST'
  have HOUT2 := hide HOUT'
  clear hs hd hP hn HST HST' HOUT HOUT'
  go_enter Try.func13, Try.ntmps13
  go_wp2_with fail
  have HB0 := hide ((Below.refl w.heap.size w).alloc (Nat.le_refl _) (.cells #[] 9))
  have HO0 := hide (World.ownsRow_lit (base := w.heap.size) (e := 9) (size := 1) w #[] 0 (Nat.le_refl _) (by decide) rfl)
  go_loopw [1, 5] (fun v v5 wr => ∃ (k : Int) (L : List ByteArray) (g c : Nat), v = .int .i64 k ∧ v5 = .slice (some ⟨g, 0, none⟩) L.length c ∧ L.length ≤ n ∧ Hid (P = refP scs k ++ L) ∧ Hid (wr.ownsRow w.heap.size 9 1 (.slice (some ⟨g, 0, none⟩) L.length c) L.length (L.map Value.string)) ∧ Hid (Below w.heap.size w wr)) (fun v _ _ => (intOf v + 1).toNat)
  case atStart => exact ⟨i, [], w.heap.size, 0, rfl, rfl, Nat.zero_le _, hide (by rw [List.append_nil]; exact HP.out.symm), HO0, HB0⟩
  case round =>
    obtain ⟨k, L, g, c, rfl, rfl, hL, HE, HO, HB⟩ := hrel
    by_cases hk : 0 ≤ k ∧ k < n
    · obtain ⟨hk0, hk1⟩ := hk
      have hix : k.toNat < scs.length := by rw [Hn.out]; omega
      have hstep := HST2.out k hk0 hk1
      obtain ⟨q1, q2⟩ := HD.out k.toNat hix
      rw [scH_at hix] at hstep q1 q2
      obtain ⟨b, off, rfl, hbz, hat⟩ := sc_at HS.out hix
      obtain ⟨c0, _, c2⟩ := hat wr HB.out
      have HE2 := hide (show P = refP scs (scs[k.toNat]'hix).parent ++ ((scs[k.toNat]'hix).name :: L) by rw [HE.out, hstep, List.append_assoc]; rfl)
      have hat3 := fun (W : World) (hb : Below w.heap.size w W) => (hat W hb).2.2
      generalize scs[k.toNat]'hix = x at *
      obtain ⟨nm, ty, pa⟩ := x
      simp only at c0 c2 q1 q2 HE2 hat3
      have hpk : ¬ k ≤ pa := by omega
      have hLn : L.length + 1 ≤ n := by
        have h1 := congrArg List.length HE.out
        rw [hstep, List.length_append, List.length_append, List.length_singleton] at h1
        omega
      have HA3 := hide hat3
      have HO1 := hide (World.ownsRow_lit (base := w.heap.size) (e := 9) (size := 1) wr #[.string nm] 1 HB.out.size (by decide) rfl)
      have HB1 := hide (HB.out.alloc HB.out.size (.cells #[.string nm] 9))
      have HOA := hide (HO.out.alloc (.cells #[.string nm] 9))
      have HH1 := hide (show 1 + L.length ≤ maxLen by unfold maxLen; omega)
      have HH2 := hide (show (1 + L.length) * 16 ≤ 140737488355328 by omega)
      have HZ := hide (show w.heap.size ≤ (wr.alloc (.cells #[.string nm] 9)).heap.size by rw [World.size_alloc]; have := HB.out.size; omega)
      clear hat hat3 hstep
      go_wp2_with (at_builtin; refine wpList_append_at _ rfl _ _ 37 rfl w.heap.size 9 infoStrH Try.underlying37 rfl (by decide) _ 1 [.string nm] rfl HO1.out ⟨g, 0, none⟩ L.length c (L.map Value.string) rfl (by rw [List.length_map, Nat.mul_one]) (fun j u hu => by rw [show ((⟨g, 0, none⟩ : Addr).add j) = ⟨g, j, none⟩ by unfold Addr.add; split <;> simp_all, World.ownsRow.cellAt HOA.out j (by have := (List.getElem?_eq_some_iff.1 hu).1; rw [List.length_map] at this; omega)]; exact hu) (by intro u hu; obtain ⟨s, _, rfl⟩ := List.mem_map.1 hu; rfl) HH1.out HH2.out HZ.out ?_; intro v' w5 hown5 hgrow5 hnn _; have c2' := HA3.out w5 (HB1.out.grown hgrow5 HZ.out (fun j hj => (World.ownsRow.lt HO1.out j hj).1)))
      have HB5 := hide (HB1.out.grown hgrow5 HZ.out (fun j hj => (World.ownsRow.lt HO1.out j hj).1))
      have hl2 : 1 + L.length = (nm :: L).length := by rw [List.length_cons]; omega
      rw [hl2] at hown5
      obtain ⟨g5, cap5, hv', _⟩ := World.ownsRow.form hown5 (by simp)
      subst hv'
      have HO5 := hide (show w5.ownsRow w.heap.size 9 1 (.slice (some ⟨g5, 0, none⟩) (nm :: L).length cap5) (nm :: L).length ((nm :: L).map Value.string) from hown5)
      clear hown5 hgrow5 hnn hl2
      go_wp2
      go_roundw
      case rel => exact ⟨pa, nm :: L, g5, cap5, by first | rfl | trivial, by first | rfl | trivial, by rw [List.length_cons]; omega, HE2, HO5, HB5⟩
      case measure => simp [intOf]; omega
    · have hE := hide (show L = P by rw [HE.out, HOUT2.out k hk]; rfl)
      by_cases hk0 : 0 ≤ k
      · have hk1 : ¬ k < n := fun h => hk ⟨hk0, h⟩
        go_wp2
        go_ret
        refine ⟨g, c, by rw [← hE.out]; first | done | rfl, ?_, HB.out⟩
        rw [← hE.out]; exact HO.out
      · go_wp2
        any_goals first | (rename_i hu hb; exact (undef_bool hu).elim) | skip
        go_ret
        refine ⟨g, c, by rw [← hE.out]; first | done | rfl, ?_, HB.out⟩
        rw [← hE.out]; exact HO.out
end Go.Proofs.Ytpfiofgchkfkhaa

/- Plain: what is in the hierarchy that Order returns. -/
set_option linter.unusedVariables false
set_option linter.unusedSimpArgs false
namespace Go.Proofs.Ytpfiofgchkfkhaa
open Go.RowKit Go.Shelf
theorem orderS_mem {scs : List Sc} (hd : DeclS scs) : ∀ x ∈ orderS scs, ∃ y ∈ scs, x.name = y.name ∧ x.typ = y.typ := by
  intro x hx
  rw [orderS_eq] at hx
  obtain ⟨i, hi, rfl⟩ := List.mem_map.1 hx
  have h0 : 0 < scs.length := by
    rcases Nat.eq_zero_or_pos scs.length with h | h
    · have := preH_len hd; rw [h] at this
      rw [List.eq_nil_of_length_eq_zero this] at hi; cases hi
    · exact h
  have hil := preH_lt hd h0 hi
  exact ⟨scs[i], List.getElem_mem hil, by show (scH scs i).name = _; rw [scH_at hil], by show (scH scs i).typ = _; rw [scH_at hil]⟩
/-- the variable at a place of the hierarchy -/
theorem orderV_at {scs : List Sc} {vs : List Va} (hg : Good scs vs) {q : Nat} {y : Va} (h : (orderV scs vs).1[q]? = some y) :
    ∃ u ∈ vs, bareV y = (u.name, u.typ, nowH (preH scs) u.scope, u.ranged, u.msb, u.lsb) ∧ y.signal = (((orderV scs vs).2.idxOf u.signal : Nat) : Int) ∧ u.signal ∈ (orderV scs vs).2 := by
  have hl : q < (sortV scs.length (moveV scs vs)).length := by
    have := (List.getElem?_eq_some_iff.1 h).1
    unfold orderV at this; rwa [numF_len] at this
  obtain ⟨u', g1, g2, g3, g4⟩ := numF_sig (sortV scs.length (moveV scs vs)) [] List.nodup_nil q _ (List.getElem?_eq_getElem hl)
  have hu : y = u' := by
    unfold orderV at h
    rw [h] at g1; exact Option.some.inj g1
  have hmem := (srt_sort (moveV_in hg)).mem (List.getElem_mem hl)
  generalize (sortV scs.length (moveV scs vs))[q]'hl = z at *
  unfold moveV at hmem
  obtain ⟨u, hu2, rfl⟩ := List.mem_map.1 hmem
  exact ⟨u, hu2, by rw [hu, g2]; rfl, by rw [hu, g3]; rfl, g4⟩
theorem orderV_mem {scs : List Sc} {vs : List Va} (hg : Good scs vs) {v : Va} (hv : v ∈ vs) :
    ∃ (q : Nat) (y : Va), (orderV scs vs).1[q]? = some y ∧ bareV y = (v.name, v.typ, nowH (preH scs) v.scope, v.ranged, v.msb, v.lsb) ∧ y.signal = (((orderV scs vs).2.idxOf v.signal : Nat) : Int) ∧ v.signal ∈ (orderV scs vs).2 := by
  have hm : { v with scope := nowH (preH scs) v.scope } ∈ sortV scs.length (moveV scs vs) :=
    (srt_sort (moveV_in hg)).perm.mem_iff.2 (by unfold moveV; exact List.mem_map.2 ⟨v, hv, rfl⟩)
  obtain ⟨q, hq⟩ := List.mem_iff_getElem?.1 hm
  obtain ⟨u', g1, g2, g3, g4⟩ := numF_sig (sortV scs.length (moveV scs vs)) [] List.nodup_nil q _ hq
  exact ⟨q, u', g1, g2, g3, g4⟩
theorem orderV_sig {scs : List Sc} {vs : List Va} (hg : Good scs vs) {q : Nat} {y : Va} (h : (orderV scs vs).1[q]? = some y) : 0 ≤ y.signal ∧ y.signal < ((orderV scs vs).2.length : Int) := by
  obtain ⟨u, _, _, h2, h3⟩ := orderV_at hg h
  have := List.idxOf_lt_length_iff.2 h3
  rw [h2]; omega
theorem former_len {scs : List Sc} {vs : List Va} (hg : Good scs vs) : (orderV scs vs).2.length ≤ vs.length := by
  have key : ∀ (l : List Va) (F : List Int), (numF l F).2.length ≤ F.length + l.length := by
    intro l
    induction l with
    | nil => intro F; exact Nat.le_refl _
    | cons v r ih =>
      intro F
      rw [numF_cons]
      refine Nat.le_trans (ih _) ?_
      split
      · rw [List.length_cons]; omega
      · simp only [List.length_append, List.length_cons, List.length_nil]; omega
  have := key (sortV scs.length (moveV scs vs)) []
  have h2 := (srt_sort (moveV_in hg)).len
  rw [moveV_len] at h2
  unfold orderV
  rw [List.length_nil] at this
  omega
/-- the path under which a declared variable is found -/
def wantP (scs : List Sc) (v : Va) : List ByteArray := refP scs v.scope ++ [v.name]
theorem full_order {scs : List Sc} {vs : List Va} (hg : Good scs vs) {v y : Va} (hv : v ∈ vs) {q : Nat} (hq : (orderV scs vs).1[q]? = some y) (hb : bareV y = (v.name, v.typ, nowH (preH scs) v.scope, v.ranged, v.msb, v.lsb)) : FullOf (orderS scs) y = wantP scs v := by
  have hvd := order_validH hg
  have hn := validH_nil hvd
  have hd := hg.declV v hv
  have g2 := (order_goodH hg).declV y (List.mem_of_getElem? hq)
  unfold bareV at hb
  simp only [Prod.mk.injEq] at hb
  rw [FullOf_valid hn g2.1 g2.2.1, hb.2.2.1, pathH_order hg.decl hd.1 hd.2.1, hb.1]
  unfold wantP
  rw [refP_in hd.1 hd.2.1]
/-- who is found under it -/
theorem look_in {scs : List Sc} {vs : List Va} (hg : Good scs vs) (p : List ByteArray) {k : Int} (h : k ∈ LookOf (orderS scs) (orderV scs vs).1 p) : ∃ (q : Nat) (y : Va), k = ((q : Nat) : Int) ∧ q < vs.length ∧ (orderV scs vs).1[q]? = some y := by
  unfold LookOf at h
  rw [if_pos (order_validH hg), idxsP_mem] at h
  obtain ⟨j, hj, rfl, _⟩ := h
  exact ⟨j, _, rfl, by rw [← orderV_len hg]; exact hj, List.getElem?_eq_getElem hj⟩
theorem look_hit {scs : List Sc} {vs : List Va} (hg : Good scs vs) {v : Va} (hv : v ∈ vs) :
    ∃ (q : Nat) (y : Va), (orderV scs vs).1[q]? = some y ∧ ((q : Nat) : Int) ∈ LookOf (orderS scs) (orderV scs vs).1 (wantP scs v) ∧ y.ranged = v.ranged ∧ y.msb = v.msb ∧ y.lsb = v.lsb ∧ y.typ = v.typ ∧ (orderV scs vs).2[y.signal.toNat]? = some v.signal := by
  obtain ⟨q, y, h1, h2, h3, h4⟩ := orderV_mem hg hv
  refine ⟨q, y, h1, ?_, ?_⟩
  · unfold LookOf
    rw [if_pos (order_validH hg), idxsP_mem]
    obtain ⟨a1, a2⟩ := List.getElem?_eq_some_iff.1 h1
    refine ⟨q, a1, rfl, ?_⟩
    unfold atPath
    rw [a2, full_order hg hv h1 h2]
    exact decide_eq_true rfl
  · have hb := h2
    unfold bareV at hb
    simp only [Prod.mk.injEq] at hb
    refine ⟨hb.2.2.2.1, hb.2.2.2.2.1, hb.2.2.2.2.2, hb.2.1, ?_⟩
    rw [h3]
    have hlt := List.idxOf_lt_length_iff.2 h4
    have e : ((((orderV scs vs).2.idxOf v.signal : Nat) : Int)).toNat = (orderV scs vs).2.idxOf v.signal := rfl
    rw [e, List.getElem?_eq_getElem hlt, List.getElem_idxOf hlt]
theorem order_inH {w W : World} {scs : List Sc} {vs : List Va} {A A' a1 a2 : Option Addr} {cap' c2 : Nat} (h : InH w scs vs A A' cap') (hg : Good scs vs) (hs : ScS W a1 (orderS scs)) (hv : VaS W a2 (orderV scs vs).1) (ha : ∀ a, a1 = some a → a.block < W.heap.size) (hc : a2 = none → c2 = 0) :
    InH W (orderS scs) (orderV scs vs).1 a1 a2 c2 := by
  have hd := hg.decl
  have g2 := order_goodH hg
  have hl1 := orderS_len hd
  have hl2 := orderV_len hg
  have hF := former_len hg
  have hSm : ∀ x ∈ orderS scs, x.name.size ≤ 1000000 := fun x hx => by obtain ⟨y, hy, e, _⟩ := orderS_mem hd x hx; rw [e]; exact h.z y hy
  have hVm : ∀ y ∈ (orderV scs vs).1, ∃ u ∈ vs, bareV y = (u.name, u.typ, nowH (preH scs) u.scope, u.ranged, u.msb, u.lsb) := fun y hy => by
    obtain ⟨q, hq⟩ := List.mem_iff_getElem?.1 hy
    obtain ⟨u, hu, hb, _⟩ := orderV_at hg hq
    exact ⟨u, hu, hb⟩
  refine ⟨hs, hv, by rw [hl1]; exact h.hl, by rw [hl2]; exact h.hl', fun x hx => ?_, fun y hy => ?_, hSm, fun y hy => ?_, ha, fun e => ⟨hc e, ?_⟩⟩
  · obtain ⟨k, hk, hkx⟩ := List.mem_iff_getElem.1 hx
    have h1 := g2.decl k hk
    rw [scH_at hk, hkx] at h1
    have h2 := g2.typS x hx
    exact ⟨⟨by omega, by omega⟩, ⟨by omega, by have := g2.few; omega⟩, Nat.le_trans (hSm x hx) (by decide)⟩
  · obtain ⟨u, hu, hb⟩ := hVm y hy
    unfold bareV at hb
    simp only [Prod.mk.injEq] at hb
    have ho := h.ok' u hu
    have h1 := g2.declV y hy
    have h2 := g2.typV y hy
    obtain ⟨q, hq⟩ := List.mem_iff_getElem?.1 hy
    have h3 := orderV_sig hg hq
    have h4 := hg.fewV
    refine ⟨⟨by omega, by omega⟩, ⟨by omega, by have := g2.few; omega⟩, ⟨by omega, by omega⟩, by rw [hb.2.2.2.2.1]; exact ho.msb, by rw [hb.2.2.2.2.2]; exact ho.lsb, by rw [hb.1]; exact Nat.le_trans (h.z' u hu) (by decide)⟩
  · obtain ⟨u, hu, hb⟩ := hVm y hy
    unfold bareV at hb
    simp only [Prod.mk.injEq] at hb
    rw [hb.1]; exact h.z' u hu
  · rcases Nat.eq_zero_or_pos (orderV scs vs).1.length with h0 | h0
    · exact List.eq_nil_of_length_eq_zero h0
    · obtain ⟨_, _, e2, _⟩ := hv h0
      rw [e] at e2; cases e2
end Go.Proofs.Ytpfiofgchkfkhaa
