/- MgI: the texts HiU HiV HiW HiWa HiX HiY HiZ in one. -/
import Derived.Test.YtpfiofgchkfkhaaMgH
import Derived.RegionIn
import Derived.Test.YtpfiofgchkfkhaaShelfE
import Derived.Laws.StructEq
/- Contract of number. -/
set_option linter.unusedVariables false
set_option linter.unusedSimpArgs false
namespace Go.Proofs.Ytpfiofgchkfkhaa
open Go.RowKit Go.Shelf Go.Maps
def numE (F : List Int) : List (Value × Value) := F.mapIdx fun k s => (Value.int .i64 s, Value.int .i64 (k : Int))
theorem numE_snoc (F : List Int) (s : Int) : numE (F ++ [s]) = numE F ++ [(Value.int .i64 s, Value.int .i64 (F.length : Int))] := by
  unfold numE; rw [List.mapIdx_append]; simp
theorem numE_keys (F : List Int) : (numE F).map Prod.fst = F.map (Value.int .i64 ·) := by
  unfold numE
  apply List.ext_getElem
  · simp
  · intro i h1 h2
    simp
theorem numF_cons (v : Va) (r : List Va) (F : List Int) : numF (v :: r) F = ({ v with signal := (F.idxOf v.signal : Int) } :: (numF r (if v.signal ∈ F then F else F ++ [v.signal])).1, (numF r (if v.signal ∈ F then F else F ++ [v.signal])).2) := rfl
theorem numE_dist {F : List Int} (h : F.Nodup) : (numE F).Pairwise fun p q => p.1 ≠ q.1 := by
  have h1 : ((numE F).map Prod.fst).Pairwise (· ≠ ·) := by
    rw [numE_keys, List.pairwise_map]
    exact (List.nodup_iff_pairwise_ne.1 h).imp fun hne e => hne (by cases e; rfl)
  rw [List.pairwise_map] at h1
  exact h1
theorem numE_in {F : List Int} {s : Int} (h : s ∈ F) : (Value.int .i64 s, Value.int .i64 ((F.idxOf s : Nat) : Int)) ∈ numE F := by
  have hi := List.idxOf_lt_length_iff.2 h
  unfold numE
  rw [List.mem_mapIdx]
  exact ⟨F.idxOf s, hi, by rw [List.getElem_idxOf hi]⟩
theorem numE_out {F : List Int} {s : Int} (h : s ∉ F) : ∀ p ∈ numE F, p.1 ≠ Value.int .i64 s := by
  intro p hp e
  have h1 : p.1 ∈ (numE F).map Prod.fst := List.mem_map.2 ⟨p, hp, rfl⟩
  rw [numE_keys, e] at h1
  obtain ⟨x, hx, hex⟩ := List.mem_map.1 h1
  cases hex
  exact h hx
theorem numE_key {F : List Int} (h : ∀ s ∈ F, In64 s) : ∀ p ∈ numE F, ∃ y, keyOf Try.prog 3 p.1 = some y := by
  intro p hp
  have h1 : p.1 ∈ (numE F).map Prod.fst := List.mem_map.2 ⟨p, hp, rfl⟩
  rw [numE_keys] at h1
  obtain ⟨x, hx, hex⟩ := List.mem_map.1 h1
  rw [← hex]
  exact ⟨_, keyInt (h x hx)⟩
theorem zeroIntH (W : World) : (zeroValue 3).run Try.prog W = .ok (.int .i64 0) W := zero_of (by kernel_rfl) W
theorem set_mid {α : Type} {A B : List α} {x y : α} {i : Nat} (h : i = A.length) : (A ++ x :: B).set i y = A ++ y :: B := by
  subst h
  rw [List.set_append_right _ _ (Nat.le_refl _), Nat.sub_self]; rfl
/-- where number stands behind i variables -/
structure NumAt (l : List Va) (i : Nat) (done : List Va) (F : List Int) : Prop where
  len : done.length = i
  eq1 : (numF l []).1 = done ++ (numF (l.drop i) F).1
  eq2 : (numF l []).2 = (numF (l.drop i) F).2
  nod : F.Nodup
  few : F.length ≤ i
  ok : ∀ s ∈ F, In64 s
theorem NumAt.start (l : List Va) : NumAt l 0 [] [] := ⟨rfl, rfl, rfl, List.nodup_nil, Nat.le_refl _, by simp⟩
theorem NumAt.old {l : List Va} {i : Nat} {done : List Va} {F : List Int} (h : NumAt l i done F) (hi : i < l.length) (hs : l[i].signal ∈ F) : NumAt l (i + 1) (done ++ [{ l[i] with signal := (F.idxOf l[i].signal : Int) }]) F := by
  have hd : l.drop i = l[i] :: l.drop (i + 1) := List.drop_eq_getElem_cons hi
  refine ⟨by simp [h.len], ?_, ?_, h.nod, by have := h.few; omega, h.ok⟩
  · rw [h.eq1, hd, numF_cons, if_pos hs]; simp
  · rw [h.eq2, hd, numF_cons, if_pos hs]
theorem NumAt.new {l : List Va} {i : Nat} {done : List Va} {F : List Int} (h : NumAt l i done F) (hi : i < l.length) (hs : l[i].signal ∉ F) (hok : In64 l[i].signal) : NumAt l (i + 1) (done ++ [{ l[i] with signal := (F.length : Int) }]) (F ++ [l[i].signal]) := by
  have hd : l.drop i = l[i] :: l.drop (i + 1) := List.drop_eq_getElem_cons hi
  have hx : F.idxOf l[i].signal = F.length := List.idxOf_eq_length hs
  refine ⟨by simp [h.len], ?_, ?_, nodup_snoc h.nod hs, by have := h.few; simp; omega, fun s hs' => ?_⟩
  · rw [h.eq1, hd, numF_cons, if_neg hs, hx]; simp
  · rw [h.eq2, hd, numF_cons, if_neg hs]
  · rcases List.mem_append.1 hs' with h1 | h1
    · exact h.ok s h1
    · rw [List.mem_singleton.1 h1]; exact hok
set_option maxRecDepth 20000 in
set_option maxHeartbeats 4000000 in
theorem number_any (l : List Va) (g cap n : Nat) (W : World) (h : RowV W g l) (hn : l.length = n) (hl : n ≤ 100000) (hg : g < W.heap.size) (hok : ∀ v ∈ l, In64 v.signal) :
    Calls Try.prog 32 #[.slice (some ⟨g, 0, none⟩) n cap] W fun e w' => ∃ v, e = .returned v ∧ RowV w' g (numF l []).1 ∧ w'.ownsRow W.heap.size 3 1 v (numF l []).2.length ((numF l []).2.map intV) ∧ Keeps (fun b => b = g) W w' := by
  have Hn := hide hn
  have H := hide h
  have Hok := hide hok
  have hmm := @run_makeMap Try.prog
  have HMM := hide (MpW.made W)
  clear h hn hok
  go_enter Try.func32, Try.ntmps32
  go_wp2_with fail
  go_loopw [3, 11] (fun v3 v11 wr => ∃ i done F, v11 = .int .i64 ((i : Nat) : Int) ∧ i ≤ n ∧ Hid (NumAt l i done F) ∧ Hid (RowV wr g (done ++ l.drop i)) ∧ Hid (MpW wr W.heap.size (numE F)) ∧ Hid (wr.ownsRow (W.heap.size + 1) 3 1 v3 F.length (F.map intV)) ∧ Hid (Keeps (fun b => b = g) W wr)) (fun _ v _ => n - (intOf v).toNat)
  case atStart => exact ⟨0, [], [], rfl, Nat.zero_le _, hide (NumAt.start l), hide (H.out.same (Below.heap_alloc _ _ _ hg)), HMM, hide (World.ownsRow_nil _ _ _ _), hide ((Keeps.refl _ _).alloc _)⟩
  case round =>
    obtain ⟨i, done, F, rfl, hi, HA, HR, HM, HO, HK⟩ := hrel
    obtain ⟨A3, cap3, rfl⟩ := ownH_sl HO.out
    by_cases hlt : i < n
    · have hi' : (i : Int) < (n : Int) := by omega
      have hi0 : (0 : Int) ≤ (i : Int) := by omega
      have hw1 : IntKind.i64.wrap ((i : Int) + 1) = (i : Int) + 1 := IntWalk.i64_in _ (by omega)
      have hix : i < l.length := by rw [Hn.out]; exact hlt
      have hdr : l.drop i = l[i] :: l.drop (i + 1) := List.drop_eq_getElem_cons hix
      have hrow := HR.out
      rw [hdr] at hrow
      have hlen : i < (done ++ l[i] :: l.drop (i + 1)).length := by rw [List.length_append, HA.out.len, List.length_cons]; omega
      have hget : (done ++ l[i] :: l.drop (i + 1))[i] = l[i] := by
        rw [List.getElem_append_right (by rw [HA.out.len]; exact Nat.le_refl _)]
        simp [HA.out.len]
      obtain ⟨c3, f3⟩ := hrow i hlen 3 (by decide)
      rw [hget] at c3
      have hin64 := Hok.out _ (List.getElem_mem hix)
      have HNEW := hide (fun hs => HA.out.new hix hs hin64)
      have HOLD := hide (fun hs => HA.out.old hix hs)
      have HSET := hide (fun (W2 : World) (u : Int) (hr : RowV W2 g (done ++ l[i] :: l.drop (i + 1))) => show RowV (W2.setCell ⟨g, i * 7 + 3, none⟩ (.int .i64 u)) g ((done ++ [{ l[i] with signal := u }]) ++ l.drop (i + 1)) from by
        have h1 := hr.set (i := i) (c := 3) (u := .int .i64 u) (x := { l[i] with signal := u }) hlen (by decide) (by rw [hget]; rfl)
        rw [set_mid HA.out.len.symm] at h1
        simpa using h1)
      have HROW := hide hrow
      have HF := hide HA.out.few
      have hFn : F.length ≤ 100000 := by have := HF.out; omega
      have HKY := hide (numE_key HA.out.ok)
      have HDI := hide (numE_dist HA.out.nod)
      obtain ⟨x, hx⟩ : ∃ x, l[i]'hix = x := ⟨_, rfl⟩
      rw [hx] at c3 HROW hin64
      simp only [hx] at HNEW HOLD HSET
      obtain ⟨nm, ty, sc, s, rg, msb, lsb⟩ := x
      have c3' : wr.cell? ⟨g, i * 7 + 3, none⟩ = some (.int .i64 s) := c3
      simp only at HNEW HOLD HSET hin64
      by_cases hs : s ∈ F
      · have HA2 := hide (HOLD.out hs)
        obtain ⟨k, hk⟩ : ∃ k, F.idxOf s = k := ⟨_, rfl⟩
        rw [hk] at HA2
        have hrun := run_look_in keyedInt Try.underlying44 HM.out HKY.out HDI.out (keyInt hin64) (numE_in hs) true
        rw [hk] at hrun
        simp only [if_true] at hrun
        have HR2 := hide (HSET.out wr (k : Int) HROW.out)
        have HM2 := hide (HM.out.of_eq (W' := wr.setCell ⟨g, i * 7 + 3, none⟩ (.int .i64 (k : Int))) (Below.heap_setCell _ ⟨g, _, none⟩ _ _ (by show W.heap.size ≠ g; omega)))
        have HO2 := hide (ownsRow_sameH (W2 := wr.setCell ⟨g, i * 7 + 3, none⟩ (.int .i64 (k : Int))) HO.out (fun b hb => Below.heap_setCell _ ⟨g, _, none⟩ _ _ (by show b ≠ g; have := (HO.out.lt b hb).1; omega)))
        have HK2 := hide (HK.out.set (b := g) (.inl rfl) (i * 7 + 3) (.int .i64 (k : Int)))
        clear hrow hdr hget hlen HNEW HOLD HSET c3 hx hs hk
        go_wp2
        go_roundw
        case rel => exact ⟨i + 1, _, F, by go_num, by omega, HA2, HR2, HM2, HO2, HK2⟩
        case measure => simp [intOf]; omega
      · have HA2 := hide (HNEW.out hs)
        have hrun := run_look_out keyedInt Try.underlying44 HM.out HKY.out (keyInt hin64) (numE_out hs) (zeroIntH wr) true
        simp only [if_true] at hrun
        obtain ⟨w1, hrun2, hm1, hk1, hz1⟩ := run_put_new keyedInt Try.underlying44 HM.out HKY.out (keyInt hin64) (numE_out hs) (.int .i64 (F.length : Int))
        rw [← numE_snoc] at hm1
        have hneg : ¬ g = W.heap.size := by omega
        have HR1 := hide (HROW.out.same (hk1.block g (by have := HK.out.size; omega) hneg))
        have c31 : w1.cell? ⟨g, i * 7 + 3, none⟩ = some (.int .i64 s) := (hk1.cell (p := ⟨g, _, none⟩) (by have := HK.out.size; show g < _; omega) hneg).trans c3'
        have HM1 := hide hm1
        have hOW : ∀ b, (Value.slice A3 F.length cap3).ownBlock = some b → W.heap.size + 1 ≤ b ∧ b < wr.heap.size := fun b hb => HO.out.lt b hb
        have HOW := hide hOW
        have HO1 := hide (ownsRow_sameH (W2 := w1) HO.out (fun b hb => hk1.block b (hOW b hb).2 (by have := (hOW b hb).1; omega)))
        have hwz : W.heap.size + 1 ≤ wr.heap.size := HM.out.lt
        have hwz1 : W.heap.size + 1 ≤ w1.heap.size := by omega
        have HK1 := hide (HK.out.trans' hk1 (fun b hb => .inr (by omega)))
        have f31 : w1.frozen? ⟨g, i * 7 + 3, none⟩ = false := (World.frozen?_of_block (a := ⟨g, i * 7 + 3, none⟩) (hk1.block g (by have := HK.out.size; omega) hneg)).trans f3
        have HSTEP := hide (fun (w5 : World) (hg5 : (w1.alloc (.cells #[.int .i64 s] 3)).grownBy w5 (Value.slice A3 F.length cap3).ownBlock) =>
          show w5.cell? ⟨g, i * 7 + 3, none⟩ = some (.int .i64 s) ∧ w5.frozen? ⟨g, i * 7 + 3, none⟩ = false ∧ RowV w5 g (done ++ ⟨nm, ty, sc, s, rg, msb, lsb⟩ :: l.drop (i + 1)) ∧ MpW w5 W.heap.size (numE (F ++ [s])) ∧ Keeps (fun b => b = g) W w5 from by
          have hblk : ∀ b, b < W.heap.size + 1 → w5.heap[b]? = w1.heap[b]? := fun b hb => (hg5.block b (by rw [World.size_alloc]; omega) (fun e => by have := (HOW.out b e.symm).1; omega)).trans (Below.heap_alloc _ _ _ (by omega))
          exact ⟨(World.cell?_of_block (a := ⟨g, i * 7 + 3, none⟩) (hblk g (by omega))).trans c31, (World.frozen?_of_block (a := ⟨g, i * 7 + 3, none⟩) (hblk g (by omega))).trans f31, HR1.out.same (hblk g (by omega)), HM1.out.of_eq (hblk _ (by omega)), (HK1.out.alloc _).grown hg5 (fun k hk => .inr (by have := (HOW.out k hk).1; omega))⟩)
        clear hrow hdr hget hlen HNEW HOLD c3 hx hm1 hk1 hz1 HR HROW HM HO HK hOW f3
        go_wp2_with (at_builtin; have hown9 := HO1.out.alloc (.cells #[.int .i64 s] 3); refine wpList_append_at _ rfl _ _ 30 rfl (W.heap.size + 1) 3 infoIntH Try.underlying30 rfl (by decide) _ F.length (F.map intV) rfl hown9 ⟨w1.heap.size, 0, none⟩ 1 1 [.int .i64 s] rfl rfl (cells_new _ _ rfl) (by intro u hu; simp only [List.mem_cons, List.not_mem_nil, or_false] at hu; rcases hu with rfl; rfl) (by unfold maxLen; omega) (by omega) (by rw [World.size_alloc]; omega) ?_; intro v' w5 hown5 hgrow5 _ _; have h5 := HSTEP.out w5 hgrow5; have c35 := h5.1; have f35 := h5.2.1; have H5 := hide h5.2.2; have HO5 := hide hown5; clear h5 hown5 hgrow5)
        go_roundw
        case rel =>
          have hr5 := H5.out.1
          refine ⟨i + 1, _, F ++ [s], by go_num, by omega, HA2, hide (HSET.out w5 (F.length : Int) hr5), hide (H5.out.2.1.of_eq (W' := w5.setCell ⟨g, i * 7 + 3, none⟩ (.int .i64 (F.length : Int))) (Below.heap_setCell _ ⟨g, _, none⟩ _ _ (by show W.heap.size ≠ g; omega))), hide ?_, hide (H5.out.2.2.set (b := g) (.inl rfl) (i * 7 + 3) (.int .i64 (F.length : Int)))⟩
          have h6 := ownsRow_sameH (W2 := w5.setCell ⟨g, i * 7 + 3, none⟩ (.int .i64 (F.length : Int))) HO5.out (fun b hb => Below.heap_setCell _ ⟨g, _, none⟩ _ _ (by show b ≠ g; have := (HO5.out.lt b hb).1; omega))
          rw [List.map_append, List.length_append]
          exact h6
        case measure => simp [intOf]; omega
    · obtain rfl : i = n := by omega
      have hi' : ¬ (i : Int) < (i : Int) := by omega
      have hd0 : l.drop i = [] := List.drop_eq_nil_of_le (Nat.le_of_eq Hn.out)
      have HRE := hide (show RowV wr g (numF l []).1 by
        rw [HA.out.eq1, hd0]
        have := HR.out
        rw [hd0] at this
        exact this)
      have HFE := hide (show (numF l []).2 = F by rw [HA.out.eq2, hd0]; rfl)
      clear hd0
      go_wp2
      go_ret
      exact ⟨_, rfl, HRE.out, by rw [HFE.out]; exact ownsRow_mono HO.out (by omega), HK.out⟩
end Go.Proofs.Ytpfiofgchkfkhaa

/- Plain: the preorder holds each scope once, behind its parent. -/
set_option linter.unusedVariables false
set_option linter.unusedSimpArgs false
namespace Go.Proofs.Ytpfiofgchkfkhaa
open Go.RowKit Go.Shelf
theorem preT_step {scs : List Sc} (hd : DeclS scs) {p : Int} (hp : -1 ≤ p) (hp2 : p < scs.length) : preT scs p = preG scs (preT scs) p scs.length 0 := by
  unfold preT
  obtain ⟨f, hf⟩ : ∃ f, scs.length + 1 - (p + 1).toNat = f + 1 := ⟨scs.length - (p + 1).toNat, by omega⟩
  rw [hf]
  conv => lhs; unfold preF
  rw [List.range_eq_range', preG_flat]
  refine preG_congr _ _ fun j h3 h4 hp' => ?_
  have := hd j (by omega)
  exact preF_fuel hd _ _ _ (by omega) (by omega)
theorem preG_mem {scs : List Sc} {g : Int → List Nat} {p : Int} : ∀ (m i k : Nat), k ∈ preG scs g p m i ↔ ∃ c, i ≤ c ∧ c < i + m ∧ (scH scs c).parent = p ∧ (k = c ∨ k ∈ g (c : Int))
  | 0, i, k => by
    unfold preG
    constructor
    · intro h; cases h
    · rintro ⟨c, h1, h2, _⟩; omega
  | m + 1, i, k => by
    unfold preG
    rw [List.mem_append, preG_mem m (i + 1) k]
    constructor
    · rintro (h | ⟨c, h1, h2, h3, h4⟩)
      · by_cases hp : (scH scs i).parent = p
        · rw [if_pos hp] at h
          exact ⟨i, Nat.le_refl _, by omega, hp, List.mem_cons.1 h⟩
        · rw [if_neg hp] at h; cases h
      · exact ⟨c, by omega, by omega, h3, h4⟩
    · rintro ⟨c, h1, h2, h3, h4⟩
      rcases Nat.eq_or_lt_of_le h1 with rfl | h5
      · left; rw [if_pos h3]; exact List.mem_cons.2 h4
      · right; exact ⟨c, by omega, by omega, h3, h4⟩
theorem preT_mem {scs : List Sc} (hd : DeclS scs) {p : Int} (hp : -1 ≤ p) (hp2 : p < scs.length) (k : Nat) : k ∈ preT scs p ↔ ∃ c, c < scs.length ∧ (scH scs c).parent = p ∧ (k = c ∨ k ∈ preT scs (c : Int)) := by
  rw [preT_step hd hp hp2, preG_mem]
  constructor
  · rintro ⟨c, _, h2, h3, h4⟩; exact ⟨c, by omega, h3, h4⟩
  · rintro ⟨c, h2, h3, h4⟩; exact ⟨c, Nat.zero_le _, by omega, h3, h4⟩
/-- what is below p is behind it, and p contains it -/
theorem preT_lt {scs : List Sc} (hd : DeclS scs) : ∀ (n : Nat) (p : Int), -1 ≤ p → p < scs.length → scs.length ≤ n + (p + 1).toNat → ∀ k ∈ preT scs p, k < scs.length ∧ p < k ∧ (0 ≤ p → p.toNat ∈ upH scs (scH scs k).parent)
  | 0, p, h1, h2, h3, k, hk => by
    obtain ⟨c, hc, hcp, hk⟩ := (preT_mem hd h1 h2 k).1 hk
    have := hd c hc; omega
  | n + 1, p, h1, h2, h3, k, hk => by
    obtain ⟨c, hc, hcp, hk⟩ := (preT_mem hd h1 h2 k).1 hk
    have hpc := hd c hc
    rw [hcp] at hpc
    have hin : 0 ≤ p → p.toNat ∈ upH scs p := by
      intro h0
      obtain ⟨m, rfl⟩ : ∃ m : Nat, p = m := ⟨p.toNat, by omega⟩
      rw [upH_step hd (by omega)]
      exact List.mem_cons_self ..
    rcases hk with rfl | hk
    · exact ⟨hc, hpc.2, fun h0 => by rw [hcp]; exact hin h0⟩
    · obtain ⟨g1, g2, g3⟩ := preT_lt hd n (c : Int) (by omega) (by omega) (by omega) k hk
      refine ⟨g1, by omega, fun h0 => ?_⟩
      have g4 := g3 (by omega)
      have e : ((c : Int)).toNat = c := rfl
      rw [e] at g4
      exact up_in hd (scs.length + 1) _ (by have := hd k g1; omega) (by have := hd k g1; omega) c g4 p.toNat (by rw [hcp]; exact hin h0)
where
  /-- what contains a container is a container -/
  up_in {scs : List Sc} (hd : DeclS scs) : ∀ (n : Nat) (i : Int), i < scs.length → i.toNat < n → ∀ c ∈ upH scs i, ∀ q ∈ upH scs (scH scs c).parent, q ∈ upH scs i
    | 0, i, _, h => absurd h (by omega)
    | n + 1, i, hi, hn => by
      intro c hc q hq
      by_cases h0 : i < 0
      · rw [upH_neg _ h0] at hc; cases hc
      · obtain ⟨m, rfl⟩ : ∃ m : Nat, i = m := ⟨i.toNat, by omega⟩
        have hm : m < scs.length := by omega
        have hpm := hd m hm
        rw [upH_step hd hm] at hc ⊢
        rcases List.mem_cons.1 hc with rfl | hc
        · exact List.mem_cons_of_mem _ hq
        · by_cases h1 : (scH scs m).parent < 0
          · rw [upH_neg _ h1] at hc; cases hc
          · exact List.mem_cons_of_mem _ (up_in hd n _ (by omega) (by omega) c hc q hq)
theorem upH_le {scs : List Sc} (hd : DeclS scs) : ∀ (n : Nat) (i : Int), i < scs.length → i.toNat < n → ∀ k ∈ upH scs i, (k : Int) ≤ i
  | 0, _, _, h => absurd h (by omega)
  | n + 1, i, hi, hn => by
    intro k hk
    by_cases h0 : i < 0
    · rw [upH_neg _ h0] at hk; cases hk
    · obtain ⟨m, rfl⟩ : ∃ m : Nat, i = m := ⟨i.toNat, by omega⟩
      have hm : m < scs.length := by omega
      have hpm := hd m hm
      rw [upH_step hd hm] at hk
      rcases List.mem_cons.1 hk with rfl | hk
      · exact Int.le_refl _
      · by_cases h1 : (scH scs m).parent < 0
        · rw [upH_neg _ h1] at hk; cases hk
        · have := upH_le hd n _ (by omega) (by omega) k hk
          omega
/-- of two containers of one scope the outer one contains the inner one -/
theorem up_two {scs : List Sc} (hd : DeclS scs) : ∀ (n : Nat) (i : Int), i < scs.length → i.toNat < n → ∀ c ∈ upH scs i, ∀ q ∈ upH scs i, q < c → q ∈ upH scs (scH scs c).parent
  | 0, _, _, h => absurd h (by omega)
  | n + 1, i, hi, hn => by
    intro c hc q hq hqc
    by_cases h0 : i < 0
    · rw [upH_neg _ h0] at hc; cases hc
    · obtain ⟨m, rfl⟩ : ∃ m : Nat, i = m := ⟨i.toNat, by omega⟩
      have hm : m < scs.length := by omega
      have hpm := hd m hm
      rw [upH_step hd hm] at hc hq
      by_cases h1 : (scH scs m).parent < 0
      · rw [upH_neg _ h1] at hc hq
        rw [List.mem_singleton] at hc hq; omega
      · rcases List.mem_cons.1 hc with rfl | hc
        · rcases List.mem_cons.1 hq with rfl | hq
          · omega
          · exact hq
        · rcases List.mem_cons.1 hq with rfl | hq
          · have := upH_le hd (scs.length + 1) _ (by omega) (by omega) c hc; omega
          · exact up_two hd n _ (by omega) (by omega) c hc q hq hqc
theorem preG_nodup {scs : List Sc} {g : Int → List Nat} {p : Int} : ∀ (m i : Nat), (∀ c, i ≤ c → c < i + m → (scH scs c).parent = p → (c :: g (c : Int)).Nodup) →
    (∀ c d k, i ≤ c → c < d → d < i + m → (scH scs c).parent = p → (scH scs d).parent = p → (k = c ∨ k ∈ g (c : Int)) → (k = d ∨ k ∈ g (d : Int)) → False) → (preG scs g p m i).Nodup
  | 0, _, _, _ => by unfold preG; exact List.nodup_nil
  | m + 1, i, h1, h2 => by
    unfold preG
    have ih := preG_nodup m (i + 1) (fun c a b e => h1 c (by omega) (by omega) e) (fun c d k a b e => h2 c d k (by omega) b (by omega))
    by_cases hp : (scH scs i).parent = p
    · rw [if_pos hp, List.nodup_append]
      refine ⟨h1 i (Nat.le_refl _) (by omega) hp, ih, fun x hx y hy e => ?_⟩
      subst e
      obtain ⟨d, d1, d2, d3, d4⟩ := (preG_mem m (i + 1) x).1 hy
      exact h2 i d x (Nat.le_refl _) (by omega) (by omega) hp d3 (List.mem_cons.1 hx) d4
    · rw [if_neg hp]; exact ih
theorem preT_nodup {scs : List Sc} (hd : DeclS scs) : ∀ (n : Nat) (p : Int), -1 ≤ p → p < scs.length → scs.length ≤ n + (p + 1).toNat → (preT scs p).Nodup
  | 0, p, h1, h2, h3 => by
    rw [preT_step hd h1 h2]
    refine preG_nodup _ _ (fun c _ hc hp => ?_) (fun c d k _ _ hc hp => ?_)
    · have := hd c (by omega); omega
    · have := hd c (by omega); omega
  | n + 1, p, h1, h2, h3 => by
    rw [preT_step hd h1 h2]
    refine preG_nodup _ _ (fun c _ hc hp => ?_) (fun c d k _ hcd hc hp hp2 hk hk2 => ?_)
    · have hpc := hd c (by omega)
      rw [List.nodup_cons]
      refine ⟨fun h => ?_, preT_nodup hd n _ (by omega) (by omega) (by omega)⟩
      have := (preT_lt hd (scs.length + 1) (c : Int) (by omega) (by omega) (by omega) c h).2.1
      omega
    · have hpc := hd c (by omega)
      have hpd := hd d (by omega)
      have inn : ∀ e, e < scs.length → (k = e ∨ k ∈ preT scs (e : Int)) → k < scs.length ∧ e ∈ upH scs (k : Int) := by
        intro e he hke
        rcases hke with rfl | hke
        · exact ⟨he, by rw [upH_step hd he]; exact List.mem_cons_self ..⟩
        · obtain ⟨g1, g2, g3⟩ := preT_lt hd (scs.length + 1) (e : Int) (by omega) (by omega) (by omega) k hke
          exact ⟨g1, by rw [upH_step hd g1]; exact List.mem_cons_of_mem _ (g3 (by omega))⟩
      obtain ⟨k1, k2⟩ := inn c (by omega) hk
      obtain ⟨_, k3⟩ := inn d (by omega) hk2
      have := up_two hd (scs.length + 1) (k : Int) (by omega) (by omega) d k3 c k2 hcd
      rw [hp2] at this
      have := upH_le hd (scs.length + 1) p (by omega) (by omega) c this
      omega
theorem preT_child {scs : List Sc} (hd : DeclS scs) : ∀ (n : Nat) (p : Int), -1 ≤ p → p < scs.length → scs.length ≤ n + (p + 1).toNat → ∀ j ∈ preT scs p, ∀ i, i < scs.length → (scH scs i).parent = (j : Int) → i ∈ preT scs p
  | 0, p, h1, h2, h3, j, hj => by
    obtain ⟨c, hc, hcp, _⟩ := (preT_mem hd h1 h2 j).1 hj
    have := hd c hc; omega
  | n + 1, p, h1, h2, h3, j, hj => by
    intro i hi hij
    obtain ⟨c, hc, hcp, hk⟩ := (preT_mem hd h1 h2 j).1 hj
    have hpc := hd c hc
    refine (preT_mem hd h1 h2 i).2 ⟨c, hc, hcp, .inr ?_⟩
    rcases hk with rfl | hk
    · exact (preT_mem hd (by omega) (by omega) i).2 ⟨i, hi, hij, .inl rfl⟩
    · exact preT_child hd n (c : Int) (by omega) (by omega) (by omega) j hk i hi hij
theorem preH_all {scs : List Sc} (hd : DeclS scs) : ∀ (n i : Nat), i < n → i < scs.length → i ∈ preH scs
  | 0, i, h, _ => absurd h (by omega)
  | n + 1, i, h, hi => by
    have hpi := hd i hi
    by_cases h0 : (scH scs i).parent = -1
    · exact (preT_mem hd (by omega) (by omega) i).2 ⟨i, hi, h0, .inl rfl⟩
    · obtain ⟨j, hj⟩ : ∃ j : Nat, (scH scs i).parent = j := ⟨(scH scs i).parent.toNat, by omega⟩
      exact preT_child hd (scs.length + 1) (-1) (by omega) (by omega) (by omega) j (preH_all hd n j (by omega) (by omega)) i hi hj
theorem preH_nodup {scs : List Sc} (hd : DeclS scs) (h : 0 < scs.length) : (preH scs).Nodup := preT_nodup hd (scs.length + 1) (-1) (by omega) (by omega) (by omega)
theorem preH_lt {scs : List Sc} (hd : DeclS scs) (h : 0 < scs.length) {i : Nat} (hi : i ∈ preH scs) : i < scs.length := (preT_lt hd (scs.length + 1) (-1) (by omega) (by omega) (by omega) i hi).1
/-- a list in which each scope stands behind its parent, the outermost ones below p -/
def Behind (scs : List Sc) (p : Int) (l : List Nat) : Prop := ∀ A i B, l = A ++ i :: B → (scH scs i).parent = p ∨ ∃ j : Nat, j ∈ A ∧ (scH scs i).parent = (j : Int)
theorem Behind.append {scs : List Sc} {p : Int} {a b : List Nat} (ha : Behind scs p a) (hb : Behind scs p b) : Behind scs p (a ++ b) := by
  intro A i B h
  rcases List.append_eq_append_iff.1 h with ⟨c, rfl, hc⟩ | ⟨c, rfl, hc⟩
  · rcases hb c i B hc with h1 | ⟨j, hj, h1⟩
    · exact .inl h1
    · exact .inr ⟨j, List.mem_append.2 (.inr hj), h1⟩
  · cases c with
    | nil =>
      rw [List.nil_append] at hc
      rcases hb [] i B hc.symm with h1 | ⟨j, hj, h1⟩
      · exact .inl h1
      · cases hj
    | cons x c =>
      rw [List.cons_append] at hc
      cases hc
      exact ha A i c rfl
theorem Behind.cons {scs : List Sc} {p : Int} {c : Nat} {b : List Nat} (hc : (scH scs c).parent = p) (hb : Behind scs (c : Int) b) : Behind scs p (c :: b) := by
  intro A i B h
  cases A with
  | nil => cases h; exact .inl hc
  | cons a A =>
    rw [List.cons_append] at h
    cases h
    rcases hb A i B rfl with h1 | ⟨j, hj, h1⟩
    · exact .inr ⟨c, by simp, h1⟩
    · exact .inr ⟨j, List.mem_cons_of_mem _ hj, h1⟩
theorem preG_behind {scs : List Sc} {g : Int → List Nat} {p : Int} : ∀ (m i : Nat), (∀ c, i ≤ c → c < i + m → (scH scs c).parent = p → Behind scs (c : Int) (g (c : Int))) → Behind scs p (preG scs g p m i)
  | 0, _, _ => by
    unfold preG
    intro A i B h
    cases A <;> cases h
  | m + 1, i, h => by
    unfold preG
    refine Behind.append ?_ (preG_behind m (i + 1) (fun c a b e => h c (by omega) (by omega) e))
    by_cases hp : (scH scs i).parent = p
    · rw [if_pos hp]; exact Behind.cons hp (h i (Nat.le_refl _) (by omega) hp)
    · rw [if_neg hp]
      intro A i B h
      cases A <;> cases h
theorem preT_behind {scs : List Sc} (hd : DeclS scs) : ∀ (n : Nat) (p : Int), -1 ≤ p → p < scs.length → scs.length ≤ n + (p + 1).toNat → Behind scs p (preT scs p)
  | 0, p, h1, h2, h3 => by
    rw [preT_step hd h1 h2]
    exact preG_behind _ _ (fun c _ hc hp => by have := hd c (by omega); omega)
  | n + 1, p, h1, h2, h3 => by
    rw [preT_step hd h1 h2]
    exact preG_behind _ _ (fun c _ hc hp => by have := hd c (by omega); exact preT_behind hd n _ (by omega) (by omega) (by omega))
end Go.Proofs.Ytpfiofgchkfkhaa

/- Plain: Order's map and its scopes. -/
set_option linter.unusedVariables false
set_option linter.unusedSimpArgs false
namespace Go.Proofs.Ytpfiofgchkfkhaa
open Go.RowKit Go.Shelf Go.Maps
/-- the map of the new numbers behind some scopes -/
def nowE (l : List Nat) : List (Value × Value) := (Value.int .i64 (-1), Value.int .i64 (-1)) :: l.mapIdx fun (t i : Nat) => (Value.int .i64 (i : Int), Value.int .i64 (t : Int))
theorem nowE_snoc (l : List Nat) (i : Nat) : nowE (l ++ [i]) = nowE l ++ [(Value.int .i64 (i : Int), Value.int .i64 (l.length : Int))] := by
  unfold nowE; rw [List.mapIdx_append]; simp
theorem nowE_keys (l : List Nat) : (nowE l).map Prod.fst = Value.int .i64 (-1) :: l.map fun (i : Nat) => Value.int .i64 (i : Int) := by
  unfold nowE
  rw [List.map_cons]
  congr 1
  apply List.ext_getElem
  · simp
  · intro i h1 h2
    simp
theorem nowE_dist {l : List Nat} (h : l.Nodup) : (nowE l).Pairwise fun p q => p.1 ≠ q.1 := by
  have h1 : ((nowE l).map Prod.fst).Pairwise (· ≠ ·) := by
    rw [nowE_keys, List.pairwise_cons]
    refine ⟨fun a ha e => ?_, ?_⟩
    · obtain ⟨x, _, rfl⟩ := List.mem_map.1 ha
      have := (Value.int.inj e).2
      omega
    · rw [List.pairwise_map]
      exact (List.nodup_iff_pairwise_ne.1 h).imp fun hne e => hne (by have := (Value.int.inj e).2; omega)
  rw [List.pairwise_map] at h1
  exact h1
theorem nowE_in {l : List Nat} {p : Int} (h : p = -1 ∨ (0 ≤ p ∧ p.toNat ∈ l)) : (Value.int .i64 p, Value.int .i64 (nowH l p)) ∈ nowE l := by
  unfold nowE nowH
  rcases h with rfl | ⟨h0, h⟩
  · exact List.mem_cons_self ..
  · rw [if_neg (by omega)]
    have hi := List.idxOf_lt_length_iff.2 h
    refine List.mem_cons_of_mem _ ?_
    rw [List.mem_mapIdx]
    refine ⟨l.idxOf p.toNat, hi, ?_⟩
    rw [List.getElem_idxOf hi, show ((p.toNat : Nat) : Int) = p by omega]
theorem nowE_out {l : List Nat} {i : Nat} (h : i ∉ l) : ∀ p ∈ nowE l, p.1 ≠ Value.int .i64 (i : Int) := by
  intro p hp e
  have h1 : p.1 ∈ (nowE l).map Prod.fst := List.mem_map.2 ⟨p, hp, rfl⟩
  rw [nowE_keys, e] at h1
  rcases List.mem_cons.1 h1 with h1 | h1
  · have := (Value.int.inj h1).2; omega
  · obtain ⟨x, hx, hex⟩ := List.mem_map.1 h1
    have := (Value.int.inj hex).2
    have : x = i := by omega
    exact h (this ▸ hx)
theorem nowE_key {l : List Nat} (h : ∀ i ∈ l, i < 1000000) : ∀ p ∈ nowE l, ∃ y, keyOf Try.prog 3 p.1 = some y := by
  intro p hp
  have h1 : p.1 ∈ (nowE l).map Prod.fst := List.mem_map.2 ⟨p, hp, rfl⟩
  rw [nowE_keys] at h1
  rcases List.mem_cons.1 h1 with h1 | h1
  · rw [h1]; exact ⟨_, keyInt ⟨by omega, by omega⟩⟩
  · obtain ⟨x, hx, hex⟩ := List.mem_map.1 h1
    rw [← hex]
    have := h x hx
    exact ⟨_, keyInt ⟨by omega, by omega⟩⟩
theorem nowH_take {l : List Nat} {k : Nat} {p : Int} (h : p = -1 ∨ (0 ≤ p ∧ p.toNat ∈ l.take k)) : nowH (l.take k) p = nowH l p := by
  unfold nowH
  rcases h with rfl | ⟨h0, h⟩
  · rfl
  · rw [if_neg (by omega), if_neg (by omega)]
    conv => rhs; rw [← List.take_append_drop k l]
    rw [List.idxOf_append, if_pos h]
/-- a scope of the hierarchy -/
def ordS (scs : List Sc) (pre : List Nat) (i : Nat) : Sc := { scH scs i with parent := nowH pre (scH scs i).parent }
theorem orderS_eq (scs : List Sc) : orderS scs = (preH scs).map (ordS scs (preH scs)) := rfl
/-- a scope's parent stands ahead of it in the preorder -/
theorem preH_parent {scs : List Sc} (hd : DeclS scs) {k : Nat} {x : Nat} (hx : (preH scs)[k]? = some x) : (scH scs x).parent = -1 ∨ (0 ≤ (scH scs x).parent ∧ (scH scs x).parent.toNat ∈ (preH scs).take k) := by
  obtain ⟨hk, hx⟩ := List.getElem?_eq_some_iff.1 hx
  have hb := preT_behind hd (scs.length + 1) (-1) (by omega) (by omega) (by omega) ((preH scs).take k) x ((preH scs).drop (k + 1)) (by
    rw [← hx, List.getElem_cons_drop, List.take_append_drop]; rfl)
  rcases hb with h | ⟨j, hj, h⟩
  · exact .inl h
  · exact .inr ⟨by omega, by rw [h]; exact hj⟩
/-- the blocks of Order's own -/
def OrdC (B : Nat) (v : Value) (b : Nat) : Prop := b = B ∨ b = B + 1 ∨ v.ownBlock = some b
def OrdI (scs : List Sc) (A : Option Addr) (cap : Nat) (B0 B : Nat) (k : Nat) (C : Nat → Prop) (W : World) : Prop :=
  ∃ v, C = OrdC B v ∧ Row W B0 22 #[.slice A scs.length cap] ∧ Row W B 22 #[v] ∧ Row W (B + 2) 44 #[.map (some (B + 1))] ∧ MpW W (B + 1) (nowE ((preH scs).take k)) ∧ ScS W A scs ∧
    W.ownsRow (B + 5) 49 3 v k (((preH scs).take k).flatMap fun i => scE (ordS scs (preH scs) i)) ∧ k ≤ (preH scs).length
end Go.Proofs.Ytpfiofgchkfkhaa

/- Contract of number at no variable; plain: what Order needs of the preorder. -/
set_option linter.unusedVariables false
set_option linter.unusedSimpArgs false
namespace Go.Proofs.Ytpfiofgchkfkhaa
open Go.RowKit Go.Shelf Go.Maps
theorem results_tmp4 {P : Program} {fn : Func} {a b c d : Tmp} (h : fn.results = #[.tmp a, .tmp b, .tmp c, .tmp d]) (tmps : Array Value) (w : World) :
    (results fn tmps).run P w = .ok (.tuple #[tmps.getD a undef, tmps.getD b undef, tmps.getD c undef, tmps.getD d undef]) w := by
  simp [results, h]
theorem number_none (A : Option Addr) (cap : Nat) (W : World) : Calls Try.prog 32 #[.slice A 0 cap] W fun e w' => e = .returned (.slice none 0 0) ∧ W.alloc (.map #[] 0) = w' := by
  have hmm := @run_makeMap Try.prog
  go_enter Try.func32, Try.ntmps32
  go_wp2
  go_loopw [3, 11] (fun v u wr => v = .slice none 0 0 ∧ u = .int .i64 0 ∧ W.alloc (.map #[] 0) = wr) (fun _ _ _ => 0)
  case atStart => exact ⟨rfl, rfl, rfl⟩
  case round =>
    obtain ⟨rfl, rfl, rfl⟩ := hrel
    go_wp2
    go_ret
    exact ⟨rfl, rfl⟩
theorem preH_len {scs : List Sc} (hd : DeclS scs) : (preH scs).length = scs.length := by
  rcases Nat.eq_zero_or_pos scs.length with h0 | h0
  · rw [h0]
    cases hp : preH scs with
    | nil => rfl
    | cons a r =>
      have := (preT_lt hd (scs.length + 1) (-1) (by omega) (by omega) (by omega) a (by show a ∈ preH scs; rw [hp]; exact List.mem_cons_self ..)).1
      omega
  · have hnd := preH_nodup hd h0
    have h1 := List.Nodup.length_le_of_subset hnd (l₂ := List.range scs.length) (fun i hi => List.mem_range.2 (preH_lt hd h0 hi))
    have h2 := List.Nodup.length_le_of_subset (List.nodup_range (n := scs.length)) (l₂ := preH scs) (fun i hi => preH_all hd (i + 1) i (by omega) (List.mem_range.1 hi))
    rw [List.length_range] at h1 h2
    omega
theorem orderV_nil (scs : List Sc) : orderV scs [] = ([], []) := by
  have h : sortV scs.length (moveV scs []) = [] := by
    unfold sortV moveV
    rw [List.flatMap_eq_nil_iff]
    intro j _
    rfl
  unfold orderV
  rw [h]
  rfl
theorem moveV_len (scs : List Sc) (vs : List Va) : (moveV scs vs).length = vs.length := by unfold moveV; simp
theorem nowH_range {scs : List Sc} (hd : DeclS scs) {p : Int} (h1 : -1 ≤ p) (h2 : p < scs.length) : -1 ≤ nowH (preH scs) p ∧ nowH (preH scs) p < scs.length ∧ (p = -1 ∨ (0 ≤ p ∧ p.toNat ∈ preH scs)) := by
  by_cases h0 : p < 0
  · obtain rfl : p = -1 := by omega
    refine ⟨by unfold nowH; simp, by unfold nowH; simp; omega, .inl rfl⟩
  · have hm := preH_all hd (p.toNat + 1) p.toNat (by omega) (by omega)
    have hi := List.idxOf_lt_length_iff.2 hm
    rw [preH_len hd] at hi
    unfold nowH
    rw [if_neg h0]
    exact ⟨by omega, by omega, .inr ⟨by omega, hm⟩⟩
end Go.Proofs.Ytpfiofgchkfkhaa

/- Contract of Order where nothing is wrong. -/
set_option linter.unusedVariables false
set_option linter.unusedSimpArgs false
namespace Go.Proofs.Ytpfiofgchkfkhaa
open Go.RowKit Go.Shelf Go.Maps
attribute [local go_sem] Oper.semAt_some
set_option maxHeartbeats 8000000 in
set_option maxRecDepth 20000 in
theorem order_good (scs : List Sc) (vs : List Va) (A A' : Option Addr) (cap cap' : Nat) (w : World) (hs : ScS w A scs) (hv : VaS w A' vs) (hl : scs.length ≤ 1000000) (hl' : vs.length ≤ 1000000)
    (hok : ∀ x ∈ scs, ScOk x) (hok' : ∀ v ∈ vs, VaOk v) (hz : ∀ x ∈ scs, x.name.size ≤ 1000000) (hz' : ∀ v ∈ vs, v.name.size ≤ 1000000) (hA : ∀ a, A = some a → a.block < w.heap.size) (hA' : A' = none → cap' = 0 ∧ vs = []) (hg : Good scs vs) :
    Calls Try.prog 10 #[.slice A scs.length cap, .slice A' vs.length cap'] w fun e w' => ∃ a1 c1 a2 c2 v3, e = .returned (.tuple #[.slice a1 scs.length c1, .slice a2 vs.length c2, v3, .int .i64 0]) ∧
      ScS w' a1 (orderS scs) ∧ VaS w' a2 (orderV scs vs).1 ∧ w'.ownsRow w.heap.size 3 1 v3 (orderV scs vs).2.length ((orderV scs vs).2.map intV) ∧ Below w.heap.size w w' ∧ (∀ a, a1 = some a → a.block < w'.heap.size) ∧ (a2 = none → c2 = 0) := by
  have CH := hide (fun W (hb : Below w.heap.size w W) => check_any scs vs A A' cap cap' W (sc_below hs hb) (va_below hv hb) hl hl' hok hok' hz hz')
  have CH' := CH.out
  rw [checkE_ok.2 hg] at CH'
  have CHK := hide CH'
  have PR := hide (fun W => preorder_any A scs.length cap (-1) W)
  have PR' := PR.out
  obtain ⟨n, hn⟩ : ∃ n, scs.length = n := ⟨_, rfl⟩
  rw [hn] at CH' PR' ⊢
  have CHK := hide CH'
  have PRE := hide PR'
  have Hn := hide hn
  have Hs := hide hs
  have Hv := hide hv
  have Hg := hide hg
  have HA := hide hA
  have HA' := hide hA'
  have Hok := hide hok
  have Hok' := hide hok'
  have hn6 : n ≤ 1000000 := by omega
  obtain ⟨m, hm⟩ : ∃ m, vs.length = m := ⟨_, rfl⟩
  have Hm := hide hm
  rw [hm] at CHK
  clear CH CH' PR PR' hs hv hg hA hA' hok hok' hz hz' hl
  have hmm := @run_makeMap Try.prog
  refine (callsIn_wide (n := 0)).1 (callsIn_of_wp_marks Try.func10 rfl trivial ?_)
  simp only [Try.ntmps10, List.size_toArray, List.length_cons, List.length_nil, Nat.reduceAdd, Nat.reduceSub, Array.replicate_succ, Array.replicate_zero, List.push_toArray, List.append_toArray, List.nil_append, List.cons_append]
  rw [hm]
  clear hm hn
  gi_wp2_with fail
  refine (callsIn_wide.2 (CHK.out _ ((Below.refl _ _).alloc (Nat.le_refl _) _))).mono ?_
  rintro e w1 ⟨rfl, hb1⟩
  have Hb1 := hide (((Below.refl w.heap.size w).alloc (Nat.le_refl _) (.cells #[.slice A n cap] 22)).trans (hb1.mono (by rw [World.size_alloc]; exact Nat.le_succ _)))
  have hc1 := (Row.new w 22 #[.slice A n cap]).below hb1 (by rw [World.size_alloc]; exact Nat.lt_succ_self _)
  have hcc1 : w1.cell? ⟨w.heap.size, 0, none⟩ = some (.slice A n cap) := hc1.cell 0
  have hwz1 : w.heap.size < w1.heap.size := hc1.lt
  have HC1 := hide hc1
  have hmd := MpW.made (w1.alloc (.cells #[.slice none 0 0] 22))
  rw [World.size_alloc] at hmd
  obtain ⟨w2, hins, hm2, hk2, hz2⟩ := run_put_new keyedInt Try.underlying44 hmd (by intro p hp; cases hp) (keyInt (n := -1) ⟨by omega, by omega⟩) (by intro p hp; cases hp) (.int .i64 (-1))
  have HM2 := hide hm2
  have HK2 := hide hk2
  have hz2' : w2.heap.size = w1.heap.size + 2 := by rw [hz2, World.size_alloc, World.size_alloc]
  have hcc2 : w2.cell? ⟨w.heap.size, 0, none⟩ = some (.slice A n cap) := ((hk2.cell (p := ⟨w.heap.size, 0, none⟩) (by rw [World.size_alloc, World.size_alloc]; show w.heap.size < _; omega) (by show w.heap.size ≠ _; omega)).trans (((hc1.alloc _).alloc _).cell 0))
  have hr2 := hide (((hc1.alloc (.cells #[.slice none 0 0] 22)).alloc (.map #[] 0)).keep hk2 (by show ¬ w.heap.size = _; omega))
  have hcc3 : (w2.alloc (.cells #[.map (some (w1.heap.size + 1))] 44)).cell? ⟨w.heap.size, 0, none⟩ = some (.slice A n cap) := (hr2.out.alloc _).cell 0
  have hro := hide (((Row.new w1 22 #[.slice none 0 0]).alloc (.map #[] 0)).keep hk2 (by show ¬ w1.heap.size = _; omega))
  have hb2 := hide (((Below.refl w1.heap.size w1).alloc (Nat.le_refl _) (.cells #[.slice none 0 0] 22)).alloc (by rw [World.size_alloc]; omega) (.map #[] 0) |>.trans (hk2.below (B := w1.heap.size) (fun b hb => by omega) (by rw [World.size_alloc, World.size_alloc]; omega)))
  clear hb1 hmd hm2 hk2 hz2 hc1
  gi_wp2_with (gi_at_call 27; refine (callsIn_wide.2 (PRE.out _)).mono ?_; rintro e w' ⟨rfl, rfl⟩)
  obtain ⟨B, hB⟩ : ∃ B, w1.heap.size = B := ⟨_, rfl⟩
  have hz2B : w2.heap.size = B + 2 := by rw [hz2', hB]
  have HM2B := HM2.out
  have hroB := hro.out
  have hb2B := hb2.out
  rw [hB] at HM2B hroB hb2B hwz1 ⊢
  generalize hW0 : World.alloc (World.alloc (World.alloc w2 _) _) _ = W0
  have hz0 : W0.heap.size = B + 5 := by rw [← hW0]; simp [hz2B]
  have hr0 : Row W0 w.heap.size 22 #[.slice A n cap] := by rw [← hW0]; exact ((hr2.out.alloc _).alloc _).alloc _
  have hrO : Row W0 B 22 #[.slice none 0 0] := by rw [← hW0]; exact ((hroB.alloc _).alloc _).alloc _
  have hrm : Row W0 (B + 2) 44 #[.map (some (B + 1))] := by
    rw [← hW0, ← hz2B]; exact ((Row.new w2 _ _).alloc _).alloc _
  have hrs : Row W0 (B + 3) 22 #[.slice A n cap] := by
    rw [← hW0]; have := Row.new (w2.alloc (.cells #[.map (some (B + 1))] 44)) 22 #[.slice A n cap]; rw [World.size_alloc, hz2B] at this; exact this.alloc _
  have hri : Row W0 (B + 4) 3 #[.int .i64 (-1)] := by
    rw [← hW0]; have := Row.new ((w2.alloc (.cells #[.map (some (B + 1))] 44)).alloc (.cells #[.slice A n cap] 22)) 3 #[.int .i64 (-1)]; rw [World.size_alloc, World.size_alloc, hz2B] at this; exact this
  have hbl1 : Below B w1 W0 := by rw [← hW0]; exact ((hb2B.alloc (by omega) _).alloc (by rw [World.size_alloc]; omega) _).alloc (by rw [World.size_alloc, World.size_alloc]; omega) _
  have hbl : Below w.heap.size w W0 := Hb1.out.trans ((hB ▸ hbl1 : Below w1.heap.size w1 W0).mono (by omega))
  have hM0 : MpW W0 (B + 1) (nowE ((preH scs).take 0)) := by
    have := HM2B
    have h2 : MpW W0 (B + 1) ([] ++ [(Value.int .i64 (-1), Value.int .i64 (-1))]) := this.below (B := w2.heap.size) (by rw [← hW0]; exact (((Below.refl _ w2).alloc (Nat.le_refl _) _).alloc (by rw [World.size_alloc]; omega) _).alloc (by rw [World.size_alloc, World.size_alloc]; omega) _) (by omega)
    exact h2
  have hs0 : ScS W0 A scs := sc_below Hs.out hbl
  have hd : DeclS scs := Hg.out.decl
  have IT := hide (pre_iter scs A cap (-1) (B + 4) (B + 3) W0 (by rw [Hn.out]; omega) hd (by omega) (by omega) hri (by rw [Hn.out]; exact hrs) hs0)
  have hr0' : Row W0 w.heap.size 22 #[.slice A scs.length cap] := by rw [Hn.out]; exact hr0
  have HBl := hide hbl
  have Hz0 := hide hz0
  have Hd := hide hd
  have HwB := hide hwz1
  have hAw : ∀ a, A = some a → a.block < B := fun a ha => by have := HA.out a ha; omega
  have HAB := hide hAw
  clear hW0 hbl hbl1 hd hr0 hrs hri hB hz2B HM2B hroB hb2B hz2' hcc1 hcc2 hcc3 hins hmm
  refine wpIn_rangeO (gf := 63) (lb := #[.pointer (some ⟨B + 3, 0, none⟩), .pointer (some ⟨B + 4, 0, none⟩)]) rfl (enters_of Try.func63 (by kernel_rfl) rfl) IT.out (fun _ => rfl) (Same.refl _ _)
    (OrdC B (.slice none 0 0)) (fun b hb e => by
      rcases hb with rfl | rfl | ⟨a, ha, rfl⟩
      · rcases e with e | e | e
        · omega
        · omega
        · simp [Value.ownBlock] at e
      · rcases e with e | e | e
        · omega
        · omega
        · simp [Value.ownBlock] at e
      · have := HAB.out a ha
        rcases e with e | e | e
        · omega
        · omega
        · simp [Value.ownBlock] at e)
    (fun b hb e => hb)
    (fun b hb => by
      have h := Hz0.out
      rcases hb with rfl | rfl | ⟨a, ha, rfl⟩
      · omega
      · omega
      · have := HAB.out a ha; omega)
    (fun b hb => hb.elim)
    (fun b hb => by
      have h := Hz0.out
      rcases hb with e | e | e
      · omega
      · omega
      · simp [Value.ownBlock] at e)
    (OrdI scs A cap w.heap.size B) (fun _ _ _ _ => False)
    (fun k C W1 W2 h hsm => by
      obtain ⟨v, rfl, h0, h1, h2, h3, h4, h5, h6⟩ := h
      have hz := Hz0.out
      have hwb := HwB.out
      exact ⟨v, rfl, h0.same hsm (.inl ⟨by omega, fun e => e⟩), h1.same hsm (.inl ⟨by omega, fun e => e⟩), h2.same hsm (.inl ⟨by omega, fun e => e⟩), h3.of_eq (hsm.block _ (.inl ⟨by omega, fun e => e⟩)), sc_same (bs := B) h4 hsm (fun b hb => .inl (by
        rcases hb with rfl | ⟨a, ha, rfl⟩
        · exact ⟨by omega, fun e => e⟩
        · have := HAB.out a ha; exact ⟨by omega, fun e => e⟩)), ownsRow_sameH h5 (fun b hb => hsm.block b (.inr (.inr (.inr hb)))), h6⟩)
    (fun c k C W1 W2 h hsm => h)
    ⟨_, rfl, hr0', hrO, hrm, hM0, hs0, World.ownsRow_nil _ _ _ _, Nat.zero_le _⟩ ?round ?done ?stop
  case round =>
    rintro lp k x C W hlp hlp2 hClp hx hinv hgr hsz
    obtain ⟨v, rfl, hR0, hR1, hR2, hM, hS, hown, hk⟩ := hinv
    rw [Hn.out] at hR0
    have hx' : (preH scs)[k]? = some x := hx
    obtain ⟨hkl, hxe⟩ := List.getElem?_eq_some_iff.1 hx'
    have hns : 0 < scs.length := by
      rcases Nat.eq_zero_or_pos scs.length with h | h
      · have := (preT_lt Hd.out (scs.length + 1) (-1) (by omega) (by omega) (by omega) x (by rw [← hxe]; exact List.getElem_mem hkl)).1; omega
      · exact h
    have hmem : x ∈ preH scs := by rw [← hxe]; exact List.getElem_mem hkl
    have hxm : x < scs.length := preH_lt Hd.out hns hmem
    have htk : (preH scs).take (k + 1) = (preH scs).take k ++ [x] := by rw [List.take_succ_eq_append_getElem hkl, hxe]
    have hnd := preH_nodup Hd.out hns
    have hxnot : x ∉ (preH scs).take k := by
      have h1 : ((preH scs).take k ++ [x]).Nodup := by rw [← htk]; exact hnd.sublist (List.take_sublist _ _)
      rw [List.nodup_append] at h1
      exact fun h => h1.2.2 x h x (by simp) rfl
    have hpar := preH_parent Hd.out hx'
    have hpar2 : (scH scs x).parent = -1 ∨ (0 ≤ (scH scs x).parent ∧ (scH scs x).parent.toNat ∈ (preH scs).take (k + 1)) := by
      rcases hpar with h | ⟨h, h2⟩
      · exact .inl h
      · exact .inr ⟨h, by rw [htk]; exact List.mem_append.2 (.inl h2)⟩
    have hbig : ∀ i ∈ preH scs, i < 1000000 := fun i hi => by have := preH_lt Hd.out hns hi; have := Hn.out; omega
    have hlk : k ≤ 1000000 := by
      have : (preH scs).length ≤ scs.length := by
        have h1 := List.Nodup.length_le_of_subset hnd (l₂ := List.range scs.length) (fun i hi => List.mem_range.2 (preH_lt Hd.out hns hi))
        rwa [List.length_range] at h1
      have := Hn.out; omega
    obtain ⟨A0, cap0, rfl⟩ := ownH_sl hown
    obtain ⟨bA, off, rfl, hbz, hat⟩ := sc_at hS hxm
    obtain ⟨c0, c1, c2⟩ := hat W (Below.refl _ _)
    have hbB : bA < B := HAB.out _ rfl
    have hxn : (x : Int) < (n : Int) := by have := Hn.out; omega
    have hx0 : (0 : Int) ≤ (x : Int) := by omega
    have hnp := nowH_take hpar2
    have HIN := hide (nowE_in hpar2)
    have HOUT := hide (nowE_out hxnot)
    have HKY := hide (nowE_key (l := (preH scs).take k) (fun i hi => hbig i (List.mem_of_mem_take hi)))
    have HKY2 := hide (nowE_key (l := (preH scs).take (k + 1)) (fun i hi => hbig i (List.mem_of_mem_take hi)))
    have HDI2 := hide (nowE_dist (hnd.sublist (List.take_sublist (k + 1) _)))
    have hp64 : In64 (scH scs x).parent := by have h1 := Hd.out x hxm; exact ⟨by omega, by have := Hn.out; omega⟩
    have HSN := hide (show nowE ((preH scs).take (k + 1)) = nowE ((preH scs).take k) ++ [(Value.int .i64 (x : Int), Value.int .i64 (k : Int))] by
      rw [htk, nowE_snoc, List.length_take, Nat.min_eq_left (by omega)])
    have HL2 := hide (show ((preH scs).take (k + 1)).flatMap (fun i => scE (ordS scs (preH scs) i)) = ((preH scs).take k).flatMap (fun i => scE (ordS scs (preH scs) i)) ++ scE (ordS scs (preH scs) x) by
      rw [htk, List.flatMap_append]; simp)
    have hordx : scE (ordS scs (preH scs) x) = [.string scs[x].name, .int .i64 scs[x].typ, .int .i64 (nowH (preH scs) (scH scs x).parent)] := by
      unfold ordS scE; rw [scH_at hxm]
    have hpe : scs[x].parent = (scH scs x).parent := by rw [scH_at hxm]
    rw [hnp] at HIN
    rw [hordx] at HL2
    rw [hpe] at c2
    clear hpar hpar2 hxnot htk hmem hnd hbig hordx hpe hnp
    obtain ⟨np, hnp⟩ : ∃ np, nowH (preH scs) (scH scs x).parent = np := ⟨_, rfl⟩
    obtain ⟨pa, hpa⟩ : ∃ pa, (scH scs x).parent = pa := ⟨_, rfl⟩
    rw [hnp, hpa] at HIN
    rw [hnp] at HL2
    rw [hpa] at c2 hp64
    obtain ⟨y, hy⟩ : ∃ y, scs[x]'hxm = y := ⟨_, rfl⟩
    rw [hy] at c0 c1 HL2
    obtain ⟨nm, ty, pz⟩ := y
    simp only at c0 c1 HL2
    obtain ⟨L, hL⟩ : ∃ L, ((preH scs).take k).flatMap (fun i => scE (ordS scs (preH scs) i)) = L := ⟨_, rfl⟩
    rw [hL] at hown HL2
    have HS := hide hS
    have hClp' := hide hClp
    clear hat hgr hClp hy hS hL hx hx' hxe hnp hpa
    gi_wp2
    refine ⟨Keeps.refl _ _, fun W2 hb => ?_⟩
    have hlpB : B + 5 ≤ lp := by have := Hz0.out; omega
    have hvB : ∀ b, (Value.slice A0 k cap0).ownBlock = some b → B + 5 ≤ b := fun b hb => (hown.lt b hb).1
    have hvl : (Value.slice A0 k cap0).ownBlock ≠ some lp := fun e => hClp'.out (.inr (.inr e))
    have hwB := HwB.out
    have hT0 : Row W2 w.heap.size 22 #[.slice (some ⟨bA, off, none⟩) n cap] := hR0.but hb (by omega)
    have hT1 : Row W2 B 22 #[.slice A0 k cap0] := hR1.but hb (by omega)
    have hT2 : Row W2 (B + 2) 44 #[.map (some (B + 1))] := hR2.but hb (by omega)
    have hMp : MpW W2 (B + 1) (nowE ((preH scs).take k)) := hM.of_eq (hb.block _ (by omega))
    have hown2 : W2.ownsRow (B + 5) 49 3 (.slice A0 k cap0) k L := ownsRow_sameH hown (fun b hb' => hb.block b (fun e => hvl (e ▸ hb')))
    have hsz2 : W2.heap.size = W.heap.size := hb.size
    have hS2 : ScS W2 (some ⟨bA, off, none⟩) scs := fun hp => by
      obtain ⟨b, o, he, hat⟩ := HS.out hp
      cases he
      exact ⟨bA, off, rfl, fun i hi j hj => (hb.cell (p := ⟨bA, _, none⟩) (by show bA ≠ lp; omega)).trans (hat i hi j hj)⟩
    have hWz : B + 5 ≤ W.heap.size := by have := Hz0.out; omega
    obtain ⟨W3, hput, hm3, hk3, hz3⟩ := run_put_new keyedInt Try.underlying44 hMp HKY.out (keyInt (n := (x : Int)) ⟨by omega, by omega⟩) HOUT.out (.int .i64 (k : Int))
    rw [← HSN.out] at hm3
    have hc10 : W2.cell? ⟨B + 2, 0, none⟩ = some (.map (some (B + 1))) := hT2.cell 0
    have hc9 : W2.cell? ⟨B, 0, none⟩ = some (.slice A0 k cap0) := hT1.cell 0
    have hT03 : Row W3 w.heap.size 22 #[.slice (some ⟨bA, off, none⟩) n cap] := hT0.keep hk3 (by show ¬ _ = _; omega)
    have hT13 : Row W3 B 22 #[.slice A0 k cap0] := hT1.keep hk3 (by show ¬ _ = _; omega)
    have hT23 : Row W3 (B + 2) 44 #[.map (some (B + 1))] := hT2.keep hk3 (by show ¬ _ = _; omega)
    have hc23 : W3.cell? ⟨w.heap.size, 0, none⟩ = some (.slice (some ⟨bA, off, none⟩) n cap) := hT03.cell 0
    have hbk : ∀ (j : Nat) (u : Value), W.cell? ⟨bA, j, none⟩ = some u → W3.cell? ⟨bA, j, none⟩ = some u := fun j u h => (hk3.cell (p := ⟨bA, j, none⟩) (by show bA < _; omega) (by show ¬ bA = _; omega)).trans ((hb.cell (p := ⟨bA, j, none⟩) (by show bA ≠ lp; omega)).trans h)
    have d0 := hbk _ _ c0
    have d1 := hbk _ _ c1
    have d2 := hbk _ _ c2
    clear hbk c0 c1 c2
    obtain ⟨X, hX⟩ : ∃ X, W.heap.size = X := ⟨_, rfl⟩
    have hz3X : W3.heap.size = X := hz3.trans (hsz2.trans hX)
    have hBX : B + 5 ≤ X := by omega
    have hr4 : Row (W3.alloc (.cells #[.string nm, .int .i64 ty, .int .i64 pa] 49)) X 49 #[.string nm, .int .i64 ty, .int .i64 pa] := by rw [← hz3X]; exact Row.new _ _ _
    have hm4 : MpW (W3.alloc (.cells #[.string nm, .int .i64 ty, .int .i64 pa] 49)) (B + 1) (nowE ((preH scs).take (k + 1))) := hm3.of_eq (Below.heap_alloc _ _ _ (by omega))
    have hlook := run_look_in keyedInt Try.underlying44 hm4 HKY2.out HDI2.out (keyInt hp64) HIN.out false
    simp only [Bool.false_eq_true, if_false] at hlook
    have e10 : (W3.alloc (.cells #[.string nm, .int .i64 ty, .int .i64 pa] 49)).cell? ⟨B + 2, 0, none⟩ = some (.map (some (B + 1))) := (hT23.alloc _).cell 0
    have e2 : (W3.alloc (.cells #[.string nm, .int .i64 ty, .int .i64 pa] 49)).cell? ⟨X, 2, none⟩ = some (.int .i64 pa) := hr4.cell 2
    have e2f := hr4.frozen 2
    have hm5 : MpW ((W3.alloc (.cells #[.string nm, .int .i64 ty, .int .i64 pa] 49)).setCell ⟨X, 2, none⟩ (.int .i64 np)) (B + 1) (nowE ((preH scs).take (k + 1))) := hm4.of_eq (Below.heap_setCell _ ⟨X, 2, none⟩ _ _ (by show B + 1 ≠ X; omega))
    have hr5 := hr4.set_ 2 (.int .i64 np)
    have hT15 := (hT13.alloc (.cells #[.string nm, .int .i64 ty, .int .i64 pa] 49)).off (b := X) (by omega) 2 (.int .i64 np)
    have hT05 := (hT03.alloc (.cells #[.string nm, .int .i64 ty, .int .i64 pa] 49)).off (b := X) (by omega) 2 (.int .i64 np)
    have hT25 := (hT23.alloc (.cells #[.string nm, .int .i64 ty, .int .i64 pa] 49)).off (b := X) (by omega) 2 (.int .i64 np)
    have hvX : ∀ b, (Value.slice A0 k cap0).ownBlock = some b → B + 5 ≤ b ∧ b < X := fun b hb => ⟨hvB b hb, by have := (hown2.lt b hb).2; omega⟩
    have hown5 : ((W3.alloc (.cells #[.string nm, .int .i64 ty, .int .i64 pa] 49)).setCell ⟨X, 2, none⟩ (.int .i64 np)).ownsRow (B + 5) 49 3 (.slice A0 k cap0) k L := ownsRow_sameH hown2 (fun b hb => by
      have := hvX b hb
      exact (Below.heap_setCell _ ⟨X, 2, none⟩ _ _ (by show b ≠ X; omega)).trans ((Below.heap_alloc _ _ _ (by omega)).trans (hk3.block b (by omega) (by show ¬ b = _; omega))))
    have hz5 : ((W3.alloc (.cells #[.string nm, .int .i64 ty, .int .i64 pa] 49)).setCell ⟨X, 2, none⟩ (.int .i64 np)).heap.size = X + 1 := by simp [World.setCell, hz3X]
    have hkp5 : Keeps (fun b => OrdC B (.slice A0 k cap0) b ∨ X ≤ b) W2 ((W3.alloc (.cells #[.string nm, .int .i64 ty, .int .i64 pa] 49)).setCell ⟨X, 2, none⟩ (.int .i64 np)) := ((hk3.mono (C' := fun b => OrdC B (.slice A0 k cap0) b ∨ X ≤ b) (fun b h => .inl (.inr (.inl h)))).alloc _).set (.inl (.inr (Nat.le_refl _))) _ _
    obtain ⟨W5, hW5⟩ : ∃ W5, (W3.alloc (.cells #[.string nm, .int .i64 ty, .int .i64 pa] 49)).setCell ⟨X, 2, none⟩ (.int .i64 np) = W5 := ⟨_, rfl⟩
    rw [hW5] at hm5 hr5 hT15 hT05 hT25 hown5 hz5 hkp5
    have hr5' : Row W5 X 49 #[.string nm, .int .i64 ty, .int .i64 np] := hr5
    have g0 : W5.cell? ⟨X, 0, none⟩ = some (.string nm) := hr5'.cell 0
    have g1 : W5.cell? ⟨X, 1, none⟩ = some (.int .i64 ty) := hr5'.cell 1
    have g2 : W5.cell? ⟨X, 2, none⟩ = some (.int .i64 np) := hr5'.cell 2
    have g9 : W5.cell? ⟨B, 0, none⟩ = some (.slice A0 k cap0) := hT15.cell 0
    have C1 := hide (hown5.alloc (.cells #[.string nm, .int .i64 ty, .int .i64 np] 49))
    have C2 := hide (show ∀ (j : Nat) (u : Value), ([Value.string nm, .int .i64 ty, .int .i64 np] : List Value)[j]? = some u → (W5.alloc (.cells #[.string nm, .int .i64 ty, .int .i64 np] 49)).cell? ((⟨W5.heap.size, 0, none⟩ : Addr).add j) = some u from cells_new _ _ rfl)
    have C3 := hide (show ∀ u ∈ ([Value.string nm, .int .i64 ty, .int .i64 np] : List Value), u.oneCell' = true from by intro u hu; simp at hu; rcases hu with rfl | rfl | rfl <;> rfl)
    have C4 := hide (show B + 5 ≤ (W5.alloc (.cells #[.string nm, .int .i64 ty, .int .i64 np] 49)).heap.size by rw [World.size_alloc, hz5]; omega)
    have k5 : k + 1 ≤ maxLen := by unfold maxLen; omega
    have k6 : (k + 1) * 32 ≤ 140737488355328 := by omega
    have HT15 := hide hT15
    have HT05 := hide hT05
    have HT25 := hide hT25
    have HM5 := hide hm5
    have HVX := hide hvX
    have Hz5 := hide hz5
    have HK5 := hide hkp5
    have HS2 := hide hS2
    clear hS2 hown2 hvB hvl hT0 hT1 hT2 hMp hb hm3 hk3 hz3 hT03 hT13 hT23 hm4 hr4 hr5 hr5' hT15 hT05 hT25 hm5 hown5 hz5 hkp5 hR0 hR1 hR2 hM hown hvX
    gi_wp2_with (gi_at_builtin; refine wpListIn_append_at _ rfl _ _ 22 rfl (B + 5) 49 infoSc Try.underlying22 rfl (by decide) (.slice A0 k cap0) k L rfl C1.out ⟨W5.heap.size, 0, none⟩ 1 1 [.string nm, .int .i64 ty, .int .i64 np] rfl rfl C2.out C3.out k5 k6 C4.out ?_; intro v1 w6 hown6 hgrow6 _ hat6; obtain ⟨A1, cap1, rfl⟩ := ownH_sl hown6; have hT16 := (HT15.out.alloc (.cells #[.string nm, .int .i64 ty, .int .i64 np] 49)).grown hgrow6 (fun e => by have := (HVX.out _ e.symm).1; omega); have hc16 := hT16.cell 0; have hf16 := hT16.frozen 0; have HT16 := hide hT16; have HO6 := hide hown6; have HG6 := hide hgrow6; have HAT := hide hat6; clear hT16 hown6 hgrow6 hat6)
    subst hX
    have hwb := HwB.out
    have hz5 := Hz5.out
    have hgz := HG6.out.size
    rw [World.size_alloc, hz5] at hgz
    have hsz' : (w6.setCell ⟨B, 0, none⟩ (.slice A1 (k + 1) cap1)).heap.size = w6.heap.size := by simp [World.setCell]
    have hkF : Keeps (fun b => OrdC B (.slice A0 k cap0) b ∨ W.heap.size ≤ b) W2 (w6.setCell ⟨B, 0, none⟩ (.slice A1 (k + 1) cap1)) := ((HK5.out.alloc _).grown HG6.out (fun b hb => .inl (.inl (.inr (.inr hb))))).set (.inl (.inl (.inl rfl))) _ _
    have hg6 : ∀ (g : Nat) (t : TypeId) (cs : Array Value), g < B + 5 → Row W5 g t cs → Row w6 g t cs := fun g t cs hg h => (h.alloc _).grown HG6.out (fun e => by have := (HVX.out _ e.symm).1; omega)
    show ∃ C', Keeps (fun b => OrdC B (.slice A0 k cap0) b ∨ W.heap.size ≤ b) W2 (w6.setCell ⟨B, 0, none⟩ (.slice A1 (k + 1) cap1)) ∧ Grew (OrdC B (.slice A0 k cap0)) W C' (w6.setCell ⟨B, 0, none⟩ (.slice A1 (k + 1) cap1)) ∧ OrdI scs (some ⟨bA, off, none⟩) cap w.heap.size B (k + 1) C' (w6.setCell ⟨B, 0, none⟩ (.slice A1 (k + 1) cap1))
    refine ⟨OrdC B (.slice A1 (k + 1) cap1), hkF, fun b hb' => ?_, _, rfl, ?_, HT16.out.set_ 0 _, ?_, ?_, ?_, ?_, ?_⟩
    · rw [hsz']
      rcases hb' with rfl | rfl | hb'
      · exact ⟨.inl (.inl rfl), by omega⟩
      · exact ⟨.inl (.inr (.inl rfl)), by omega⟩
      · refine ⟨?_, (HO6.out.lt b hb').2⟩
        rcases HAT.out with h | h
        · exact .inl (.inr (.inr (h ▸ hb')))
        · rw [h] at hb'
          have h3 := Option.some.inj hb'
          rw [World.size_alloc, hz5] at h3
          exact .inr (by omega)
    · rw [Hn.out]; exact (hg6 _ _ _ (by omega) HT05.out).off (by omega) _ _
    · exact (hg6 _ _ _ (by omega) HT25.out).off (by omega) _ _
    · exact (HM5.out.of_eq (((HG6.out.block (B + 1) (by rw [World.size_alloc]; omega) (fun e => by have := (HVX.out _ e.symm).1; omega)).trans (Below.heap_alloc _ _ _ (by omega))))).of_eq (Below.heap_setCell _ ⟨B, 0, none⟩ _ _ (by show B + 1 ≠ B; omega))
    · exact sc_kept2 HS2.out hkF (fun a ha => by
        cases ha
        show ¬ (OrdC B (.slice A0 k cap0) bA ∨ W.heap.size ≤ bA)
        rintro ((e | e | e) | e)
        · omega
        · omega
        · have := (HVX.out _ e).1; omega
        · omega)
    · have ho := ownsRow_sameH (W2 := w6.setCell ⟨B, 0, none⟩ (.slice A1 (k + 1) cap1)) HO6.out (fun b hb => Below.heap_setCell _ ⟨B, 0, none⟩ _ _ (by show b ≠ B; have := (HO6.out.lt b hb).1; omega))
      rw [HL2.out]; exact ho
    · omega
  case done =>
    rintro D C W hD hCD hK ⟨v, rfl, hR0, hR1, hR2, hM, hS, hown, _⟩ hkp hgr
    have hlen : (preH scs).length = scs.length := preH_len Hd.out
    have hlen' : (preT scs (-1)).length = (preH scs).length := rfl
    rw [hlen'] at hM hown
    rw [List.take_of_length_le (Nat.le_refl _)] at hM hown
    rw [hlen, Hn.out] at hown
    have hfl : (preH scs).flatMap (fun i => scE (ordS scs (preH scs) i)) = (orderS scs).flatMap scE := by rw [orderS_eq, List.flatMap_map]
    rw [hfl] at hown
    have hol : (orderS scs).length = n := by rw [orderS_eq, List.length_map, hlen, Hn.out]
    have hz := Hz0.out
    have hwb := HwB.out
    have hB1 : Below B W0 W := hkp.below (fun b hb => by
      rcases hb with (e | e | e) | e
      · omega
      · omega
      · simp [Value.ownBlock] at e
      · exact e.elim) (by omega)
    have hb1 : Below w.heap.size w W := HBl.out.trans (hB1.mono (by omega))
    have hWz : B + 5 ≤ W.heap.size := by have := hkp.size; omega
    rw [← hol] at hown
    obtain ⟨A0, cap0, rfl, hfs⟩ := FlS.own scE_len hown
    have hvb : ∀ b, (Value.slice A0 (orderS scs).length cap0).ownBlock = some b → B + 5 ≤ b ∧ b < W.heap.size := fun b hb => hown.lt b hb
    have hAb : ∀ a, A0 = some a → 0 < n → a.block < W.heap.size := by
      intro a ha hn0
      obtain ⟨b, off, e, _⟩ := hfs (by omega)
      obtain ⟨b2, off2, e2, hz2, _⟩ := FlS.at hfs scE_len (by decide) (i := 0) (by omega)
      rw [e2] at ha; cases ha; exact hz2
    have hbox : W.cell? ⟨B + 2, 0, none⟩ = some (.map (some (B + 1))) := hR2.cell 0
    have hout : W.cell? ⟨B, 0, none⟩ = some (.slice A0 n cap0) := by rw [← hol]; exact hR1.cell 0
    have hDW : D < W.heap.size := (Array.getElem?_eq_some_iff.1 hK).1
    have hCL := clone_any A' cap' vs W (va_below Hv.out hb1) (by have := Hg.out.fewV; omega) HA'.out
    rw [Hm.out] at hCL
    have HCL := hide hCL
    have HK := hide hK
    have HB1 := hide hb1
    have HFS := hide hfs
    have HR1 := hide hR1
    have HR2 := hide hR2
    have HM := hide hM
    have Hol := hide hol
    have Hhbox := hide hbox
    have Hhout := hide hout
    -- what lies behind the loop, whatever is done in new blocks
    have HEND := hide (fun (w6 : World) (a2 : Option Addr) (c2 : Nat) (v3 : Value) (hb6 : Below W.heap.size W w6) (hv6 : VaS w6 a2 (orderV scs vs).1) (ho6 : w6.ownsRow w.heap.size 3 1 v3 (orderV scs vs).2.length ((orderV scs vs).2.map intV)) (h3 : ∀ b, v3.ownBlock = some b → W.heap.size ≤ b) (h2 : ∀ a, a2 = some a → W.heap.size ≤ a.block) (h4 : a2 = none → c2 = 0) =>
      show ScS (w6.putObj D (.deferred none)) A0 (orderS scs) ∧ VaS (w6.putObj D (.deferred none)) a2 (orderV scs vs).1 ∧ (w6.putObj D (.deferred none)).ownsRow w.heap.size 3 1 v3 (orderV scs vs).2.length ((orderV scs vs).2.map intV) ∧ Below w.heap.size w (w6.putObj D (.deferred none)) ∧ (∀ a, A0 = some a → a.block < (w6.putObj D (.deferred none)).heap.size) ∧ (a2 = none → c2 = 0) from by
        have hbut : But D w6 (w6.putObj D (.deferred none)) := But.putObj _ D _
        refine ⟨fun hp => ?_, fun hp => ?_, ownsRow_sameH ho6 (fun b hb => World.putObj_heap_other (fun e => by have := h3 b hb; omega)), (hb1.trans (hb6.mono hb1.size)).trans (But_low hbut (by omega)), fun a ha => by
          subst ha
          have hq := hvb a.block (by simp [Value.ownBlock])
          rw [hbut.size]
          exact Nat.lt_of_lt_of_le hq.2 hb6.size, h4⟩
        · obtain ⟨b, off, e, hat⟩ := hfs hp
          subst e
          have hob : (Value.slice (some ⟨b, off, none⟩) (orderS scs).length cap0).ownBlock = some b := by simp [Value.ownBlock]
          have hbD : b ≠ D := fun e => hCD (.inr (.inr (by rw [hob, e])))
          exact ⟨b, off, rfl, fun i hi j hj => (hbut.cell (p := ⟨b, off + i * 3 + j, none⟩) hbD).trans ((hb6.cell (p := ⟨b, off + i * 3 + j, none⟩) (by show b < _; exact (hvb b hob).2)).trans (hat i hi j hj))⟩
        · obtain ⟨b, off, e, hat⟩ := hv6 hp
          subst e
          have hbW := h2 _ rfl
          exact ⟨b, off, rfl, fun i hi j hj => (hbut.cell (p := ⟨b, off + i * 7 + j, none⟩) (by show b ≠ D; have : W.heap.size ≤ b := hbW; omega)).trans (hat i hi j hj)⟩)
    clear hR0 hR1 hR2 hM hS hown hkp hgr hK hB1 hfl hlen hlen' hCL hb1 hfs hol hCD
    gi_wp2_with fail
    refine (callsIn_wide.2 HCL.out).mono ?_
    rintro e w3 ⟨v2, rfl, ho3, hb3⟩
    have Hb3 := hide hb3
    have hm6 : m ≤ 1000000 := by have := Hm.out; omega
    rcases Nat.eq_zero_or_pos m with h0 | h0
    · subst h0
      obtain rfl : vs = [] := List.eq_nil_of_length_eq_zero Hm.out
      have hA2 : ∃ A2 cap2, v2 = .slice A2 0 cap2 ∧ (∀ a, A2 = some a → W.heap.size ≤ a.block) ∧ (A2 = none → cap2 = 0) := by
        rcases ho3.2 with ⟨h, _⟩ | ⟨g, cap2, cur, h, hg, _⟩
        · exact ⟨none, 0, h, (fun a ha => by cases ha), fun _ => rfl⟩
        · exact ⟨_, cap2, h, (fun a ha => by cases ha; exact hg), fun h => by cases h⟩
      obtain ⟨A2, cap2, rfl, hA2, hA3⟩ := hA2
      have HA2 := hide hA2
      have HA3 := hide hA3
      have hb3' := Hb3.out
      have hout6 : (w3.alloc (.map #[] 0)).cell? ⟨B, 0, none⟩ = some (.slice A0 n cap0) := ((hb3'.alloc hb3'.size _).cell (p := ⟨B, 0, none⟩) (by show B < _; omega)).trans Hhout.out
      have HK6 := hide (((hb3'.alloc hb3'.size (.map #[] 0)).block D hDW).trans HK.out)
      have HE := hide (HEND.out (w3.alloc (.map #[] 0)) A2 cap2 (.slice none 0 0) (hb3'.alloc hb3'.size _) (fun hp => by
        have : (orderV scs []).1 = [] := by rw [orderV_nil]
        rw [this] at hp; cases hp) (by
        have : (orderV scs []).2 = [] := by rw [orderV_nil]
        rw [this]; exact World.ownsRow_nil _ _ _ _) (fun b hb => by simp [Value.ownBlock] at hb) HA2.out HA3.out)
      have SN := hide (sort_none A2 cap2 (.func (.func 30) #[] #[]))
      have NN := hide (number_none A2 cap2)
      clear ho3 hb3 hb3' hA2 hA3
      gi_wp2_with fail
      refine wpIn_wide.2 ?_
      go_loopw [48] (fun v wr => v = .int .i64 0 ∧ w3 = wr) (fun v _ => 0)
      case atStart => exact ⟨rfl, rfl⟩
      case round =>
        obtain ⟨rfl, rfl⟩ := hrel
        go_wp2_with fail
        gi_wp2_with (first | (gi_at_call 29; refine (callsIn_wide.2 (SN.out _)).mono ?_; rintro e w' ⟨rfl, rfl⟩) | (gi_at_call 32; refine (callsIn_wide.2 (NN.out _)).mono ?_; rintro e w' ⟨rfl, rfl⟩))
        refine bodyPostM_mark HK6.out (v := .tuple #[.slice A0 n cap0, .slice A2 0 cap2, .slice none 0 0, .int .i64 0]) ((results_tmp4 rfl _ _).trans rfl) ?_
        exact ⟨A0, cap0, A2, cap2, _, rfl, HE.out⟩
    · obtain ⟨g, cap2, rfl, hg1, hg2⟩ := World.ownsRow.form ho3 h0
      have HRV := hide (RowV.own ho3 Hm.out.symm)
      have hbox3 : w3.cell? ⟨B + 2, 0, none⟩ = some (.map (some (B + 1))) := (hb3.cell (p := ⟨B + 2, 0, none⟩) (by show B + 2 < _; omega)).trans Hhbox.out
      have hout3 : w3.cell? ⟨B, 0, none⟩ = some (.slice A0 n cap0) := (hb3.cell (p := ⟨B, 0, none⟩) (by show B < _; omega)).trans Hhout.out
      have HBX := hide hbox3
      have HOT := hide hout3
      have HM3 := hide (HM.out.below hb3 (by omega))
      clear ho3 hb3 hbox3 hout3
      gi_wp2_with fail
      refine wpIn_wide.2 ?_
      go_loopw [48] (fun v wr => ∃ i : Nat, v = .int .i64 (i : Int) ∧ i ≤ m ∧ Hid (RowV wr g (moveV scs (vs.take i) ++ vs.drop i)) ∧ Hid (Keeps (fun b => b = g) w3 wr)) (fun v _ => m - (intOf v).toNat)
      case atStart => exact ⟨0, rfl, Nat.zero_le _, HRV, hide (Keeps.refl _ _)⟩
      case round =>
        obtain ⟨i, rfl, hi, HR, HKp⟩ := hrel
        by_cases hlt : i < m
        · have hi' : (i : Int) < (m : Int) := by omega
          have hi0 : (0 : Int) ≤ (i : Int) := by omega
          have hw1 : IntKind.i64.wrap ((i : Int) + 1) = (i : Int) + 1 := IntWalk.i64_in _ (by omega)
          have hix : i < vs.length := by rw [Hm.out]; exact hlt
          have hdr : vs.drop i = vs[i] :: vs.drop (i + 1) := List.drop_eq_getElem_cons hix
          have hrow := HR.out
          rw [hdr] at hrow
          have hll : i = (moveV scs (vs.take i)).length := by rw [moveV_len, List.length_take]; omega
          have hlen : i < (moveV scs (vs.take i) ++ vs[i] :: vs.drop (i + 1)).length := by rw [List.length_append, ← hll, List.length_cons]; omega
          have hget : (moveV scs (vs.take i) ++ vs[i] :: vs.drop (i + 1))[i] = vs[i] := by
            rw [List.getElem_append_right (by omega)]
            simp [← hll]
          obtain ⟨c2, f2⟩ := hrow i hlen 2 (by decide)
          rw [hget] at c2
          have hgv := Hg.out.declV _ (List.getElem_mem hix)
          obtain ⟨q1, q2, q3⟩ := nowH_range Hd.out hgv.1 hgv.2.1
          have hset := hrow.set (i := i) (c := 2) (u := .int .i64 (nowH (preH scs) vs[i].scope)) (x := { vs[i] with scope := nowH (preH scs) vs[i].scope }) hlen (by decide) (by rw [hget]; rfl)
          rw [set_mid hll] at hset
          have hmv : moveV scs (vs.take (i + 1)) = moveV scs (vs.take i) ++ [{ vs[i] with scope := nowH (preH scs) vs[i].scope }] := by
            rw [List.take_succ_eq_append_getElem hix]
            unfold moveV
            rw [List.map_append]; rfl
          have HSET := hide (show RowV (wr.setCell ⟨g, i * 7 + 2, none⟩ (.int .i64 (nowH (preH scs) vs[i].scope))) g (moveV scs (vs.take (i + 1)) ++ vs.drop (i + 1)) by rw [hmv]; simpa using hset)
          have hm3 : MpW wr (B + 1) (nowE (preH scs)) := HM3.out.keep HKp.out (by show ¬ B + 1 = g; omega)
          have hks : ∀ i ∈ preH scs, i < 1000000 := fun i hi => by
            have h1 := (preT_lt Hd.out (scs.length + 1) (-1) (by omega) (by omega) (by omega) i hi).1
            have := Hn.out; omega
          have hns : (preH scs).Nodup := preT_nodup Hd.out (scs.length + 1) (-1) (by omega) (by omega) (by omega)
          have hsc64 : In64 vs[i].scope := ⟨by omega, by have := Hn.out; omega⟩
          have hlook := run_look_in keyedInt Try.underlying44 (W := wr.drew) (show MpW wr.drew (B + 1) (nowE (preH scs)) from hm3) (nowE_key hks) (nowE_dist hns) (keyInt hsc64) (nowE_in q3) false
          simp only [Bool.false_eq_true, if_false] at hlook
          have hbx : wr.drew.cell? ⟨B + 2, 0, none⟩ = some (.map (some (B + 1))) := (HKp.out.cell (p := ⟨B + 2, 0, none⟩) (by have := Hb3.out.size; show B + 2 < _; omega) (by show ¬ B + 2 = g; omega)).trans HBX.out
          have HKS := hide (HKp.out.drew.set (b := g) (.inl rfl) (i * 7 + 2) (.int .i64 (nowH (preH scs) vs[i].scope)))
          obtain ⟨np, hnp⟩ : ∃ np, nowH (preH scs) vs[i].scope = np := ⟨_, rfl⟩
          obtain ⟨sc, hsc⟩ : ∃ sc, vs[i].scope = sc := ⟨_, rfl⟩
          rw [hnp] at hlook HSET HKS
          rw [hsc] at hlook
          have c2' : wr.drew.cell? ⟨g, i * 7 + 2, none⟩ = some (.int .i64 sc) := by
            have h : (vaE vs[i])[2]? = some (.int .i64 vs[i].scope) := rfl
            rw [h, hsc] at c2
            exact c2
          have f2' : wr.drew.frozen? ⟨g, i * 7 + 2, none⟩ = false := f2
          have mixed := mixedH
          clear hrow hdr hlen hget c2 f2 hgv q1 q2 q3 hset hmv hm3 hks hns hsc64 hnp hsc hll
          go_wp2_with fail
          go_big_region_o
          all_goals go_wp2
          go_roundw
          case rel => exact ⟨i + 1, by go_num, by omega, hide HSET.out, hide HKS.out⟩
          case measure => simp [intOf]; omega
        · obtain rfl : i = m := by omega
          have hi' : ¬ (i : Int) < (i : Int) := by omega
          have HRM := hide (show RowV wr g (moveV scs vs) by
            have h := HR.out
            rw [List.take_of_length_le (Nat.le_of_eq Hm.out), List.drop_eq_nil_of_le (Nat.le_of_eq Hm.out), List.append_nil] at h
            exact h)
          have hgw : g < wr.heap.size := Nat.lt_of_lt_of_le hg2 HKp.out.size
          have HSO := hide (sort_any (l := moveV scs vs) cap2 i HRM.out (by rw [moveV_len, Hm.out]) hm6 hgw)
          go_wp2_with fail
          gi_wp2_with fail
          refine (callsIn_wide.2 HSO.out).mono ?_
          rintro e w5 ⟨rfl, Xs, hX, hrv5, hk5⟩
          have hXe : Xs = sortV scs.length (moveV scs vs) := sort_eq hX (fun v hv => by
            unfold moveV at hv
            obtain ⟨u, hu, rfl⟩ := List.mem_map.1 hv
            have h1 := Hg.out.declV u hu
            have h2 := nowH_range Hd.out h1.1 h1.2.1
            exact ⟨h2.1, h2.2.1⟩)
          have hXl : Xs.length = i := by rw [hX.len, moveV_len, Hm.out]
          have hXs : ∀ v ∈ Xs, In64 v.signal := fun v hv => by
            have h1 := hX.mem hv
            unfold moveV at h1
            obtain ⟨u, hu, rfl⟩ := List.mem_map.1 h1
            exact (Hok'.out u hu).signal
          have HNU := hide (number_any Xs g cap2 i w5 hrv5 hXl (by have := Hg.out.fewV; have := Hm.out; omega) (Nat.lt_of_lt_of_le hgw hk5.size) hXs)
          have HK5 := hide hk5
          have HXe := hide hXe
          clear hX hrv5 hk5 hXe hXl hXs
          gi_wp2_with fail
          refine (callsIn_wide.2 HNU.out).mono ?_
          rintro e w6 ⟨v3, rfl, hrv6, ho6, hk6⟩
          have hkk : Keeps (fun b => b = g) w3 w6 := (HKp.out.trans HK5.out).trans hk6
          have hsz6 := hkk.size
          have hb3 := Hb3.out
          have hbl6 : Below W.heap.size W w6 := hb3.trans (hkk.below (fun b hb => by omega) hb3.size)
          have hout6 : w6.cell? ⟨B, 0, none⟩ = some (.slice A0 n cap0) := (hbl6.cell (p := ⟨B, 0, none⟩) (by show B < _; omega)).trans Hhout.out
          have HK6 := hide ((hbl6.block D hDW).trans HK.out)
          have heq : numF Xs [] = orderV scs vs := by rw [HXe.out]; rfl
          rw [heq] at hrv6 ho6
          have hw5 : W.heap.size ≤ w5.heap.size := by have := HKp.out.size; have := HK5.out.size; have := hb3.size; omega
          have HE := hide (HEND.out w6 (some ⟨g, 0, none⟩) cap2 v3 hbl6 hrv6.vas (ownsRow_mono ho6 (by have := Hb1.out.size; omega)) (fun b hb => by have := (ho6.lt b hb).1; omega) (fun a ha => by cases ha; exact hg1) (fun h => by cases h))
          clear hrv6 ho6 hk6 hkk hsz6 hb3 hbl6 heq hw5
          gi_wp2
          refine bodyPostM_mark HK6.out (v := .tuple #[.slice A0 n cap0, .slice (some ⟨g, 0, none⟩) i cap2, v3, .int .i64 0]) ((results_tmp4 rfl _ _).trans rfl) ?_
          exact ⟨A0, cap0, some ⟨g, 0, none⟩, cap2, v3, rfl, HE.out⟩
  case stop =>
    rintro D c k C W _ _ _ _ h
    exact h.elim
end Go.Proofs.Ytpfiofgchkfkhaa

/- slices.Equal at scopes and at variables. -/
set_option linter.unusedVariables false
set_option linter.unusedSimpArgs false
namespace Go.Proofs.Ytpfiofgchkfkhaa
open Go.RowKit Go.Shelf Go.Maps
theorem allEq_dec {α : Type} [DecidableEq α] : ∀ (xs ys : List α), Lib.allEq (fun x y => decide (x = y)) xs ys = decide (xs = ys)
  | [], [] => by simp [Lib.allEq]
  | [], _ :: _ => by simp [Lib.allEq]
  | _ :: _, [] => by simp [Lib.allEq]
  | x :: xs, y :: ys => by
    have ih := allEq_dec xs ys
    have e : Lib.allEq (fun x y => decide (x = y)) (x :: xs) (y :: ys) = (decide (x = y) && Lib.allEq (fun x y => decide (x = y)) xs ys) := by simp [Lib.allEq]
    rw [e, ih]
    by_cases h : x = y <;> by_cases h2 : xs = ys <;> simp [h, h2]
theorem bytes_beqH (a b : ByteArray) : (a.toList == b.toList) = decide (a = b) := by
  rw [← beq_toListBytes]
  obtain ⟨d0⟩ := a
  obtain ⟨d1⟩ := b
  show (d0 == d1) = _
  by_cases h : d0 = d1 <;> simp [h]
theorem bytes_iffH (a b : ByteArray) : (a.toList = b.toList) ↔ a = b := by
  have h := bytes_beqH a b
  by_cases h1 : a = b
  · simp [h1]
  · rw [decide_eq_false h1] at h
    simp [h1]
    intro e
    rw [e] at h
    simp at h

theorem eqAtS : NeqAt Try.prog 49 (fun x : Sc => .agg (scE x).toArray) (fun x y => decide (x = y)) := by
  refine ⟨fun x y w => ?_, GuardAt.agg _ (by kernel_rfl)⟩
  have u3 := Try.underlying3
  have a3 := Try.isAgg3
  have z3 := Try.sizeOf3
  have u9 := Try.underlying9
  have a9 := Try.isAgg9
  have z9 := Try.sizeOf9
  have u4 := Try.underlying4
  have a4 := Try.isAgg4
  have z4 := Try.sizeOf4
  have hS : Try.prog.underlying 49 = some (.struct (Try.prog.fieldsOf 49)) := by kernel_rfl
  have hp : Try.prog.stoodInHeld 49 = false := by kernel_rfl
  obtain ⟨x0, x1, x2⟩ := x
  obtain ⟨y0, y1, y2⟩ := y
  simp only [scE]
  rw [run_neq_struct, show (10000 : Nat) = 9999 + 1 from rfl, run_equalIn_agg w 9999 49 _ _ hS hp]
  simp only [Program.fieldsOf, Try.underlying49]
  go_simp
  by_cases h0 : x0 = y0 <;> by_cases h1 : x1 = y1 <;> by_cases h2 : x2 = y2 <;> simp [bytes_beqH, bytes_iffH, h0, h1, h2]
theorem lenS_any (A A' : Option Addr) (n m c d : Nat) (w : World) (hn : n ≤ 1000000) (hm : m ≤ 1000000) (h : n ≠ m ∨ (n = 0 ∧ m = 0)) :
    Calls Try.prog 24 #[.slice A n c, .slice A' m d] w fun e w' => e = .returned (.bool (decide (n = m))) ∧ w = w' := by
  by_cases hnm : n = m
  · obtain ⟨rfl, rfl⟩ : n = 0 ∧ m = 0 := by omega
    go_enter Try.func24, Try.ntmps24
    go_wp2
    go_loopw [13] (fun v wr => v = .int .i64 0 ∧ w = wr) (fun _ _ => 0)
    case atStart => exact ⟨rfl, rfl⟩
    case round =>
      obtain ⟨rfl, rfl⟩ := hrel
      go_wp2
      go_ret
      exact ⟨rfl, rfl⟩
  · have e1 : ((n : Int) == (m : Int)) = false := beq_eq_false_iff_ne.2 (by omega)
    have e2 : ¬ (n : Int) = (m : Int) := by omega
    have HV := hide (show decide (n = m) = false from decide_eq_false hnm)
    clear h
    go_enter Try.func24, Try.ntmps24
    go_wp2
    go_ret
    exact ⟨by rw [HV.out]; first | done | rfl, rfl⟩
theorem EqualS_any (A A' : Option Addr) (c d : Nat) (xs ys : List Sc) (w : World) (hx : ScS w A xs) (hy : ScS w A' ys) (hn : xs.length ≤ 1000000) (hm : ys.length ≤ 1000000) :
    Calls Try.prog 24 #[.slice A xs.length c, .slice A' ys.length d] w fun e w' => e = .returned (.bool (decide (xs = ys))) ∧ Below w.heap.size w w' := by
  by_cases hl : xs.length ≠ ys.length ∨ (xs.length = 0 ∧ ys.length = 0)
  · refine (lenS_any A A' xs.length ys.length c d w hn hm hl).mono ?_
    rintro e w' ⟨rfl, rfl⟩
    refine ⟨?_, Below.refl _ _⟩
    rcases hl with h | ⟨h1, h2⟩
    · rw [decide_eq_false h, decide_eq_false (fun e => h (by rw [e]))]
    · have e1 := List.eq_nil_of_length_eq_zero h1
      have e2 := List.eq_nil_of_length_eq_zero h2
      subst e1; subst e2; rfl
  · obtain ⟨b1, o1, rfl, ha1⟩ := hx (by omega)
    obtain ⟨b2, o2, rfl, ha2⟩ := hy (by omega)
    have hcell : ∀ (zs : List Sc) (b o : Nat), (∀ i (h : i < zs.length) j, j < 3 → w.cell? ⟨b, o + i * 3 + j, none⟩ = (scE zs[i])[j]?) → ∀ j, j < zs.length → ∀ i v, (scE zs[j]!)[i]? = some v → w.cell? ⟨b, o + j * 3 + i, none⟩ = some v := by
      intro zs b o h j hj i v hv
      have hi := (List.getElem?_eq_some_iff.1 hv).1
      rw [scE_len] at hi
      rw [h j hj i hi]
      rw [getElem!_pos zs j hj] at hv
      exact hv
    have := AnyQ.slices_Equal Try.eqScopes 3 Try.isAgg49 Try.sizeOf49 scE scE_len (fun x y => decide (x = y)) eqAtS b1 o1 xs.length c b2 o2 ys.length d xs ys w (Nat.le_refl _) (Nat.le_refl _) (by omega) (by omega) (hcell xs b1 o1 ha1) (hcell ys b2 o2 ha2)
    change Calls Try.prog 24 _ _ _ at this
    refine this.mono ?_
    rintro e w' ⟨rfl, q, rfl⟩
    rw [List.take_length, List.take_length, allEq_dec]
    exact ⟨rfl, ⟨rfl, rfl, rfl, Nat.le_refl _, fun _ _ => rfl⟩⟩
theorem eqAtV : NeqAt Try.prog 29 (fun x : Va => .agg (vaE x).toArray) (fun x y => decide (x = y)) := by
  refine ⟨fun x y w => ?_, GuardAt.agg _ (by kernel_rfl)⟩
  have u3 := Try.underlying3
  have a3 := Try.isAgg3
  have z3 := Try.sizeOf3
  have u9 := Try.underlying9
  have a9 := Try.isAgg9
  have z9 := Try.sizeOf9
  have u4 := Try.underlying4
  have a4 := Try.isAgg4
  have z4 := Try.sizeOf4
  have hS : Try.prog.underlying 29 = some (.struct (Try.prog.fieldsOf 29)) := by kernel_rfl
  have hp : Try.prog.stoodInHeld 29 = false := by kernel_rfl
  obtain ⟨x0, x1, x2, x3, x4, x5, x6⟩ := x
  obtain ⟨y0, y1, y2, y3, y4, y5, y6⟩ := y
  simp only [vaE]
  rw [run_neq_struct, show (10000 : Nat) = 9999 + 1 from rfl, run_equalIn_agg w 9999 29 _ _ hS hp]
  simp only [Program.fieldsOf, Try.underlying29]
  go_simp
  by_cases h0 : x0 = y0 <;> by_cases h1 : x1 = y1 <;> by_cases h2 : x2 = y2 <;> by_cases h3 : x3 = y3 <;> by_cases h4 : x4 = y4 <;> by_cases h5 : x5 = y5 <;> by_cases h6 : x6 = y6 <;> simp [bytes_beqH, bytes_iffH, h0, h1, h2, h3, h4, h5, h6]
theorem lenV_any (A A' : Option Addr) (n m c d : Nat) (w : World) (hn : n ≤ 1000000) (hm : m ≤ 1000000) (h : n ≠ m ∨ (n = 0 ∧ m = 0)) :
    Calls Try.prog 25 #[.slice A n c, .slice A' m d] w fun e w' => e = .returned (.bool (decide (n = m))) ∧ w = w' := by
  by_cases hnm : n = m
  · obtain ⟨rfl, rfl⟩ : n = 0 ∧ m = 0 := by omega
    go_enter Try.func25, Try.ntmps25
    go_wp2
    go_loopw [13] (fun v wr => v = .int .i64 0 ∧ w = wr) (fun _ _ => 0)
    case atStart => exact ⟨rfl, rfl⟩
    case round =>
      obtain ⟨rfl, rfl⟩ := hrel
      go_wp2
      go_ret
      exact ⟨rfl, rfl⟩
  · have e1 : ((n : Int) == (m : Int)) = false := beq_eq_false_iff_ne.2 (by omega)
    have e2 : ¬ (n : Int) = (m : Int) := by omega
    have HV := hide (show decide (n = m) = false from decide_eq_false hnm)
    clear h
    go_enter Try.func25, Try.ntmps25
    go_wp2
    go_ret
    exact ⟨by rw [HV.out]; first | done | rfl, rfl⟩
theorem EqualV_any (A A' : Option Addr) (c d : Nat) (xs ys : List Va) (w : World) (hx : VaS w A xs) (hy : VaS w A' ys) (hn : xs.length ≤ 1000000) (hm : ys.length ≤ 1000000) :
    Calls Try.prog 25 #[.slice A xs.length c, .slice A' ys.length d] w fun e w' => e = .returned (.bool (decide (xs = ys))) ∧ Below w.heap.size w w' := by
  by_cases hl : xs.length ≠ ys.length ∨ (xs.length = 0 ∧ ys.length = 0)
  · refine (lenV_any A A' xs.length ys.length c d w hn hm hl).mono ?_
    rintro e w' ⟨rfl, rfl⟩
    refine ⟨?_, Below.refl _ _⟩
    rcases hl with h | ⟨h1, h2⟩
    · rw [decide_eq_false h, decide_eq_false (fun e => h (by rw [e]))]
    · have e1 := List.eq_nil_of_length_eq_zero h1
      have e2 := List.eq_nil_of_length_eq_zero h2
      subst e1; subst e2; rfl
  · obtain ⟨b1, o1, rfl, ha1⟩ := hx (by omega)
    obtain ⟨b2, o2, rfl, ha2⟩ := hy (by omega)
    have hcell : ∀ (zs : List Va) (b o : Nat), (∀ i (h : i < zs.length) j, j < 7 → w.cell? ⟨b, o + i * 7 + j, none⟩ = (vaE zs[i])[j]?) → ∀ j, j < zs.length → ∀ i v, (vaE zs[j]!)[i]? = some v → w.cell? ⟨b, o + j * 7 + i, none⟩ = some v := by
      intro zs b o h j hj i v hv
      have hi := (List.getElem?_eq_some_iff.1 hv).1
      rw [vaE_len] at hi
      rw [h j hj i hi]
      rw [getElem!_pos zs j hj] at hv
      exact hv
    have := AnyQ.slices_Equal Try.eqVars 7 Try.isAgg29 Try.sizeOf29 vaE vaE_len (fun x y => decide (x = y)) eqAtV b1 o1 xs.length c b2 o2 ys.length d xs ys w (Nat.le_refl _) (Nat.le_refl _) (by omega) (by omega) (hcell xs b1 o1 ha1) (hcell ys b2 o2 ha2)
    change Calls Try.prog 25 _ _ _ at this
    refine this.mono ?_
    rintro e w' ⟨rfl, q, rfl⟩
    rw [List.take_length, List.take_length, allEq_dec]
    exact ⟨rfl, ⟨rfl, rfl, rfl, Nat.le_refl _, fun _ _ => rfl⟩⟩
end Go.Proofs.Ytpfiofgchkfkhaa

/- Order where something is wrong; Valid. -/
set_option linter.unusedVariables false
set_option linter.unusedSimpArgs false
namespace Go.Proofs.Ytpfiofgchkfkhaa
open Go.RowKit Go.Shelf Go.Maps
/-- what is asked of the declarations that come in -/
structure InH (w : World) (scs : List Sc) (vs : List Va) (A A' : Option Addr) (cap' : Nat) : Prop where
  hs : ScS w A scs
  hv : VaS w A' vs
  hl : scs.length ≤ 1000000
  hl' : vs.length ≤ 1000000
  ok : ∀ x ∈ scs, ScOk x
  ok' : ∀ v ∈ vs, VaOk v
  z : ∀ x ∈ scs, x.name.size ≤ 1000000
  z' : ∀ v ∈ vs, v.name.size ≤ 1000000
  a : ∀ a, A = some a → a.block < w.heap.size
  a' : A' = none → cap' = 0 ∧ vs = []
theorem InH.below {w W : World} {scs : List Sc} {vs : List Va} {A A' : Option Addr} {cap' : Nat} (h : InH w scs vs A A' cap') (hb : Below w.heap.size w W) : InH W scs vs A A' cap' :=
  ⟨sc_below h.hs hb, va_below h.hv hb, h.hl, h.hl', h.ok, h.ok', h.z, h.z', fun a ha => Nat.lt_of_lt_of_le (h.a a ha) hb.size, h.a'⟩
set_option maxHeartbeats 4000000 in
set_option maxRecDepth 20000 in
theorem order_bad (scs : List Sc) (vs : List Va) (A A' : Option Addr) (cap cap' : Nat) (w : World) (H : InH w scs vs A A' cap') (hg : checkE scs vs ≠ 0) :
    Calls Try.prog 10 #[.slice A scs.length cap, .slice A' vs.length cap'] w fun e w' => e = .returned (.tuple #[.slice none 0 0, .slice none 0 0, .slice none 0 0, .int .i64 (checkE scs vs)]) ∧ Below w.heap.size w w' := by
  have CH := hide (fun W (hb : Below w.heap.size w W) => check_any scs vs A A' cap cap' W (sc_below H.hs hb) (va_below H.hv hb) H.hl H.hl' H.ok H.ok' H.z H.z')
  generalize checkE scs vs = E at *
  generalize scs.length = n at *
  generalize vs.length = m at *
  have e1 : (E == 0) = false := beq_eq_false_iff_ne.2 hg
  clear H
  refine (callsIn_wide (n := 0)).1 (callsIn_of_wp_marks Try.func10 rfl trivial ?_)
  simp only [Try.ntmps10, List.size_toArray, List.length_cons, List.length_nil, Nat.reduceAdd, Nat.reduceSub, Array.replicate_succ, Array.replicate_zero, List.push_toArray, List.append_toArray, List.nil_append, List.cons_append]
  gi_wp2_with fail
  refine (callsIn_wide.2 (CH.out _ ((Below.refl _ _).alloc (Nat.le_refl _) _))).mono ?_
  rintro e w1 ⟨rfl, hb1⟩
  have Hb1 := hide (((Below.refl w.heap.size w).alloc (Nat.le_refl _) (.cells #[.slice A n cap] 22)).trans (hb1.mono (by rw [World.size_alloc]; exact Nat.le_succ _)))
  clear hb1
  gi_wp2
  exact ⟨.tuple #[.slice none 0 0, .slice none 0 0, .slice none 0 0, .int .i64 E], (results_tmp4 rfl _ _).trans rfl, rfl, Hb1.out⟩
theorem validH_bad {scs : List Sc} {vs : List Va} (h : checkE scs vs ≠ 0) : validH scs vs = false := by unfold validH; exact decide_eq_false (fun e => h e.1)
theorem validH_good {scs : List Sc} {vs : List Va} (h : checkE scs vs = 0) : validH scs vs = (decide (orderS scs = scs) && decide ((orderV scs vs).1 = vs)) := by
  unfold validH
  by_cases h1 : orderS scs = scs <;> by_cases h2 : (orderV scs vs).1 = vs <;> simp [h, h1, h2]
theorem orderS_len {scs : List Sc} (hd : DeclS scs) : (orderS scs).length = scs.length := by rw [orderS_eq, List.length_map, preH_len hd]
theorem numF_len : ∀ (l : List Va) (F : List Int), (numF l F).1.length = l.length
  | [], _ => rfl
  | v :: r, F => by rw [numF_cons]; simp [numF_len r]
theorem orderV_len {scs : List Sc} {vs : List Va} (hg : Good scs vs) : (orderV scs vs).1.length = vs.length := by
  have hb : ∀ v ∈ moveV scs vs, -1 ≤ v.scope ∧ v.scope < scs.length := fun v hv => by
    unfold moveV at hv
    obtain ⟨u, hu, rfl⟩ := List.mem_map.1 hv
    have h1 := hg.declV u hu
    have h2 := nowH_range hg.decl h1.1 h1.2.1
    exact ⟨h2.1, h2.2.1⟩
  obtain ⟨X', hX, hs⟩ := ins_list [] (moveV scs vs) [] 0 (moveV scs vs).length rfl (by simp)
  unfold orderV
  rw [numF_len, ← sort_eq hs hb, hs.len, moveV_len]
set_option maxHeartbeats 4000000 in
set_option maxRecDepth 20000 in
theorem Valid_H (scs : List Sc) (vs : List Va) (A A' : Option Addr) (cap cap' : Nat) (w : World) (H : InH w scs vs A A' cap') :
    Calls Try.prog 9 #[.slice A scs.length cap, .slice A' vs.length cap'] w fun e w' => e = .returned (.bool (validH scs vs)) ∧ Below w.heap.size w w' := by
  by_cases hE : checkE scs vs = 0
  · have hg := checkE_ok.1 hE
    have OR := hide (order_good scs vs A A' cap cap' w H.hs H.hv H.hl H.hl' H.ok H.ok' H.z H.z' H.a H.a' hg)
    have hV := validH_good hE
    have hls := orderS_len hg.decl
    have hlv := orderV_len hg
    have EQS := hide (fun (W : World) (hb : Below w.heap.size w W) (a1 : Option Addr) (c1 : Nat) (hs : ScS W a1 (orderS scs)) => EqualS_any a1 A c1 cap (orderS scs) scs W hs (sc_below H.hs hb) (by rw [hls]; exact H.hl) H.hl)
    have EQV := hide (fun (W : World) (hb : Below w.heap.size w W) (a2 : Option Addr) (c2 : Nat) (hs : VaS W a2 (orderV scs vs).1) => EqualV_any a2 A' c2 cap' (orderV scs vs).1 vs W hs (va_below H.hv hb) (by rw [hlv]; exact H.hl') H.hl')
    have OR' := OR.out
    have EQS' := EQS.out
    have EQV' := EQV.out
    rw [hls] at EQS'
    rw [hlv] at EQV'
    have OR := hide OR'
    have EQS := hide EQS'
    have EQV := hide EQV'
    clear OR' EQS' EQV' hls hlv
    generalize validH scs vs = r at *
    generalize hb1 : decide (orderS scs = scs) = b1 at *
    generalize hb2 : decide ((orderV scs vs).1 = vs) = b2 at *
    generalize scs.length = n at *
    generalize vs.length = m at *
    have HV := hide hV
    clear hV H hg hE hb1 hb2
    go_enter Try.func9, Try.ntmps9
    go_wp2_with fail
    refine OR.out.mono ?_
    rintro e w1 ⟨a1, c1, a2, c2, v3, rfl, h1, h2, h3, hb, _⟩
    have HS1 := hide h1
    have HS2 := hide h2
    have Hb1 := hide hb
    clear h1 h2 h3 hb
    go_wp2_with fail
    refine (EQS.out w1 Hb1.out a1 c1 HS1.out).mono ?_
    rintro e w2 ⟨rfl, hb2⟩
    have Hb2 := hide (Hb1.out.trans (hb2.mono Hb1.out.size))
    have HS3 := hide (va_below HS2.out hb2)
    clear hb2
    cases b1 with
    | false =>
      have HV2 := hide (show r = false by rw [HV.out]; rfl)
      go_wp2
      any_goals first | (rename_i hu hb; exact (undef_bool hu).elim) | skip
      go_ret
      exact ⟨by rw [HV2.out]; first | done | rfl, Hb2.out⟩
    | true =>
      have HV2 := hide (show r = b2 by rw [HV.out]; rfl)
      go_wp2_with fail
      refine (EQV.out w2 Hb2.out a2 c2 HS3.out).mono ?_
      rintro e w3 ⟨rfl, hb3⟩
      have Hb3 := hide (Hb2.out.trans (hb3.mono Hb2.out.size))
      clear hb3
      go_wp2
      go_ret
      exact ⟨by rw [HV2.out]; first | done | rfl, Hb3.out⟩
  · have OR := hide (order_bad scs vs A A' cap cap' w H hE)
    have HV := hide (validH_bad hE)
    generalize validH scs vs = r at *
    generalize checkE scs vs = E at *
    generalize scs.length = n at *
    generalize vs.length = m at *
    have e1 : (E == 0) = false := beq_eq_false_iff_ne.2 hE
    clear H
    go_enter Try.func9, Try.ntmps9
    go_wp2_with fail
    refine OR.out.mono ?_
    rintro e w1 ⟨rfl, hb⟩
    have Hb1 := hide hb
    clear hb
    go_wp2
    go_ret
    exact ⟨by rw [HV.out]; first | done | rfl, Hb1.out⟩
end Go.Proofs.Ytpfiofgchkfkhaa
