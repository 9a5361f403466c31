/- Contract of decimal.scan. -/
import Derived.Test.YtpjikbfeegncbaaGreatDoorVaF
import Derived.Deep.DeepCutAuto
import Derived.Deep.RegionHeld3
import Derived.Lib.AppendStr
import Derived.Laws.ResultCell
set_option linter.unusedVariables false
set_option linter.unusedSimpArgs false
namespace Go
theorem results_row_tmp {P : Program} {fn : Func} {p u : Tmp} {ty : TypeId} (h : fn.results = #[.cell p ty, .tmp u]) (tmps : Array Value) (w : World) (g : Nat) (t : TypeId) (cs : Array Value) (fr : Nat × Nat) (d : TypeDesc)
    (v : Value) (hv : tmps.getD u undef = v) (hp : tmps.getD p undef = .pointer (some ⟨g, 0, none⟩)) (hg : w.heap[g]? = some (.cells cs t fr))
    (hu : P.underlying ty = some d) (hd : (match d with | .struct _ | .array _ _ => true | _ => false) = true) (hi : (P.info? ty).map (·.size) = some cs.size) :
    (results fn tmps).run P w = .ok (.tuple #[.agg cs, v]) w := by
  subst hv
  have hp' : tmps[p]?.getD undef = .pointer (some ⟨g, 0, none⟩) := by simpa using hp
  rw [results_cell_tmp h]
  simp [hp', asAddr, Result.andThen, run_loadVar_row w g t ty cs fr d hg hu hd hi]
end Go
namespace Go.Proofs.YtpjikbfeegncbaaGreatDoor
open Go.RowKit Go.Shelf Go.Sort

theorem ownsRow_keeps' {w w' : World} {base b : Nat} {e : TypeId} {size : Nat} {v : Value} {n : Nat} {xs : List Value} (h : w.ownsRow base e size v n xs) (hk : Keeps (fun c => c = b) w w') (hb : b < base) : w'.ownsRow base e size v n xs :=
  World.ownsRow.kept (row := some b) h ⟨hk.os, hk.tape, hk.output, hk.size, fun k hz hne => hk.block k hz (fun e => hne (by rw [e]))⟩ (by
    cases ho : v.ownBlock with
    | none => simp
    | some g => have := (World.ownsRow.lt h g ho).1; simp; omega)
theorem oneB_one (c : UInt8) (r : List UInt8) : oneB [c] r = decide (r.head? = some c) := by
  unfold oneB
  cases h : r.head? with
  | none => rfl
  | some x =>
    rw [Bool.eq_iff_iff, decide_eq_true_eq]
    simp
theorem oneB_two (c d : UInt8) (r : List UInt8) : oneB [c, d] r = decide (r.head? = some c ∨ r.head? = some d) := by
  unfold oneB
  cases h : r.head? with
  | none => simp
  | some x =>
    rw [Bool.eq_iff_iff, decide_eq_true_eq]
    simp
/-- what scan has read -/
structure Scn (W : World) (B : Nat) (w : World) (l : List UInt8) (k : Nat) (neg : Bool) (dv : Value) (Ds : List UInt8) (ex : Int) : Prop where
  at_ : At W (B + 3) B k l
  num : Row W (B + 2) 104 #[.bool neg, dv, .int .i64 ex]
  res : Row W (B + 1) 104 #[.bool false, .slice none 0 0, .int .i64 0]
  own : W.ownsRow (B + 4) 5 1 dv Ds.length (byC Ds)
  bel : Below B w W
  big : B + 4 ≤ W.heap.size
theorem Scn.below {W W' : World} {B : Nat} {w : World} {l : List UInt8} {k : Nat} {neg : Bool} {dv : Value} {Ds : List UInt8} {ex : Int} (h : Scn W B w l k neg dv Ds ex) (hb : Below W.heap.size W W') : Scn W' B w l k neg dv Ds ex :=
  ⟨⟨h.at_.pos.below hb h.at_.pos.lt, h.at_.txt.below hb h.at_.txt.lt⟩, h.num.below hb h.num.lt, h.res.below hb h.res.lt, ownsRow_below h.own hb, h.bel.trans (hb.mono (Nat.le_trans (by omega) h.big)), Nat.le_trans h.big hb.size⟩
theorem Scn.turn {W W' : World} {B : Nat} {w : World} {l : List UInt8} {k k' : Nat} {neg : Bool} {dv : Value} {Ds : List UInt8} {ex : Int} (h : Scn W B w l k neg dv Ds ex) (ha : At W' (B + 3) B k' l) (hk : Keeps (fun c => c = B + 3) W W') : Scn W' B w l k' neg dv Ds ex :=
  ⟨ha, h.num.keep hk (by omega), h.res.keep hk (by omega), ownsRow_keeps' h.own hk (by omega), h.bel.trans (hk.below (by rintro c rfl; omega) (Nat.le_trans (by omega) h.big)), Nat.le_trans h.big hk.size⟩
/-- the number has turned -/
theorem Scn.neg_ {W : World} {B : Nat} {w : World} {l : List UInt8} {k : Nat} {neg : Bool} {dv : Value} {Ds : List UInt8} {ex : Int} (h : Scn W B w l k neg dv Ds ex) (neg' : Bool) : Scn (W.setCell ⟨B + 2, 0, none⟩ (.bool neg')) B w l k neg' dv Ds ex :=
  ⟨⟨h.at_.pos.off (by omega) _ _, h.at_.txt.off (by omega) _ _⟩, h.num.set_ 0 _, h.res.off (by omega) _ _, ownsRow_keeps' h.own ((Keeps.refl (fun c => c = B + 2) W).set (.inl rfl) 0 _) (by omega), h.bel.setCell (p := ⟨B + 2, 0, none⟩) (show B ≤ B + 2 by omega) _, by simpa [World.setCell] using h.big⟩
theorem Scn.exp_ {W : World} {B : Nat} {w : World} {l : List UInt8} {k : Nat} {neg : Bool} {dv : Value} {Ds : List UInt8} {ex : Int} (h : Scn W B w l k neg dv Ds ex) (ex' : Int) : Scn (W.setCell ⟨B + 2, 2, none⟩ (.int .i64 ex')) B w l k neg dv Ds ex' :=
  ⟨⟨h.at_.pos.off (by omega) _ _, h.at_.txt.off (by omega) _ _⟩, h.num.set_ 2 _, h.res.off (by omega) _ _, ownsRow_keeps' h.own ((Keeps.refl (fun c => c = B + 2) W).set (.inl rfl) 2 _) (by omega), h.bel.setCell (p := ⟨B + 2, 2, none⟩) (show B ≤ B + 2 by omega) _, by simpa [World.setCell] using h.big⟩
theorem Scn.grow {W W' : World} {B : Nat} {w : World} {l : List UInt8} {k : Nat} {neg : Bool} {dv dv' : Value} {Ds Ds' : List UInt8} {ex : Int} (h : Scn W B w l k neg dv Ds ex) (hown : W'.ownsRow (B + 4) 5 1 dv' Ds'.length (byC Ds')) (hg : W.grownBy W' dv.ownBlock) : Scn (W'.setCell ⟨B + 2, 1, none⟩ dv') B w l k neg dv' Ds' ex := by
  have hne : ∀ g, dv.ownBlock = some g → B + 4 ≤ g := fun g hg => (World.ownsRow.lt h.own g hg).1
  have f : ∀ b, b < B + 4 → some b ≠ dv.ownBlock := fun b hb e => by have := hne b e.symm; omega
  refine ⟨⟨(h.at_.pos.grown hg (f _ (by omega))).off (by omega) _ _, (h.at_.txt.grown hg (f _ (by omega))).off (by omega) _ _⟩, (h.num.grown hg (f _ (by omega))).set_ 1 _, (h.res.grown hg (f _ (by omega))).off (by omega) _ _, ownsRow_keeps' hown ((Keeps.refl (fun c => c = B + 2) W').set (.inl rfl) 1 _) (by omega), (h.bel.grown hg (Nat.le_trans (by omega) h.big) (fun j hj => Nat.le_trans (by omega) (hne j hj))).setCell (p := ⟨B + 2, 1, none⟩) (show B ≤ B + 2 by omega) _, ?_⟩
  have := Nat.le_trans h.big hg.size
  simpa [World.setCell] using this
theorem Scn.grown_num {W W' : World} {B : Nat} {w : World} {l : List UInt8} {k : Nat} {neg : Bool} {dv : Value} {Ds : List UInt8} {ex : Int} (h : Scn W B w l k neg dv Ds ex) (hg : W.grownBy W' dv.ownBlock) : Row W' (B + 2) 104 #[.bool neg, dv, .int .i64 ex] :=
  h.num.grown hg (fun e => by have := (World.ownsRow.lt h.own (B + 2) e.symm).1; omega)
/-- the number is laid where the result lies -/
theorem Scn.fail {W : World} {B : Nat} {w : World} {l : List UInt8} {k : Nat} {neg : Bool} {dv : Value} {Ds : List UInt8} {ex : Int} (h : Scn W B w l k neg dv Ds ex) :
    Row (((W.setCell ⟨B + 1, 0, none⟩ (.bool neg)).setCell ⟨B + 1, 1, none⟩ dv).setCell ⟨B + 1, 2, none⟩ (.int .i64 ex)) (B + 1) 104 #[.bool neg, dv, .int .i64 ex] ∧
    Below B w (((W.setCell ⟨B + 1, 0, none⟩ (.bool neg)).setCell ⟨B + 1, 1, none⟩ dv).setCell ⟨B + 1, 2, none⟩ (.int .i64 ex)) :=
  ⟨((h.res.set_ 0 (.bool neg)).set_ 1 dv).set_ 2 (.int .i64 ex), ((h.bel.setCell (p := ⟨B + 1, 0, none⟩) (Nat.le_succ _) _).setCell (p := ⟨B + 1, 1, none⟩) (Nat.le_succ _) _).setCell (p := ⟨B + 1, 2, none⟩) (Nat.le_succ _) _⟩
theorem Scn.form {W : World} {B : Nat} {w : World} {l : List UInt8} {k : Nat} {neg : Bool} {dv : Value} {Ds : List UInt8} {ex : Int} (h : Scn W B w l k neg dv Ds ex) : ∃ A cap, dv = .slice A Ds.length cap ∧ Sl by8 W A Ds ∧ Ds.length ≤ cap ∧ cap ≤ maxLen := by
  obtain ⟨A, cap, hv, hsl, _⟩ := Sl_own (f := by8) (xs := Ds) (n := Ds.length) (by exact h.own) rfl
  refine ⟨A, cap, hv, hsl, ?_, ?_⟩
  · rcases h.own.2 with ⟨h0, h1⟩ | ⟨g', cap', cur, hv', _, _, hle, _⟩
    · rw [hv] at h0; injection h0 with _ h2 h3; omega
    · rw [hv] at hv'; injection hv' with _ _ h3; omega
  · rcases h.own.2 with ⟨h0, h1⟩ | ⟨g', cap', cur, hv', _, _, hle, hm, _⟩
    · rw [hv] at h0; injection h0 with _ h2 h3; unfold maxLen; omega
    · rw [hv] at hv'; injection hv' with _ _ h3; omega
theorem Sl_off {W W' : World} {A : Option Addr} {l : List UInt8} {g : Nat} {t : TypeId} {cs : Array Value} (h : Sl by8 W A l) (hr : Row W g t cs) (hcs : ∀ (i : Nat) (c : UInt8), cs[i]? ≠ some (by8 c)) (hk : Keeps (fun c => c = g) W W') : Sl by8 W' A l := by
  intro hp
  obtain ⟨b, off, rfl, hat⟩ := h hp
  have hne : b ≠ g := fun e => by
    have := hat 0 hp
    rw [e, hr.cell] at this
    exact hcs _ _ this
  exact ⟨b, off, rfl, fun i hi => (hk.cell (p := ⟨b, off + i, none⟩) (World.block_lt_of_cell? W _ (hat i hi)) hne).trans (hat i hi)⟩
/-- what scan returns -/
def ScanPost (l : List UInt8) (B : Nat) (w : World) (e : Ending) (w' : World) : Prop :=
  Below B w w' ∧ ∃ neg A n cap ex ok, e = .returned (.tuple #[numV neg A n cap ex, .bool ok]) ∧ (scanV l = none → ok = false) ∧
    ∀ p, scanV l = some p → ok = true ∧ n = (stripV (p.2.1 ++ p.2.2.1)).length ∧ Sl by8 w' A (stripV (p.2.1 ++ p.2.2.1)) ∧ n ≤ cap ∧ cap ≤ maxLen ∧
      (stripV (p.2.1 ++ p.2.2.1) ≠ [] → neg = p.1 ∧ ex + n - 1 = (p.2.1.length : Int) - 1 - leadV (p.2.1 ++ p.2.2.1) + sgnV p.2.2.2.1 (esat 1048576 p.2.2.2.2)) ∧ (stripV (p.2.1 ++ p.2.2.1) = [] → ex = 0)
theorem infoU8' : (Tryz.prog.info? 5).map (fun i => (i.zero, i.size, i.bytes)) = some (some (.int .u8 0), 1, 1) := by kernel_rfl

theorem Scn.start (w : World) (l : List UInt8) : Scn ((((w.alloc (.cells #[.string (bsV l)] 9)).alloc (.cells #[.bool false, .slice none 0 0, .int .i64 0] 104)).alloc (.cells #[.bool false, .slice none 0 0, .int .i64 0] 104)).alloc (.cells #[.int .i64 0] 3)) w.heap.size w l 0 false (.slice none 0 0) [] 0 := by
  have r1 := Row.new w 9 #[.string (bsV l)]
  have r2 := Row.new (w.alloc (.cells #[.string (bsV l)] 9)) 104 #[.bool false, .slice none 0 0, .int .i64 0]
  have r3 := Row.new ((w.alloc (.cells #[.string (bsV l)] 9)).alloc (.cells #[.bool false, .slice none 0 0, .int .i64 0] 104)) 104 #[.bool false, .slice none 0 0, .int .i64 0]
  have r4 := Row.new (((w.alloc (.cells #[.string (bsV l)] 9)).alloc (.cells #[.bool false, .slice none 0 0, .int .i64 0] 104)).alloc (.cells #[.bool false, .slice none 0 0, .int .i64 0] 104)) 3 #[.int .i64 0]
  simp only [World.size_alloc] at r2 r3 r4
  exact ⟨⟨r4, ((r1.alloc _).alloc _).alloc _⟩, r3.alloc _, (r2.alloc _).alloc _, World.ownsRow_nil _ _ _ _,
    ((((Below.refl _ _).alloc (Nat.le_refl _) _).alloc (by simp only [World.size_alloc]; omega) _).alloc (by simp only [World.size_alloc]; omega) _).alloc (by simp only [World.size_alloc]; omega) _, by simp only [World.size_alloc]; omega⟩
theorem signV_pos (l : List UInt8) : (signV l).2 = l.drop (if l.head? = some 45 ∨ l.head? = some 43 then 1 else 0) ∧ (signV l).1 = decide (l.head? = some 45) := by
  unfold signV
  by_cases h1 : l.head? = some 45
  · rw [if_pos h1, if_pos (.inl h1), decide_eq_true h1]; exact ⟨by simp, rfl⟩
  · rw [if_neg h1, decide_eq_false h1]
    by_cases h2 : l.head? = some 43
    · rw [if_pos h2, if_pos (.inr h2)]; exact ⟨by simp, rfl⟩
    · rw [if_neg h2, if_neg (by rintro (h | h); exact h1 h; exact h2 h)]; exact ⟨rfl, rfl⟩
theorem toList_pos' {s : ByteArray} (h : 0 < s.size) : ¬ s.toList = [] ∧ s.toList.isEmpty = false := by
  cases hl : s.toList with
  | nil => rw [Lib.toList_data] at hl; rw [Lib.size_eq, hl] at h; simp at h
  | cons a t => simp
theorem head_len {l : List UInt8} {c : UInt8} (h : l.head? = some c) : 1 ≤ l.length := by
  cases l with
  | nil => cases h
  | cons a t => simp

set_option maxRecDepth 20000 in
set_option maxHeartbeats 16000000 in
theorem scan_any (l : List UInt8) (w : World) (hz : l.length ≤ 1000000) :
    Calls Tryz.prog 113 #[.string (bsV l)] w (ScanPost l w.heap.size w) := by
  have hlz := bs_size l
  by_cases h64 : 64 < l.length
  · have hI : (64 : Int) < ((bsV l).size : Int) := by omega
    have hN : scanV l = none := by unfold scanV; rw [if_pos (.inl h64)]
    have hrow : Row (((w.alloc (.cells #[.string (bsV l)] 9)).alloc (.cells #[.bool false, .slice none 0 0, .int .i64 0] 104)).alloc (.cells #[.bool false, .slice none 0 0, .int .i64 0] 104)) (w.heap.size + 1) 104 #[.bool false, .slice none 0 0, .int .i64 0] := by
      have := (Row.new (w.alloc (.cells #[.string (bsV l)] 9)) 104 #[.bool false, .slice none 0 0, .int .i64 0]).alloc (.cells #[.bool false, .slice none 0 0, .int .i64 0] 104)
      simp only [World.size_alloc] at this
      exact this
    have Hrow := hide hrow
    clear hlz hrow
    generalize bsV l = lb at *
    go_enter Tryz.func113, Tryz.ntmps113
    go_wp2
    exact bodyPost_ret (v := .tuple #[.agg #[.bool false, .slice none 0 0, .int .i64 0], .bool false]) (results_row_tmp rfl _ _ (w.heap.size + 1) 104 _ _ _ (.bool false) rfl rfl Hrow.out Tryz.underlying104 rfl (by kernel_rfl)) rfl
      ⟨(((Below.refl _ _).alloc (Nat.le_refl _) _).alloc (by simp only [World.size_alloc]; omega) _).alloc (by simp only [World.size_alloc]; omega) _, false, none, 0, 0, 0, false, rfl, fun _ => rfl, fun p hp => by rw [hN] at hp; cases hp⟩
  · have hI : ((bsV l).size : Int) ≤ 64 := by omega
    have O1 := hide (fun (set : List UInt8) (k : Nat) (W : World) (h8 : set.length ≤ 8) (hk : k ≤ l.length) (h : At W (w.heap.size + 3) w.heap.size k l) => one_any set l (w.heap.size + 3) w.heap.size k W (by omega) h8 hz hk h)
    have DG := hide (fun (k : Nat) (W : World) (hk : k ≤ l.length) (h : At W (w.heap.size + 3) w.heap.size k l) => digits_any l (w.heap.size + 3) w.heap.size k W (by omega) hz hk h)
    obtain ⟨sp1, sp2⟩ := signV_pos l
    have S0 := hide (Scn.start w l)
    go_enter Tryz.func113, Tryz.ntmps113
    go_wp2_with fail
    refine (O1.out [45] 0 _ (by decide) (Nat.zero_le _) S0.out.at_).mono ?_
    rintro e w2 ⟨rfl, hat, hkp⟩
    rw [oneB_one, List.drop_zero] at hat
    rw [oneB_one, List.drop_zero]
    have S2 := hide (S0.out.turn hat hkp)
    clear hat hkp S0
    go_upto_if 22 with fail
    go_cut [25] (fun v wx => ∃ k1, k1 ≤ l.length ∧ (signV l).2 = l.drop k1 ∧ Scn wx w.heap.size w l k1 (signV l).1 (.slice none 0 0) [] 0)
    case first =>
      by_cases h45 : l.head? = some 45
      · rw [decide_eq_true h45] at S2 ⊢
        rw [if_pos (.inl h45)] at sp1
        rw [decide_eq_true h45] at sp2
        have hl1 := head_len h45
        have hc : w2.cell? ⟨w.heap.size + 2, 0, none⟩ = some (.bool false) := S2.out.num.cell 0
        have hf : w2.frozen? ⟨w.heap.size + 2, 0, none⟩ = false := S2.out.num.frozen 0
        clear h45
        go_wp2_with fail
        go_meet
        rw [sp2]
        exact ⟨1, hl1, sp1, S2.out.neg_ true⟩
      · rw [decide_eq_false h45] at S2 ⊢
        rw [decide_eq_false h45] at sp2
        go_wp2_with fail
        refine (O1.out [43] 0 _ (by decide) (Nat.zero_le _) S2.out.at_).mono ?_
        rintro e w3 ⟨rfl, hat, hkp⟩
        rw [oneB_one, List.drop_zero] at hat
        have S3 := hide (S2.out.turn hat hkp)
        clear hat hkp S2
        go_wp2_with fail
        go_meet
        rw [sp2]
        by_cases h43 : l.head? = some 43
        · rw [decide_eq_true h43] at S3
          rw [if_pos (.inr h43)] at sp1
          exact ⟨1, head_len h43, sp1, S3.out⟩
        · rw [decide_eq_false h43] at S3
          rw [if_neg (by rintro (h | h); exact h45 h; exact h43 h)] at sp1
          exact ⟨0, Nat.zero_le _, sp1, S3.out⟩
    case rest =>
    obtain ⟨k1, hk1, hsg, hS⟩ := hcut
    have S1 := hide hS
    clear hS sp1 sp2
    obtain ⟨iu, hiu, hu0, hu1, hu2⟩ := info_parts infoU8'
    have HI1 := hide hiu
    have HI2 := hide hu0
    have HI3 := hide hu1
    have HI4 := hide hu2
    clear hiu hu0 hu1 hu2
    obtain ⟨neg, hneg⟩ : ∃ neg, (signV l).1 = neg := ⟨_, rfl⟩
    rw [hneg] at S1
    obtain ⟨r, hr⟩ : ∃ r, l.drop k1 = r := ⟨_, rfl⟩
    have hrl : r.length = l.length - k1 := by rw [← hr, List.length_drop]
    rw [hr] at hsg
    have hscan : scanV l = if nd r = 0 then none else (fracV (r.drop (nd r))).bind fun f => (expV f.2).bind fun x => if x.2.2 = [] then some (neg, r.take (nd r), f.1, x.1, x.2.1) else none := by
      unfold scanV
      rw [hsg, hneg]
      by_cases h0 : nd r = 0
      · rw [if_pos (.inr h0), if_pos h0]
      · rw [if_neg (by omega), if_neg h0]
    have HScan := hide hscan
    clear hscan hneg hsg
    go_wp2_with fail
    refine (DG.out k1 _ hk1 S1.out.at_).mono ?_
    rintro e w4 ⟨rfl, hat, hkp⟩
    rw [hr] at hat
    rw [hr]
    have S3 := hide (S1.out.turn hat hkp)
    clear hat hkp S1
    have hnl := nd_le r
    obtain ⟨N, hN⟩ : ∃ N, nd r = N := ⟨_, rfl⟩
    rw [hN] at S3 HScan hnl ⊢
    obtain ⟨Wd, hWd⟩ : ∃ Wd, r.take N = Wd := ⟨_, rfl⟩
    have hWl : Wd.length = N := by rw [← hWd, List.length_take]; omega
    have hWs := bs_size Wd
    rw [hWd] at HScan ⊢
    have hk2 : k1 + N ≤ l.length := by omega
    have hr2 : r.drop N = l.drop (k1 + N) := by rw [← hr, List.drop_drop]
    rw [hr2] at HScan
    obtain ⟨k2, hk2e⟩ : ∃ k2, k1 + N = k2 := ⟨_, rfl⟩
    rw [hk2e] at S3 HScan hk2
    clear hr2 hWd hN hr hrl hnl
    by_cases h0 : N = 0
    · have hW0 : Wd = [] := List.eq_nil_of_length_eq_zero (by omega)
      subst hW0
      have hbe : bsV [] = ⟨#[]⟩ := rfl
      rw [hbe]
      have fl := S3.out.fail
      have HF := hide fl
      have q0 := S3.out.num.cell 0
      have q1 := S3.out.num.cell 1
      have q2 := S3.out.num.cell 2
      have g0 := S3.out.res.cell 0
      have g1 := S3.out.res.cell 1
      have g2 := S3.out.res.cell 2
      have f0 := S3.out.res.frozen 0
      have f1 := S3.out.res.frozen 1
      have f2 := S3.out.res.frozen 2
      have hN := hide (show scanV l = none from by rw [HScan.out, if_pos h0])
      clear fl
      go_wp2
      exact bodyPost_ret (v := .tuple #[.agg #[_, _, _], .bool false]) (results_row_tmp rfl _ _ (w.heap.size + 1) 104 _ _ _ (.bool false) rfl rfl HF.out.1 Tryz.underlying104 rfl (by kernel_rfl)) rfl
        ⟨HF.out.2, _, none, _, 0, _, false, rfl, fun _ => rfl, fun p hp => by rw [hN.out] at hp; cases hp⟩
    · have hscan := HScan.out
      rw [if_neg h0] at hscan
      have HScan2 := hide hscan
      have hpos : 0 < (bsV Wd).size := by omega
      obtain ⟨hWn, hWe⟩ := toList_pos' hpos
      have hWe' : (!(bsV Wd).toList.isEmpty) = true := by rw [hWe]; rfl
      have q1 := S3.out.num.cell 1
      have f1 := S3.out.num.frozen 1
      clear hscan HScan
      go_upto_region 14 with (at_builtin; refine Lib.wpList_append_own_string _ rfl _ _ 60 9 rfl (w.heap.size + 4) 5 iu Tryz.underlying60 Tryz.underlying9 HI1.out HI2.out HI3.out HI4.out (.slice none 0 0) 0 [] rfl S3.out.own (bsV Wd) rfl (by unfold maxLen; omega) (by omega) (Nat.le_trans (by omega) S3.out.big) ?_; intro v4 w5 hown4 hgrow4 _; obtain ⟨g4, cap4, rfl, _⟩ := World.ownsRow.form hown4 (by omega); have qg1 := (S3.out.grown_num hgrow4).cell 1; have fg1 := (S3.out.grown_num hgrow4).frozen 1)
      have S4 := hide (show Scn (w5.setCell ⟨w.heap.size + 2, 1, none⟩ (.slice (some ⟨g4, 0, none⟩) (0 + (bsV Wd).size) cap4)) w.heap.size w l k2 neg (.slice (some ⟨g4, 0, none⟩) (0 + (bsV Wd).size) cap4) (Wd) 0 from S3.out.grow (by
        have e1 : 0 + (bsV Wd).size = (Wd).length := by rw [bs_size]; simp
        have e2 : [] ++ Lib.strCells (bsV Wd) = byC (Wd) := by first | rfl | (rw [byC_append]; rfl)
        rw [← e1, ← e2]; exact hown4) hgrow4)
      clear hown4 hgrow4 qg1 fg1
      clear q1 f1
      rw [show 0 + (bsV Wd).size = N by omega] at S4
      go_wp2_with fail
      refine (O1.out [46] k2 _ (by decide) hk2 S4.out.at_).mono ?_
      rintro e w6 ⟨rfl, hat, hkp⟩
      rw [oneB_one] at hat
      rw [oneB_one]
      obtain ⟨b46, hb46⟩ : ∃ b, decide ((l.drop k2).head? = some 46) = b := ⟨_, rfl⟩
      rw [hb46] at hat
      rw [hb46]
      have H46 := hide hb46
      have S5 := hide (S4.out.turn hat hkp)
      clear hat hkp S4 S3 S2 hb46
      go_upto_if 37 with fail
      go_cut [9] (fun v wx => ∃ k3 F dv, fracV (l.drop k2) = some (F, l.drop k3) ∧ k3 ≤ l.length ∧ F.length ≤ l.length ∧ Scn wx w.heap.size w l k3 neg dv (Wd ++ F) (-(F.length : Int)))
      case first =>
        cases b46 with
        | true =>
          have h46 := of_decide_eq_true H46.out
          have hk2' : k2 + 1 ≤ l.length := by have := head_len h46; rw [List.length_drop] at this; omega
          have S5' := hide (show Scn w6 w.heap.size w l (k2 + 1) neg (.slice (some ⟨g4, 0, none⟩) N cap4) Wd 0 from S5.out)
          obtain ⟨r2, hr2⟩ : ∃ r2, l.drop (k2 + 1) = r2 := ⟨_, rfl⟩
          have htl : (l.drop k2).tail = r2 := by rw [← hr2, List.tail_drop]
          clear H46
          have hfr : fracV (l.drop k2) = if nd r2 = 0 then none else some (r2.take (nd r2), r2.drop (nd r2)) := by
            unfold fracV; rw [if_pos h46, htl]
          have HFr := hide hfr
          have hrl : r2.length = l.length - (k2 + 1) := by rw [← hr2, List.length_drop]
          clear hfr htl h46 S5
          go_wp2_with fail
          refine (DG.out (k2 + 1) _ hk2' S5'.out.at_).mono ?_
          rintro e w7 ⟨rfl, hat, hkp⟩
          rw [hr2] at hat
          rw [hr2]
          have S6 := hide (S5'.out.turn hat hkp)
          clear hat hkp S5'
          have hnl := nd_le r2
          obtain ⟨N2, hN2⟩ : ∃ N2, nd r2 = N2 := ⟨_, rfl⟩
          rw [hN2] at S6 HFr hnl ⊢
          obtain ⟨F, hF⟩ : ∃ F, r2.take N2 = F := ⟨_, rfl⟩
          have hFl : F.length = N2 := by rw [← hF, List.length_take]; omega
          have hFs := bs_size F
          rw [hF] at HFr ⊢
          have hr3 : r2.drop N2 = l.drop (k2 + 1 + N2) := by rw [← hr2, List.drop_drop]
          rw [hr3] at HFr
          obtain ⟨k3, hk3e⟩ : ∃ k3, k2 + 1 + N2 = k3 := ⟨_, rfl⟩
          have hk3 : k3 ≤ l.length := by omega
          rw [hk3e] at S6 HFr
          clear hr3 hF hN2 hr2 hrl hnl hWn hWe hWe'
          by_cases h0' : N2 = 0
          · have hF0 : F = [] := List.eq_nil_of_length_eq_zero (by omega)
            subst hF0
            have hbe : bsV [] = ⟨#[]⟩ := rfl
            rw [hbe]
            have fl := S6.out.fail
            have HF := hide fl
            have q0 := S6.out.num.cell 0
            have q1 := S6.out.num.cell 1
            have q2 := S6.out.num.cell 2
            have g0 := S6.out.res.cell 0
            have g1 := S6.out.res.cell 1
            have g2 := S6.out.res.cell 2
            have f0 := S6.out.res.frozen 0
            have f1 := S6.out.res.frozen 1
            have f2 := S6.out.res.frozen 2
            have hN := hide (show scanV l = none from by rw [HScan2.out, HFr.out, if_pos h0']; rfl)
            clear fl
            go_wp2
            exact bodyPost_ret (v := .tuple #[.agg #[_, _, _], .bool false]) (results_row_tmp rfl _ _ (w.heap.size + 1) 104 _ _ _ (.bool false) rfl rfl HF.out.1 Tryz.underlying104 rfl (by kernel_rfl)) rfl
              ⟨HF.out.2, _, some ⟨g4, 0, none⟩, N, cap4, _, false, rfl, fun _ => rfl, fun p hp => by rw [hN.out] at hp; cases hp⟩
          · have hfr := HFr.out
            rw [if_neg h0'] at hfr
            have HFr2 := hide hfr
            have hposF : 0 < (bsV F).size := by omega
            obtain ⟨hWn, hWe⟩ := toList_pos' hposF
            have hWe' : (!(bsV F).toList.isEmpty) = true := by rw [hWe]; rfl
            have q1 := S6.out.num.cell 1
            have f1 := S6.out.num.frozen 1
            have hWN : N + (bsV F).size = (Wd ++ F).length := by rw [List.length_append]; omega
            have eown := fun (W : World) (v : Value) (h : W.ownsRow (w.heap.size + 4) 5 1 v (N + (bsV F).size) (byC Wd ++ Lib.strCells (bsV F))) => (show W.ownsRow (w.heap.size + 4) 5 1 v (Wd ++ F).length (byC (Wd ++ F)) from by rw [byC_append, ← hWN]; exact h)
            have HOwn := hide eown
            have oS6 : w7.ownsRow (w.heap.size + 4) 5 1 (.slice (some ⟨g4, 0, none⟩) N cap4) N (byC Wd) := by have := S6.out.own; rw [hWl] at this; exact this
            have OS6 := hide oS6
            clear hfr HFr eown oS6
            go_upto_region 19 with (at_builtin; refine Lib.wpList_append_own_string _ rfl _ _ 60 9 rfl (w.heap.size + 4) 5 iu Tryz.underlying60 Tryz.underlying9 HI1.out HI2.out HI3.out HI4.out (.slice (some ⟨g4, 0, none⟩) N cap4) N (byC Wd) rfl OS6.out (bsV F) rfl (by unfold maxLen; omega) (by omega) (Nat.le_trans (by omega) S6.out.big) ?_; intro v8 w8 hown8 hgrow8 _; obtain ⟨g8, cap8, rfl, _⟩ := World.ownsRow.form hown8 (by omega); have qg1 := (S6.out.grown_num hgrow8).cell 1; have fg1 := (S6.out.grown_num hgrow8).frozen 1)
            have S7 := hide (show Scn (w8.setCell ⟨w.heap.size + 2, 1, none⟩ (.slice (some ⟨g8, 0, none⟩) (N + (bsV F).size) cap8)) w.heap.size w l k3 neg (.slice (some ⟨g8, 0, none⟩) (N + (bsV F).size) cap8) (Wd ++ F) 0 from S6.out.grow (HOwn.out _ _ hown8) hgrow8)
            rw [show (bsV F).size = N2 by omega] at S7
            have qe := S7.out.num.cell 2
            have fe := S7.out.num.frozen 2
            have S8 := hide (S7.out.exp_ (-(F.length : Int)))
            have qg2 := (S6.out.grown_num hgrow8).cell 2
            have fg2 := (S6.out.grown_num hgrow8).frozen 2
            have hFle : F.length ≤ l.length := by omega
            have hFb : (F.length : Int) ≤ 1000000 := by omega
            have hbF : ((bsV F).size : Int) = (F.length : Int) := by rw [hFs]
            clear hown8 hgrow8 q1 f1 qe fe hFl hFs
            go_wp2_with fail
            go_meet
            exact ⟨k3, F, _, HFr2.out, hk3, hFle, S8.out⟩
        | false =>
          have h46 := of_decide_eq_false H46.out
          have hfr : fracV (l.drop k2) = some ([], l.drop k2) := by unfold fracV; rw [if_neg h46]
          have HFr := hide hfr
          clear h46 H46 hfr
          go_wp2_with fail
          go_meet
          exact ⟨k2, [], _, HFr.out, hk2, Nat.zero_le _, by have := S5.out; rw [List.append_nil]; exact this⟩
      case rest =>
      obtain ⟨k3, F, dv, hfr, hk3, hFl, hS⟩ := hcut
      have S6 := hide hS
      have hsc := HScan2.out
      rw [hfr] at hsc
      have HScan3 := hide (show scanV l = (expV (l.drop k3)).bind fun x => if x.2.2 = [] then some (neg, Wd, F, x.1, x.2.1) else none from hsc)
      clear hS hfr hsc HScan2 S5 H46
      go_wp2_with fail
      refine (O1.out [101, 69] k3 _ (by decide) hk3 S6.out.at_).mono ?_
      rintro e w7 ⟨rfl, hat, hkp⟩
      rw [oneB_two] at hat
      rw [oneB_two]
      obtain ⟨bE, hbE⟩ : ∃ b, decide ((l.drop k3).head? = some 101 ∨ (l.drop k3).head? = some 69) = b := ⟨_, rfl⟩
      rw [hbE] at hat
      rw [hbE]
      have HE := hide hbE
      have S7 := hide (S6.out.turn hat hkp)
      clear hat hkp S6 hbE
      go_upto_if 53 with fail
      go_cut [12] (fun v wx => ∃ k4 down ds, expV (l.drop k3) = some (down, ds, l.drop k4) ∧ k4 ≤ l.length ∧ Scn wx w.heap.size w l k4 neg dv (Wd ++ F) (-(F.length : Int) + sgnV down (esat 1048576 ds)))
      case first =>
        cases bE with
        | true =>
          have hE := of_decide_eq_true HE.out
          have hk3' : k3 + 1 ≤ l.length := by
            have : 1 ≤ (l.drop k3).length := by rcases hE with h | h; exact head_len h; exact head_len h
            rw [List.length_drop] at this; omega
          have S7' := hide (show Scn w7 w.heap.size w l (k3 + 1) neg dv (Wd ++ F) (-(F.length : Int)) from S7.out)
          obtain ⟨r3, hr3⟩ : ∃ r3, l.drop (k3 + 1) = r3 := ⟨_, rfl⟩
          have htl : (l.drop k3).tail = r3 := by rw [← hr3, List.tail_drop]
          have hex : expV (l.drop k3) = if nd (signV r3).2 = 0 then none else some ((signV r3).1, (signV r3).2.take (nd (signV r3).2), (signV r3).2.drop (nd (signV r3).2)) := by
            unfold expV; rw [if_pos hE, htl]
          have HEx := hide hex
          obtain ⟨sp1, sp2⟩ := signV_pos r3
          clear hex htl hE HE S7
          go_wp2_with fail
          refine (O1.out [45] (k3 + 1) _ (by decide) hk3' S7'.out.at_).mono ?_
          rintro e w8 ⟨rfl, hat, hkp⟩
          rw [oneB_one, hr3, ← sp2] at hat
          rw [oneB_one, hr3, ← sp2]
          have S8 := hide (S7'.out.turn hat hkp)
          obtain ⟨down, hdn⟩ : ∃ down, (signV r3).1 = down := ⟨_, rfl⟩
          rw [hdn] at S8 HEx sp2
          rw [hdn]
          have Hsp2 := hide sp2
          have Hsp1 := hide sp1
          clear hat hkp S7' hdn sp1 sp2
          go_upto_if 57 with fail
          go_cut [59] (fun v wx => ∃ k5, (signV r3).2 = l.drop k5 ∧ k5 ≤ l.length ∧ Scn wx w.heap.size w l k5 neg dv (Wd ++ F) (-(F.length : Int)))
          case first =>
            cases down with
            | true =>
              have h45 := of_decide_eq_true Hsp2.out.symm
              have hk5 : k3 + 1 + 1 ≤ l.length := by have := head_len h45; rw [← hr3, List.length_drop] at this; omega
              have hs5 : (signV r3).2 = l.drop (k3 + 1 + 1) := by
                rw [Hsp1.out, if_pos (.inl h45), ← hr3, List.drop_drop]
              have Hs5 := hide hs5
              clear h45 hs5
              go_wp2_with fail
              go_meet
              exact ⟨k3 + 1 + 1, Hs5.out, hk5, S8.out⟩
            | false =>
              have h45 := of_decide_eq_false Hsp2.out.symm
              have H45 := hide h45
              have S8' := hide (show Scn w8 w.heap.size w l (k3 + 1) neg dv (Wd ++ F) (-(F.length : Int)) from S8.out)
              clear h45 S8
              go_wp2_with fail
              refine (O1.out [43] (k3 + 1) _ (by decide) hk3' S8'.out.at_).mono ?_
              rintro e w9 ⟨rfl, hat, hkp⟩
              rw [oneB_one, hr3] at hat
              rw [oneB_one, hr3]
              obtain ⟨b43, hb43⟩ : ∃ b, decide (r3.head? = some 43) = b := ⟨_, rfl⟩
              rw [hb43] at hat
              rw [hb43]
              have H43 := hide hb43
              have S9 := hide (S8'.out.turn hat hkp)
              clear hat hkp hb43 S8'
              go_wp2_with fail
              go_meet
              cases b43 with
              | true =>
                have h43 := of_decide_eq_true H43.out
                have hk5 : k3 + 1 + 1 ≤ l.length := by have := head_len h43; rw [← hr3, List.length_drop] at this; omega
                exact ⟨k3 + 1 + 1, by rw [Hsp1.out, if_pos (.inr h43), ← hr3, List.drop_drop], hk5, S9.out⟩
              | false =>
                have h43 := of_decide_eq_false H43.out
                exact ⟨k3 + 1, by rw [Hsp1.out, if_neg (by rintro (h | h); exact H45.out h; exact h43 h), List.drop_zero, hr3], hk3', S9.out⟩
          case rest =>
          obtain ⟨k5, hs5, hk5, hS⟩ := hcut
          have S9 := hide hS
          obtain ⟨r4, hr4⟩ : ∃ r4, l.drop k5 = r4 := ⟨_, rfl⟩
          have hex := HEx.out
          rw [hs5, hr4] at hex
          have HEx2 := hide hex
          have hrl4 : r4.length = l.length - k5 := by rw [← hr4, List.length_drop]
          clear hS S8 hex HEx Hsp1 Hsp2 hs5 hr3
          go_wp2_with fail
          refine (DG.out k5 _ hk5 S9.out.at_).mono ?_
          rintro e w10 ⟨rfl, hat, hkp⟩
          rw [hr4] at hat
          rw [hr4]
          have S10 := hide (S9.out.turn hat hkp)
          clear hat hkp S9
          have hnl4 := nd_le r4
          have hd4 := nd_in r4
          obtain ⟨N4, hN4⟩ : ∃ N4, nd r4 = N4 := ⟨_, rfl⟩
          rw [hN4] at S10 HEx2 hnl4 hd4 ⊢
          obtain ⟨ds, hds⟩ : ∃ ds, r4.take N4 = ds := ⟨_, rfl⟩
          have hdl : ds.length = N4 := by rw [← hds, List.length_take]; omega
          have hdd : ∀ c ∈ ds, isD c = true := fun c hc => by
            obtain ⟨j, hj, rfl⟩ := List.mem_iff_getElem.1 hc
            have hj2 : j < r4.length := by omega
            have e : ds[j] = r4[j] := by
              have : (r4.take N4)[j]'(by rw [hds]; exact hj) = r4[j] := List.getElem_take
              rw [← this]; congr 1; exact hds.symm
            rw [e]; exact hd4 j hj2 (by omega)
          have hdS := bs_size ds
          rw [hds] at HEx2 ⊢
          have hr5 : r4.drop N4 = l.drop (k5 + N4) := by rw [← hr4, List.drop_drop]
          rw [hr5] at HEx2
          obtain ⟨k4, hk4e⟩ : ∃ k4, k5 + N4 = k4 := ⟨_, rfl⟩
          have hk4 : k4 ≤ l.length := by omega
          rw [hk4e] at S10 HEx2
          have Hdd := hide hdd
          clear hr5 hds hN4 hr4 hrl4 hnl4 hd4 hdd
          by_cases h0' : N4 = 0
          · have hd0 : ds = [] := List.eq_nil_of_length_eq_zero (by omega)
            subst hd0
            have hbe : bsV [] = ⟨#[]⟩ := rfl
            rw [hbe]
            obtain ⟨Af, capf, hdv, _, _, _⟩ := S10.out.form
            obtain ⟨nf, hnf⟩ : ∃ nf, (Wd ++ F).length = nf := ⟨_, rfl⟩
            rw [hnf] at hdv
            subst hdv
            clear hnf
            have fl := S10.out.fail
            have HF := hide fl
            have q0 := S10.out.num.cell 0
            have q1 := S10.out.num.cell 1
            have q2 := S10.out.num.cell 2
            have g0 := S10.out.res.cell 0
            have g1 := S10.out.res.cell 1
            have g2 := S10.out.res.cell 2
            have f0 := S10.out.res.frozen 0
            have f1 := S10.out.res.frozen 1
            have f2 := S10.out.res.frozen 2
            have hN := hide (show scanV l = none from by rw [HScan3.out, HEx2.out, if_pos h0']; rfl)
            clear fl
            go_wp2
            exact bodyPost_ret (v := .tuple #[.agg #[_, _, _], .bool false]) (results_row_tmp rfl _ _ (w.heap.size + 1) 104 _ _ _ (.bool false) rfl rfl HF.out.1 Tryz.underlying104 rfl (by kernel_rfl)) rfl
              ⟨HF.out.2, _, Af, _, capf, _, false, rfl, fun _ => rfl, fun p hp => by rw [hN.out] at hp; cases hp⟩
          · have hex := HEx2.out
            rw [if_neg h0'] at hex
            have HEx3 := hide hex
            have hposD : 0 < (bsV ds).size := by omega
            obtain ⟨hWn', hWe''⟩ := toList_pos' hposD
            have hWe3 : (!(bsV ds).toList.isEmpty) = true := by rw [hWe'']; rfl
            clear hex HEx2
            have hcv := Lib.run_convert_string_bytes (P := Tryz.prog) w10 9 60 5 (bsV ds) Tryz.underlying9 Tryz.underlying60 Tryz.underlying5
            have hW0 : Below w10.heap.size w10 (Lib.bytesWorld w10 5 (bsV ds)) := ⟨rfl, rfl, rfl, by rw [Lib.bytesWorld_size]; omega, fun k hk => Lib.bytesWorld_at_old w10 _ _ k hk⟩
            have hWc : ∀ j, ∀ hj : j < ds.length, (Lib.bytesWorld w10 5 (bsV ds)).cell? ⟨w10.heap.size, j, none⟩ = some (.int .u8 ((ds[j]'hj).toNat : Int)) := fun j hj => by
              rw [Lib.bytesWorld_cell w10 _ (bsV ds) j (by omega), List.getD_eq_getElem?_getD, bsV_list, List.getElem?_eq_getElem hj]; rfl
            generalize Lib.bytesWorld w10 5 (bsV ds) = wB at hcv hW0 hWc
            have HWc := hide hWc
            have S11 := hide (S10.out.below hW0)
            clear hW0 hWc S10
            go_wp2
            clear hcv
            go_loop [12, 68] (fun v vi => ∃ i : Nat, vi = .int .i64 i ∧ i ≤ ds.length ∧ v = .int .i64 ((esat 1048576 (ds.take i) : Nat) : Int)) (fun _ vi => ds.length - (intOf vi).toNat)
            case atStart => exact ⟨0, rfl, Nat.zero_le _, rfl⟩
            case round =>
              obtain ⟨i, rfl, hi, rfl⟩ := hrel
              have hEle : esat 1048576 (ds.take i) ≤ 1048576 := by rw [esat_eq]; exact Nat.min_le_left _ _
              by_cases hlt : i < ds.length
              · have hcell := HWc.out i hlt
                have hdig := Hdd.out _ (List.getElem_mem hlt)
                have hes : esat 1048576 (ds.take (i + 1)) = min 1048576 (10 * esat 1048576 (ds.take i) + ((ds[i]'hlt).toNat - 48)) := by
                  rw [List.take_succ_eq_append_getElem hlt]
                  unfold esat
                  rw [List.foldl_append]; rfl
                obtain ⟨c, hc⟩ : ∃ c, ds[i]'hlt = c := ⟨_, rfl⟩
                rw [hc] at hcell hdig hes
                simp only [isD, decide_eq_true_eq] at hdig
                obtain ⟨E, hE⟩ : ∃ E, esat 1048576 (ds.take i) = E := ⟨_, rfl⟩
                rw [hE] at hes hEle ⊢
                have hu8 : IntKind.u8.wrap ((c.toNat : Int) - 48) = (c.toNat : Int) - 48 := IntWalk.u8_in _ (by omega)
                have hE10 : (E : Int) ≤ 1048576 := by omega
                have hc1 : (48 : Int) ≤ (c.toNat : Int) := by omega
                have hc2 : (c.toNat : Int) ≤ 57 := by omega
                have hmin : min (1048576 : Int) (10 * (E : Int) + ((c.toNat : Int) - 48)) = ((esat 1048576 (ds.take (i + 1)) : Nat) : Int) := by rw [hes]; omega
                have Hmin := hide hmin
                clear hc hes hdig hE hmin
                go_wp2
                go_round
                case rel => exact ⟨i + 1, by go_num, by omega, by rw [Hmin.out]⟩
                case measure => simp [intOf]; omega
              · obtain rfl : i = ds.length := by omega
                rw [List.take_length] at hEle ⊢
                obtain ⟨E, hE⟩ : ∃ E, esat 1048576 ds = E := ⟨_, rfl⟩
                rw [hE] at hEle ⊢
                have hEb : (E : Int) ≤ 1048576 := by omega
                have qe := S11.out.num.cell 2
                have fe := S11.out.num.frozen 2
                have hFb : (F.length : Int) ≤ 1000000 := by omega
                cases down with
                | true =>
                  have S12 := hide (S11.out.exp_ (-(F.length : Int) + -(E : Int)))
                  have HE2 := hide (show (-(F.length : Int) + -(E : Int)) = -(F.length : Int) + sgnV true (esat 1048576 ds) by rw [hE]; rfl)
                  clear hE
                  go_wp2_with fail
                  go_meet
                  exact ⟨k4, true, ds, HEx3.out, hk4, by rw [← HE2.out]; exact S12.out⟩
                | false =>
                  have S12 := hide (S11.out.exp_ (-(F.length : Int) + (E : Int)))
                  have HE2 := hide (show (-(F.length : Int) + (E : Int)) = -(F.length : Int) + sgnV false (esat 1048576 ds) by rw [hE]; rfl)
                  clear hE
                  go_wp2_with fail
                  go_meet
                  exact ⟨k4, false, ds, HEx3.out, hk4, by rw [← HE2.out]; exact S12.out⟩
        | false =>
          have hE := of_decide_eq_false HE.out
          have hex : expV (l.drop k3) = some (false, [], l.drop k3) := by unfold expV; rw [if_neg hE]
          have HEx := hide hex
          have hz0 : -(F.length : Int) + sgnV false (esat 1048576 []) = -(F.length : Int) := by
            have : sgnV false (esat 1048576 []) = 0 := rfl
            rw [this, Int.add_zero]
          have Hz0 := hide hz0
          clear hE HE hex hz0
          go_wp2_with fail
          go_meet
          exact ⟨k3, false, [], HEx.out, hk3, by rw [Hz0.out]; exact S7.out⟩
      case rest =>
      obtain ⟨k4, down, ds, hex, hk4, hS⟩ := hcut
      have hsc := HScan3.out
      rw [hex] at hsc
      have hsc2 : scanV l = if l.drop k4 = [] then some (neg, Wd, F, down, ds) else none := hsc
      have S8 := hide hS
      have hFb : (F.length : Int) ≤ 1000000 := by omega
      have hsat : esat 1048576 ds ≤ 1048576 := by rw [esat_eq]; exact Nat.min_le_left _ _
      obtain ⟨X, hX⟩ : ∃ X, -(F.length : Int) + sgnV down (esat 1048576 ds) = X := ⟨_, rfl⟩
      have hX1 : -1000000000 ≤ X := by rw [← hX]; unfold sgnV; split <;> omega
      have hX2 : X ≤ 1000000000 := by rw [← hX]; unfold sgnV; split <;> omega
      rw [hX] at S8
      obtain ⟨A, cap, hdv, hsl, hnc, hcm⟩ := S8.out.form
      obtain ⟨n, hn⟩ : ∃ n, (Wd ++ F).length = n := ⟨_, rfl⟩
      have hnz : n ≤ 1000000 := by rw [← hn, List.length_append]; omega
      rw [hn] at hdv hnc
      subst hdv
      have HSl := hide hsl
      have TR := hide (fun (W : World) (h : Sl by8 W A (Wd ++ F)) => trim_any neg A n cap (Wd ++ F) X W hn.symm (by omega) hnc hcm hX1 hX2 h)
      have q0 : wc.cell? ⟨w.heap.size + 2, 0, none⟩ = some (.bool neg) := S8.out.num.cell 0
      have q1 : wc.cell? ⟨w.heap.size + 2, 1, none⟩ = some (.slice A n cap) := S8.out.num.cell 1
      have q2 : wc.cell? ⟨w.heap.size + 2, 2, none⟩ = some (.int .i64 X) := S8.out.num.cell 2
      have q3 : wc.cell? ⟨w.heap.size + 3, 0, none⟩ = some (.int .i64 (k4 : Int)) := S8.out.at_.pos.cell 0
      have q4 : wc.cell? ⟨w.heap.size, 0, none⟩ = some (.string (bsV l)) := S8.out.at_.txt.cell 0
      have Hn := hide hn
      have HX := hide hX
      have HSc := hide hsc2
      have hbig := S8.out.big
      unfold numV at TR
      clear hS hex hsc hsc2 HScan3 S7 HE hn hX hsl
      go_upto_region 36 with fail
      go_region_held3 (fun w' => w'.cell? ⟨w.heap.size + 2, 0, none⟩ = some (.bool neg) ∧ w'.cell? ⟨w.heap.size + 2, 1, none⟩ = some (.slice A n cap) ∧ w'.cell? ⟨w.heap.size + 2, 2, none⟩ = some (.int .i64 X) ∧ w'.cell? ⟨w.heap.size + 3, 0, none⟩ = some (.int .i64 (k4 : Int)) ∧ w'.cell? ⟨w.heap.size, 0, none⟩ = some (.string (bsV l)))
        (first | exact ⟨y0, y1, y2, y3, y4⟩ | go_keep)
        ((go_at_call 131; refine (TR.out _ (HSl.out.below (Below.refl _ _).drew)).mono ?_; rintro e wT ⟨A2, cap2, neg2, ex2, rfl, hs2, hc2, hm2, hb2, ht2, ht3⟩; have y0 := (hb2.cell (p := ⟨w.heap.size + 2, 0, none⟩) (show w.heap.size + 2 < wc.heap.size by omega)).trans q0; have y1 := (hb2.cell (p := ⟨w.heap.size + 2, 1, none⟩) (show w.heap.size + 2 < wc.heap.size by omega)).trans q1; have y2 := (hb2.cell (p := ⟨w.heap.size + 2, 2, none⟩) (show w.heap.size + 2 < wc.heap.size by omega)).trans q2; have y3 := (hb2.cell (p := ⟨w.heap.size + 3, 0, none⟩) (show w.heap.size + 3 < wc.heap.size by omega)).trans q3; have y4 := (hb2.cell (p := ⟨w.heap.size, 0, none⟩) (show w.heap.size < wc.heap.size by omega)).trans q4; have yr : Row wT (w.heap.size + 1) 104 #[.bool false, .slice none 0 0, .int .i64 0] := S8.out.res.drew.below hb2 (show w.heap.size + 1 < wc.heap.size by omega); have z0 : wT.cell? ⟨w.heap.size + 1, 0, none⟩ = some (.bool false) := yr.cell 0; have z1 : wT.cell? ⟨w.heap.size + 1, 1, none⟩ = some (.slice none 0 0) := yr.cell 1; have z2 : wT.cell? ⟨w.heap.size + 1, 2, none⟩ = some (.int .i64 0) := yr.cell 2; have f0 : wT.frozen? ⟨w.heap.size + 1, 0, none⟩ = false := yr.frozen 0; have f1 : wT.frozen? ⟨w.heap.size + 1, 1, none⟩ = false := yr.frozen 1; have f2 : wT.frozen? ⟨w.heap.size + 1, 2, none⟩ = false := yr.frozen 2))
      have hb3 : Below w.heap.size w wT := S8.out.bel.trans ((show Below wc.heap.size wc wT from ⟨hb2.os, hb2.tape, hb2.output, hb2.size, hb2.block⟩).mono (Nat.le_trans (by omega) hbig))
      have hkp : Keeps (fun c => c = w.heap.size + 1) wT (((wT.setCell ⟨w.heap.size + 1, 0, none⟩ (.bool neg2)).setCell ⟨w.heap.size + 1, 1, none⟩ (.slice A2 (stripV (Wd ++ F)).length cap2)).setCell ⟨w.heap.size + 1, 2, none⟩ (.int .i64 ex2)) := (((Keeps.refl (fun c => c = w.heap.size + 1) wT).set (.inl rfl) 0 _).set (.inl rfl) 1 _).set (.inl rfl) 2 _
      have hslF := Sl_off hs2 yr (by
        intro i c
        match i with
        | 0 => intro h; cases h
        | 1 => intro h; cases h
        | 2 => intro h; cases h
        | i + 3 => intro h; cases h) hkp
      have hrowF : Row (((wT.setCell ⟨w.heap.size + 1, 0, none⟩ (.bool neg2)).setCell ⟨w.heap.size + 1, 1, none⟩ (.slice A2 (stripV (Wd ++ F)).length cap2)).setCell ⟨w.heap.size + 1, 2, none⟩ (.int .i64 ex2)) (w.heap.size + 1) 104 #[.bool neg2, .slice A2 (stripV (Wd ++ F)).length cap2, .int .i64 ex2] := ((yr.set_ 0 (.bool neg2)).set_ 1 (.slice A2 (stripV (Wd ++ F)).length cap2)).set_ 2 (.int .i64 ex2)
      have hbF := ((hb3.setCell (p := ⟨w.heap.size + 1, 0, none⟩) (Nat.le_succ _) (.bool neg2)).setCell (p := ⟨w.heap.size + 1, 1, none⟩) (Nat.le_succ _) (.slice A2 (stripV (Wd ++ F)).length cap2)).setCell (p := ⟨w.heap.size + 1, 2, none⟩) (Nat.le_succ _) (.int .i64 ex2)
      have hfin : ScanPost l w.heap.size w (.returned (.tuple #[numV neg2 A2 (stripV (Wd ++ F)).length cap2 ex2, .bool ((k4 : Int) == (l.length : Int))])) (((wT.setCell ⟨w.heap.size + 1, 0, none⟩ (.bool neg2)).setCell ⟨w.heap.size + 1, 1, none⟩ (.slice A2 (stripV (Wd ++ F)).length cap2)).setCell ⟨w.heap.size + 1, 2, none⟩ (.int .i64 ex2)) := by
        refine ⟨hbF, neg2, A2, _, cap2, ex2, _, rfl, fun hnone => ?_, fun p hp => ?_⟩
        · rw [HSc.out] at hnone
          refine beq_eq_false_iff_ne.2 (fun e => ?_)
          have : l.drop k4 = [] := List.drop_eq_nil_of_le (by omega)
          rw [if_pos this] at hnone; cases hnone
        · rw [HSc.out] at hp
          split at hp
          · rename_i hd
            cases hp
            have hkl : k4 = l.length := by
              have := congrArg List.length hd
              rw [List.length_drop] at this
              simp at this; omega
            refine ⟨by rw [hkl]; simp, rfl, hslF, hc2, hm2, fun hne => ?_, fun h => (ht3 h).2⟩
            obtain ⟨e1, e2⟩ := ht2 hne
            refine ⟨e1, ?_⟩
            have hlen : ((Wd ++ F).dropWhile (· == 48)).length + leadV (Wd ++ F) = (Wd ++ F).length := by
              unfold leadV
              have := congrArg List.length (List.takeWhile_append_dropWhile (p := (· == (48 : UInt8))) (l := Wd ++ F))
              rw [List.length_append] at this; omega
            rw [List.length_append] at hlen
            have hXo := HX.out
            rw [e2]
            simp only
            omega
          · cases hp
      have HFin := hide hfin
      have HRowF := hide hrowF
      clear hfin hrowF hbF hslF hkp hb3 ht2 ht3 hs2 hc2 hm2 hb2 y0 y1 y2 y3 y4 yr z0 z1 z2 f0 f1 f2 HSl TR q0 q1 q2 q3 q4 HSc HX Hn
      go_wp2
      exact bodyPost_ret (v := .tuple #[numV neg2 A2 (stripV (Wd ++ F)).length cap2 ex2, .bool ((k4 : Int) == (l.length : Int))]) (results_row_tmp rfl _ _ (w.heap.size + 1) 104 _ _ _ (.bool ((k4 : Int) == (l.length : Int))) rfl rfl HRowF.out Tryz.underlying104 rfl (by kernel_rfl)) rfl HFin.out
end Go.Proofs.YtpjikbfeegncbaaGreatDoor
