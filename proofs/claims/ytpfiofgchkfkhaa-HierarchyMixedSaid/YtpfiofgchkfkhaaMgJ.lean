/- MgJ: the texts HjA HjB HjC HjD HjE HjF HjG HjH HjI in one. -/
import Derived.Test.YtpfiofgchkfkhaaMgI
import Derived.Deep.RegionWith
import Derived.Deep.QuietTactic
import Derived.BigQuiet
import Derived.Deep.RegionHeld3
import Derived.Deep.AppendLies
/- Contracts of there, Path, Depth. -/
set_option linter.unusedVariables false
set_option linter.unusedSimpArgs false
namespace Go.Proofs.Ytpfiofgchkfkhaa
open Go.RowKit Go.Shelf Go.Maps
/-- what is asked of scopes that come in -/
structure InS (w : World) (scs : List Sc) (A : Option Addr) : Prop where
  hs : ScS w A scs
  hl : scs.length ≤ 1000000
  ok : ∀ x ∈ scs, ScOk x
  z : ∀ x ∈ scs, x.name.size ≤ 1000000
  a : ∀ a, A = some a → a.block < w.heap.size
theorem InS.below {w W : World} {scs : List Sc} {A : Option Addr} (h : InS w scs A) (hb : Below w.heap.size w W) : InS W scs A :=
  ⟨sc_below h.hs hb, h.hl, h.ok, h.z, fun a ha => Nat.lt_of_lt_of_le (h.a a ha) hb.size⟩
theorem InS.none {w : World} {scs : List Sc} {A : Option Addr} (h : InS w scs A) : InH w scs [] A none 0 :=
  ⟨h.hs, fun hp => absurd hp (by simp), h.hl, by simp, h.ok, fun v hv => (by cases hv), h.z, fun v hv => (by cases hv), h.a, fun _ => ⟨rfl, rfl⟩⟩
theorem Valid_none {w : World} {scs : List Sc} {A : Option Addr} (cap : Nat) (h : InS w scs A) :
    Calls Try.prog 9 #[.slice A scs.length cap, .slice none 0 0] w fun e w' => e = .returned (.bool (validH scs [])) ∧ Below w.heap.size w w' := Valid_H scs [] A none cap 0 w h.none
def thereH (scs : List Sc) (i : Int) : Bool := decide (0 ≤ i ∧ i < scs.length) && validH scs []
theorem validH_decl {scs : List Sc} {vs : List Va} (h : validH scs vs = true) : Good scs vs := by
  unfold validH at h
  exact checkE_ok.1 (of_decide_eq_true h).1
set_option maxRecDepth 20000 in
theorem there_any {w : World} {scs : List Sc} {A : Option Addr} (cap : Nat) (i : Int) (h : InS w scs A) :
    Calls Try.prog 38 #[.slice A scs.length cap, .int .i64 i] w fun e w' => e = .returned (.bool (thereH scs i)) ∧ Below w.heap.size w w' := by
  have VN := hide (fun W (hb : Below w.heap.size w W) => Valid_none cap (h.below hb))
  have hT : thereH scs i = (decide (0 ≤ i ∧ i < scs.length) && validH scs []) := rfl
  generalize thereH scs i = r at *
  generalize validH scs [] = b at *
  have hl := h.hl
  generalize scs.length = n at *
  clear h
  by_cases h1 : 0 ≤ i
  · by_cases h2 : i < n
    · have HV := hide (show r = b by rw [hT, decide_eq_true ⟨h1, h2⟩]; rfl)
      clear hT
      go_enter Try.func38, Try.ntmps38
      go_wp2_with fail
      refine (VN.out _ (Below.refl _ _)).mono ?_
      rintro e w1 ⟨rfl, hb⟩
      have Hb := hide hb
      clear hb
      go_wp2
      go_ret
      exact ⟨by rw [HV.out]; first | done | rfl, Hb.out⟩
    · have HV := hide (show r = false by rw [hT, decide_eq_false (fun e => h2 e.2)]; rfl)
      clear hT
      go_enter Try.func38, Try.ntmps38
      go_wp2
      any_goals first | (rename_i hu hb; exact (undef_bool hu).elim) | skip
      go_ret
      exact ⟨by rw [HV.out]; first | done | rfl, Below.refl _ _⟩
  · have HV := hide (show r = false by rw [hT, decide_eq_false (fun e => h1 e.1)]; rfl)
    clear hT
    go_enter Try.func38, Try.ntmps38
    go_wp2
    any_goals first | (rename_i hu hb; exact (undef_bool hu).elim) | skip
    go_ret
    exact ⟨by rw [HV.out]; first | done | rfl, Below.refl _ _⟩
def PathOf (scs : List Sc) (i : Int) : List ByteArray := if thereH scs i then pathH scs i else []
set_option maxRecDepth 20000 in
theorem Path_any {w : World} {scs : List Sc} {A : Option Addr} (cap : Nat) (i : Int) (h : InS w scs A) (hl : scs.length ≤ 100000) :
    Calls Try.prog 15 #[.slice A scs.length cap, .int .i64 i] w fun e w' => ∃ v, e = .returned v ∧ w'.ownsRow w.heap.size 9 1 v (PathOf scs i).length ((PathOf scs i).map Value.string) ∧ Below w.heap.size w w' := by
  have TH := hide (there_any cap i h)
  cases ht : thereH scs i with
  | true =>
    have hT := ht
    unfold thereH at hT
    rw [Bool.and_eq_true, decide_eq_true_eq] at hT
    have hg := validH_decl hT.2
    have PA := hide (fun W (hb : Below w.heap.size w W) => path_any scs A cap i W hl hg.decl hT.1.2 (by omega) (sc_below h.hs hb) (fun a ha => Nat.lt_of_lt_of_le (h.a a ha) hb.size))
    rw [ht] at TH
    have hP : PathOf scs i = pathH scs i := by unfold PathOf; rw [if_pos ht]
    rw [hP]
    generalize pathH scs i = pa at *
    generalize scs.length = n at *
    clear h hT hg hP
    go_enter Try.func15, Try.ntmps15
    go_wp2_with fail
    refine TH.out.mono ?_
    rintro e w1 ⟨rfl, hb⟩
    have Hb := hide hb
    clear hb
    go_wp2_with fail
    refine (PA.out w1 Hb.out).mono ?_
    rintro e w2 ⟨v, rfl, ho, hb2⟩
    have HO := hide (ownsRow_mono ho Hb.out.size)
    have Hb2 := hide (Hb.out.trans (hb2.mono Hb.out.size))
    clear ho hb2
    go_wp2
    go_ret
    exact ⟨_, rfl, HO.out, Hb2.out⟩
  | false =>
    rw [ht] at TH
    have hP : PathOf scs i = [] := by unfold PathOf; rw [if_neg (by rw [ht]; decide)]
    rw [hP]
    generalize scs.length = n at *
    clear h hP ht
    go_enter Try.func15, Try.ntmps15
    go_wp2_with fail
    refine TH.out.mono ?_
    rintro e w1 ⟨rfl, hb⟩
    have Hb := hide hb
    clear hb
    go_wp2
    go_ret
    exact ⟨_, rfl, World.ownsRow_nil _ _ _ _, Hb.out⟩
theorem PathOf_len (scs : List Sc) (i : Int) : (PathOf scs i).length ≤ scs.length := by
  unfold PathOf
  split
  · rename_i h
    unfold thereH at h
    rw [Bool.and_eq_true, decide_eq_true_eq] at h
    rw [pathH_len]
    have := upF_len scs (i.toNat + 1) i
    show (upF scs (i.toNat + 1) i).length ≤ _
    omega
  · exact Nat.zero_le _
set_option maxRecDepth 20000 in
theorem Depth_any {w : World} {scs : List Sc} {A : Option Addr} (cap : Nat) (i : Int) (h : InS w scs A) (hl : scs.length ≤ 100000) :
    Calls Try.prog 16 #[.slice A scs.length cap, .int .i64 i] w fun e w' => e = .returned (.int .i64 ((PathOf scs i).length : Int)) ∧ Below w.heap.size w w' := by
  have PA := hide (Path_any cap i h hl)
  have hpl := PathOf_len scs i
  generalize PathOf scs i = pa at *
  generalize scs.length = n at *
  clear h
  go_enter Try.func16, Try.ntmps16
  go_wp2_with fail
  refine PA.out.mono ?_
  rintro e w1 ⟨v, rfl, ho, hb⟩
  obtain ⟨A1, c1, rfl⟩ := ownH_sl ho
  have Hb := hide hb
  clear hb ho
  go_wp2
  go_ret
  exact ⟨rfl, Hb.out⟩
end Go.Proofs.Ytpfiofgchkfkhaa

/- Contract of Find. -/
set_option linter.unusedVariables false
set_option linter.unusedSimpArgs false
namespace Go.Proofs.Ytpfiofgchkfkhaa
open Go.RowKit Go.Shelf Go.Maps
def isH (at_ : Int) (p : ByteArray) (s : Sc) : Bool := decide (s.parent = at_) && decide (s.name = p)
def findG (scs : List Sc) : List ByteArray → Int → Option Int
  | [], at_ => some at_
  | p :: r, at_ => if idxP (isH at_ p) scs < 0 then none else findG scs r (idxP (isH at_ p) scs)
def findH (scs : List Sc) (path : List ByteArray) : Int × Int :=
  if validH scs [] = false then ((0 : Int), (1 : Int)) else match findG scs path (-1) with
    | none => ((0 : Int), (6 : Int))
    | some at_ => if at_ < 0 then ((0 : Int), (6 : Int)) else (at_, (0 : Int))
set_option maxRecDepth 20000 in
theorem find1_any (x : Sc) (at_ : Int) (p : ByteArray) (ga gp : Nat) (w : World) (ha : w.cell? ⟨ga, 0, none⟩ = some (.int .i64 at_)) (hp : w.cell? ⟨gp, 0, none⟩ = some (.string p)) (hga : ga < w.heap.size) (hgp : gp < w.heap.size) :
    Calls Try.prog 37 #[scV x, .pointer (some ⟨ga, 0, none⟩), .pointer (some ⟨gp, 0, none⟩)] w fun e w' => e = .returned (.bool (isH at_ p x)) ∧ Below w.heap.size w w' := by
  have hV : isH at_ p x = (decide (x.parent = at_) && decide (x.name = p)) := rfl
  generalize isH at_ p x = r at *
  obtain ⟨nm, ty, pa⟩ := x
  simp only at hV
  unfold scV
  have ha2 : (w.alloc (.cells #[.string nm, .int .i64 ty, .int .i64 pa] 49)).cell? ⟨ga, 0, none⟩ = some (.int .i64 at_) := by
    rw [((Below.refl w.heap.size w).alloc (Nat.le_refl _) _).cell (p := ⟨ga, 0, none⟩) hga]; exact ha
  have hp2 : (w.alloc (.cells #[.string nm, .int .i64 ty, .int .i64 pa] 49)).cell? ⟨gp, 0, none⟩ = some (.string p) := by
    rw [((Below.refl w.heap.size w).alloc (Nat.le_refl _) _).cell (p := ⟨gp, 0, none⟩) hgp]; exact hp
  by_cases h1 : pa = at_
  · have e1 : (pa == at_) = true := beq_iff_eq.2 h1
    by_cases h2 : nm = p
    · subst h2
      have HV := hide (show r = true by rw [hV, decide_eq_true h1]; simp)
      clear hV
      go_enter Try.func37, Try.ntmps37
      go_wp2
      go_ret
      exact ⟨by rw [HV.out]; first | done | rfl | simp, (Below.refl _ _).alloc (Nat.le_refl _) _⟩
    · have HV := hide (show r = false by rw [hV, decide_eq_false h2]; simp)
      have e2 : (nm.toList == p.toList) = false := by rw [bytes_beqH]; exact decide_eq_false h2
      have e3 : ¬ nm.toList = p.toList := fun e => h2 ((bytes_iffH nm p).1 e)
      clear hV
      go_enter Try.func37, Try.ntmps37
      go_wp2
      go_ret
      exact ⟨by rw [HV.out]; first | done | rfl | simp, (Below.refl _ _).alloc (Nat.le_refl _) _⟩
  · have e1 : (pa == at_) = false := beq_eq_false_iff_ne.2 h1
    have HV := hide (show r = false by rw [hV, decide_eq_false h1]; rfl)
    clear hV
    go_enter Try.func37, Try.ntmps37
    go_wp2
    any_goals first | (rename_i hu hb; exact (undef_bool hu).elim) | skip
    go_ret
    exact ⟨by rw [HV.out]; first | done | rfl, (Below.refl _ _).alloc (Nat.le_refl _) _⟩
set_option maxRecDepth 20000 in
set_option maxHeartbeats 4000000 in
theorem Find_any {w : World} {scs : List Sc} {A A' : Option Addr} (cap cap' : Nat) (path : List ByteArray) (h : InS w scs A) (hp : Sl Value.string w A' path) (hl : path.length ≤ 100000) :
    Calls Try.prog 14 #[.slice A scs.length cap, .slice A' path.length cap'] w fun e w' => e = .returned (.tuple #[.int .i64 (findH scs path).1, .int .i64 (findH scs path).2]) ∧ Below w.heap.size w w' := by
  have VN := hide (fun W (hb : Below w.heap.size w W) => Valid_none cap (h.below hb))
  have IF := hide (fun (W : World) (hb : Below w.heap.size w W) (at_ : Int) (p : ByteArray) (ga gp : Nat) (ha : W.cell? ⟨ga, 0, none⟩ = some (.int .i64 at_)) (hp : W.cell? ⟨gp, 0, none⟩ = some (.string p)) (hga : ga < W.heap.size) (hgp : gp < W.heap.size) =>
    IndexFuncS_any A cap scs 37 #[.pointer (some ⟨ga, 0, none⟩), .pointer (some ⟨gp, 0, none⟩)] (isH at_ p) W (sc_below h.hs hb) h.hl
      ⟨fun x hx W2 hW2 => find1_any x at_ p ga gp W2 ((hW2.cell (p := ⟨ga, 0, none⟩) hga).trans ha) ((hW2.cell (p := ⟨gp, 0, none⟩) hgp).trans hp) (Nat.lt_of_lt_of_le hga hW2.size) (Nat.lt_of_lt_of_le hgp hW2.size), fun W2 x => enters (by kernel_rfl) _ W2⟩)
  obtain ⟨r1, r2, hr⟩ : ∃ r1 r2, findH scs path = (r1, r2) := ⟨_, _, rfl⟩
  have hF : findH scs path = if validH scs [] = false then ((0 : Int), (1 : Int)) else match findG scs path (-1) with | none => ((0 : Int), (6 : Int)) | some at_ => if at_ < 0 then ((0 : Int), (6 : Int)) else (at_, (0 : Int)) := rfl
  rw [hr] at hF
  rw [hr]
  simp only
  have hile := fun p => idxP_le (α := Sc) p scs
  have hsl := h.hl
  generalize validH scs [] = b at *
  have HF := hide hF
  have HLE := hide hile
  have HP := hide hp
  obtain ⟨m, hm⟩ : ∃ m, path.length = m := ⟨_, rfl⟩
  have Hm := hide hm
  rw [hm] at hl ⊢
  obtain ⟨n, hn⟩ : ∃ n, scs.length = n := ⟨_, rfl⟩
  have VN' := VN.out
  have IF' := IF.out
  rw [hn] at VN' IF' hsl
  rw [hn]
  have Hn := hide hn
  have VN := hide VN'
  have IF := hide IF'
  clear h hp hF hile hm hr hn VN' IF'
  cases b with
  | false =>
    have HV := hide (show r1 = 0 ∧ r2 = 1 by have := HF.out; rw [if_pos rfl] at this; exact Prod.mk.inj this)
    go_enter Try.func14, Try.ntmps14
    go_wp2_with fail
    refine (VN.out _ (Below.refl _ _)).mono ?_
    rintro e w1 ⟨rfl, hb⟩
    have Hb := hide hb
    clear hb
    go_wp2
    go_ret2
    exact ⟨by rw [HV.out.1, HV.out.2]; first | done | rfl, Hb.out⟩
  | true =>
    have HF2 := hide (show (r1, r2) = match findG scs path (-1) with | none => ((0 : Int), (6 : Int)) | some at_ => if at_ < 0 then ((0 : Int), (6 : Int)) else (at_, (0 : Int)) by have := HF.out; rw [if_neg (by decide)] at this; exact this)
    go_enter Try.func14, Try.ntmps14
    go_wp2_with fail
    refine (VN.out _ (Below.refl _ _)).mono ?_
    rintro e w1 ⟨rfl, hb⟩
    have Hb := hide hb
    have Hb1 := hide (hb.alloc hb.size (.cells #[.int .i64 (-1)] 3))
    have hwz := hb.size
    clear hb
    go_wp2_with fail
    go_loopw [15] (fun v wr => ∃ (i : Nat) (at_ : Int), v = .int .i64 (i : Int) ∧ i ≤ m ∧ -1 ≤ at_ ∧ at_ ≤ n ∧ Hid (findG scs path (-1) = findG scs (path.drop i) at_) ∧ Hid (Row wr w1.heap.size 3 #[.int .i64 at_]) ∧ Hid (Below w.heap.size w wr)) (fun v _ => m - (intOf v).toNat)
    case atStart => exact ⟨0, -1, rfl, Nat.zero_le _, by omega, by omega, hide rfl, hide (Row.new _ _ _), Hb1⟩
    case round =>
      obtain ⟨i, at_, rfl, hi, ha1, ha2, HG, HR, HB⟩ := hrel
      have hat := HR.out.cell 0
      have hat' : wr.cell? ⟨w1.heap.size, 0, none⟩ = some (.int .i64 at_) := hat
      by_cases hlt : i < m
      · have hi' : (i : Int) < (m : Int) := by omega
        have hi0 : (0 : Int) ≤ (i : Int) := by omega
        have hw1 : IntKind.i64.wrap ((i : Int) + 1) = (i : Int) + 1 := IntWalk.i64_in _ (by omega)
        have hix : i < path.length := by rw [Hm.out]; exact hlt
        obtain ⟨b, off, rfl, hbz, hats⟩ := Sl.at HP.out hix
        have c0 := hats wr HB.out
        have hdr : path.drop i = path[i] :: path.drop (i + 1) := List.drop_eq_getElem_cons hix
        have hgs : findG scs (path.drop i) at_ = if idxP (isH at_ path[i]) scs < 0 then none else findG scs (path.drop (i + 1)) (idxP (isH at_ path[i]) scs) := by rw [hdr]; rfl
        have hle := HLE.out (isH at_ path[i])
        have HBA := hide (HB.out.alloc HB.out.size (.cells #[.string path[i]] 9))
        have CI := hide (IF.out (wr.alloc (.cells #[.string path[i]] 9)) HBA.out at_ path[i] w1.heap.size wr.heap.size ((HR.out.alloc _).cell 0) ((Row.new wr 9 #[.string path[i]]).cell 0) (by rw [World.size_alloc]; have := HR.out.lt; omega) (by rw [World.size_alloc]; omega))
        have HRA := hide (HR.out.alloc (.cells #[.string path[i]] 9))
        have HG2 := hide (HG.out.trans hgs)
        generalize idxP (isH at_ path[i]) scs = k at *
        generalize path[i]'hix = p at *
        clear hats hdr hgs hat
        go_wp2_with fail
        refine CI.out.mono ?_
        rintro e w2 ⟨rfl, hb2⟩
        have HB2 := hide (HBA.out.trans (hb2.mono HBA.out.size))
        have HR2 := hide (HRA.out.below hb2 HRA.out.lt)
        have hc2 : w2.cell? ⟨w1.heap.size, 0, none⟩ = some (.int .i64 at_) := HR2.out.cell 0
        have hf2 := HR2.out.frozen 0
        clear hb2
        by_cases hk : k < 0
        · have HV := hide (show r1 = 0 ∧ r2 = 6 by
            have h1 := HF2.out
            rw [HG2.out, if_pos hk] at h1
            exact Prod.mk.inj h1)
          go_wp2
          go_ret2
          exact ⟨by rw [HV.out.1, HV.out.2]; first | done | rfl, HB2.out⟩
        · have HG3 := hide (show findG scs path (-1) = findG scs (path.drop (i + 1)) k by rw [HG2.out, if_neg hk])
          have hk' : ¬ k < 0 := hk
          go_wp2
          go_roundw
          case rel => exact ⟨i + 1, k, by go_num, by omega, by omega, by have := Hn.out; omega, HG3, hide (HR2.out.set_ 0 _), hide (HB2.out.setCell (p := ⟨w1.heap.size, 0, none⟩) (by show w.heap.size ≤ w1.heap.size; exact hwz) _)⟩
          case measure => simp [intOf]; omega
      · obtain rfl : i = m := by omega
        have hi' : ¬ (i : Int) < (i : Int) := by omega
        have HE := hide (show (r1, r2) = if at_ < 0 then ((0 : Int), (6 : Int)) else (at_, (0 : Int)) by
          have h1 := HF2.out
          rw [HG.out, List.drop_eq_nil_of_le (Nat.le_of_eq Hm.out)] at h1
          exact h1)
        clear hat
        by_cases hk : at_ < 0
        · have HV := hide (show r1 = 0 ∧ r2 = 6 by have := HE.out; rw [if_pos hk] at this; exact Prod.mk.inj this)
          go_wp2
          go_ret2
          exact ⟨by rw [HV.out.1, HV.out.2]; first | done | rfl, HB.out⟩
        · have HV := hide (show r1 = at_ ∧ r2 = 0 by have := HE.out; rw [if_neg hk] at this; exact Prod.mk.inj this)
          go_wp2
          go_ret2
          exact ⟨by rw [HV.out.1, HV.out.2]; first | done | rfl, HB.out⟩
end Go.Proofs.Ytpfiofgchkfkhaa

/- Contract of Children. -/
set_option linter.unusedVariables false
set_option linter.unusedSimpArgs false
namespace Go.Proofs.Ytpfiofgchkfkhaa
open Go.RowKit Go.Shelf Go.Maps
def kidS (i : Int) (x : Sc) : Bool := decide (x.parent = i)
def kidV (i : Int) (x : Va) : Bool := decide (x.scope = i)
def inH (scs : List Sc) (vs : List Va) (i : Int) : Bool := validH scs vs && decide (-1 ≤ i ∧ i < scs.length)
def kidsS (scs : List Sc) (vs : List Va) (i : Int) : List Int := if inH scs vs i then idxsP (kidS i) scs else []
def kidsV (scs : List Sc) (vs : List Va) (i : Int) : List Int := if inH scs vs i then idxsP (kidV i) vs else []
theorem kid1_any (x : Sc) (i : Int) (g : Nat) (w : World) (hg : w.cell? ⟨g, 0, none⟩ = some (.int .i64 i)) (hgl : g < w.heap.size) :
    Calls Try.prog 42 #[scV x, .pointer (some ⟨g, 0, none⟩)] w fun e w' => e = .returned (.bool (kidS i x)) ∧ Below w.heap.size w w' := by
  have hV : kidS i x = decide (x.parent = i) := rfl
  generalize kidS i x = r at *
  obtain ⟨nm, ty, pa⟩ := x
  simp only at hV
  unfold scV
  have ha2 : (w.alloc (.cells #[.string nm, .int .i64 ty, .int .i64 pa] 49)).cell? ⟨g, 0, none⟩ = some (.int .i64 i) := by
    rw [((Below.refl w.heap.size w).alloc (Nat.le_refl _) _).cell (p := ⟨g, 0, none⟩) hgl]; exact hg
  have HV := hide hV
  clear hV
  go_enter Try.func42, Try.ntmps42
  go_wp2
  go_ret
  exact ⟨by rw [HV.out]; first | done | rfl | simp, (Below.refl _ _).alloc (Nat.le_refl _) _⟩
theorem kid2_any (x : Va) (i : Int) (g : Nat) (w : World) (hg : w.cell? ⟨g, 0, none⟩ = some (.int .i64 i)) (hgl : g < w.heap.size) :
    Calls Try.prog 43 #[vaV x, .pointer (some ⟨g, 0, none⟩)] w fun e w' => e = .returned (.bool (kidV i x)) ∧ Below w.heap.size w w' := by
  have hV : kidV i x = decide (x.scope = i) := rfl
  generalize kidV i x = r at *
  obtain ⟨nm, ty, sc, sg, rg, msb, lsb⟩ := x
  simp only at hV
  unfold vaV
  have ha2 : (w.alloc (.cells #[.string nm, .int .i64 ty, .int .i64 sc, .int .i64 sg, .bool rg, .int .i64 msb, .int .i64 lsb] 29)).cell? ⟨g, 0, none⟩ = some (.int .i64 i) := by
    rw [((Below.refl w.heap.size w).alloc (Nat.le_refl _) _).cell (p := ⟨g, 0, none⟩) hgl]; exact hg
  have HV := hide hV
  clear hV
  go_enter Try.func43, Try.ntmps43
  go_wp2
  go_ret
  exact ⟨by rw [HV.out]; first | done | rfl | simp, (Below.refl _ _).alloc (Nat.le_refl _) _⟩
set_option maxRecDepth 20000 in
set_option maxHeartbeats 4000000 in
theorem Children_any {w : World} {scs : List Sc} {vs : List Va} {A A' : Option Addr} (cap cap' : Nat) (i : Int) (h : InH w scs vs A A' cap') :
    Calls Try.prog 19 #[.slice A scs.length cap, .slice A' vs.length cap', .int .i64 i] w fun e w' => ∃ v1 v2, e = .returned (.tuple #[v1, v2]) ∧ w'.ownsRow w.heap.size 3 1 v1 (kidsS scs vs i).length ((kidsS scs vs i).map intV) ∧ w'.ownsRow w.heap.size 3 1 v2 (kidsV scs vs i).length ((kidsV scs vs i).map intV) ∧ Below w.heap.size w w' := by
  have VH := hide (fun W (hb : Below w.heap.size w W) => Valid_H scs vs A A' cap cap' W (h.below hb))
  have IS := hide (fun (W : World) (hb : Below w.heap.size w W) (g : Nat) (hg : W.cell? ⟨g, 0, none⟩ = some (.int .i64 i)) (hgl : g < W.heap.size) =>
    indicesS_any A cap scs 42 #[.pointer (some ⟨g, 0, none⟩)] (kidS i) W (sc_below h.hs hb) h.hl ⟨fun x hx W2 hW2 => kid1_any x i g W2 ((hW2.cell (p := ⟨g, 0, none⟩) hgl).trans hg) (Nat.lt_of_lt_of_le hgl hW2.size), fun W2 x => enters (by kernel_rfl) _ W2⟩)
  have IV := hide (fun (W : World) (hb : Below w.heap.size w W) (g : Nat) (hg : W.cell? ⟨g, 0, none⟩ = some (.int .i64 i)) (hgl : g < W.heap.size) =>
    indicesV_any A' cap' vs 43 #[.pointer (some ⟨g, 0, none⟩)] (kidV i) W (va_below h.hv hb) h.hl' ⟨fun x hx W2 hW2 => kid2_any x i g W2 ((hW2.cell (p := ⟨g, 0, none⟩) hgl).trans hg) (Nat.lt_of_lt_of_le hgl hW2.size), fun W2 x => enters (by kernel_rfl) _ W2⟩)
  have hin : inH scs vs i = (validH scs vs && decide (-1 ≤ i ∧ i < scs.length)) := rfl
  have hkS : kidsS scs vs i = if inH scs vs i then idxsP (kidS i) scs else [] := rfl
  have hkV : kidsV scs vs i = if inH scs vs i then idxsP (kidV i) vs else [] := rfl
  generalize kidsS scs vs i = KS at *
  generalize kidsV scs vs i = KV at *
  generalize inH scs vs i = bi at *
  generalize validH scs vs = b at *
  generalize idxsP (kidS i) scs = L1 at *
  generalize idxsP (kidV i) vs = L2 at *
  have hl := h.hl
  generalize scs.length = n at *
  generalize vs.length = m at *
  have HR := hide (Row.new w 3 #[.int .i64 i])
  have HB0 := hide ((Below.refl w.heap.size w).alloc (Nat.le_refl _) (.cells #[.int .i64 i] 3))
  clear h
  by_cases hc : b = true ∧ -1 ≤ i ∧ i < n
  · obtain ⟨rfl, h1, h2⟩ := hc
    have hbi : bi = true := by rw [hin, decide_eq_true ⟨h1, h2⟩]; rfl
    rw [hbi, if_pos rfl] at hkS hkV
    subst hkS; subst hkV
    have h1' : ¬ i < -1 := by omega
    have h2' : ¬ (n : Int) ≤ i := by omega
    clear hin hbi
    go_enter Try.func19, Try.ntmps19
    go_wp2_with fail
    refine (VH.out _ HB0.out).mono ?_
    rintro e w1 ⟨rfl, hb⟩
    have HB1 := hide (HB0.out.trans (hb.mono HB0.out.size))
    have HR1 := hide (HR.out.below hb HR.out.lt)
    have hc1 : w1.cell? ⟨w.heap.size, 0, none⟩ = some (.int .i64 i) := HR1.out.cell 0
    clear hb
    go_wp2_with fail
    refine (IS.out w1 HB1.out w.heap.size (HR1.out.cell 0) HR1.out.lt).mono ?_
    rintro e w2 ⟨v1, rfl, ho1, hb2⟩
    have HB2 := hide (HB1.out.trans (hb2.mono HB1.out.size))
    have HR2 := hide (HR1.out.below hb2 HR1.out.lt)
    have HO1 := hide ho1
    clear hb2 ho1
    go_wp2_with fail
    refine (IV.out w2 HB2.out w.heap.size (HR2.out.cell 0) HR2.out.lt).mono ?_
    rintro e w3 ⟨v2, rfl, ho2, hb3⟩
    have HB3 := hide (HB2.out.trans (hb3.mono HB2.out.size))
    have HO1' := hide (ownsRow_mono (ownsRow_below HO1.out hb3) HB1.out.size)
    have HO2 := hide (ownsRow_mono ho2 HB2.out.size)
    clear hb3 ho2
    go_wp2
    go_ret2
    exact ⟨_, _, rfl, HO1'.out, HO2.out, HB3.out⟩
  · have hbi : bi = false := by
      rw [hin]
      cases b with
      | false => rfl
      | true => rw [decide_eq_false (fun e => hc ⟨rfl, e⟩)]; rfl
    rw [hbi, if_neg (by decide)] at hkS hkV
    subst hkS; subst hkV
    have HC := hide hc
    clear hin hbi hc
    go_enter Try.func19, Try.ntmps19
    go_wp2_with fail
    refine (VH.out _ HB0.out).mono ?_
    rintro e w1 ⟨rfl, hb⟩
    have HB1 := hide (HB0.out.trans (hb.mono HB0.out.size))
    have HR1 := hide (HR.out.below hb HR.out.lt)
    have hc1 : w1.cell? ⟨w.heap.size, 0, none⟩ = some (.int .i64 i) := HR1.out.cell 0
    clear hb
    cases b with
    | false =>
      go_wp2
      any_goals first | (rename_i hu hb; exact (undef_bool hu).elim) | skip
      go_ret2
      exact ⟨_, _, rfl, World.ownsRow_nil _ _ _ _, World.ownsRow_nil _ _ _ _, HB1.out⟩
    | true =>
      by_cases h1 : i < -1
      · go_wp2
        any_goals first | (rename_i hu hb; exact (undef_bool hu).elim) | skip
        go_ret2
        exact ⟨_, _, rfl, World.ownsRow_nil _ _ _ _, World.ownsRow_nil _ _ _ _, HB1.out⟩
      · have h2 : (n : Int) ≤ i := by
          have := HC.out
          by_cases h3 : (n : Int) ≤ i
          · exact h3
          · exact absurd ⟨rfl, by omega, by omega⟩ this
        go_wp2
        go_ret2
        exact ⟨_, _, rfl, World.ownsRow_nil _ _ _ _, World.ownsRow_nil _ _ _ _, HB1.out⟩
end Go.Proofs.Ytpfiofgchkfkhaa

/- Contract of the law's Few. -/
set_option linter.unusedVariables false
set_option linter.unusedSimpArgs false
namespace Go.Proofs.Ytpfiofgchkfkhaa
open Go.RowKit Go.Shelf Go.Maps
def fewHB (scs : List Sc) (vs : List Va) : Bool := (scs.all fun x => decide (x.name.size ≤ 60)) && (vs.all fun v => decide (v.name.size ≤ 60)) && decide (scs.length ≤ 40 ∧ vs.length ≤ 140)
theorem few_noS {scs : List Sc} {vs : List Va} {i : Nat} (h : i < scs.length) (hn : 60 < scs[i].name.size) : fewHB scs vs = false := by
  unfold fewHB
  have : (scs.all fun x => decide (x.name.size ≤ 60)) = false := by
    rw [List.all_eq_false]
    exact ⟨scs[i], List.getElem_mem h, by simp; omega⟩
  rw [this]; rfl
theorem few_noV {scs : List Sc} {vs : List Va} {i : Nat} (h : i < vs.length) (hn : 60 < vs[i].name.size) : fewHB scs vs = false := by
  unfold fewHB
  have : (vs.all fun x => decide (x.name.size ≤ 60)) = false := by
    rw [List.all_eq_false]
    exact ⟨vs[i], List.getElem_mem h, by simp; omega⟩
  rw [this, Bool.and_false]; rfl
theorem few_all {scs : List Sc} {vs : List Va} (h1 : ∀ i (h : i < scs.length), scs[i].name.size ≤ 60) (h2 : ∀ i (h : i < vs.length), vs[i].name.size ≤ 60) : fewHB scs vs = decide (scs.length ≤ 40 ∧ vs.length ≤ 140) := by
  unfold fewHB
  have e1 : (scs.all fun x => decide (x.name.size ≤ 60)) = true := by
    rw [List.all_eq_true]
    intro x hx
    obtain ⟨i, hi, rfl⟩ := List.mem_iff_getElem.1 hx
    exact decide_eq_true (h1 i hi)
  have e2 : (vs.all fun x => decide (x.name.size ≤ 60)) = true := by
    rw [List.all_eq_true]
    intro x hx
    obtain ⟨i, hi, rfl⟩ := List.mem_iff_getElem.1 hx
    exact decide_eq_true (h2 i hi)
  rw [e1, e2]; rfl
set_option maxRecDepth 20000 in
set_option maxHeartbeats 4000000 in
theorem FewH_any {w : World} {scs : List Sc} {vs : List Va} {A A' : Option Addr} (cap cap' : Nat) (hs : ScS w A scs) (hv : VaS w A' vs) (hl : scs.length ≤ maxLen) (hl' : vs.length ≤ maxLen) (hz : ∀ x ∈ scs, x.name.size ≤ maxLen) (hz' : ∀ v ∈ vs, v.name.size ≤ maxLen) :
    Calls Try.prog 8 #[.slice A scs.length cap, .slice A' vs.length cap'] w fun e w' => e = .returned (.bool (fewHB scs vs)) ∧ w = w' := by
  have HS := hide hs
  have HV := hide hv
  have HZ := hide hz
  have HZ' := hide hz'
  have hN1 := fun (i : Nat) (h : i < scs.length) (hn : 60 < scs[i].name.size) => few_noS (vs := vs) h hn
  have hN2 := fun (i : Nat) (h : i < vs.length) (hn : 60 < vs[i].name.size) => few_noV (scs := scs) h hn
  have hN3 := @few_all scs vs
  generalize fewHB scs vs = r at *
  have HN1 := hide hN1
  have HN2 := hide hN2
  have HN3 := hide hN3
  unfold maxLen at hl hl'
  obtain ⟨n, hn⟩ : ∃ n, scs.length = n := ⟨_, rfl⟩
  obtain ⟨m, hm⟩ : ∃ m, vs.length = m := ⟨_, rfl⟩
  have Hn := hide hn
  have Hm := hide hm
  rw [hn] at hl ⊢
  rw [hm] at hl' ⊢
  clear hs hv hz hz' hN1 hN2 hN3 hn hm
  go_enter Try.func8, Try.ntmps8
  go_wp2_with fail
  go_loopw [5] (fun v wr => ∃ i : Nat, v = .int .i64 (i : Int) ∧ i ≤ n ∧ Hid (∀ j (h : j < scs.length), j < i → scs[j].name.size ≤ 60) ∧ w = wr) (fun v _ => n - (intOf v).toNat)
  case atStart => exact ⟨0, rfl, Nat.zero_le _, hide (fun j h h2 => absurd h2 (by omega)), rfl⟩
  case round =>
    obtain ⟨i, rfl, hi, HA, rfl⟩ := hrel
    by_cases hlt : i < n
    · have hi' : (i : Int) < (n : Int) := by omega
      have hi0 : (0 : Int) ≤ (i : Int) := by omega
      have hw1 : IntKind.i64.wrap ((i : Int) + 1) = (i : Int) + 1 := IntWalk.i64_in _ (by omega)
      have hix : i < scs.length := by rw [Hn.out]; exact hlt
      obtain ⟨b, off, rfl, hbz, hat⟩ := sc_at HS.out hix
      obtain ⟨c0, _, _⟩ := hat w (Below.refl _ _)
      have hz := HZ.out _ (List.getElem_mem hix)
      unfold maxLen at hz
      have HV1 := hide (fun h => HN1.out _ hix h)
      have HA2 := hide (fun (h : scs[i].name.size ≤ 60) (j : Nat) (hj : j < scs.length) (hji : j < i + 1) => show scs[j].name.size ≤ 60 from by
        rcases Nat.lt_or_ge j i with h1 | h1
        · exact HA.out j hj h1
        · obtain rfl : j = i := by omega
          exact h)
      generalize scs[i]'hix = x at *
      obtain ⟨nm, ty, pa⟩ := x
      simp only at c0 hz HV1 HA2
      clear hat
      by_cases h60 : 60 < nm.size
      · have h60' : (60 : Int) < (nm.size : Int) := by omega
        have HR := hide (HV1.out h60)
        clear HV1 HA2
        go_wp2
        go_ret
        exact ⟨by rw [HR.out]; first | done | rfl, rfl⟩
      · have h60' : ¬ (60 : Int) < (nm.size : Int) := by omega
        have HA3 := hide (HA2.out (by omega))
        clear HV1 HA2
        go_wp2
        go_roundw
        case rel => exact ⟨i + 1, by go_num, by omega, HA3, by first | rfl | trivial⟩
        case measure => simp [intOf]; omega
    · obtain rfl : i = n := by omega
      have hi' : ¬ (i : Int) < (i : Int) := by omega
      go_wp2_with fail
      go_loopw [6] (fun v wr => ∃ k : Nat, v = .int .i64 (k : Int) ∧ k ≤ m ∧ Hid (∀ j (h : j < vs.length), j < k → vs[j].name.size ≤ 60) ∧ w = wr) (fun v _ => m - (intOf v).toNat)
      case atStart => exact ⟨0, rfl, Nat.zero_le _, hide (fun j h h2 => absurd h2 (by omega)), rfl⟩
      case round =>
        obtain ⟨k, rfl, hk, HB, rfl⟩ := hrel
        by_cases hlt2 : k < m
        · have hk' : (k : Int) < (m : Int) := by omega
          have hk0 : (0 : Int) ≤ (k : Int) := by omega
          have hw1 : IntKind.i64.wrap ((k : Int) + 1) = (k : Int) + 1 := IntWalk.i64_in _ (by omega)
          have hix : k < vs.length := by rw [Hm.out]; exact hlt2
          obtain ⟨b, off, rfl, hbz, hat⟩ := va_at HV.out hix
          obtain ⟨c0, _⟩ := hat w (Below.refl _ _)
          have hz := HZ'.out _ (List.getElem_mem hix)
          unfold maxLen at hz
          have HV1 := hide (fun h => HN2.out _ hix h)
          have HA2 := hide (fun (h : vs[k].name.size ≤ 60) (j : Nat) (hj : j < vs.length) (hji : j < k + 1) => show vs[j].name.size ≤ 60 from by
            rcases Nat.lt_or_ge j k with h1 | h1
            · exact HB.out j hj h1
            · obtain rfl : j = k := by omega
              exact h)
          generalize vs[k]'hix = x at *
          obtain ⟨nm, ty, sc, sg, rg, msb, lsb⟩ := x
          simp only at c0 hz HV1 HA2
          clear hat
          by_cases h60 : 60 < nm.size
          · have h60' : (60 : Int) < (nm.size : Int) := by omega
            have HR := hide (HV1.out h60)
            clear HV1 HA2
            go_wp2
            go_ret
            exact ⟨by rw [HR.out]; first | done | rfl, rfl⟩
          · have h60' : ¬ (60 : Int) < (nm.size : Int) := by omega
            have HA3 := hide (HA2.out (by omega))
            clear HV1 HA2
            go_wp2
            go_roundw
            case rel => exact ⟨k + 1, by go_num, by omega, HA3, by first | rfl | trivial⟩
            case measure => simp [intOf]; omega
        · obtain rfl : k = m := by omega
          have hk' : ¬ (k : Int) < (k : Int) := by omega
          have HR := hide (show r = decide (i ≤ 40 ∧ k ≤ 140) by
            rw [HN3.out (fun j hj => HA.out j hj (by rw [← Hn.out]; exact hj)) (fun j hj => HB.out j hj (by rw [← Hm.out]; exact hj)), Hn.out, Hm.out])
          by_cases h1 : i ≤ 40
          · by_cases h2 : k ≤ 140
            · have h1' : (i : Int) ≤ 40 := by omega
              have h2' : (k : Int) ≤ 140 := by omega
              have HR2 := hide (show r = true by rw [HR.out]; exact decide_eq_true ⟨h1, h2⟩)
              go_wp2
              go_ret
              exact ⟨by rw [HR2.out]; first | done | rfl, rfl⟩
            · have h1' : (i : Int) ≤ 40 := by omega
              have h2' : ¬ (k : Int) ≤ 140 := by omega
              have HR2 := hide (show r = false by rw [HR.out]; exact decide_eq_false (fun e => h2 e.2))
              go_wp2
              go_ret
              exact ⟨by rw [HR2.out]; first | done | rfl, rfl⟩
          · have h1' : ¬ (i : Int) ≤ 40 := by omega
            have HR2 := hide (show r = false by rw [HR.out]; exact decide_eq_false (fun e => h1 e.1))
            go_wp2
            any_goals first | (rename_i hu hb; exact (undef_bool hu).elim) | skip
            go_ret
            exact ⟨by rw [HR2.out]; first | done | rfl, rfl⟩
end Go.Proofs.Ytpfiofgchkfkhaa

/- Contract of the law's Same. -/
set_option linter.unusedVariables false
set_option linter.unusedSimpArgs false
namespace Go.Proofs.Ytpfiofgchkfkhaa
open Go.RowKit Go.Shelf Go.Maps
def sameB (a c : List Sc) (b d : List Va) : Bool := decide (a = c) && decide (b = d)
theorem below_drewH {B : Nat} {w W : World} (h : Below B w W) : Below B w W.drew := ⟨h.os, h.tape, h.output, h.size, h.block⟩
theorem same_at {α : Type} {xs ys : List α} {i : Nat} (h : i < xs.length) (h' : i < ys.length) (hne : xs[i] ≠ ys[i]) : xs ≠ ys := by
  rintro rfl; exact hne rfl
theorem same_all {α : Type} {xs ys : List α} (hl : xs.length = ys.length) (h : ∀ i (h1 : i < xs.length) (h2 : i < ys.length), xs[i] = ys[i]) : xs = ys := List.ext_getElem hl h
set_option maxRecDepth 20000 in
set_option maxHeartbeats 4000000 in
theorem Same_any {w : World} {a c : List Sc} {b d : List Va} {A C B D : Option Addr} (ca cc cb cd : Nat) (ha : ScS w A a) (hc : ScS w C c) (hb : VaS w B b) (hd : VaS w D d) (la : a.length ≤ 1000000) (lc : c.length ≤ 1000000) (lb : b.length ≤ 1000000) (ld : d.length ≤ 1000000) :
    Calls Try.prog 11 #[.slice A a.length ca, .slice C c.length cc, .slice B b.length cb, .slice D d.length cd] w fun e w' => e = .returned (.bool (sameB a c b d)) ∧ Below w.heap.size w w' := by
  have hV : sameB a c b d = (decide (a = c) && decide (b = d)) := rfl
  generalize sameB a c b d = r at *
  have mixed := mixedH
  have Ha := hide ha
  have Hc := hide hc
  have Hb := hide hb
  have Hd := hide hd
  have HV := hide hV
  clear ha hc hb hd hV
  by_cases hl : a.length = c.length ∧ b.length = d.length
  · obtain ⟨h1, h2⟩ := hl
    obtain ⟨n, hn⟩ : ∃ n, a.length = n := ⟨_, rfl⟩
    obtain ⟨m, hm⟩ : ∃ m, b.length = m := ⟨_, rfl⟩
    have hn' : c.length = n := by omega
    have hm' : d.length = m := by omega
    have Hn := hide hn
    have Hm := hide hm
    have Hn' := hide hn'
    have Hm' := hide hm'
    rw [hn] at la ⊢
    rw [hm] at lb ⊢
    rw [hn', hm']
    clear hn hm hn' hm' h1 h2 lc ld
    go_enter Try.func11, Try.ntmps11
    go_wp2_with fail

    go_loopw [9] (fun v wr => ∃ i : Nat, v = .int .i64 (i : Int) ∧ i ≤ n ∧ Hid (∀ j (h1 : j < a.length) (h2 : j < c.length), j < i → a[j] = c[j]) ∧ Hid (Below w.heap.size w wr)) (fun v _ => n - (intOf v).toNat)
    case atStart => exact ⟨0, rfl, Nat.zero_le _, hide (fun j h h' h2 => absurd h2 (by omega)), hide (Below.refl _ _)⟩
    case round =>
      obtain ⟨i, rfl, hi, HA, HBwi⟩ := hrel
      by_cases hlti : i < n
      · have hi' : (i : Int) < (n : Int) := by omega
        have hi0 : (0 : Int) ≤ (i : Int) := by omega
        have hw1 : IntKind.i64.wrap ((i : Int) + 1) = (i : Int) + 1 := IntWalk.i64_in _ (by omega)
        have hx1 : i < a.length := by rw [Hn.out]; exact hlti
        have hx2 : i < c.length := by rw [Hn'.out]; exact hlti
        obtain ⟨b1, o1, rfl, hz1, hat1⟩ := sc_at Ha.out hx1
        obtain ⟨b2, o2, rfl, hz2, hat2⟩ := sc_at Hc.out hx2
        obtain ⟨c0, c1, c2⟩ := hat1 wr.drew (below_drewH HBwi.out)
        obtain ⟨e0, e1, e2⟩ := hat2 wr.drew (below_drewH HBwi.out)
        have hne := fun W => eqAtS.1 a[i] c[i] W
        have hgd := fun op x y W => eqAtS.2 op x y a[i] c[i] W
        simp only at hne hgd
        have HA2 := hide (fun (h : a[i] = c[i]) (j : Nat) (h1 : j < a.length) (h2 : j < c.length) (hji : j < i + 1) => show a[j] = c[j] from by
          rcases Nat.lt_or_ge j i with g | g
          · exact HA.out j h1 h2 g
          · obtain rfl : j = i := by omega
            exact h)
        have HNE := hide (fun (h : a[i] ≠ c[i]) => show r = false from by rw [HV.out, decide_eq_false (same_at hx1 hx2 h), Bool.false_and])
        have HBd := hide (show Below w.heap.size w wr.drew from below_drewH HBwi.out)
        generalize a[i]'hx1 = x at *
        generalize c[i]'hx2 = y at *
        by_cases hxy : x = y
        · have HA3 := hide (HA2.out hxy)
          rw [decide_eq_true hxy] at hne
          simp only [scE, Bool.not_true] at hne hgd
          clear hat1 hat2 HA2 HNE hxy
          go_wp2_with fail
          go_big_region_o
          all_goals go_wp2
          go_roundw
          case rel => exact ⟨i + 1, by go_num, by omega, HA3, HBd⟩
          case measure => simp [intOf]; omega
        · have HR := hide (HNE.out hxy)
          rw [decide_eq_false hxy] at hne
          simp only [scE, Bool.not_false] at hne hgd
          clear hat1 hat2 HA2 HNE hxy
          go_wp2_with fail
          go_big_region_o
          all_goals go_wp2
          go_ret
          exact ⟨by rw [HR.out]; first | done | rfl, HBd.out⟩
      · obtain rfl : i = n := by omega
        have hi' : ¬ (i : Int) < (i : Int) := by omega
        have HEQ := hide (show a = c from same_all (by rw [Hn.out, Hn'.out]) (fun j h1 h2 => HA.out j h1 h2 (by rw [← Hn.out]; exact h1)))
        go_wp2_with fail
        go_loopw [10] (fun v wr => ∃ k : Nat, v = .int .i64 (k : Int) ∧ k ≤ m ∧ Hid (∀ j (h1 : j < b.length) (h2 : j < d.length), j < k → b[j] = d[j]) ∧ Hid (Below w.heap.size w wr)) (fun v _ => m - (intOf v).toNat)
        case atStart => exact ⟨0, rfl, Nat.zero_le _, hide (fun j h h' h2 => absurd h2 (by omega)), HBwi⟩
        case round =>
          obtain ⟨k, rfl, hk, HB, HBwk⟩ := hrel
          by_cases hltk : k < m
          · have hk' : (k : Int) < (m : Int) := by omega
            have hk0 : (0 : Int) ≤ (k : Int) := by omega
            have hw1 : IntKind.i64.wrap ((k : Int) + 1) = (k : Int) + 1 := IntWalk.i64_in _ (by omega)
            have hx1 : k < b.length := by rw [Hm.out]; exact hltk
            have hx2 : k < d.length := by rw [Hm'.out]; exact hltk
            obtain ⟨b1, o1, rfl, hz1, hat1⟩ := va_at Hb.out hx1
            obtain ⟨b2, o2, rfl, hz2, hat2⟩ := va_at Hd.out hx2
            obtain ⟨c0, c1, c2, c3, c4, c5, c6⟩ := hat1 wr.drew (below_drewH HBwk.out)
            obtain ⟨e0, e1, e2, e3, e4, e5, e6⟩ := hat2 wr.drew (below_drewH HBwk.out)
            have hne := fun W => eqAtV.1 b[k] d[k] W
            have hgd := fun op x y W => eqAtV.2 op x y b[k] d[k] W
            simp only at hne hgd
            have HA2 := hide (fun (h : b[k] = d[k]) (j : Nat) (h1 : j < b.length) (h2 : j < d.length) (hji : j < k + 1) => show b[j] = d[j] from by
              rcases Nat.lt_or_ge j k with g | g
              · exact HB.out j h1 h2 g
              · obtain rfl : j = k := by omega
                exact h)
            have HNE := hide (fun (h : b[k] ≠ d[k]) => show r = false from by rw [HV.out, decide_eq_false (same_at hx1 hx2 h), Bool.and_false])
            have HBd := hide (show Below w.heap.size w wr.drew from below_drewH HBwk.out)
            generalize b[k]'hx1 = x at *
            generalize d[k]'hx2 = y at *
            by_cases hxy : x = y
            · have HA3 := hide (HA2.out hxy)
              rw [decide_eq_true hxy] at hne
              simp only [vaE, Bool.not_true] at hne hgd
              clear hat1 hat2 HA2 HNE hxy
              go_wp2_with fail
              go_big_region_o
              all_goals go_wp2
              go_roundw
              case rel => exact ⟨k + 1, by go_num, by omega, HA3, HBd⟩
              case measure => simp [intOf]; omega
            · have HR := hide (HNE.out hxy)
              rw [decide_eq_false hxy] at hne
              simp only [vaE, Bool.not_false] at hne hgd
              clear hat1 hat2 HA2 HNE hxy
              go_wp2_with fail
              go_big_region_o
              all_goals go_wp2
              go_ret
              exact ⟨by rw [HR.out]; first | done | rfl, HBd.out⟩
          · obtain rfl : k = m := by omega
            have hk' : ¬ (k : Int) < (k : Int) := by omega
            have HR := hide (show r = true from by rw [HV.out, decide_eq_true HEQ.out, decide_eq_true (same_all (by rw [Hm.out, Hm'.out]) (fun j h1 h2 => HB.out j h1 h2 (by rw [← Hm.out]; exact h1)))]; rfl)
            go_wp2
            go_ret
            exact ⟨by rw [HR.out]; first | done | rfl, HBwk.out⟩
  · have HR := hide (show r = false from by
      rw [HV.out, Bool.and_eq_false_iff]
      by_cases g : a.length = c.length
      · exact .inr (decide_eq_false (fun e => hl ⟨g, by rw [e]⟩))
      · exact .inl (decide_eq_false (fun e => g (by rw [e]))))
    have HL := hide hl
    clear HV Ha Hc Hb Hd hl
    generalize a.length = n1 at *
    generalize c.length = n2 at *
    generalize b.length = m1 at *
    generalize d.length = m2 at *
    by_cases g : n1 = n2
    · have g2 : ¬ m1 = m2 := fun e => HL.out ⟨g, e⟩
      subst g
      have g3 : ((m1 : Int) == (m2 : Int)) = false := beq_eq_false_iff_ne.2 (by omega)
      have g4 : ¬ (m1 : Int) = (m2 : Int) := by omega
      go_enter Try.func11, Try.ntmps11
      go_wp2
      go_ret
      exact ⟨by rw [HR.out]; first | done | rfl, Below.refl _ _⟩
    · have g3 : ((n1 : Int) == (n2 : Int)) = false := beq_eq_false_iff_ne.2 (by omega)
      have g4 : ¬ (n1 : Int) = (n2 : Int) := by omega
      go_enter Try.func11, Try.ntmps11
      go_wp2
      any_goals first | (rename_i hu hb; exact (undef_bool hu).elim) | skip
      go_ret
      exact ⟨by rw [HR.out]; first | done | rfl, Below.refl _ _⟩
end Go.Proofs.Ytpfiofgchkfkhaa

/- Contract of the law's example. -/
set_option linter.unusedVariables false
set_option linter.unusedSimpArgs false
namespace Go.Proofs.Ytpfiofgchkfkhaa
open Go.RowKit Go.Shelf Go.Maps
def exS : List Sc := [⟨⟨#[116, 111, 112]⟩, 0, -1⟩, ⟨⟨#[116, 101, 115, 116]⟩, 0, -1⟩, ⟨⟨#[117, 49]⟩, 0, 0⟩]
def exV : List Va := [⟨⟨#[97]⟩, 0, 1, 5, false, 0, 0⟩, ⟨⟨#[98]⟩, 0, 2, 9, false, 0, 0⟩]
set_option maxRecDepth 20000 in
set_option maxHeartbeats 4000000 in
theorem example_any (w : World) : Calls Try.prog 22 #[] w fun e w' => ∃ a b, e = .returned (.tuple #[.slice (some ⟨a, 0, none⟩) 3 3, .slice (some ⟨b, 0, none⟩) 2 2]) ∧ ScS w' (some ⟨a, 0, none⟩) exS ∧ VaS w' (some ⟨b, 0, none⟩) exV ∧ w.heap.size ≤ a ∧ a < w'.heap.size ∧ w.heap.size ≤ b ∧ b < w'.heap.size ∧ Below w.heap.size w w' := by
  go_enter Try.func22, Try.ntmps22
  go_wp2
  go_ret2
  refine ⟨w.heap.size, w.heap.size + 1, rfl, ?_, ?_, Nat.le_refl _, by rw [World.size_alloc, World.size_alloc]; omega, Nat.le_succ _, by rw [World.size_alloc, World.size_alloc]; omega, ((Below.refl _ _).alloc (Nat.le_refl _) _).alloc (by rw [World.size_alloc]; omega) _⟩
  · exact FlS.new (t := 49) scE_len ((Row.new w _ _).alloc _)
  · refine FlS.new (t := 29) vaE_len ?_
    rw [← World.size_alloc w _]
    exact Row.new _ _ _
end Go.Proofs.Ytpfiofgchkfkhaa

/- Contract of Full. -/
set_option linter.unusedVariables false
set_option linter.unusedSimpArgs false
namespace Go.Proofs.Ytpfiofgchkfkhaa
open Go.RowKit Go.Shelf Go.Maps
def fullOk (scs : List Sc) (p : Int) : Bool := validH scs [] && (decide (p = -1) || thereH scs p)
def FullOf (scs : List Sc) (v : Va) : List ByteArray := if fullOk scs v.scope then pathH scs v.scope ++ [v.name] else []
set_option maxRecDepth 20000 in
set_option maxHeartbeats 4000000 in
theorem Full_bad {w : World} {scs : List Sc} {A : Option Addr} (cap : Nat) (v : Va) (h : InS w scs A) (hf : fullOk scs v.scope = false) :
    Calls Try.prog 17 #[.slice A scs.length cap, vaV v] w fun e w' => e = .returned (.slice none 0 0) ∧ Below w.heap.size w w' := by
  have VN := hide (fun W (hb : Below w.heap.size w W) => Valid_none cap (h.below hb))
  have TH := hide (fun W (hb : Below w.heap.size w W) => there_any cap v.scope (h.below hb))
  have hF : fullOk scs v.scope = (validH scs [] && (decide (v.scope = -1) || thereH scs v.scope)) := rfl
  rw [hf] at hF
  obtain ⟨nm, ty, sc, sg, rg, msb, lsb⟩ := v
  simp only at hF TH
  generalize validH scs [] = b at *
  generalize thereH scs sc = t at *
  generalize scs.length = n at *
  unfold vaV
  clear h hf
  have HB0 := hide ((Below.refl w.heap.size w).alloc (Nat.le_refl _) (.cells #[.string nm, .int .i64 ty, .int .i64 sc, .int .i64 sg, .bool rg, .int .i64 msb, .int .i64 lsb] 29))
  have HR := hide (Row.new w 29 #[.string nm, .int .i64 ty, .int .i64 sc, .int .i64 sg, .bool rg, .int .i64 msb, .int .i64 lsb])
  cases b with
  | false =>
    clear hF
    go_enter Try.func17, Try.ntmps17
    go_wp2_with fail
    refine (VN.out _ HB0.out).mono ?_
    rintro e w1 ⟨rfl, hb⟩
    have HB1 := hide (HB0.out.trans (hb.mono HB0.out.size))
    clear hb
    go_wp2
    any_goals first | (rename_i hu hb; exact (undef_bool hu).elim) | skip
    go_ret
    exact ⟨rfl, HB1.out⟩
  | true =>
    cases t with
    | true => exact absurd hF (by simp)
    | false =>
      have hsc : ¬ sc = -1 := by
        intro e
        rw [decide_eq_true e] at hF
        exact absurd hF (by simp)
      have e1 : (sc == -1) = false := beq_eq_false_iff_ne.2 hsc
      clear hF
      go_enter Try.func17, Try.ntmps17
      go_wp2_with fail
      refine (VN.out _ HB0.out).mono ?_
      rintro e w1 ⟨rfl, hb⟩
      have HB1 := hide (HB0.out.trans (hb.mono HB0.out.size))
      have HR1 := hide (HR.out.below hb HR.out.lt)
      have hc1 : w1.cell? ⟨w.heap.size, 2, none⟩ = some (.int .i64 sc) := HR1.out.cell 2
      clear hb
      go_wp2_with fail
      refine (TH.out w1 HB1.out).mono ?_
      rintro e w2 ⟨rfl, hb2⟩
      have HB2 := hide (HB1.out.trans (hb2.mono HB1.out.size))
      clear hb2
      go_wp2
      go_ret
      exact ⟨rfl, HB2.out⟩
end Go.Proofs.Ytpfiofgchkfkhaa

/- Contracts of cmp.Less and of slices.IsSorted at ascending lists. -/
set_option linter.unusedVariables false
set_option linter.unusedSimpArgs false
namespace Go.Proofs.Ytpfiofgchkfkhaa
open Go.RowKit Go.Shelf Go.Maps
theorem less_any (a b : Int) (w : World) : Calls Try.prog 44 #[.int .i64 a, .int .i64 b] w fun e w' => e = .returned (.bool (decide (a < b))) ∧ w = w' := by
  have N := hide isNaN_any
  go_enter Try.func44, Try.ntmps44
  go_wp2_with (go_at_call 66; refine (N.out _ _).mono ?_; rintro e w' ⟨rfl, rfl⟩)
  any_goals first | (rename_i hu hb; exact (undef_bool hu).elim) | skip
  go_ret
  exact ⟨rfl, rfl⟩
set_option maxHeartbeats 2000000 in
theorem IsSorted_true (A : Option Addr) (n cap : Nat) (L : List Int) (w : World) (hn : n = L.length) (hl : L.length ≤ 1000000) (hw : Sl intV w A L) (hs : L.Pairwise (· ≤ ·)) :
    Calls Try.prog 21 #[.slice A n cap] w fun e w' => e = .returned (.bool true) ∧ Below w.heap.size w w' := by
  subst hn
  have Hw := hide hw
  have Hs := hide hs
  have LE := hide less_any
  clear hw hs
  have hw1 : IntKind.i64.wrap ((L.length : Int) - 1) = (L.length : Int) - 1 := IntWalk.i64_in _ (by omega)
  go_enter Try.func21, Try.ntmps21
  go_wp2
  go_loopw [3] (fun v wr => ∃ i : Int, v = .int .i64 i ∧ -1 ≤ i ∧ i < L.length ∧ Below w.heap.size w wr) (fun v _ => (intOf v + 1).toNat)
  case atStart => exact ⟨(L.length : Int) - 1, rfl, by omega, by omega, Below.refl _ _⟩
  case round =>
    obtain ⟨i, rfl, hi0, hi1, hbr⟩ := hrel
    have Hbr := hide hbr
    clear hbr
    by_cases hi : 0 < i
    · obtain ⟨k, rfl⟩ : ∃ k : Nat, i = (k : Int) + 1 := ⟨(i - 1).toNat, by omega⟩
      have h1 : k + 1 < L.length := by omega
      have h2 : k < L.length := by omega
      obtain ⟨b, off, rfl, hbz, hat⟩ := Hw.out.at h1
      obtain ⟨b', off', he, hbz', hat'⟩ := Hw.out.at h2
      cases he
      have hc := hat wr Hbr.out
      have hc' := hat' wr Hbr.out
      have hle : L[k] ≤ L[k + 1] := List.pairwise_iff_getElem.1 Hs.out k (k + 1) h2 h1 (by omega)
      clear hat hat'
      generalize L[k + 1]'h1 = x at hc hle
      generalize L[k]'h2 = y at hc' hle
      have hcx : wr.cell? ⟨b, off + (k + 1), none⟩ = some (.int .i64 x) := hc
      have hcy : wr.cell? ⟨b, off + k, none⟩ = some (.int .i64 y) := hc'
      have hlt : ¬ x < y := by omega
      have hld : decide (x < y) = false := decide_eq_false hlt
      have q1 : (0 : Int) ≤ (k : Int) + 1 := by omega
      have q2 : (k : Int) + 1 < (L.length : Int) := by omega
      have q3 : (k : Int) < (L.length : Int) := by omega
      have q4 : ((k : Int) + 1).toNat = k + 1 := by omega
      have q5 : IntKind.i64.wrap ((k : Int) + 1 - 1) = (k : Int) := (IntWalk.i64_in _ (by omega)).trans (by omega)
      have q6 : IntKind.i64.wrap (k : Int) = (k : Int) := IntWalk.i64_in _ (by omega)
      go_wp2_with fail
      go_quiet (first | (go_at_call 44; exact (LE.out _ _ _).mono (fun e w' h => ⟨h.1, _, h.2.symm⟩)))
      go_wp2
      go_roundw
      case rel => exact ⟨k, by first | rfl | go_num, by omega, by omega, Below_drewN Hbr.out _⟩
      case measure => simp [intOf]; omega
    · have hi2 : i ≤ 0 := by omega
      go_wp2
      go_ret
      exact ⟨rfl, Hbr.out⟩
end Go.Proofs.Ytpfiofgchkfkhaa

/- Contract of Full where there is a path. -/
set_option linter.unusedVariables false
set_option linter.unusedSimpArgs false
namespace Go.Proofs.Ytpfiofgchkfkhaa
open Go.RowKit Go.Shelf Go.Maps
set_option maxRecDepth 20000 in
set_option maxHeartbeats 4000000 in
theorem Full_good {w : World} {scs : List Sc} {A : Option Addr} (cap : Nat) (v : Va) (h : InS w scs A) (hl : scs.length ≤ 100000) (hf : fullOk scs v.scope = true) :
    Calls Try.prog 17 #[.slice A scs.length cap, vaV v] w fun e w' => ∃ u, e = .returned u ∧ w'.ownsRow w.heap.size 9 1 u ((pathH scs v.scope).length + 1) ((pathH scs v.scope).map Value.string ++ [.string v.name]) ∧ Below w.heap.size w w' := by
  have VN := hide (fun W (hb : Below w.heap.size w W) => Valid_none cap (h.below hb))
  have TH := hide (fun W (hb : Below w.heap.size w W) => there_any cap v.scope (h.below hb))
  have hF : fullOk scs v.scope = (validH scs [] && (decide (v.scope = -1) || thereH scs v.scope)) := rfl
  rw [hf] at hF
  have hF' := hF.symm
  rw [Bool.and_eq_true, Bool.or_eq_true, decide_eq_true_eq] at hF'
  obtain ⟨hvalid, hor⟩ := hF'
  have hg := validH_decl hvalid
  have hrange : -1 ≤ v.scope ∧ v.scope < scs.length := by
    rcases hor with e | e
    · rw [e]; omega
    · unfold thereH at e
      rw [Bool.and_eq_true, decide_eq_true_eq] at e
      omega
  have PA := hide (fun W (hb : Below w.heap.size w W) => path_any scs A cap v.scope W hl hg.decl hrange.2 hrange.1 (sc_below h.hs hb) (fun a ha => Nat.lt_of_lt_of_le (h.a a ha) hb.size))
  have hpl : (pathH scs v.scope).length ≤ 100001 := by
    rw [pathH_len]
    have := upF_len scs (v.scope.toNat + 1) v.scope
    show (upF scs (v.scope.toNat + 1) v.scope).length ≤ _
    omega
  rw [hvalid] at VN
  obtain ⟨nm, ty, sc, sg, rg, msb, lsb⟩ := v
  simp only at hF TH PA hpl hor ⊢
  generalize pathH scs sc = P at *
  generalize thereH scs sc = t at *
  generalize scs.length = n at *
  unfold vaV
  clear h hf hF hvalid hg hrange
  have HB0 := hide ((Below.refl w.heap.size w).alloc (Nat.le_refl _) (.cells #[.string nm, .int .i64 ty, .int .i64 sc, .int .i64 sg, .bool rg, .int .i64 msb, .int .i64 lsb] 29))
  have HR := hide (Row.new w 29 #[.string nm, .int .i64 ty, .int .i64 sc, .int .i64 sg, .bool rg, .int .i64 msb, .int .i64 lsb])
  by_cases hsc : sc = -1
  · subst hsc
    go_enter Try.func17, Try.ntmps17
    go_wp2_with fail
    refine (VN.out _ HB0.out).mono ?_
    rintro e w1 ⟨rfl, hb⟩
    have HBA := hide (HB0.out.trans (hb.mono HB0.out.size))
    have HRA := hide (HR.out.below hb HR.out.lt)
    have hc2 : w1.cell? ⟨w.heap.size, 2, none⟩ = some (.int .i64 (-1)) := HRA.out.cell 2
    have hc0 : w1.cell? ⟨w.heap.size, 0, none⟩ = some (.string nm) := HRA.out.cell 0
    clear hb
    go_wp2_with fail
    obtain ⟨iS, hiS, hz0', hz1', hz2'⟩ := info_parts infoStrH
    have HI := hide hiS
    have HZ0 := hide hz0'
    have HZ1 := hide hz1'
    have HZ2 := hide hz2'
    have H1C := hide (show ∀ u ∈ [Value.string nm], u.oneCell' = true by intro u hu; simp only [List.mem_cons, List.not_mem_nil, or_false] at hu; rcases hu with rfl; rfl)
    have HK1 := hide (show P.length + 1 ≤ maxLen by unfold maxLen; omega)
    have HK2 := hide (show (P.length + 1) * 16 ≤ 140737488355328 by omega)
    have hwA := HBA.out.size
    have HwA := hide hwA
    clear hiS hz0' hz1' hz2'
    go_region_held3 (fun w' => w'.cell? ⟨w.heap.size, 2, none⟩ = some (.int .i64 (-1)) ∧ w'.cell? ⟨w.heap.size, 0, none⟩ = some (.string nm)) (go_keep) (first
      | (go_at_call 39; refine (PA.out w1.drew HBA.out.drew).mono ?_; rintro e w5 ⟨v1, rfl, ho5, hb5⟩; obtain ⟨A1, cp1, rfl⟩ := ownH_sl ho5; have hd0 : w5.cell? ⟨w.heap.size, 0, none⟩ = some (.string nm) := (hb5.cell (p := ⟨w.heap.size, 0, none⟩) HRA.out.lt).trans hc0; have hd2 : w5.cell? ⟨w.heap.size, 2, none⟩ = some (.int .i64 (-1)) := (hb5.cell (p := ⟨w.heap.size, 2, none⟩) HRA.out.lt).trans hc2; have HX5 := hide (show (Value.slice A1 P.length cp1).ownBlock ≠ some w.heap.size from fun e => Nat.not_lt.2 (ho5.lt _ e).1 HRA.out.lt); have Ho5 := hide (ownsRow_mono ho5 hwA); have Hb5 := hide (HBA.out.drew.trans (hb5.mono HBA.out.size)); clear ho5 hb5)
      | (go_at_call 39; refine (PA.out (w1.drew.alloc (.cells #[.string nm] 9)) (HBA.out.drew.alloc HBA.out.size _)).mono ?_; rintro e w5 ⟨v1, rfl, ho5, hb5⟩; obtain ⟨A1, cp1, rfl⟩ := ownH_sl ho5; have hd0 : w5.cell? ⟨w.heap.size, 0, none⟩ = some (.string nm) := (hb5.cell (p := ⟨w.heap.size, 0, none⟩) (by rw [World.size_alloc]; exact Nat.lt_succ_of_lt HRA.out.lt)).trans ((HRA.out.alloc _).cell 0); have hd2 : w5.cell? ⟨w.heap.size, 2, none⟩ = some (.int .i64 (-1)) := (hb5.cell (p := ⟨w.heap.size, 2, none⟩) (by rw [World.size_alloc]; exact Nat.lt_succ_of_lt HRA.out.lt)).trans ((HRA.out.alloc _).cell 2); have HX5 := hide (show (Value.slice A1 P.length cp1).ownBlock ≠ some w.heap.size from fun e => Nat.not_lt.2 (ho5.lt _ e).1 (by rw [World.size_alloc]; exact Nat.lt_succ_of_lt HRA.out.lt)); have Ho5 := hide (ownsRow_mono ho5 (Nat.le_trans hwA (by rw [World.size_alloc]; exact Nat.le_succ _))); have Hb5 := hide ((HBA.out.drew.alloc HBA.out.size (.cells #[.string nm] 9)).trans (hb5.mono (Nat.le_trans hwA (by rw [World.size_alloc]; exact Nat.le_succ _)))); have Hn5 := hide ((Row.new w1.drew 9 #[.string nm]).below hb5 (by rw [World.size_alloc]; exact Nat.lt_succ_self _)); clear ho5 hb5)
      | (refine step_append_lies _ rfl _ _ 37 rfl w.heap.size 9 iS _ 1 16 Try.underlying37 HI.out HZ0.out HZ1.out HZ2.out rfl (by decide) (.slice A1 P.length cp1) P.length (P.map Value.string) rfl (Ho5.out.alloc _) ⟨w5.heap.size, 0, none⟩ 1 1 [.string nm] rfl rfl (cells_new _ _ rfl) H1C.out (by decide) HK1.out HK2.out (Nat.le_trans Hb5.out.size (by rw [World.size_alloc]; exact Nat.le_succ _)) _ rfl ?_; intro g6 cap6 w6 hown6 hgrow6 hat6 hlt6; have hk0 : w6.cell? ⟨w.heap.size, 0, none⟩ = some (.string nm) := (hgrow6.cell_far ⟨w.heap.size, 0, none⟩ (by rw [World.size_alloc]; exact Nat.lt_succ_of_lt (World.block_lt_of_cell? w5 _ hd0)) (fun e => HX5.out e.symm)).trans ((((Below.refl w5.heap.size w5).alloc (Nat.le_refl _) _).cell (p := ⟨w.heap.size, 0, none⟩) (World.block_lt_of_cell? w5 _ hd0)).trans hd0); have hk2 : w6.cell? ⟨w.heap.size, 2, none⟩ = some (.int .i64 (-1)) := (hgrow6.cell_far ⟨w.heap.size, 2, none⟩ (by rw [World.size_alloc]; exact Nat.lt_succ_of_lt (World.block_lt_of_cell? w5 _ hd2)) (fun e => HX5.out e.symm)).trans ((((Below.refl w5.heap.size w5).alloc (Nat.le_refl _) _).cell (p := ⟨w.heap.size, 2, none⟩) (World.block_lt_of_cell? w5 _ hd2)).trans hd2); have HF := hide (show w6.ownsRow w.heap.size 9 1 (.slice (some ⟨g6, 0, none⟩) (P.length + 1) cap6) (P.length + 1) (P.map Value.string ++ [.string nm]) ∧ Below w.heap.size w w6 from ⟨hown6, (Hb5.out.alloc Hb5.out.size _).grown hgrow6 (Nat.le_trans Hb5.out.size (by rw [World.size_alloc]; exact Nat.le_succ _)) (fun j hj => (World.ownsRow.lt (Ho5.out.alloc (.cells #[.string nm] 9)) j hj).1)⟩); clear hown6 hgrow6 hat6 hlt6)
      | (refine step_append_lies _ rfl _ _ 37 rfl w.heap.size 9 iS _ 1 16 Try.underlying37 HI.out HZ0.out HZ1.out HZ2.out rfl (by decide) (.slice A1 P.length cp1) P.length (P.map Value.string) rfl Ho5.out ⟨w1.heap.size, 0, none⟩ 1 1 [.string nm] rfl rfl (World.news_of_block (cs := #[.string nm]) (t := 9) (fr := (0, 0)) Hn5.out) H1C.out (by decide) HK1.out HK2.out Hb5.out.size _ rfl ?_; intro g6 cap6 w6 hown6 hgrow6 hat6 hlt6; have hk0 : w6.cell? ⟨w.heap.size, 0, none⟩ = some (.string nm) := (hgrow6.cell_far ⟨w.heap.size, 0, none⟩ (World.block_lt_of_cell? w5 _ hd0) (fun e => HX5.out e.symm)).trans hd0; have hk2 : w6.cell? ⟨w.heap.size, 2, none⟩ = some (.int .i64 (-1)) := (hgrow6.cell_far ⟨w.heap.size, 2, none⟩ (World.block_lt_of_cell? w5 _ hd2) (fun e => HX5.out e.symm)).trans hd2; have HF := hide (show w6.ownsRow w.heap.size 9 1 (.slice (some ⟨g6, 0, none⟩) (P.length + 1) cap6) (P.length + 1) (P.map Value.string ++ [.string nm]) ∧ Below w.heap.size w w6 from ⟨hown6, Hb5.out.grown hgrow6 Hb5.out.size (fun j hj => (World.ownsRow.lt Ho5.out j hj).1)⟩); clear hown6 hgrow6 hat6 hlt6))
    all_goals
      go_wp2
      go_ret
      exact ⟨_, rfl, HF.out.1, HF.out.2⟩
  · have e1 : (sc == -1) = false := beq_eq_false_iff_ne.2 hsc
    obtain rfl : t = true := by rcases hor with e | e; exact absurd e hsc; exact e
    go_enter Try.func17, Try.ntmps17
    go_wp2_with fail
    refine (VN.out _ HB0.out).mono ?_
    rintro e w1 ⟨rfl, hb⟩
    have HB1 := hide (HB0.out.trans (hb.mono HB0.out.size))
    have HR1 := hide (HR.out.below hb HR.out.lt)
    have hc1 : w1.cell? ⟨w.heap.size, 2, none⟩ = some (.int .i64 sc) := HR1.out.cell 2
    clear hb
    go_wp2_with fail
    refine (TH.out w1 HB1.out).mono ?_
    rintro e w2 ⟨rfl, hb2⟩
    have HBA := hide (HB1.out.trans (hb2.mono HB1.out.size))
    have HRA := hide (HR1.out.below hb2 HR1.out.lt)
    have hc2 : w2.cell? ⟨w.heap.size, 2, none⟩ = some (.int .i64 sc) := HRA.out.cell 2
    have hc0 : w2.cell? ⟨w.heap.size, 0, none⟩ = some (.string nm) := HRA.out.cell 0
    clear hb2 hc1
    go_wp2_with fail
    obtain ⟨iS, hiS, hz0', hz1', hz2'⟩ := info_parts infoStrH
    have HI := hide hiS
    have HZ0 := hide hz0'
    have HZ1 := hide hz1'
    have HZ2 := hide hz2'
    have H1C := hide (show ∀ u ∈ [Value.string nm], u.oneCell' = true by intro u hu; simp only [List.mem_cons, List.not_mem_nil, or_false] at hu; rcases hu with rfl; rfl)
    have HK1 := hide (show P.length + 1 ≤ maxLen by unfold maxLen; omega)
    have HK2 := hide (show (P.length + 1) * 16 ≤ 140737488355328 by omega)
    have hwA := HBA.out.size
    have HwA := hide hwA
    clear hiS hz0' hz1' hz2'
    go_region_held3 (fun w' => w'.cell? ⟨w.heap.size, 2, none⟩ = some (.int .i64 (sc)) ∧ w'.cell? ⟨w.heap.size, 0, none⟩ = some (.string nm)) (go_keep) (first
      | (go_at_call 39; refine (PA.out w2.drew HBA.out.drew).mono ?_; rintro e w5 ⟨v1, rfl, ho5, hb5⟩; obtain ⟨A1, cp1, rfl⟩ := ownH_sl ho5; have hd0 : w5.cell? ⟨w.heap.size, 0, none⟩ = some (.string nm) := (hb5.cell (p := ⟨w.heap.size, 0, none⟩) HRA.out.lt).trans hc0; have hd2 : w5.cell? ⟨w.heap.size, 2, none⟩ = some (.int .i64 (sc)) := (hb5.cell (p := ⟨w.heap.size, 2, none⟩) HRA.out.lt).trans hc2; have HX5 := hide (show (Value.slice A1 P.length cp1).ownBlock ≠ some w.heap.size from fun e => Nat.not_lt.2 (ho5.lt _ e).1 HRA.out.lt); have Ho5 := hide (ownsRow_mono ho5 hwA); have Hb5 := hide (HBA.out.drew.trans (hb5.mono HBA.out.size)); clear ho5 hb5)
      | (go_at_call 39; refine (PA.out (w2.drew.alloc (.cells #[.string nm] 9)) (HBA.out.drew.alloc HBA.out.size _)).mono ?_; rintro e w5 ⟨v1, rfl, ho5, hb5⟩; obtain ⟨A1, cp1, rfl⟩ := ownH_sl ho5; have hd0 : w5.cell? ⟨w.heap.size, 0, none⟩ = some (.string nm) := (hb5.cell (p := ⟨w.heap.size, 0, none⟩) (by rw [World.size_alloc]; exact Nat.lt_succ_of_lt HRA.out.lt)).trans ((HRA.out.alloc _).cell 0); have hd2 : w5.cell? ⟨w.heap.size, 2, none⟩ = some (.int .i64 (sc)) := (hb5.cell (p := ⟨w.heap.size, 2, none⟩) (by rw [World.size_alloc]; exact Nat.lt_succ_of_lt HRA.out.lt)).trans ((HRA.out.alloc _).cell 2); have HX5 := hide (show (Value.slice A1 P.length cp1).ownBlock ≠ some w.heap.size from fun e => Nat.not_lt.2 (ho5.lt _ e).1 (by rw [World.size_alloc]; exact Nat.lt_succ_of_lt HRA.out.lt)); have Ho5 := hide (ownsRow_mono ho5 (Nat.le_trans hwA (by rw [World.size_alloc]; exact Nat.le_succ _))); have Hb5 := hide ((HBA.out.drew.alloc HBA.out.size (.cells #[.string nm] 9)).trans (hb5.mono (Nat.le_trans hwA (by rw [World.size_alloc]; exact Nat.le_succ _)))); have Hn5 := hide ((Row.new w2.drew 9 #[.string nm]).below hb5 (by rw [World.size_alloc]; exact Nat.lt_succ_self _)); clear ho5 hb5)
      | (refine step_append_lies _ rfl _ _ 37 rfl w.heap.size 9 iS _ 1 16 Try.underlying37 HI.out HZ0.out HZ1.out HZ2.out rfl (by decide) (.slice A1 P.length cp1) P.length (P.map Value.string) rfl (Ho5.out.alloc _) ⟨w5.heap.size, 0, none⟩ 1 1 [.string nm] rfl rfl (cells_new _ _ rfl) H1C.out (by decide) HK1.out HK2.out (Nat.le_trans Hb5.out.size (by rw [World.size_alloc]; exact Nat.le_succ _)) _ rfl ?_; intro g6 cap6 w6 hown6 hgrow6 hat6 hlt6; have hk0 : w6.cell? ⟨w.heap.size, 0, none⟩ = some (.string nm) := (hgrow6.cell_far ⟨w.heap.size, 0, none⟩ (by rw [World.size_alloc]; exact Nat.lt_succ_of_lt (World.block_lt_of_cell? w5 _ hd0)) (fun e => HX5.out e.symm)).trans ((((Below.refl w5.heap.size w5).alloc (Nat.le_refl _) _).cell (p := ⟨w.heap.size, 0, none⟩) (World.block_lt_of_cell? w5 _ hd0)).trans hd0); have hk2 : w6.cell? ⟨w.heap.size, 2, none⟩ = some (.int .i64 (sc)) := (hgrow6.cell_far ⟨w.heap.size, 2, none⟩ (by rw [World.size_alloc]; exact Nat.lt_succ_of_lt (World.block_lt_of_cell? w5 _ hd2)) (fun e => HX5.out e.symm)).trans ((((Below.refl w5.heap.size w5).alloc (Nat.le_refl _) _).cell (p := ⟨w.heap.size, 2, none⟩) (World.block_lt_of_cell? w5 _ hd2)).trans hd2); have HF := hide (show w6.ownsRow w.heap.size 9 1 (.slice (some ⟨g6, 0, none⟩) (P.length + 1) cap6) (P.length + 1) (P.map Value.string ++ [.string nm]) ∧ Below w.heap.size w w6 from ⟨hown6, (Hb5.out.alloc Hb5.out.size _).grown hgrow6 (Nat.le_trans Hb5.out.size (by rw [World.size_alloc]; exact Nat.le_succ _)) (fun j hj => (World.ownsRow.lt (Ho5.out.alloc (.cells #[.string nm] 9)) j hj).1)⟩); clear hown6 hgrow6 hat6 hlt6)
      | (refine step_append_lies _ rfl _ _ 37 rfl w.heap.size 9 iS _ 1 16 Try.underlying37 HI.out HZ0.out HZ1.out HZ2.out rfl (by decide) (.slice A1 P.length cp1) P.length (P.map Value.string) rfl Ho5.out ⟨w2.heap.size, 0, none⟩ 1 1 [.string nm] rfl rfl (World.news_of_block (cs := #[.string nm]) (t := 9) (fr := (0, 0)) Hn5.out) H1C.out (by decide) HK1.out HK2.out Hb5.out.size _ rfl ?_; intro g6 cap6 w6 hown6 hgrow6 hat6 hlt6; have hk0 : w6.cell? ⟨w.heap.size, 0, none⟩ = some (.string nm) := (hgrow6.cell_far ⟨w.heap.size, 0, none⟩ (World.block_lt_of_cell? w5 _ hd0) (fun e => HX5.out e.symm)).trans hd0; have hk2 : w6.cell? ⟨w.heap.size, 2, none⟩ = some (.int .i64 (sc)) := (hgrow6.cell_far ⟨w.heap.size, 2, none⟩ (World.block_lt_of_cell? w5 _ hd2) (fun e => HX5.out e.symm)).trans hd2; have HF := hide (show w6.ownsRow w.heap.size 9 1 (.slice (some ⟨g6, 0, none⟩) (P.length + 1) cap6) (P.length + 1) (P.map Value.string ++ [.string nm]) ∧ Below w.heap.size w w6 from ⟨hown6, Hb5.out.grown hgrow6 Hb5.out.size (fun j hj => (World.ownsRow.lt Ho5.out j hj).1)⟩); clear hown6 hgrow6 hat6 hlt6))
    all_goals
      go_wp2
      go_ret
      exact ⟨_, rfl, HF.out.1, HF.out.2⟩
end Go.Proofs.Ytpfiofgchkfkhaa
