/- Contracts of the functions that a kind holds, by the kind's number. -/
import Derived.Test.YtpjikbfeegncbaaGreatDoorVaM
set_option linter.unusedVariables false
set_option linter.unusedSimpArgs false
namespace Go.Proofs.YtpjikbfeegncbaaGreatDoor
open Go.RowKit Go.Shelf Go.Sort

def validF (k : Nat) : Nat := match k with
  | 0 => 78 | 1 => 83 | 2 => 89 | _ => 93
def initF (k : Nat) : Nat := match k with
  | 0 => 79 | _ => 112
def parseF (k : Nat) : Nat := match k with
  | 0 => 81 | 1 => 86 | 2 => 90 | _ => 94
def formatF (k : Nat) : Nat := match k with
  | 0 => 82 | 1 => 88 | 2 => 92 | _ => 95
def capt (k p : Nat) : Array Value := match k with
  | 0 => #[] | _ => #[.pointer (some ⟨p, 0, none⟩)]
def loK (k : Nat) : Int := match k with | 0 => 1 | _ => 0
def hiK (k : Nat) : Int := match k with | 0 => 128 | _ => 0
def letK (k : Nat) : ByteArray := match k with | 0 => ⟨#[98]⟩ | 1 => ⟨#[114]⟩ | 2 => ⟨#[115]⟩ | _ => ⟨#[]⟩
theorem kindA_eq (k p : Nat) : kindA k p = #[.int .i64 (loK k), .int .i64 (hiK k), .func (.func (validF k)) #[] #[], .func (.func (initF k)) #[] (capt k p), .func (.func (parseF k)) #[] #[], .func (.func (formatF k)) #[] #[], .string (letK k)] := by
  match k with
  | 0 => rfl
  | 1 => rfl
  | 2 => rfl
  | _ + 3 => rfl

/-- is it a value of the kind -/
def validK (k : Nat) (wd : Int) (l : List UInt8) : Bool := match k with
  | 0 => valV wd l | 1 => canV l | 2 => decide (l.length ≤ 64) | _ => decide (l = [])
def formatK (k : Nat) (l : List UInt8) : List UInt8 := match k with
  | 0 => if isV l then shortV l else [] | 1 => l | 2 => quoteL l | _ => [49]
def parseK (k : Nat) (wd : Int) (l : List UInt8) : ByteArray × Int := match k with
  | 0 => (bsV (bitsV wd l).1, (bitsV wd l).2) | 1 => parseV 100000 l | 2 => unqRes l | _ => (⟨#[]⟩, if l.length = 1 ∧ l.all dgB = true then 0 else 3)
def initK (k : Nat) (wd : Int) : ByteArray := match k with
  | 0 => bsV (allV wd 120) | 1 => ⟨#[48]⟩ | _ => ⟨#[]⟩

set_option maxHeartbeats 4000000 in
theorem validK_any (k : Nat) (wd : Int) (l : List UInt8) (w : World) (hz : l.length ≤ 1000000) (hg : Gl w) :
    Calls Tryz.prog (validF k) #[.int .i64 wd, .string (bsV l)] w fun e w' => e = .returned (.bool (validK k wd l)) ∧ Below w.heap.size w w' := by
  match k with
  | 0 => exact bvValid_any wd (bsV l) w (by rw [bs_size]; exact hz)
  | 1 =>
    have D := hide (decValid_any l w hz hg)
    clear hg
    show Calls Tryz.prog 83 _ _ _
    unfold validK
    go_enter Tryz.func83, Tryz.ntmps83
    go_wp2_with fail
    refine D.out.mono ?_
    rintro e wx ⟨rfl, hb⟩
    have Hb := hide hb
    clear hb
    go_wp2
    go_ret
    exact ⟨rfl, Hb.out⟩
  | 2 =>
    have hs := bs_size l
    show Calls Tryz.prog 89 _ _ _
    unfold validK
    go_enter Tryz.func89, Tryz.ntmps89
    go_wp2
    go_ret
    refine ⟨ret_b ?_, Below.refl _ _⟩
    rw [Bool.eq_iff_iff]; simp [hs]; try omega
  | _ + 3 =>
    show Calls Tryz.prog 93 _ _ _
    unfold validK
    have hb : decide (l = []) = (bsV l).toList.isEmpty := by
      cases l with
      | nil => exact (show true = (⟨#[]⟩ : ByteArray).toList.isEmpty by decide +kernel)
      | cons c t => rw [(toList_ne (s := bsV (c :: t)) (by rw [bs_size]; simp)).2]; rfl
    go_enter Tryz.func93, Tryz.ntmps93
    go_wp2
    go_ret
    exact ⟨ret_b hb, Below.refl _ _⟩

set_option maxHeartbeats 4000000 in
theorem formatK_any (k : Nat) (l : List UInt8) (w : World) (hz : l.length ≤ 1000000) :
    Calls Tryz.prog (formatF k) #[.string (bsV l)] w fun e w' => e = .returned (.string (bsV (formatK k l))) ∧ Below w.heap.size w w' := by
  match k with
  | 0 => exact bvShorten_any l w hz
  | 1 =>
    show Calls Tryz.prog 88 _ _ _
    unfold formatK
    go_enter Tryz.func88, Tryz.ntmps88
    go_wp2
    go_ret
    exact ⟨rfl, Below.refl _ _⟩
  | 2 => exact Quote_any (bsV l) w (by rw [bs_size]; omega)
  | _ + 3 =>
    show Calls Tryz.prog 95 _ _ _
    unfold formatK
    go_enter Tryz.func95, Tryz.ntmps95
    go_wp2
    go_ret
    exact ⟨rfl, Below.refl _ _⟩

set_option maxHeartbeats 4000000 in
theorem parseK_any (k : Nat) (wd : Int) (l : List UInt8) (w : World) (hz : l.length ≤ 1000000) (hg : Gl w) (hk : okW k wd = true) :
    Calls Tryz.prog (parseF k) #[.int .i64 wd, .string (bsV l)] w fun e w' => e = .returned (.tuple #[.string (parseK k wd l).1, .int .i64 (parseK k wd l).2]) ∧ Below w.heap.size w w' := by
  match k with
  | 0 =>
    have h : 1 ≤ wd ∧ wd ≤ 128 := of_decide_eq_true (by unfold okW at hk; exact hk)
    exact parseBits_any wd l w hz h.1 h.2
  | 1 =>
    have D := hide (decParse_any l w hz hg)
    clear hg hk
    show Calls Tryz.prog 86 _ _ _
    unfold parseK
    generalize parseV 100000 l = R at *
    obtain ⟨r1, r2⟩ := R
    go_enter Tryz.func86, Tryz.ntmps86
    go_wp2_with fail
    refine D.out.mono ?_
    rintro e wx ⟨rfl, hb⟩
    have Hb := hide hb
    clear hb
    go_wp2
    go_ret2
    exact ⟨rfl, Hb.out⟩
  | 2 =>
    have D := hide (Unquote_any (bsV l) w (by rw [bs_size]; omega))
    rw [bsV_list] at D
    clear hg hk
    show Calls Tryz.prog 90 _ _ _
    unfold parseK
    generalize unqRes l = R at *
    obtain ⟨r1, r2⟩ := R
    go_enter Tryz.func90, Tryz.ntmps90
    go_wp2_with fail
    refine D.out.mono ?_
    rintro e wx ⟨rfl, hb⟩
    have Hb := hide hb
    clear hb
    go_wp2
    go_ret2
    exact ⟨rfl, Hb.out⟩
  | _ + 3 => exact parseEvent_any wd l w hz

set_option maxHeartbeats 4000000 in
theorem initK_any (k p : Nat) (wd : Int) (w : World) (h : Row w p 9 #[.string (kindS k)]) :
    Calls Tryz.prog (initF k) (#[.int .i64 wd] ++ capt k p) w fun e w' => e = .returned (.string (initK k wd)) ∧ Below w.heap.size w w' := by
  match k with
  | 0 =>
    have D := hide (bvAll_any wd 120 w)
    clear h
    show Calls Tryz.prog 79 #[.int .i64 wd] _ _
    unfold initK
    go_enter Tryz.func79, Tryz.ntmps79
    go_wp2_with fail
    refine D.out.mono ?_
    rintro e wx ⟨rfl, hb⟩
    have Hb := hide hb
    clear hb
    go_wp2
    go_ret
    exact ⟨rfl, Hb.out⟩
  | 1 => exact (sameCall_any wd p _ w (h.cell 0)).mono fun e w' ⟨h1, h2⟩ => ⟨h1, h2 ▸ Below.refl _ _⟩
  | _ + 2 => exact (sameCall_any wd p _ w (h.cell 0)).mono fun e w' ⟨h1, h2⟩ => ⟨h1.trans (by unfold kindS initK; simp), h2 ▸ Below.refl _ _⟩

theorem enter_of {P : Program} {f : FuncId} {fn : Func} (hf : P.funcs[f]? = some fn) (hname : (fn.name == "runtime.NumGoroutine") = false) (hb : fn.body.isNone = false) (args : Array Value) (w : World) :
    (callFunc f args).run P w = .ok (.enter f args) w := by
  cases hc : fn.body with
  | none => rw [hc] at hb; cases hb
  | some c =>
    have h1 : fn.name ≠ "runtime.NumGoroutine" := by simpa using hname
    simp [callFunc, go_sem, hf, h1, hc]
theorem validF_run (k : Nat) (args : Array Value) (W : World) : (callFunc (validF k) args).run Tryz.prog W = .ok (.enter (validF k) args) W := by
  match k with
  | 0 => exact enter_of Tryz.func78 (by kernel_rfl) (by kernel_rfl) args W
  | 1 => exact enter_of Tryz.func83 (by kernel_rfl) (by kernel_rfl) args W
  | 2 => exact enter_of Tryz.func89 (by kernel_rfl) (by kernel_rfl) args W
  | _ + 3 => exact enter_of Tryz.func93 (by kernel_rfl) (by kernel_rfl) args W
theorem initF_run (k : Nat) (args : Array Value) (W : World) : (callFunc (initF k) args).run Tryz.prog W = .ok (.enter (initF k) args) W := by
  match k with
  | 0 => exact enter_of Tryz.func79 (by kernel_rfl) (by kernel_rfl) args W
  | _ + 1 => exact enter_of Tryz.func112 (by kernel_rfl) (by kernel_rfl) args W
theorem parseF_run (k : Nat) (args : Array Value) (W : World) : (callFunc (parseF k) args).run Tryz.prog W = .ok (.enter (parseF k) args) W := by
  match k with
  | 0 => exact enter_of Tryz.func81 (by kernel_rfl) (by kernel_rfl) args W
  | 1 => exact enter_of Tryz.func86 (by kernel_rfl) (by kernel_rfl) args W
  | 2 => exact enter_of Tryz.func90 (by kernel_rfl) (by kernel_rfl) args W
  | _ + 3 => exact enter_of Tryz.func94 (by kernel_rfl) (by kernel_rfl) args W
theorem formatF_run (k : Nat) (args : Array Value) (W : World) : (callFunc (formatF k) args).run Tryz.prog W = .ok (.enter (formatF k) args) W := by
  match k with
  | 0 => exact enter_of Tryz.func82 (by kernel_rfl) (by kernel_rfl) args W
  | 1 => exact enter_of Tryz.func88 (by kernel_rfl) (by kernel_rfl) args W
  | 2 => exact enter_of Tryz.func92 (by kernel_rfl) (by kernel_rfl) args W
  | _ + 3 => exact enter_of Tryz.func95 (by kernel_rfl) (by kernel_rfl) args W
theorem of_kind (n wd : Int) (w : World) :
    Calls Tryz.prog 29 #[.int .i64 n, .int .i64 wd] w fun e w' => Below w.heap.size w w' ∧ ((∃ (k p : Nat), n = (k : Int) ∧ k < 4 ∧
      e = .returned (.tuple #[.agg #[.int .i64 (loK k), .int .i64 (hiK k), .func (.func (validF k)) #[] #[], .func (.func (initF k)) #[] (capt k p), .func (.func (parseF k)) #[] #[], .func (.func (formatF k)) #[] #[], .string (letK k)], .bool (okW k wd)]) ∧ Row w' p 9 #[.string (kindS k)] ∧ w.heap.size ≤ p) ∨
      ((n < 0 ∨ 4 ≤ n) ∧ e = .returned (.tuple #[.agg #[.int .i64 0, .int .i64 0, .nilFunc, .nilFunc, .nilFunc, .nilFunc, .string ⟨#[]⟩], .bool false]))) :=
  (of_any n wd w).mono fun e w' ⟨hb, h⟩ => ⟨hb, h.elim (fun ⟨k, p, h1, h2, h3, h4, h5⟩ => .inl ⟨k, p, h1, h2, h3.trans (by rw [kindA_eq]), h4, h5⟩) .inr⟩
end Go.Proofs.YtpjikbfeegncbaaGreatDoor
