/- MgC: the texts TsJ Card Gl Dec VaP VaQ QuP QuA QuB QuC QuD QuE QuF VaA VaB VaC VaD VaE VaF VaG VaH VaI in one. -/
import Derived.Lib.Atoi
import Derived.Lib.ItoaMem
import Derived.HandedShaped
import Derived.Stop.LaidErr
import Derived.Test.YtjlpekjfmgcbdaaGreatDoorProg
import Derived.Lib.LaidTab
import Derived.Lib.ItoaNum
import Derived.Shelf.Vars
import Derived.MakeChecks
import Derived.Below
import Derived.Test.YtjlpekjfmgcbdaaGreatDoorMgA
import Derived.Test.YtjlpekjfmgcbdaaGreatDoorShelfD
import Derived.Lib.QuietBelow
import Derived.Lib.ItoaLen
import Derived.IntWalk
import Derived.Lib.AppendStr
import Derived.Laws.RangeAny
import Derived.Test.YtjlpekjfmgcbdaaGreatDoorShelfQ
import Derived.Lib.IndexBytes
import Derived.Laws.Runes
import Derived.WalkMore
import Derived.Deep.QuietTactic
import Derived.BigQuiet
import Derived.Lib.ConvBytes
import Derived.Deep.RegionHeld3
import Derived.Deep.DeepCutAuto
import Derived.Laws.Rows
import Derived.Lib.Split
import Derived.Laws.ResultCell
/- Plain: the digits at the beginning of a text. -/
set_option linter.unusedVariables false
namespace Go.Proofs.YtjlpekjfmgcbdaaGreatDoor
open Go

def isD (b : UInt8) : Bool := decide (48 ≤ b.toNat ∧ b.toNat ≤ 57)
/-- how many digits a text begins with -/
def nd (l : List UInt8) : Nat := (l.takeWhile isD).length
theorem nd_le (l : List UInt8) : nd l ≤ l.length := by
  unfold nd
  induction l with
  | nil => exact Nat.le_refl _
  | cons a t ih => rw [List.takeWhile_cons]; split <;> simp <;> omega
theorem nd_in (l : List UInt8) : ∀ (j : Nat) (h : j < l.length), j < nd l → isD l[j] = true := by
  unfold nd
  induction l with
  | nil => intro j h; simp at h
  | cons a t ih =>
    intro j h hj
    rw [List.takeWhile_cons] at hj
    cases ha : isD a with
    | false => rw [ha] at hj; simp at hj
    | true =>
      rw [ha] at hj
      rcases j with _ | j
      · exact ha
      · exact ih j (by simpa using h) (by simpa using hj)
theorem nd_end (l : List UInt8) (h : nd l < l.length) : isD l[nd l] = false := by
  unfold nd at h ⊢
  induction l with
  | nil => simp at h
  | cons a t ih =>
    cases ha : isD a with
    | false => simp [ha]
    | true =>
      have h' : (t.takeWhile isD).length < t.length := by simpa [List.takeWhile_cons, ha] using h
      simpa [ha] using ih h'
/-- the number that digits spell -/
def dv (l : List UInt8) : Nat := l.foldl (fun a b => 10 * a + (b.toNat - 48)) 0
theorem dv_snoc (l : List UInt8) (b : UInt8) : dv (l ++ [b]) = 10 * dv l + (b.toNat - 48) := by
  unfold dv; rw [List.foldl_append]; rfl
theorem take_snocL (l : List UInt8) (k : Nat) (h : k < l.length) : l.take (k + 1) = l.take k ++ [l[k]] := by
  rw [List.take_succ_eq_append_getElem h]
theorem dv_take (l : List UInt8) (k : Nat) (h : k < l.length) : dv (l.take (k + 1)) = 10 * dv (l.take k) + (l[k].toNat - 48) := by
  rw [take_snocL l k h, dv_snoc]
theorem dv_lt (l : List UInt8) (k : Nat) : (∀ j (h : j < l.length), j < k → isD l[j] = true) → k ≤ l.length → dv (l.take k) < 10 ^ k := by
  induction k with
  | zero => intro _ _; show 0 < _; decide
  | succ k ih =>
    intro hd hk
    have h1 := ih (fun j h hj => hd j h (by omega)) (by omega)
    have h2 := hd k (by omega) (by omega)
    rw [dv_take l k (by omega), Nat.pow_succ]
    simp only [isD, decide_eq_true_eq] at h2
    omega
theorem digit_of {b : UInt8} (h : isD b = true) : Lib.digitVal b = some (b.toNat - 48) := by
  simp only [isD, decide_eq_true_eq] at h
  unfold Lib.digitVal
  rw [if_pos (by first | exact h | simpa using h)]
theorem decFrom_dv (l : List UInt8) (k : Nat) : (∀ j (h : j < l.length), j < k → isD l[j] = true) → k ≤ l.length → Lib.decFrom 0 (l.take k) = some (dv (l.take k)) := by
  induction k with
  | zero => intro _ _; rfl
  | succ k ih =>
    intro hd hk
    have h1 := ih (fun j h hj => hd j h (by omega)) (by omega)
    have h2 := hd k (by omega) (by omega)
    rw [Lib.decFrom_take l k 0 _ l[k] _ h1 (List.getElem?_eq_getElem (by omega)) (digit_of h2), dv_take l k (by omega), Nat.mul_comm]
theorem atoi_dv (l : List UInt8) (k : Nat) (hd : ∀ j (h : j < l.length), j < k → isD l[j] = true) (hk : k ≤ l.length) (h1 : 1 ≤ k) : Lib.atoi (l.take k) = some ((dv (l.take k) : Nat) : Int) := by
  have hf := decFrom_dv l k hd hk
  rcases l with _ | ⟨b, t⟩
  · simp at hk; omega
  · obtain ⟨k', rfl⟩ : ∃ k', k = k' + 1 := ⟨k - 1, by omega⟩
    have hb := hd 0 (by simp) (by omega)
    simp only [isD, decide_eq_true_eq, List.getElem_cons_zero] at hb
    rw [List.take_succ_cons] at hf ⊢
    have n1 : (b == 45) = false := beq_eq_false_iff_ne.2 (fun e => by subst e; simp at hb)
    have n2 : (b == 43) = false := beq_eq_false_iff_ne.2 (fun e => by subst e; simp at hb)
    unfold Lib.atoi
    simp only [n1, n2, Bool.false_eq_true, if_false]
    unfold Lib.decNat
    first | (rw [hf]; rfl) | (simp [hf])
/-- digits spell themselves, if there is no zero ahead -/
theorem dec_self' (n : Nat) : ∀ (l : List UInt8) (hn : l.length = n) (hd : ∀ j (h : j < l.length), isD l[j] = true) (h1 : 1 ≤ l.length) (hz : ∀ h : 0 < l.length, l[0] ≠ 48 ∨ l.length = 1), Lib.decDigits (dv l) = l := by
  induction n with
  | zero => intro l hn _ h; omega
  | succ n ih =>
    intro l hn hd h1 hz
    obtain ⟨t, b, rfl⟩ : ∃ t b, l = t ++ [b] := ⟨l.dropLast, l.getLast (by intro e; subst e; simp at hn), (List.dropLast_concat_getLast _).symm⟩
    have hb := hd t.length (by simp)
    simp only [List.getElem_append_right (Nat.le_refl _), Nat.sub_self, List.getElem_cons_zero, isD, decide_eq_true_eq] at hb
    have hu : UInt8.ofNat (48 + (b.toNat - 48)) = b := by
      apply UInt8.toNat_inj.1
      rw [UInt8.toNat_ofNat', Nat.mod_eq_of_lt (by omega)]; omega
    rw [dv_snoc]
    have hl : t.length = n := by simpa using hn
    rcases Nat.eq_zero_or_pos n with h0 | h0
    · obtain rfl : t = [] := List.eq_nil_of_length_eq_zero (by omega)
      show Lib.decDigits (10 * 0 + _) = _
      rw [Lib.decDigits, dif_pos (by omega), show 48 + (10 * 0 + (b.toNat - 48)) = 48 + (b.toNat - 48) by omega, hu]; rfl
    · have hz0 := hz (by omega)
      have ht : ∀ j (h : j < t.length), isD t[j] = true := fun j h => by
        have := hd j (by simp; omega)
        rwa [List.getElem_append_left h] at this
      have hne : t[0]'(by omega) ≠ 48 := by
        have := hz (by simp)
        rw [List.getElem_append_left (by omega)] at this
        rcases this with h | h
        · exact h
        · simp only [List.length_append, List.length_cons, List.length_nil] at h; omega
      have hi := ih t hl ht (by omega) (fun h => .inl hne)
      have hpos : 1 ≤ dv t := by
        rcases Nat.eq_zero_or_pos (dv t) with h | h
        · exfalso
          rw [h, Lib.decDigits, dif_pos (by decide)] at hi
          have : t[0]'(by omega) = 48 := by
            have e : t = [48] := hi.symm
            simp [e]
          exact hne this
        · exact h
      rw [Lib.decDigits, dif_neg (by omega), show (10 * dv t + (b.toNat - 48)) / 10 = dv t by omega, show (10 * dv t + (b.toNat - 48)) % 10 = b.toNat - 48 by omega, hi, hu]
theorem dec_head (n : Nat) : 1 ≤ n → ∀ h : 0 < (Lib.decDigits n).length, (Lib.decDigits n)[0] ≠ 48 := by
  induction n using Nat.strongRecOn with
  | _ n ih =>
  intro h1 h
  by_cases hs : n < 10
  · have e : Lib.decDigits n = [UInt8.ofNat (48 + n)] := by rw [Lib.decDigits, dif_pos hs]
    simp only [e, List.getElem_cons_zero]
    intro hh
    have := congrArg UInt8.toNat hh
    rw [UInt8.toNat_ofNat', Nat.mod_eq_of_lt (by omega)] at this
    have h48 : (48 : UInt8).toNat = 48 := rfl
    omega
  · have e : Lib.decDigits n = Lib.decDigits (n / 10) ++ [UInt8.ofNat (48 + n % 10)] := by rw [Lib.decDigits, dif_neg hs]
    have hp : 0 < (Lib.decDigits (n / 10)).length := by rw [Lib.decDigits]; split <;> simp
    simp only [e]
    rw [List.getElem_append_left hp]
    exact ih (n / 10) (by omega) (by omega) hp
/-- the test of the reference is that of the program -/
theorem dec_iff (l : List UInt8) (hd : ∀ j (h : j < l.length), isD l[j] = true) (h1 : 1 ≤ l.length) : l = Lib.decDigits (dv l) ↔ ¬ (l[0]'(by omega) = 48 ∧ 1 < l.length) := by
  constructor
  · rintro he ⟨h0, hl⟩
    rcases Nat.eq_zero_or_pos (dv l) with h | h
    · rw [h, Lib.decDigits, dif_pos (by omega)] at he
      rw [he] at hl; simp at hl
    · have := dec_head (dv l) h (by rw [← he]; omega)
      exact this (by simp only [← he]; exact h0)
  · intro hno
    exact (dec_self' l.length l rfl hd h1 (fun h => by
      by_cases hz : l[0] = 48
      · exact .inr (by have : ¬ 1 < l.length := fun hl => hno ⟨hz, hl⟩
                       omega)
      · exact .inl hz)).symm
end Go.Proofs.YtjlpekjfmgcbdaaGreatDoor

/- From a contract to the row of a tied card whose walk reads what is laid: the list of what is laid and the world's shape are handed to the contract. -/
set_option linter.unusedVariables false
namespace Go.Proofs.YtjlpekjfmgcbdaaGreatDoor
open Go
variable {H : Type} {enc : TypeId × Value → H}

theorem returns_laid {a : Assume} {C : Checked} {os : Os} {f : FuncId} {fn : Func} {s : ChangeSpec} {conds : List PathCond} {apart fresh handsOn again : Bool} {X : World → Array Value → Prop}
    (hX : ∀ (w w' : World) (args : Array Value), w.heap = w'.heap → X w args → X w' args)
    (own : ownKnob C.prog.godebug = none) (started : os.Started) (noInit : C.prog.inits.idxOf? f = none) (hfn : C.prog.funcs[f]? = some fn)
    (witness : ∃ (w : World) (tape : Tape) (i : Input), w.os = os ∧ (w.forCall tape i).Shaped C.prog ∧ i.vars = [] ∧ Input.okWide C.prog (w.forCall tape i) .any w.heap.size f i ∧
      ((s.pre enc C.prog fn conds apart (w.forCall tape i).memory i.args ∧ X (w.forCall tape i).memory i.args) ∧ sizedMet enc C.prog fn (OpenSpec.ofChange s) apart (w.forCall tape i).memory i.args) ∧ a.holds C.prog (lone (Frame.enter C.prog f i.args .normal) [] (w.forCall tape i)))
    (contract : ∀ (W : World) (base : Nat) (args : Array Value) (ds gs : List (DataW H)) (before : List MemPlace),
      (∀ (j : Nat) t v, fn.params[j]? = some t → args[j]? = some v → Value.okWide C.prog W .any base t v) →
      DataW.Whole enc C.prog fn.params.toList s.vars apart W args.toList ds gs before → X W args → W.ShapedOpen C.prog →
      Calls C.prog f args W fun e W' => ∃ v, e = .returned v ∧ s.post enc C.prog fn apart fresh handsOn again W args v W') :
    ReturnsInHanded a C os f .any (fun w args => (s.pre enc C.prog fn conds apart w args ∧ X w args) ∧ sizedMet enc C.prog fn (OpenSpec.ofChange s) apart w args) (s.post enc C.prog fn apart fresh handsOn again) := by
  refine returnsInHanded_of_calls own started noInit witness ?_
  intro w tape i _ hsh _ hok hpre hholds
  obtain ⟨_, _, _, fn', hfn', _, _, _, _, hval⟩ := hok
  have e : fn' = fn := Option.some.inj (hfn'.symm.trans hfn)
  subst e
  obtain ⟨⟨⟨ds, gs, before, hw, hc⟩, hx⟩, hz⟩ := hpre
  have hw' := DataW.Whole.of_heap (w' := w.forCall tape i) (by rfl) hw
  refine (contract (w.forCall tape i) w.heap.size i.args ds gs before hval hw' (hX _ _ _ (by rfl) hx) hsh).mono fun e W' ⟨v, he, hp⟩ => ?_
  subst he
  exact ChangeSpec.post_blind hp
end Go.Proofs.YtjlpekjfmgcbdaaGreatDoor

/- What the texts of numbers and the searches lean on: Go's table of powers; that the cell of MaxLen holds a number. -/
set_option linter.unusedVariables false
namespace Go.Proofs.YtjlpekjfmgcbdaaGreatDoor
open Go.RowKit

structure Gl (w : World) : Prop where
  tab : Lib.TabIs Tryz.prog w "internal/strconv.uint64pow10" .u64 Lib.pow10Tab
  maxLen : ∃ m, w.cell? ⟨2, 0, none⟩ = some (.int .i64 m)
theorem gTab5 : Tryz.prog.globalNamed "internal/strconv.uint64pow10" = some 3 := by kernel_rfl
theorem Gl.keep {w w' : World} (h : Gl w) (hb : ∀ b, b < w.heap.size → (b = 3 ∨ b = 2) → w'.heap[b]? = w.heap[b]?) : Gl w' := by
  obtain ⟨m, hm⟩ := h.maxLen
  have hz := World.block_lt_of_cell? w _ hm
  refine ⟨?_, m, (World.cell?_of_block (hb _ hz (.inr rfl))).trans hm⟩
  have ht := h.tab
  unfold Lib.TabIs World.var? at ht ⊢
  rw [gTab5] at ht ⊢
  simp only [Option.bind_some] at ht ⊢
  have hlt : 3 < w.heap.size := by
    rcases Nat.lt_or_ge 3 w.heap.size with h' | h'
    · exact h'
    · simp [Array.getElem?_eq_none h'] at ht
  rw [hb _ hlt (.inl rfl)]
  exact ht
theorem Gl.below {w w' : World} (h : Gl w) (hb : Below w.heap.size w w') : Gl w' := Gl.keep h fun b hz _ => hb.block b hz
/-- the two variables lie below every block of a call's own -/
theorem Gl.lt {w : World} (h : Gl w) : 3 < w.heap.size ∧ 2 < w.heap.size := by
  obtain ⟨m, hm⟩ := h.maxLen
  refine ⟨?_, World.block_lt_of_cell? w _ hm⟩
  have ht := h.tab
  unfold Lib.TabIs World.var? at ht
  rw [gTab5] at ht
  rcases Nat.lt_or_ge 3 w.heap.size with h' | h'
  · exact h'
  · simp [Array.getElem?_eq_none h'] at ht
theorem Gl.low {w w' : World} (h : Gl w) {B : Nat} (hB : 3 < B ∧ 2 < B) (hb : Below B w w') : Gl w' :=
  h.keep fun b _ he => hb.block b (by rcases he with rfl | rfl; exact hB.1; exact hB.2)
theorem gl_mk {W : World} {x y : String × DataW Unit} {rest : List (String × DataW Unit)} (h : laidMet Tryz.prog (x :: y :: ("internal/strconv.uint64pow10", Lib.tabData .u64 Lib.pow10Tab) :: rest) W) (hS : W.ShapedOpen Tryz.prog) : Gl W :=
  ⟨Lib.tabIs_of_head gTab5 (by kernel_rfl) Tryz.underlying146 Tryz.underlying111 (by kernel_rfl) (by kernel_rfl) (laidMet.tail (laidMet.tail h)),
    cell_of_shapedOpen_int (t := 3) (zero := #[.int .i64 0]) hS (by decide +kernel) (by kernel_rfl) rfl (by kernel_rfl) (by kernel_rfl) Tryz.underlying3⟩
end Go.Proofs.YtjlpekjfmgcbdaaGreatDoor

/- Numbers in decimal: the plain laws, strconv.Itoa, the reference's Decimal. -/
set_option linter.unusedVariables false
namespace Go.Proofs.YtjlpekjfmgcbdaaGreatDoor
open Go.RowKit Go.Shelf Go.Sort

theorem ret_b {a b : Bool} (h : a = b) : Ending.returned (.bool b) = .returned (.bool a) := by rw [h]
theorem ret_s {a b : ByteArray} (h : a = b) : Ending.returned (.string b) = .returned (.string a) := by rw [h]

theorem Below_grown {w : World} (k : Nat) (os : Array Obj) : Below w.heap.size w (grow (w.drewN k) os) :=
  ⟨rfl, rfl, rfl, by simp [grow, World.drewN], fun j hj => by simp [grow, World.drewN, Array.getElem?_append, hj]⟩

theorem dec_all (n : Nat) : (∀ c ∈ Lib.decDigits n, isD c = true) ∧ dv (Lib.decDigits n) = n ∧ 1 ≤ (Lib.decDigits n).length ∧ ∀ k, 1 ≤ k → n < 10 ^ k → (Lib.decDigits n).length ≤ k := by
  induction n using Nat.strongRecOn with
  | _ n ih =>
  by_cases hs : n < 10
  · have e : Lib.decDigits n = [UInt8.ofNat (48 + n)] := by rw [Lib.decDigits, dif_pos hs]
    have hc : (UInt8.ofNat (48 + n)).toNat = 48 + n := by rw [UInt8.toNat_ofNat', Nat.mod_eq_of_lt (by omega)]
    rw [e]
    refine ⟨fun c h => ?_, ?_, by simp, fun k h1 h2 => by simpa using h1⟩
    · obtain rfl : c = UInt8.ofNat (48 + n) := by simpa using h
      unfold isD; rw [decide_eq_true_eq, hc]; omega
    · show 10 * 0 + ((UInt8.ofNat (48 + n)).toNat - 48) = n
      rw [hc]; omega
  · have e : Lib.decDigits n = Lib.decDigits (n / 10) ++ [UInt8.ofNat (48 + n % 10)] := by rw [Lib.decDigits, dif_neg hs]
    have hc : (UInt8.ofNat (48 + n % 10)).toNat = 48 + n % 10 := by rw [UInt8.toNat_ofNat', Nat.mod_eq_of_lt (by omega)]
    obtain ⟨i1, i2, i3, i4⟩ := ih (n / 10) (by omega)
    rw [e]
    refine ⟨fun c h => ?_, ?_, by simp, fun k h1 h2 => ?_⟩
    · rcases List.mem_append.1 h with h | h
      · exact i1 c h
      · obtain rfl : c = UInt8.ofNat (48 + n % 10) := by simpa using h
        unfold isD; rw [decide_eq_true_eq, hc]; omega
    · rw [dv_snoc, i2, hc]; omega
    · obtain ⟨k', rfl⟩ : ∃ k', k = k' + 1 := ⟨k - 1, by omega⟩
      rw [List.length_append]
      show _ + 1 ≤ _
      have h3 : n / 10 < 10 ^ k' := by rw [Nat.pow_succ] at h2; omega
      have hk' : 1 ≤ k' := by
        rcases Nat.eq_zero_or_pos k' with h | h
        · subst h; simp at h2; omega
        · exact h
      have := i4 k' hk' h3
      omega
theorem nd_app (l r : List UInt8) (h : ∀ c ∈ l, isD c = true) (hr : ∀ c, r.head? = some c → isD c = false) : nd (l ++ r) = l.length := by
  unfold nd
  induction l with
  | nil =>
    rcases r with _ | ⟨c, r⟩
    · rfl
    · have := hr c rfl
      simp [this]
  | cons a l ih =>
    have h1 := h a (by simp)
    have h2 := ih (fun c hc => h c (by simp [hc]))
    rw [List.cons_append, List.takeWhile_cons, h1]
    simpa using h2
theorem _root_.Go.Below_of_drew {B : Nat} {w w' : World} (h : Below B w.drew w') : Below B w w' := ⟨h.os, h.tape, h.output, h.size, h.block⟩
/-- a number in decimal -/
def decB (n : Int) : ByteArray := ⟨(Lib.itoa n).toArray⟩
theorem decB_size (n : Int) (h0 : 0 ≤ n) (h1 : n ≤ 999999999999999) : (decB n).size ≤ 21 := by
  have := Lib.itoa_length_le n (by omega) (by omega)
  show (Lib.itoa n).toArray.size ≤ 21
  simpa using this
theorem cat_run {P : Program} (a b : ByteArray) (h : a.size + b.size ≤ 1000) (w : World) : (Op.stringOp .add a b).run P w = .ok (.string (a ++ b)) w := run_string_add_sum w _ _ (by omega)
theorem dec_small (n : Nat) (h : n < 10) : decB n = ⟨#[UInt8.ofNat (48 + n % 10)]⟩ := by
  unfold decB
  rw [Lib.itoa_nonneg, Lib.decDigits, dif_pos h, Nat.mod_eq_of_lt h]
theorem dec_big (n : Nat) (h : ¬ n < 10) : decB n = decB ((n / 10 : Nat) : Int) ++ ⟨#[UInt8.ofNat (48 + n % 10)]⟩ := by
  unfold decB
  rw [Lib.itoa_nonneg, Lib.itoa_nonneg, Lib.decDigits, dif_neg h]
  apply ByteArray.ext
  simp
theorem conv1 (w : World) (c : UInt8) : (convert 51 9 (.slice (some ⟨w.heap.size, 0, none⟩) 1 1)).run Tryz.prog (w.alloc (.cells #[.int .u8 (c.toNat : Int)] 5)) = .ok (.string ⟨#[c]⟩) (w.alloc (.cells #[.int .u8 (c.toNat : Int)] 5)) := by
  refine run_convert_bytes_back _ _ _ 5 ⟨w.heap.size, 0, none⟩ 1 [c] (by kernel_rfl) (by kernel_rfl) (by kernel_rfl) ?_
  intro j hj
  obtain rfl : j = 0 := by simpa using hj
  exact (Row.new w 5 #[.int .u8 (c.toNat : Int)]).cell 0
theorem itoa_any (n : Int) (w : World) (h0 : -999999999999999 ≤ n) (h1 : n ≤ 999999999999999) (hg : Gl w) :
    Calls Tryz.prog 130 #[.int .i64 n] w fun e w' => e = .returned (.string (decB n)) ∧ Below w.heap.size w w' := by
  refine (Tryz.strconv_Itoa n (by omega) (by omega) w hg.tab).mono ?_
  rintro e w' ⟨rfl, k, os, rfl⟩
  exact ⟨rfl, Below_grown _ _⟩
end Go.Proofs.YtjlpekjfmgcbdaaGreatDoor

/- Plain: how the texts of decimal numbers are read and written. -/
set_option linter.unusedVariables false
set_option linter.unusedSimpArgs false
namespace Go.Proofs.YtjlpekjfmgcbdaaGreatDoor
open Go

def bsV (l : List UInt8) : ByteArray := ⟨l.toArray⟩
theorem bsV_list (l : List UInt8) : (bsV l).data.toList = l := rfl
/-- a sign, and what is behind it -/
def signV (l : List UInt8) : Bool × List UInt8 := if l.head? = some 45 then (true, l.tail) else if l.head? = some 43 then (false, l.tail) else (false, l)
/-- the fraction, and what is behind it -/
def fracV (r : List UInt8) : Option (List UInt8 × List UInt8) := if r.head? = some 46 then (if nd r.tail = 0 then none else some (r.tail.take (nd r.tail), r.tail.drop (nd r.tail))) else some ([], r)
/-- the exponent, and what is behind it -/
def expV (r : List UInt8) : Option (Bool × List UInt8 × List UInt8) :=
  if r.head? = some 101 ∨ r.head? = some 69 then
    (if nd (signV r.tail).2 = 0 then none else some ((signV r.tail).1, (signV r.tail).2.take (nd (signV r.tail).2), (signV r.tail).2.drop (nd (signV r.tail).2)))
  else some (false, [], r)
/-- sign, digits before and behind the point, sign and digits of the exponent -/
def scanV (l : List UInt8) : Option (Bool × List UInt8 × List UInt8 × Bool × List UInt8) :=
  if 64 < l.length ∨ nd (signV l).2 = 0 then none
  else (fracV ((signV l).2.drop (nd (signV l).2))).bind fun f => (expV f.2).bind fun x =>
    if x.2.2 = [] then some ((signV l).1, (signV l).2.take (nd (signV l).2), f.1, x.1, x.2.1) else none
def leadV (d : List UInt8) : Nat := (d.takeWhile (· == 48)).length
def stripV (d : List UInt8) : List UInt8 := ((d.dropWhile (· == 48)).reverse.dropWhile (· == 48)).reverse
/-- a number that is never greater than L -/
def esat (L : Nat) (ds : List UInt8) : Nat := ds.foldl (fun e c => min L (10 * e + (c.toNat - 48))) 0
def sgnV (b : Bool) (n : Nat) : Int := if b then -(n : Int) else (n : Int)
/-- the canonical text -/
def textV (neg : Bool) (T : List UInt8) (first : Int) : ByteArray × Int :=
  if T = [] then (⟨#[48]⟩, 0) else if 17 < T.length ∨ first < -400 ∨ 400 < first then (⟨#[]⟩, 9)
  else (bsV ((if neg then [45] else []) ++ (T.take 1 ++ (if 1 < T.length then 46 :: T.drop 1 else []))) ++ ⟨#[101]⟩ ++ decB first, 0)
def resV (L : Nat) (p : Bool × List UInt8 × List UInt8 × Bool × List UInt8) : ByteArray × Int :=
  textV p.1 (stripV (p.2.1 ++ p.2.2.1)) ((p.2.1.length : Int) - 1 - leadV (p.2.1 ++ p.2.2.1) + sgnV p.2.2.2.1 (esat L p.2.2.2.2))
def parseV (L : Nat) (l : List UInt8) : ByteArray × Int := match scanV l with
  | none => (⟨#[]⟩, 3)
  | some p => resV L p
/-- canonical texts -/
def canV (l : List UInt8) : Bool := decide ((parseV 100000 l).2 = 0 ∧ (parseV 100000 l).1.data.toList = l)

theorem esat_eq (L : Nat) (ds : List UInt8) : esat L ds = min L (dv ds) := by
  have h : ∀ (ds : List UInt8) (a : Nat), ds.foldl (fun e c => min L (10 * e + (c.toNat - 48))) (min L a) = min L (ds.foldl (fun e c => 10 * e + (c.toNat - 48)) a) := by
    intro ds
    induction ds with
    | nil => intro a; rfl
    | cons c t ih =>
      intro a
      rw [List.foldl_cons, List.foldl_cons, ← ih]
      congr 1
      omega
  have h0 := h ds 0
  rw [Nat.min_zero] at h0
  exact h0
theorem leadV_le (d : List UInt8) : leadV d ≤ d.length := by
  unfold leadV
  induction d with
  | nil => exact Nat.le_refl _
  | cons a t ih => rw [List.takeWhile_cons]; split <;> simp <;> omega
theorem signV_len (l : List UInt8) : (signV l).2.length ≤ l.length := by
  unfold signV; split
  · simp
  · split <;> simp
theorem fracV_len {r : List UInt8} {f : List UInt8 × List UInt8} (h : fracV r = some f) : f.1.length ≤ r.length ∧ f.2.length ≤ r.length := by
  unfold fracV at h
  split at h
  · split at h
    · cases h
    · cases h; simp; omega
  · cases h; simp
theorem expV_len {r : List UInt8} {x : Bool × List UInt8 × List UInt8} (h : expV r = some x) : x.2.1.length ≤ r.length := by
  unfold expV at h
  split at h
  · split at h
    · cases h
    · cases h
      have := signV_len r.tail
      have h2 : r.tail.length ≤ r.length := by simp
      simp; omega
  · cases h; simp
theorem scanV_len {l : List UInt8} {p : Bool × List UInt8 × List UInt8 × Bool × List UInt8} (h : scanV l = some p) : l.length ≤ 64 ∧ p.2.1.length ≤ 64 ∧ p.2.2.1.length ≤ 64 ∧ p.2.2.2.2.length ≤ 64 := by
  unfold scanV at h
  split at h
  · cases h
  · rename_i hc
    have hl : l.length ≤ 64 := by omega
    obtain ⟨f, hf, h⟩ := Option.bind_eq_some_iff.1 h
    obtain ⟨x, hx, h⟩ := Option.bind_eq_some_iff.1 h
    split at h
    · cases h
      have h1 := signV_len l
      have h2 := fracV_len hf
      have h3 := expV_len hx
      have h4 : ((signV l).2.drop (nd (signV l).2)).length ≤ (signV l).2.length := by simp
      refine ⟨hl, ?_, ?_, ?_⟩
      · show ((signV l).2.take _).length ≤ 64
        simp; omega
      · show f.1.length ≤ 64; omega
      · show x.2.1.length ≤ 64; omega
    · cases h
/-- a greater bound of the exponent changes nothing -/
theorem textV_far (neg : Bool) (T : List UInt8) (a b : Int) (ha : a < -400 ∨ 400 < a) (hb : b < -400 ∨ 400 < b) : textV neg T a = textV neg T b := by
  unfold textV
  by_cases h : T = []
  · rw [if_pos h, if_pos h]
  · rw [if_neg h, if_neg h, if_pos (.inr ha), if_pos (.inr hb)]
theorem parseV_sat (l : List UInt8) : parseV 1048576 l = parseV 100000 l := by
  unfold parseV
  cases h : scanV l with
  | none => rfl
  | some p =>
    obtain ⟨h1, h2, h3, h4⟩ := scanV_len h
    show resV 1048576 p = resV 100000 p
    unfold resV
    rw [esat_eq, esat_eq]
    have hl := leadV_le (p.2.1 ++ p.2.2.1)
    rw [List.length_append] at hl
    by_cases hd : dv p.2.2.2.2 ≤ 100000
    · rw [Nat.min_eq_right (by omega), Nat.min_eq_right hd]
    · apply textV_far
      · unfold sgnV; split <;> omega
      · unfold sgnV; split <;> omega

/-- a canonical text is read as it is -/
theorem nd_digits {l r : List UInt8} (h : ∀ c ∈ l, isD c = true) (hr : ∀ c, r.head? = some c → isD c = false) : nd (l ++ r) = l.length := nd_app l r h hr
theorem digit_ne {c : UInt8} (h : isD c = true) (x : UInt8) (hx : isD x = false) : c ≠ x := fun e => by rw [e, hx] at h; cases h
theorem sign_digit {l : List UInt8} (h : ∀ c, l.head? = some c → isD c = true) : signV l = (false, l) := by
  unfold signV
  rw [if_neg (fun e => digit_ne (h _ e) 45 (by decide) rfl), if_neg (fun e => digit_ne (h _ e) 43 (by decide) rfl)]
theorem sign_itoa (n : Int) : signV (Lib.itoa n) = (decide (n < 0), Lib.decDigits n.natAbs) := by
  rcases Int.lt_or_le n 0 with h | h
  · obtain ⟨k, rfl⟩ : ∃ k : Nat, n = -(k : Int) := ⟨n.natAbs, by omega⟩
    rw [Lib.itoa_neg k (by omega), decide_eq_true h]
    unfold signV
    rw [if_pos (show (45 :: Lib.decDigits k).head? = some 45 from rfl)]
    show (true, Lib.decDigits k) = (true, Lib.decDigits (-(k : Int)).natAbs)
    rw [Int.natAbs_neg]; rfl
  · obtain ⟨k, rfl⟩ : ∃ k : Nat, n = (k : Int) := ⟨n.natAbs, by omega⟩
    rw [Lib.itoa_nonneg, decide_eq_false (by omega)]
    rw [sign_digit]
    · rfl
    · intro c hc
      exact (dec_all k).1 c (List.mem_of_mem_head? hc)
theorem strip_self {T : List UInt8} (h1 : T.head? ≠ some 48) (h2 : T.getLast? ≠ some 48) : stripV T = T ∧ leadV T = 0 := by
  have e : T.dropWhile (· == 48) = T ∧ T.takeWhile (· == 48) = [] := by
    cases T with
    | nil => exact ⟨rfl, rfl⟩
    | cons a t =>
      have : (a == 48) = false := by
        cases hb : a == 48 with
        | false => rfl
        | true => exact absurd (by rw [List.head?_cons, eq_of_beq hb]) h1
      simp [this]
  have e2 : T.reverse.dropWhile (· == 48) = T.reverse := by
    cases hr : T.reverse with
    | nil => rfl
    | cons a t =>
      have hg : T.getLast? = some a := by rw [← List.head?_reverse, hr]; rfl
      have : (a == 48) = false := by
        cases hb : a == 48 with
        | false => rfl
        | true => exact absurd (by rw [hg, eq_of_beq hb]) h2
      simp [this]
  unfold stripV leadV
  rw [e.1, e.2, e2, List.reverse_reverse]
  exact ⟨rfl, rfl⟩
theorem strip_ends (d : List UInt8) : (stripV d).head? ≠ some 48 ∧ (stripV d).getLast? ≠ some 48 := by
  have hd : ∀ l : List UInt8, (l.dropWhile (· == 48)).head? ≠ some 48 := by
    intro l
    induction l with
    | nil => simp
    | cons a t ih =>
      rw [List.dropWhile_cons]
      split
      · exact ih
      · rename_i h
        intro e
        rw [List.head?_cons] at e
        exact h (by rw [Option.some.inj e]; rfl)
  constructor
  · unfold stripV
    rw [List.head?_reverse]
    obtain ⟨m, hm⟩ : ∃ m, d.dropWhile (· == 48) = m := ⟨_, rfl⟩
    have h1 := hd d
    rw [hm] at h1 ⊢
    intro e
    have hsuf : m.reverse.dropWhile (· == 48) <:+ m.reverse := List.dropWhile_suffix _
    obtain ⟨p, hp⟩ := hsuf
    have hne : m.reverse.dropWhile (· == 48) ≠ [] := fun h => by rw [h] at e; cases e
    have : m.reverse.getLast? = some 48 := by
      rw [← hp, List.getLast?_append, e]; rfl
    rw [List.getLast?_reverse] at this
    exact h1 this
  · unfold stripV
    rw [List.getLast?_reverse]
    exact hd _
theorem strip_mem {d : List UInt8} {c : UInt8} (h : c ∈ stripV d) : c ∈ d := by
  unfold stripV at h
  rw [List.mem_reverse] at h
  have h1 := (List.dropWhile_suffix (p := (· == (48 : UInt8))) (l := (d.dropWhile (· == 48)).reverse)).subset h
  rw [List.mem_reverse] at h1
  exact (List.dropWhile_suffix (p := (· == (48 : UInt8))) (l := d)).subset h1
theorem bsV_app (a b : ByteArray) : (a ++ b).data.toList = a.data.toList ++ b.data.toList := by simp
theorem dec_len5 (k : Nat) (h : k < 10 ^ 3) : (Lib.decDigits k).length ≤ 3 := (dec_all k).2.2.2 3 (by decide) h
theorem itoa_len (n : Int) (h1 : -400 ≤ n) (h2 : n ≤ 400) : (Lib.itoa n).length ≤ 4 := by
  rcases Int.lt_or_le n 0 with h | h
  · obtain ⟨k, rfl⟩ : ∃ k : Nat, n = -(k : Int) := ⟨n.natAbs, by omega⟩
    rw [Lib.itoa_neg k (by omega)]
    have := dec_len5 k (by omega)
    simp; omega
  · obtain ⟨k, rfl⟩ : ∃ k : Nat, n = (k : Int) := ⟨n.natAbs, by omega⟩
    rw [Lib.itoa_nonneg]
    have := dec_len5 k (by omega)
    omega
theorem nd_ne_nil {l : List UInt8} (h : nd l ≠ 0) : l ≠ [] := fun e => h (by rw [e]; rfl)
/-- the text of a number that is not zero is read as that number -/
theorem scan_text (neg : Bool) (t0 : UInt8) (t : List UInt8) (first : Int) (hd : ∀ c ∈ t0 :: t, isD c = true) (hz : t.length ≤ 16) (h1 : -400 ≤ first) (h2 : first ≤ 400) :
    scanV ((if neg then [45] else []) ++ (t0 :: (if 0 < t.length then 46 :: t else [])) ++ 101 :: Lib.itoa first) = some (neg, [t0], t, decide (first < 0), Lib.decDigits first.natAbs) := by
  have hil := itoa_len first h1 h2
  have h0 : isD t0 = true := hd t0 (List.mem_cons_self ..)
  obtain ⟨q, hq⟩ : ∃ q, (if 0 < t.length then 46 :: t else []) = q := ⟨_, rfl⟩
  have hql : q.length ≤ 17 := by rw [← hq]; split <;> simp; omega
  obtain ⟨m, hm⟩ : ∃ m, t0 :: (q ++ 101 :: Lib.itoa first) = m := ⟨_, rfl⟩
  have hmh : ∀ c, m.head? = some c → isD c = true := fun c hc => by rw [← hm] at hc; cases hc; exact h0
  have hl : (if neg then [45] else []) ++ (t0 :: q) ++ 101 :: Lib.itoa first = (if neg then [45] else []) ++ m := by rw [← hm]; simp
  have hs : signV ((if neg then [45] else []) ++ m) = (neg, m) := by
    cases neg with
    | true =>
      show signV (45 :: m) = (true, m)
      unfold signV
      rw [if_pos (show (45 :: m).head? = some 45 from rfl)]; rfl
    | false => exact sign_digit hmh
  have hstop : ∀ c, (q ++ 101 :: Lib.itoa first).head? = some c → isD c = false := by
    intro c hc
    rw [← hq] at hc
    split at hc
    · cases hc; decide
    · cases hc; decide
  have hn : nd m = 1 := by rw [← hm]; exact nd_digits (l := [t0]) (fun c hc => by rw [List.mem_singleton.1 hc]; exact h0) hstop
  have hlen : ((if neg then [45] else []) ++ m).length ≤ 64 := by
    rw [← hm]
    have : (if neg then [45] else [] : List UInt8).length ≤ 1 := by split <;> simp
    simp only [List.length_append, List.length_cons]
    omega
  have hx : expV (101 :: Lib.itoa first) = some (decide (first < 0), Lib.decDigits first.natAbs, []) := by
    have hall : nd (Lib.decDigits first.natAbs) = (Lib.decDigits first.natAbs).length := by
      have := nd_digits (l := Lib.decDigits first.natAbs) (r := []) (dec_all _).1 (fun c hc => by cases hc)
      rwa [List.append_nil] at this
    have hpos := (dec_all first.natAbs).2.2.1
    unfold expV
    rw [if_pos (show (101 :: Lib.itoa first).head? = some 101 ∨ (101 :: Lib.itoa first).head? = some 69 from .inl rfl)]
    show (if nd (signV (Lib.itoa first)).2 = 0 then none else some ((signV (Lib.itoa first)).1, (signV (Lib.itoa first)).2.take (nd (signV (Lib.itoa first)).2), (signV (Lib.itoa first)).2.drop (nd (signV (Lib.itoa first)).2))) = _
    rw [sign_itoa]
    simp only [hall, List.take_length, List.drop_length]
    rw [if_neg (by omega)]
  have hf : fracV (q ++ 101 :: Lib.itoa first) = some (t, 101 :: Lib.itoa first) := by
    rw [← hq]
    by_cases ht : 0 < t.length
    · rw [if_pos ht]
      have hnt : nd (t ++ 101 :: Lib.itoa first) = t.length := nd_digits (fun c hc => hd c (List.mem_cons_of_mem _ hc)) (fun c hc => by cases hc; decide)
      unfold fracV
      rw [if_pos (show (46 :: t ++ 101 :: Lib.itoa first).head? = some 46 from rfl)]
      show (if nd (t ++ 101 :: Lib.itoa first) = 0 then none else some ((t ++ 101 :: Lib.itoa first).take (nd (t ++ 101 :: Lib.itoa first)), (t ++ 101 :: Lib.itoa first).drop (nd (t ++ 101 :: Lib.itoa first)))) = _
      rw [hnt, if_neg (by omega), List.take_left, List.drop_left]
    · rw [if_neg ht]
      have ht0 : t = [] := List.eq_nil_of_length_eq_zero (by omega)
      subst ht0
      rfl
  rw [hq, hl]
  unfold scanV
  rw [hs]
  show (if 64 < ((if neg then [45] else []) ++ m).length ∨ nd m = 0 then none else (fracV (m.drop (nd m))).bind fun f => (expV f.2).bind fun x => if x.2.2 = [] then some (neg, m.take (nd m), f.1, x.1, x.2.1) else none) = _
  rw [if_neg (by omega), hn]
  have hm1 : m.drop 1 = q ++ 101 :: Lib.itoa first := by rw [← hm]; rfl
  have hm2 : m.take 1 = [t0] := by rw [← hm]; rfl
  rw [hm1, hm2, hf]
  show (expV (101 :: Lib.itoa first)).bind _ = _
  rw [hx]
  rfl
theorem esat_dec (n : Int) (h1 : -400 ≤ n) (h2 : n ≤ 400) : sgnV (decide (n < 0)) (esat 100000 (Lib.decDigits n.natAbs)) = n := by
  rw [esat_eq, (dec_all _).2.1, Nat.min_eq_right (by omega)]
  unfold sgnV
  by_cases h : n < 0
  · rw [decide_eq_true h, if_pos rfl]; omega
  · rw [decide_eq_false h, if_neg Bool.false_ne_true]; omega
theorem text_again (neg : Bool) (T : List UInt8) (first : Int) (hd : ∀ c ∈ T, isD c = true) (h1 : T.head? ≠ some 48) (h2 : T.getLast? ≠ some 48) (hok : (textV neg T first).2 = 0) :
    parseV 100000 (textV neg T first).1.data.toList = textV neg T first := by
  by_cases hT : T = []
  · have e : textV neg T first = (⟨#[48]⟩, 0) := by unfold textV; rw [if_pos hT]
    rw [e]
    show parseV 100000 [48] = _
    decide +kernel
  · by_cases hr : 17 < T.length ∨ first < -400 ∨ 400 < first
    · have e : textV neg T first = (⟨#[]⟩, 9) := by unfold textV; rw [if_neg hT, if_pos hr]
      rw [e] at hok; cases hok
    · have e : textV neg T first = (bsV ((if neg then [45] else []) ++ (T.take 1 ++ (if 1 < T.length then 46 :: T.drop 1 else []))) ++ ⟨#[101]⟩ ++ decB first, 0) := by unfold textV; rw [if_neg hT, if_neg hr]
      obtain ⟨t0, t, rfl⟩ : ∃ t0 t, T = t0 :: t := by
        cases T with
        | nil => exact absurd rfl hT
        | cons a t => exact ⟨a, t, rfl⟩
      have hlist : (textV neg (t0 :: t) first).1.data.toList = (if neg then [45] else []) ++ (t0 :: (if 0 < t.length then 46 :: t else [])) ++ 101 :: Lib.itoa first := by
        rw [e]
        show (bsV _ ++ ⟨#[101]⟩ ++ decB first).data.toList = _
        rw [bsV_app, bsV_app, bsV_list]
        have ed : (decB first).data.toList = Lib.itoa first := by unfold decB; simp
        rw [ed]
        have ec : (if 1 < (t0 :: t).length then 46 :: (t0 :: t).drop 1 else ([] : List UInt8)) = if 0 < t.length then 46 :: t else [] := by
          simp only [List.length_cons, List.drop_succ_cons, List.drop_zero]
          by_cases h : 0 < t.length
          · rw [if_pos h, if_pos (by omega)]
          · rw [if_neg h, if_neg (by omega)]
        rw [ec]
        simp
      have hlen : (t0 :: t).length = t.length + 1 := rfl
      have hs := scan_text neg t0 t first hd (by omega) (by omega) (by omega)
      obtain ⟨s1, s2⟩ := strip_self h1 h2
      rw [hlist]
      unfold parseV
      rw [hs]
      show textV neg (stripV ([t0] ++ t)) ((([t0] : List UInt8).length : Int) - 1 - leadV ([t0] ++ t) + sgnV (decide (first < 0)) (esat 100000 (Lib.decDigits first.natAbs))) = _
      have ha : ([t0] ++ t) = t0 :: t := rfl
      rw [ha, s1, s2, esat_dec first (by omega) (by omega)]
      congr 1
      simp
theorem fracV_dig {r : List UInt8} {f : List UInt8 × List UInt8} (h : fracV r = some f) : ∀ c ∈ f.1, isD c = true := by
  unfold fracV at h
  split at h
  · split at h
    · cases h
    · cases h
      intro c hc
      obtain ⟨j, hj, rfl⟩ := List.mem_iff_getElem.1 hc
      rw [List.length_take] at hj
      rw [List.getElem_take]
      exact nd_in _ j (by omega) (by omega)
  · cases h; intro c hc; cases hc
theorem scanV_dig {l : List UInt8} {p : Bool × List UInt8 × List UInt8 × Bool × List UInt8} (h : scanV l = some p) : ∀ c ∈ p.2.1 ++ p.2.2.1, isD c = true := by
  unfold scanV at h
  split at h
  · cases h
  · obtain ⟨f, hf, h⟩ := Option.bind_eq_some_iff.1 h
    obtain ⟨x, hx, h⟩ := Option.bind_eq_some_iff.1 h
    split at h
    · cases h
      intro c hc
      rcases List.mem_append.1 hc with hc | hc
      · obtain ⟨j, hj, rfl⟩ := List.mem_iff_getElem.1 hc
        rw [List.length_take] at hj
        rw [List.getElem_take]
        exact nd_in _ j (by omega) (by omega)
      · exact fracV_dig hf c hc
    · cases h
/-- what Parse returns is canonical -/
theorem parse_again (l : List UInt8) (h : (parseV 100000 l).2 = 0) : canV (parseV 100000 l).1.data.toList = true := by
  cases hs : scanV l with
  | none => unfold parseV at h; rw [hs] at h; cases h
  | some p =>
    have e : parseV 100000 l = textV p.1 (stripV (p.2.1 ++ p.2.2.1)) ((p.2.1.length : Int) - 1 - leadV (p.2.1 ++ p.2.2.1) + sgnV p.2.2.2.1 (esat 100000 p.2.2.2.2)) := by
      unfold parseV; rw [hs]; rfl
    rw [e] at h ⊢
    have h2 := text_again p.1 (stripV (p.2.1 ++ p.2.2.1)) _ (fun c hc => scanV_dig hs c (strip_mem hc)) (strip_ends _).1 (strip_ends _).2 h
    unfold canV
    rw [h2]
    exact decide_eq_true ⟨h, rfl⟩
/-- with an error the text is empty -/
theorem parseV_err (l : List UInt8) (h : (parseV 100000 l).2 ≠ 0) : (parseV 100000 l).1 = ⟨#[]⟩ := by
  unfold parseV at h ⊢
  cases hs : scanV l with
  | none => rfl
  | some p =>
    rw [hs] at h
    show (resV 100000 p).1 = _
    have h' : (resV 100000 p).2 ≠ 0 := h
    unfold resV textV at h' ⊢
    split
    · rename_i hc; rw [if_pos hc] at h'; exact absurd rfl h'
    · rename_i hc
      rw [if_neg hc] at h'
      split
      · rfl
      · rename_i hc2; rw [if_neg hc2] at h'; exact absurd rfl h'
theorem canV_iff (l : List UInt8) : canV l = true ↔ parseV 100000 l = (bsV l, 0) := by
  unfold canV
  rw [decide_eq_true_eq]
  constructor
  · rintro ⟨h1, h2⟩
    refine Prod.ext ?_ h1
    apply Go.WideShapes.bytes_inj
    rw [h2]; rfl
  · intro h; rw [h]; exact ⟨rfl, rfl⟩
end Go.Proofs.YtjlpekjfmgcbdaaGreatDoor

/- Plain: values of kind Bits, their digits and their shortest texts. -/
set_option linter.unusedVariables false
set_option linter.unusedSimpArgs false
namespace Go.Proofs.YtjlpekjfmgcbdaaGreatDoor
open Go

/-- a character of a value -/
def chB (c : UInt8) : Bool := c == 48 || c == 49 || c == 120 || c == 122
def lowC (c : UInt8) : UInt8 := if c = 88 then 120 else if c = 90 then 122 else c
def upC (c : UInt8) : UInt8 := if c = 120 then 88 else if c = 122 then 90 else c
/-- a digit of a text, in either case -/
def dgB (c : UInt8) : Bool := chB (lowC c)
def isV (l : List UInt8) : Bool := decide (1 ≤ l.length ∧ l.length ≤ 128) && l.all chB
/-- with what a value is extended -/
def frC (c : UInt8) : UInt8 := if c = 49 then 48 else c
def frontC (l : List UInt8) : UInt8 := frC (l.headD 48)
def extL (n : Nat) (l : List UInt8) : List UInt8 := List.replicate (n - l.length) (frontC l) ++ l
/-- what Extend returns -/
def extendV (w : Int) (l : List UInt8) : List UInt8 × Int :=
  if w < 1 ∨ 128 < w then ([], 1) else if l = [] ∨ l.all chB = false then ([], 3) else if w < l.length then ([], 8) else (extL w.toNat l, 0)
/-- the shortest digits -/
def shortV : List UInt8 → List UInt8
  | [] => []
  | [a] => [a]
  | a :: b :: t => if a = frC b then shortV (b :: t) else a :: b :: t
theorem chB_cases {c : UInt8} (h : chB c = true) : c = 48 ∨ c = 49 ∨ c = 120 ∨ c = 122 := by
  unfold chB at h
  simp only [Bool.or_eq_true, beq_iff_eq] at h
  rcases h with ((h | h) | h) | h
  · exact .inl h
  · exact .inr (.inl h)
  · exact .inr (.inr (.inl h))
  · exact .inr (.inr (.inr h))
theorem chB_of {c : UInt8} (h : c = 48 ∨ c = 49 ∨ c = 120 ∨ c = 122) : chB c = true := by
  rcases h with rfl | rfl | rfl | rfl <;> rfl
theorem lowC_ch {c : UInt8} (h : chB c = true) : lowC c = c := by rcases chB_cases h with rfl | rfl | rfl | rfl <;> rfl
theorem frC_ch {c : UInt8} (h : chB c = true) : chB (frC c) = true := by rcases chB_cases h with rfl | rfl | rfl | rfl <;> rfl
theorem frC_idem (c : UInt8) : frC (frC c) = frC c := by
  unfold frC
  by_cases h : c = 49
  · rw [if_pos h]; rfl
  · rw [if_neg h, if_neg h]
theorem dgB_cases {c : UInt8} (h : dgB c = true) : c = 48 ∨ c = 49 ∨ c = 120 ∨ c = 122 ∨ c = 88 ∨ c = 90 := by
  unfold dgB lowC at h
  by_cases h1 : c = 88
  · exact .inr (.inr (.inr (.inr (.inl h1))))
  · by_cases h2 : c = 90
    · exact .inr (.inr (.inr (.inr (.inr h2))))
    · rw [if_neg h1, if_neg h2] at h
      rcases chB_cases h with h | h | h | h
      · exact .inl h
      · exact .inr (.inl h)
      · exact .inr (.inr (.inl h))
      · exact .inr (.inr (.inr (.inl h)))
theorem dgB_of {c : UInt8} (h : c = 48 ∨ c = 49 ∨ c = 120 ∨ c = 122 ∨ c = 88 ∨ c = 90) : dgB c = true := by
  rcases h with rfl | rfl | rfl | rfl | rfl | rfl <;> rfl
theorem low_up {c : UInt8} (h : dgB c = true) : lowC (upC c) = lowC c := by
  rcases dgB_cases h with rfl | rfl | rfl | rfl | rfl | rfl <;> rfl
theorem low_low (c : UInt8) : lowC (lowC c) = lowC c := by
  by_cases h : c = 88
  · rw [h]; rfl
  · by_cases h2 : c = 90
    · rw [h2]; rfl
    · have : lowC c = c := by unfold lowC; rw [if_neg h, if_neg h2]
      rw [this, this]
theorem all_low (l : List UInt8) : (l.map lowC).all chB = l.all dgB := by
  rw [List.all_map]; rfl
theorem map_low {l : List UInt8} (h : l.all chB = true) : l.map lowC = l := by
  have : ∀ c ∈ l, lowC c = id c := fun c hc => lowC_ch (List.all_eq_true.1 h c hc)
  rw [List.map_congr_left this, List.map_id]

theorem shortV_cons (a b : UInt8) (t : List UInt8) : shortV (a :: b :: t) = if a = frC b then shortV (b :: t) else a :: b :: t := rfl
theorem shortV_suffix (l : List UInt8) : shortV l <:+ l := by
  induction l with
  | nil => exact List.suffix_refl _
  | cons a t ih =>
    cases t with
    | nil => exact List.suffix_refl _
    | cons b t =>
      rw [shortV_cons]
      split
      · exact ih.trans (List.suffix_cons _ _)
      · exact List.suffix_refl _
theorem shortV_ne {l : List UInt8} (h : l ≠ []) : shortV l ≠ [] := by
  induction l with
  | nil => exact absurd rfl h
  | cons a t ih =>
    cases t with
    | nil => exact h
    | cons b t =>
      rw [shortV_cons]
      split
      · exact ih (by simp)
      · simp
theorem shortV_front (l : List UInt8) (h : l ≠ []) : frontC (shortV l) = frontC l ∧ extL l.length (shortV l) = l := by
  induction l with
  | nil => exact absurd rfl h
  | cons a t ih =>
    cases t with
    | nil => exact ⟨rfl, by simp [extL, shortV]⟩
    | cons b t =>
      rw [shortV_cons]
      split
      · rename_i e
        obtain ⟨h1, h2⟩ := ih (by simp)
        have hf : frontC (b :: t) = frC b := rfl
        have hf2 : frontC (a :: b :: t) = frC a := rfl
        refine ⟨by rw [h1, hf, hf2, e, frC_idem], ?_⟩
        have hle := (shortV_suffix (b :: t)).length_le
        unfold extL at h2 ⊢
        have hlen : (a :: b :: t).length - (shortV (b :: t)).length = ((b :: t).length - (shortV (b :: t)).length) + 1 := by
          rw [List.length_cons]; omega
        rw [hlen, List.replicate_succ, List.cons_append, h2, h1, hf, ← e]
      · exact ⟨rfl, by simp [extL]⟩
/-- a suffix from which the value comes is no shorter -/
theorem shortV_least (l : List UInt8) : ∀ s : List UInt8, s ≠ [] → s <:+ l → extL l.length s = l → shortV l <:+ s := by
  induction l with
  | nil =>
    intro s hs h _
    exact absurd (List.suffix_nil.1 h) hs
  | cons a t ih =>
    intro s hs h he
    rcases List.suffix_cons_iff.1 h with rfl | h
    · exact shortV_suffix _
    · cases t with
      | nil => exact absurd (List.suffix_nil.1 h) hs
      | cons b t =>
        have hle := h.length_le
        have hn : (a :: b :: t).length - s.length = ((b :: t).length - s.length) + 1 := by rw [List.length_cons]; omega
        unfold extL at he
        rw [hn, List.replicate_succ, List.cons_append] at he
        injection he with e1 e2
        have hfb : frC b = frontC s := by
          rcases Nat.eq_zero_or_pos ((b :: t).length - s.length) with h0 | h0
          · rw [h0] at e2
            have : s = b :: t := e2
            rw [this]; rfl
          · obtain ⟨k, hk⟩ : ∃ k, (b :: t).length - s.length = k + 1 := ⟨_, (Nat.succ_pred_eq_of_pos h0).symm⟩
            rw [hk, List.replicate_succ, List.cons_append] at e2
            injection e2 with e3 _
            rw [← e3]
            exact frC_idem _
        rw [shortV_cons, if_pos (by rw [hfb]; exact e1.symm)]
        exact ih s hs h e2
theorem extL_len {n : Nat} {l : List UInt8} (h : l.length ≤ n) : (extL n l).length = n := by
  unfold extL; rw [List.length_append, List.length_replicate]; omega
theorem front_ch {l : List UInt8} (h : l.all chB = true) (hne : l ≠ []) : chB (frontC l) = true := by
  cases l with
  | nil => exact absurd rfl hne
  | cons a t => exact frC_ch (List.all_eq_true.1 h a (List.mem_cons_self ..))
theorem extL_all {n : Nat} {l : List UInt8} (h : l.all chB = true) (hne : l ≠ []) : (extL n l).all chB = true := by
  rw [List.all_eq_true]
  intro c hc
  rcases List.mem_append.1 hc with hc | hc
  · rw [(List.mem_replicate.1 hc).2]; exact front_ch h hne
  · exact List.all_eq_true.1 h c hc
theorem extL_cons {n : Nat} {l : List UInt8} (h : l.length < n) (hne : l ≠ []) : extL n (frontC l :: l) = extL n l := by
  unfold extL
  have e : n - l.length = (n - (frontC l :: l).length) + 1 := by rw [List.length_cons]; omega
  have ef : frontC (frontC l :: l) = frontC l := by
    cases l with
    | nil => exact absurd rfl hne
    | cons a t => exact frC_idem a
  rw [e, List.replicate_succ', List.append_assoc, ef]; rfl
/-- what Parse returns for Bits -/
def bitsV (w : Int) (l : List UInt8) : List UInt8 × Int := extendV w (l.map lowC)
theorem bitsV_ok {w : Int} {l v : List UInt8} (h : bitsV w l = (v, 0)) : 1 ≤ w ∧ w ≤ 128 ∧ l ≠ [] ∧ l.all dgB = true ∧ (l.length : Int) ≤ w ∧ v = extL w.toNat (l.map lowC) := by
  unfold bitsV extendV at h
  split at h
  · cases h
  · rename_i h1
    split at h
    · cases h
    · rename_i h2
      split at h
      · cases h
      · rename_i h3
        rw [List.length_map] at h3
        refine ⟨by omega, by omega, fun e => h2 (.inl (by rw [e]; rfl)), ?_, by omega, (congrArg Prod.fst h).symm⟩
        rw [← all_low]
        cases hh : (l.map lowC).all chB with
        | true => rfl
        | false => exact absurd (.inr hh) h2
theorem bitsV_of {w : Int} {l : List UInt8} (h1 : 1 ≤ w) (h2 : w ≤ 128) (h3 : l ≠ []) (h4 : l.all dgB = true) (h5 : (l.length : Int) ≤ w) : bitsV w l = (extL w.toNat (l.map lowC), 0) := by
  unfold bitsV extendV
  rw [if_neg (by omega), if_neg, if_neg]
  · rw [List.length_map]; omega
  · rintro (h | h)
    · exact h3 (List.map_eq_nil_iff.1 h)
    · rw [all_low, h4] at h; cases h
theorem bitsV_err {w : Int} {l : List UInt8} (h : (bitsV w l).2 ≠ 0) : (bitsV w l).1 = [] := by
  unfold bitsV extendV at h ⊢
  split
  · rfl
  · rename_i h1
    rw [if_neg h1] at h
    split
    · rfl
    · rename_i h2
      rw [if_neg h2] at h
      split
      · rfl
      · rename_i h3; rw [if_neg h3] at h; exact absurd rfl h
/-- a value of a width -/
def valV (w : Int) (l : List UInt8) : Bool := isV l && decide ((l.length : Int) = w)
theorem valV_iff {w : Int} {l : List UInt8} : valV w l = true ↔ l.all chB = true ∧ 1 ≤ w ∧ w ≤ 128 ∧ (l.length : Int) = w := by
  unfold valV isV
  rw [Bool.and_eq_true, Bool.and_eq_true, decide_eq_true_eq, decide_eq_true_eq]
  constructor
  · rintro ⟨⟨h1, h2⟩, h3⟩; exact ⟨h2, by omega, by omega, h3⟩
  · rintro ⟨h1, h2, h3, h4⟩; exact ⟨⟨⟨by omega, by omega⟩, h1⟩, h4⟩
theorem bits_value {w : Int} {l v : List UInt8} (h : bitsV w l = (v, 0)) : valV w v = true := by
  obtain ⟨h1, h2, h3, h4, h5, rfl⟩ := bitsV_ok h
  rw [valV_iff]
  have hl : (extL w.toNat (l.map lowC)).length = w.toNat := extL_len (by rw [List.length_map]; omega)
  exact ⟨extL_all (by rw [all_low]; exact h4) (fun e => h3 (List.map_eq_nil_iff.1 e)), h1, h2, by rw [hl]; omega⟩
/-- the shortest text leads back -/
theorem short_back {w : Int} {v : List UInt8} (h : valV w v = true) : bitsV w (shortV v) = (v, 0) := by
  obtain ⟨h1, h2, h3, h4⟩ := valV_iff.1 h
  have hne : v ≠ [] := fun e => by rw [e] at h4; simp at h4; omega
  have hs := shortV_suffix v
  have hall : (shortV v).all chB = true := by
    rw [List.all_eq_true]; intro c hc; exact List.all_eq_true.1 h1 c (hs.subset hc)
  have hd : (shortV v).all dgB = true := by rw [← all_low, map_low hall]; exact hall
  have hle := hs.length_le
  rw [bitsV_of h2 h3 (shortV_ne hne) hd (by omega), map_low hall, ← h4]
  show (extL v.length (shortV v), (0 : Int)) = _
  rw [(shortV_front v hne).2]
/-- no text is shorter, and another one as short has letters of another case only -/
theorem short_suffix {w : Int} {l v : List UInt8} (h : bitsV w l = (v, 0)) : shortV v <:+ l.map lowC := by
  obtain ⟨h1, h2, h3, h4, h5, rfl⟩ := bitsV_ok h
  have hl : (extL w.toNat (l.map lowC)).length = w.toNat := extL_len (by rw [List.length_map]; omega)
  exact shortV_least _ _ (fun e => h3 (List.map_eq_nil_iff.1 e)) (List.suffix_append _ _) (by rw [hl])
/-- upper case -/
theorem bits_up {w : Int} {l v : List UInt8} (h : bitsV w l = (v, 0)) : bitsV w (l.map upC) = (v, 0) := by
  obtain ⟨h1, h2, h3, h4, h5, rfl⟩ := bitsV_ok h
  have e : (l.map upC).map lowC = l.map lowC := by
    rw [List.map_map]
    exact List.map_congr_left (fun c hc => low_up (List.all_eq_true.1 h4 c hc))
  have hd : (l.map upC).all dgB = true := by rw [← all_low, e, all_low]; exact h4
  rw [bitsV_of h1 h2 (fun e => h3 (List.map_eq_nil_iff.1 e)) hd (by rw [List.length_map]; exact h5), e]
/-- one digit more -/
theorem bits_more {w : Int} {c : UInt8} {t v : List UInt8} (h : bitsV w (c :: t) = (v, 0)) :
    bitsV w ((if c = 49 then 48 else c) :: c :: t) = if ((c :: t).length : Int) = w then ([], 8) else (v, 0) := by
  obtain ⟨h1, h2, h3, h4, h5, rfl⟩ := bitsV_ok h
  have hc : dgB c = true := List.all_eq_true.1 h4 c (List.mem_cons_self ..)
  have hlow : lowC (if c = 49 then 48 else c) = frontC ((c :: t).map lowC) := by
    show lowC (if c = 49 then 48 else c) = frC (lowC c)
    rcases dgB_cases hc with rfl | rfl | rfl | rfl | rfl | rfl <;> rfl
  have hdg : ((if c = 49 then 48 else c) :: c :: t).all dgB = true := by
    rw [List.all_cons, h4, Bool.and_true]
    rcases dgB_cases hc with rfl | rfl | rfl | rfl | rfl | rfl <;> rfl
  have hlen : ((if c = 49 then 48 else c) :: c :: t).length = (c :: t).length + 1 := rfl
  by_cases hw : ((c :: t).length : Int) = w
  · rw [if_pos hw]
    unfold bitsV extendV
    rw [if_neg (by omega), if_neg, if_pos]
    · rw [List.length_map, hlen]; omega
    · rintro (h | h)
      · cases h
      · rw [all_low, hdg] at h; cases h
  · rw [if_neg hw, bitsV_of h1 h2 (by simp) hdg (by rw [hlen]; omega), List.map_cons, hlow, extL_cons]
    · rw [List.length_map]; omega
    · simp
end Go.Proofs.YtjlpekjfmgcbdaaGreatDoor

/- Plain: quoted forms and texts, over lists of bytes. -/
set_option linter.unusedVariables false
namespace Go.Proofs.YtjlpekjfmgcbdaaGreatDoor
open Go.RowKit Go.Shelf

def prB (c : UInt8) : Bool := decide (33 ≤ c.toNat ∧ c.toNat ≤ 126)
def allPr (l : List UInt8) : Bool := l.all prB
def wordB : List UInt8 → Bool
  | [] => false
  | c :: l => !(c == 36) && allPr (c :: l)
def hexD (n : Nat) : UInt8 := ([48, 49, 50, 51, 52, 53, 54, 55, 56, 57, 97, 98, 99, 100, 101, 102] : List UInt8).getD n 0
def quoteB (c : UInt8) : List UInt8 := if c = 92 then [92, 92] else if prB c then [c] else [92, 120, hexD (c.toNat / 16), hexD (c.toNat % 16)]
def quoteL (l : List UInt8) : List UInt8 := l.flatMap quoteB
/-- the value of a digit -/
def hexV (c : UInt8) : Option Nat := if 48 ≤ c.toNat ∧ c.toNat ≤ 57 then some (c.toNat - 48) else if 97 ≤ c.toNat ∧ c.toNat ≤ 102 then some (c.toNat - 87) else none
/-- the byte at the front of a text, and how many bytes it takes -/
def step1 : List UInt8 → Option (UInt8 × Nat)
  | [] => none
  | c :: r => if c = 92 then (match r with
      | [] => none
      | d :: r' => if d = 92 then some (92, 2) else if d = 120 then (match r' with
          | a :: b :: _ => match hexV a, hexV b with
            | some x, some y => some (UInt8.ofNat (16 * x + y), 4)
            | _, _ => none
          | _ => none) else none)
    else if prB c then some (c, 1) else none
theorem step1_pos {l : List UInt8} {c : UInt8} {n : Nat} (h : step1 l = some (c, n)) : 1 ≤ n ∧ n ≤ l.length := by
  unfold step1 at h
  repeat' split at h
  all_goals (first | (cases h; done) | (simp only [Option.some.injEq, Prod.mk.injEq] at h; obtain ⟨rfl, rfl⟩ := h; simp [List.length] <;> omega))
/-- the string of a text; the first argument bounds the steps -/
def unqF : Nat → List UInt8 → Option (List UInt8)
  | _, [] => some []
  | 0, _ => none
  | f + 1, l => match step1 l with
    | none => none
    | some (c, n) => (unqF f (l.drop n)).map (c :: ·)
def unq (l : List UInt8) : Option (List UInt8) := unqF l.length l

theorem unqF_more : ∀ (f g : Nat) (l : List UInt8), l.length ≤ f → l.length ≤ g → unqF f l = unqF g l := by
  intro f
  induction f with
  | zero =>
    intro g l hf hg
    obtain rfl : l = [] := List.eq_nil_of_length_eq_zero (by omega)
    cases g <;> rfl
  | succ f ih =>
    intro g l hf hg
    cases l with
    | nil => cases g <;> rfl
    | cons c l =>
      cases g with
      | zero => simp at hg
      | succ g =>
        unfold unqF
        cases h : step1 (c :: l) with
        | none => rfl
        | some p =>
          obtain ⟨b, n⟩ := p
          have := step1_pos h
          simp only
          rw [ih g ((c :: l).drop n) (by simp at hf ⊢; omega) (by simp at hg ⊢; omega)]
theorem unq_nil : unq [] = some [] := rfl
theorem unq_step {l : List UInt8} {c : UInt8} {n : Nat} (h : step1 l = some (c, n)) : unq l = (unq (l.drop n)).map (c :: ·) := by
  obtain ⟨h1, h2⟩ := step1_pos h
  cases l with
  | nil => cases h
  | cons b l =>
    show unqF (l.length + 1) (b :: l) = _
    unfold unqF
    rw [h]
    simp only
    rw [unqF_more l.length ((b :: l).drop n).length _ (by simp; omega) (Nat.le_refl _)]; rfl
theorem unq_stop {l : List UInt8} (h : step1 l = none) (hne : l ≠ []) : unq l = none := by
  cases l with
  | nil => exact absurd rfl hne
  | cons b l =>
    show unqF (l.length + 1) (b :: l) = _
    unfold unqF
    rw [h]
theorem unq_len : ∀ (f : Nat) (l : List UInt8) (s : List UInt8), unqF f l = some s → s.length ≤ l.length := by
  intro f
  induction f with
  | zero => intro l s h; cases l with
    | nil => cases h; simp
    | cons c l => cases h
  | succ f ih =>
    intro l s h
    cases l with
    | nil => cases h; simp
    | cons c l =>
      unfold unqF at h
      cases hs : step1 (c :: l) with
      | none => rw [hs] at h; cases h
      | some p =>
        obtain ⟨b, n⟩ := p
        rw [hs] at h
        simp only [Option.map_eq_some_iff] at h
        obtain ⟨t, ht, rfl⟩ := h
        have h1 := step1_pos hs
        have := ih _ t ht
        simp only [List.length_drop, List.length_cons] at this h1 ⊢
        omega
end Go.Proofs.YtjlpekjfmgcbdaaGreatDoor

/- Contracts of package quote and of the reference 16: printable, words, digits; a row of bytes made a string. -/
set_option linter.unusedVariables false
namespace Go.Proofs.YtjlpekjfmgcbdaaGreatDoor
open Go.RowKit Go.Shelf

theorem allPr_of (s : ByteArray) (h : ∀ j, ∀ hj : j < s.size, prB (s[j]'hj) = true) : allPr s.data.toList = true := by
  unfold allPr
  rw [List.all_eq_true]
  intro c hc
  obtain ⟨j, hj, rfl⟩ := List.mem_iff_getElem.1 hc
  exact h j (by simpa using hj)
theorem allPr_not (s : ByteArray) (j : Nat) (hj : j < s.size) (h : prB (s[j]'hj) = false) : allPr s.data.toList = false := by
  unfold allPr
  rw [List.all_eq_false]
  exact ⟨s[j]'hj, List.mem_of_getElem? (Lib.data_getElem? s j hj), by rw [h]; decide⟩
theorem prB_true {c : UInt8} (h : prB c = true) : (33 : Int) ≤ (c.toNat : Int) ∧ (c.toNat : Int) ≤ 126 := by have := of_decide_eq_true h; omega
theorem prB_false {c : UInt8} (h : prB c = false) : (c.toNat : Int) < 33 ∨ 126 < (c.toNat : Int) := by have := of_decide_eq_false h; omega

theorem wordB_at (s : ByteArray) (h : 0 < s.size) : wordB s.data.toList = (!((s[0]'h) == 36) && allPr s.data.toList) := by
  have h0 := Lib.data_getElem? s 0 h
  cases hl : s.data.toList with
  | nil => rw [hl] at h0; cases h0
  | cons c l =>
    rw [hl] at h0
    have : s[0]'h = c := by simpa using h0.symm
    rw [this]; rfl
theorem empty_of {s : ByteArray} (h : ¬ 0 < s.size) : s = ⟨#[]⟩ := ByteArray.ext (Array.eq_empty_of_size_eq_zero (by have : s.data.size = s.size := rfl; omega))
theorem toList_ne {s : ByteArray} (h : 0 < s.size) : ¬ s.toList = [] ∧ s.toList.isEmpty = false := by
  have h0 : ¬ s.toList = [] := by
    rw [Lib.toList_data]; intro e; rw [Lib.size_eq, e] at h; exact absurd h (by simp)
  refine ⟨h0, ?_⟩
  cases hh : s.toList with
  | nil => exact absurd hh h0
  | cons => rfl

end Go.Proofs.YtjlpekjfmgcbdaaGreatDoor

/- Contracts of quote.Quote and of the reference's. -/
set_option linter.unusedVariables false
namespace Go
open Go.RowKit Go.Lib
/-- a row of bytes made a string -/
theorem run_string_own {P : Program} {W : World} {base : Nat} {e : TypeId} {v : Value} {n : Nat} {bs : List UInt8} {src dst : TypeId} (hs : P.underlying src = some (.slice e)) (he : P.underlying e = some (.int .u8)) (hd : P.underlying dst = some .string)
    (hown : W.ownsRow base e 1 v n (bs.map fun b => Value.int .u8 b.toNat)) : (convert src dst v).run P W = .ok (.string ⟨bs.toArray⟩) W := by
  have hl : bs.length = n := by have := hown.1; simpa using this
  rcases Nat.eq_zero_or_pos n with h0 | h0
  · subst h0
    obtain rfl : bs = [] := List.eq_nil_of_length_eq_zero hl
    rcases hown.2 with ⟨rfl, _⟩ | ⟨g, cap, cur, rfl, _⟩
    · rw [run_convert_bytes_string W src dst e none 0 0 hs he hd]
      simp [Conv.bytesToString, Sem.run_pure]
      rfl
    · exact run_convert_bytes_back W src dst e ⟨g, 0, none⟩ cap [] hs he hd (fun j hj => absurd hj (by simp))
  · obtain ⟨g, cap, rfl, _⟩ := World.ownsRow.form hown h0
    rw [← hl]
    refine run_convert_bytes_back W src dst e ⟨g, 0, none⟩ cap bs hs he hd (fun j hj => ?_)
    rw [show (⟨g, 0, none⟩ : Addr).add j = ⟨g, j, none⟩ by unfold Addr.add; split <;> simp_all, World.ownsRow.cellAt hown j (by omega), List.getElem?_map, List.getElem?_eq_getElem hj]; rfl
end Go
namespace Go.Proofs.YtjlpekjfmgcbdaaGreatDoor
open Go.RowKit Go.Shelf

theorem infoU8 : (Tryz.prog.info? 5).map (fun i => (i.zero, i.size, i.bytes)) = some (some (.int .u8 0), 1, 1) := by kernel_rfl
def byC (l : List UInt8) : List Value := l.map fun b => Value.int .u8 b.toNat
theorem byC_append (a b : List UInt8) : byC (a ++ b) = byC a ++ byC b := List.map_append
theorem byC_one (l : List UInt8) : ∀ u ∈ byC l, u.oneCell' = true := by
  intro u hu
  obtain ⟨b, _, rfl⟩ := List.mem_map.1 hu
  rfl
def digitsB : ByteArray := ⟨#[48, 49, 50, 51, 52, 53, 54, 55, 56, 57, 97, 98, 99, 100, 101, 102]⟩
theorem run_hex {P : Program} {t : TypeId} (n : Int) (m : Nat) (h : P.underlying t = some .string) (W : World) (hm : n = (m : Int)) (h1 : m < 16) : (Instr.index t (.string digitsB) (.int .u8 n)).run P W = .ok (.int .u8 (hexD m).toNat) W := by
  subst hm
  rw [run_index_string W t digitsB .u8 m h]
  have h16 : digitsB.size = 16 := rfl
  rw [dif_pos ⟨by omega, by omega⟩]
  have : m = 0 ∨ m = 1 ∨ m = 2 ∨ m = 3 ∨ m = 4 ∨ m = 5 ∨ m = 6 ∨ m = 7 ∨ m = 8 ∨ m = 9 ∨ m = 10 ∨ m = 11 ∨ m = 12 ∨ m = 13 ∨ m = 14 ∨ m = 15 := by omega
  rcases this with rfl | rfl | rfl | rfl | rfl | rfl | rfl | rfl | rfl | rfl | rfl | rfl | rfl | rfl | rfl | rfl <;> rfl
theorem bits_and15 : ∀ m : Nat, m < 256 → bits .and .u8 (m : Int) 15 = (m : Int) % 16 := by decide +kernel
theorem quoteL_snoc (l : List UInt8) (c : UInt8) : quoteL (l ++ [c]) = quoteL l ++ quoteB c := by unfold quoteL; rw [List.flatMap_append]; simp
theorem quoteB_len (c : UInt8) : (quoteB c).length ≤ 4 ∧ 1 ≤ (quoteB c).length := by unfold quoteB; (repeat' split) <;> simp
theorem quoteL_len (l : List UInt8) : (quoteL l).length ≤ 4 * l.length := by
  induction l with
  | nil => simp [quoteL]
  | cons c l ih =>
    have : quoteL (c :: l) = quoteB c ++ quoteL l := rfl
    rw [this, List.length_append, List.length_cons]
    have := quoteB_len c
    omega

end Go.Proofs.YtjlpekjfmgcbdaaGreatDoor

/- Contracts of the reference's digit, value and Quote, and of quote.first. -/
set_option linter.unusedVariables false
namespace Go.Proofs.YtjlpekjfmgcbdaaGreatDoor
open Go.RowKit Go.Shelf

theorem digits_cut (n : Nat) (h : n < 16) : (⟨#[48, 49, 50, 51, 52, 53, 54, 55, 56, 57, 97, 98, 99, 100, 101, 102]⟩ : ByteArray).extract n (n + 1) = ⟨#[hexD n]⟩ := by
  have : n = 0 ∨ n = 1 ∨ n = 2 ∨ n = 3 ∨ n = 4 ∨ n = 5 ∨ n = 6 ∨ n = 7 ∨ n = 8 ∨ n = 9 ∨ n = 10 ∨ n = 11 ∨ n = 12 ∨ n = 13 ∨ n = 14 ∨ n = 15 := by omega
  rcases this with rfl | rfl | rfl | rfl | rfl | rfl | rfl | rfl | rfl | rfl | rfl | rfl | rfl | rfl | rfl | rfl <;> decide +kernel

def hexI (c : UInt8) : Int := match hexV c with
  | some v => v
  | none => -1
theorem hexI_lo (c : UInt8) (h1 : 48 ≤ c.toNat) (h2 : c.toNat ≤ 57) : hexI c = (c.toNat : Int) - 48 := by unfold hexI hexV; rw [if_pos ⟨h1, h2⟩]; simp only; omega
theorem hexI_hi (c : UInt8) (h1 : 97 ≤ c.toNat) (h2 : c.toNat ≤ 102) : hexI c = (c.toNat : Int) - 87 := by unfold hexI hexV; rw [if_neg (by omega), if_pos ⟨h1, h2⟩]; simp only; omega
theorem hexI_no (c : UInt8) (h1 : ¬ (48 ≤ c.toNat ∧ c.toNat ≤ 57)) (h2 : ¬ (97 ≤ c.toNat ∧ c.toNat ≤ 102)) : hexI c = -1 := by unfold hexI hexV; rw [if_neg h1, if_neg h2]
theorem ret_i {a b : Int} (h : a = b) : Ending.returned (.int .i64 a) = .returned (.int .i64 b) := by rw [h]

theorem take_snoc (s : ByteArray) (k : Nat) (hlt : k < s.size) : s.data.toList.take (k + 1) = s.data.toList.take k ++ [s[k]'hlt] := by
  have h := Lib.data_getElem? s k hlt
  have h2 : k < s.data.toList.length := by rw [← Lib.size_eq]; exact hlt
  rw [List.take_succ_eq_append_getElem h2]
  rw [List.getElem?_eq_getElem h2] at h
  rw [Option.some.inj h]
theorem take_all (s : ByteArray) : s.data.toList.take s.size = s.data.toList := by rw [Lib.size_eq]; exact List.take_length
theorem extract_one (s : ByteArray) (k : Nat) (h : k < s.size) : s.extract k (k + 1) = ⟨#[s[k]'h]⟩ := by
  apply ByteArray.ext
  apply Array.toList_inj.1
  rw [Lib.extract_data]
  have h2 : k < s.data.toList.length := by rw [← Lib.size_eq]; exact h
  have h3 := Lib.data_getElem? s k h
  rw [List.getElem?_eq_getElem h2] at h3
  rw [List.drop_eq_getElem_cons h2, show k + 1 - k = 1 by omega, Option.some.inj h3]
  rfl
theorem run_cat {P : Program} (a b : List UInt8) (h : a.length + b.length ≤ 70368744177664) (w : World) : (Op.stringOp .add ⟨a.toArray⟩ ⟨b.toArray⟩).run P w = .ok (.string ⟨(a ++ b).toArray⟩) w := by
  rw [run_string_add_sum w _ _ (by show a.toArray.size + b.toArray.size ≤ _; simp only [List.size_toArray]; omega)]
  congr 2

end Go.Proofs.YtjlpekjfmgcbdaaGreatDoor

/- Contract of quote.first. -/
set_option linter.unusedVariables false
namespace Go.Proofs.YtjlpekjfmgcbdaaGreatDoor
open Go.RowKit Go.Shelf Go.Sort

theorem at_list (s : ByteArray) (k : Nat) (h : k < s.size) : s.data.toList[k]? = some (s[k]'h) := Lib.data_getElem? s k h
theorem split1 (s : ByteArray) (h : 0 < s.size) : ∃ r, s.data.toList = (s[0]'h) :: r ∧ r.length + 1 = s.size ∧ ∀ j, ∀ hj : j + 1 < s.size, r[j]? = some (s[j + 1]'hj) := by
  have h0 := at_list s 0 h
  have hz := Lib.size_eq s
  cases hl : s.data.toList with
  | nil => rw [hl] at h0; cases h0
  | cons c r =>
    rw [hl] at h0 hz
    refine ⟨r, by rw [show s[0]'h = c by simpa using h0.symm], by simpa using hz.symm, fun j hj => ?_⟩
    have := at_list s (j + 1) hj
    rw [hl] at this
    simpa using this
theorem indexByte_digits : ∀ m : Nat, m < 256 → Lib.indexByte [48, 49, 50, 51, 52, 53, 54, 55, 56, 57, 97, 98, 99, 100, 101, 102] (UInt8.ofNat m) = hexI (UInt8.ofNat m) := by decide +kernel
theorem indexDigits_any (c : UInt8) (w : World) :
    Calls Tryz.prog 122 #[.string ⟨#[48, 49, 50, 51, 52, 53, 54, 55, 56, 57, 97, 98, 99, 100, 101, 102]⟩, .int .u8 c.toNat] w fun e w' => e = .returned (.int .i64 (hexI c)) ∧ w' = w := by
  have h := Tryz.strings_IndexByte ⟨#[48, 49, 50, 51, 52, 53, 54, 55, 56, 57, 97, 98, 99, 100, 101, 102]⟩ c.toNat w
  have e := indexByte_digits c.toNat c.toNat_lt
  rw [UInt8.ofNat_toNat] at e
  have e2 : (((c.toNat : Int)).toNat).toUInt8 = c := by simp
  rw [e2] at h
  have e3 : Lib.indexByte (⟨#[48, 49, 50, 51, 52, 53, 54, 55, 56, 57, 97, 98, 99, 100, 101, 102]⟩ : ByteArray).data.toList c = hexI c := e
  rw [e3] at h
  exact h
theorem hexI_bd (c : UInt8) : -1 ≤ hexI c ∧ hexI c ≤ 15 := by
  unfold hexI hexV
  have := c.toNat_lt
  split
  · rename_i v h
    split at h
    · cases h; omega
    · split at h
      · cases h; omega
      · cases h
  · omega

theorem list2 (s : ByteArray) (h : 1 < s.size) : ∃ r, s.data.toList = (s[0]'(by omega)) :: (s[1]'h) :: r ∧ r.length + 2 = s.size ∧ ∀ j, ∀ hj : j + 2 < s.size, r[j]? = some (s[j + 2]'hj) := by
  obtain ⟨r, h1, h2, h3⟩ := split1 s (by omega)
  have h4 := h3 0 h
  cases r with
  | nil => cases h4
  | cons d r =>
    have e : d = s[1]'h := by simpa using h4
    exact ⟨r, by rw [h1, e], by simpa using h2, fun j hj => by simpa using h3 (j + 1) hj⟩
theorem list4 (s : ByteArray) (h : 3 < s.size) : ∃ r, s.data.toList = (s[0]'(by omega)) :: (s[1]'(by omega)) :: (s[2]'(by omega)) :: (s[3]'h) :: r := by
  obtain ⟨r, h1, h2, h3⟩ := list2 s (by omega)
  have h4 := h3 0 (by omega)
  have h5 := h3 1 (by omega)
  cases r with
  | nil => cases h4
  | cons x r =>
    cases r with
    | nil => cases h5
    | cons y r =>
      have e1 : x = s[2]'(by omega) := by simpa using h4
      have e2 : y = s[3]'h := by simpa using h5
      exact ⟨r, by rw [h1, e1, e2]⟩
theorem u8_ne {c : UInt8} {n : Nat} (hn : n < 256) (h : ¬ c = UInt8.ofNat n) : ((c.toNat : Int) == (n : Int)) = false := by
  refine beq_eq_false_iff_ne.2 (fun e => h ?_)
  apply UInt8.toNat_inj.1
  rw [UInt8.toNat_ofNat']
  omega
theorem bne_of {a b : Int} (h : (a == b) = false) : (a != b) = true := by simp only [bne, h, Bool.not_false]

/-- what quote.first gives -/
def FirstPost (s : ByteArray) (w : World) (e : Ending) (w' : World) : Prop :=
  match step1 s.data.toList with
  | some (c, n) => e = .returned (.tuple #[.int .u8 c.toNat, .string (s.extract n s.size), .bool true]) ∧ Below w.heap.size w w'
  | none => ∃ (c : Int) (r : ByteArray), e = .returned (.tuple #[.int .u8 c, .string r, .bool false]) ∧ Below w.heap.size w w'
theorem FirstPost.some {s : ByteArray} {w : World} {e : Ending} {w' : World} {c : UInt8} {n : Nat} (h : step1 s.data.toList = some (c, n)) (he : e = .returned (.tuple #[.int .u8 c.toNat, .string (s.extract n s.size), .bool true])) (hb : Below w.heap.size w w') : FirstPost s w e w' := by
  unfold FirstPost; rw [h]; exact ⟨he, hb⟩
theorem FirstPost.none {s : ByteArray} {w : World} {e : Ending} {w' : World} {c : Int} {r : ByteArray} (h : step1 s.data.toList = none) (he : e = .returned (.tuple #[.int .u8 c, .string r, .bool false])) (hb : Below w.heap.size w w') : FirstPost s w e w' := by
  unfold FirstPost; rw [h]; exact ⟨c, r, he, hb⟩

end Go.Proofs.YtjlpekjfmgcbdaaGreatDoor

/- Contract of quote.Unquote. -/
set_option linter.unusedVariables false
namespace Go.Proofs.YtjlpekjfmgcbdaaGreatDoor
open Go.RowKit Go.Shelf

/-- what Unquote returns -/
def unqRes (l : List UInt8) : ByteArray × Int := match unq l with
  | none => (⟨#[]⟩, 3)
  | some t => if 64 < t.length then (⟨#[]⟩, 9) else (⟨t.toArray⟩, 0)
theorem rest_list (s : ByteArray) (i : Nat) : (s.extract i s.size).data.toList = s.data.toList.drop i := by
  rw [Lib.extract_data, List.take_of_length_le]
  rw [List.length_drop, Lib.size_eq]; omega
theorem rest_size (s : ByteArray) (i : Nat) : (s.extract i s.size).size = s.size - i := by rw [ByteArray.size_extract]; omega
theorem rest_rest (s : ByteArray) (i n : Nat) (h : i + n ≤ s.size) : (s.extract i s.size).extract n (s.extract i s.size).size = s.extract (i + n) s.size := by
  apply ByteArray.ext
  apply Array.toList_inj.1
  rw [rest_list, rest_list, rest_list, List.drop_drop]
theorem rest_none (s : ByteArray) (i : Nat) (h : i < s.size) (hs : step1 (s.data.toList.drop i) = none) : unq (s.data.toList.drop i) = none :=
  unq_stop hs (by intro e; have := congrArg List.length e; rw [List.length_drop, ← Lib.size_eq] at this; simp at this; omega)
theorem ret_pair {a b : ByteArray} {x y : Int} (h : a = b) (h2 : x = y) : Ending.returned (.tuple #[.string a, .int .i64 x]) = .returned (.tuple #[.string b, .int .i64 y]) := by rw [h, h2]
/-- out holds what is read so far -/
def Read (s : ByteArray) (i : Nat) (O : List UInt8) : Prop := i ≤ s.size ∧ O.length ≤ i ∧ unq s.data.toList = (unq (s.data.toList.drop i)).map (O ++ ·)
theorem Read.zero (s : ByteArray) : Read s 0 [] := ⟨Nat.zero_le _, Nat.le_refl _, by simp⟩
theorem Read.step {s : ByteArray} {i : Nat} {O : List UInt8} (h : Read s i O) {c : UInt8} {n : Nat} (hs : step1 (s.data.toList.drop i) = some (c, n)) : Read s (i + n) (O ++ [c]) := by
  obtain ⟨h1, h2, h3⟩ := h
  have h4 := step1_pos hs
  rw [List.length_drop, ← Lib.size_eq] at h4
  refine ⟨by omega, by simp; omega, ?_⟩
  rw [h3, unq_step hs, List.drop_drop]
  cases unq (List.drop (i + n) s.data.toList) <;> simp
theorem Read.stop {s : ByteArray} {i : Nat} {O : List UInt8} (h : Read s i O) (hi : i < s.size) (hs : step1 (s.data.toList.drop i) = none) : unqRes s.data.toList = (⟨#[]⟩, 3) := by
  unfold unqRes; rw [h.2.2, rest_none s i hi hs]; rfl
theorem Read.done {s : ByteArray} {O : List UInt8} (h : Read s s.size O) : unqRes s.data.toList = if 64 < O.length then (⟨#[]⟩, 9) else (⟨O.toArray⟩, 0) := by
  unfold unqRes
  rw [h.2.2, List.drop_eq_nil_of_le (by rw [Lib.size_eq]; exact Nat.le_refl _), unq_nil]
  simp only [Option.map_some, List.append_nil]

end Go.Proofs.YtjlpekjfmgcbdaaGreatDoor

/- Contract of the reference's Unquote. -/
set_option linter.unusedVariables false
namespace Go.Proofs.YtjlpekjfmgcbdaaGreatDoor
open Go.RowKit Go.Shelf

theorem drop_at (s : ByteArray) (i : Nat) (h : i < s.size) : s.data.toList.drop i = (s[i]'h) :: s.data.toList.drop (i + 1) := by
  have h2 : i < s.data.toList.length := by rw [← Lib.size_eq]; exact h
  have h3 := Lib.data_getElem? s i h
  rw [List.getElem?_eq_getElem h2] at h3
  rw [List.drop_eq_getElem_cons h2, Option.some.inj h3]
theorem drop_end (s : ByteArray) (i : Nat) (h : ¬ i < s.size) : s.data.toList.drop i = [] := List.drop_eq_nil_of_le (by rw [← Lib.size_eq]; omega)
theorem hexI_yes {c : UInt8} (h : 0 ≤ hexI c) : ∃ x, hexV c = some x ∧ hexI c = (x : Int) ∧ x < 16 := by
  have hb := hexI_bd c
  unfold hexI at h hb ⊢
  cases hx : hexV c with
  | none => rw [hx] at h; exact absurd h (by decide)
  | some x => rw [hx] at hb; exact ⟨x, rfl, rfl, by simp only at hb; omega⟩
theorem hexI_not {c : UInt8} (h : ¬ 0 ≤ hexI c) : hexV c = none := by
  unfold hexI at h
  cases hx : hexV c with
  | none => rfl
  | some x => rw [hx] at h; simp only at h; omega

theorem u8_in (a : Int) (h : 0 ≤ a ∧ a ≤ 255) : IntKind.u8.wrap a = a := by
  simp only [IntKind.wrap, IntKind.signed, IntKind.bits]
  simp
  omega
end Go.Proofs.YtjlpekjfmgcbdaaGreatDoor

/- Contracts of package logic and of bitvector, of both implementations: characters, validity. -/
set_option linter.unusedVariables false
set_option linter.unusedSimpArgs false
namespace Go.Proofs.YtjlpekjfmgcbdaaGreatDoor
open Go.RowKit Go.Shelf Go.Sort

theorem u8i (a b : UInt8) : ((a.toNat : Int) = (b.toNat : Int)) ↔ a = b := ⟨fun h => UInt8.toNat_inj.1 (by omega), fun h => by rw [h]⟩
/-- the code of a character -/
def codeB (c : UInt8) : Int := if c = 48 then 0 else if c = 49 then 1 else if c = 120 then 2 else if c = 122 then 3 else -1
theorem codeB_cases (c : UInt8) : (c = 48 ∧ codeB c = 0) ∨ (c = 49 ∧ codeB c = 1) ∨ (c = 120 ∧ codeB c = 2) ∨ (c = 122 ∧ codeB c = 3) ∨ ((c ≠ 48 ∧ c ≠ 49 ∧ c ≠ 120 ∧ c ≠ 122) ∧ codeB c = -1) := by
  unfold codeB
  by_cases h1 : c = 48
  · left; exact ⟨h1, if_pos h1⟩
  · by_cases h2 : c = 49
    · right; left; exact ⟨h2, by rw [if_neg h1, if_pos h2]⟩
    · by_cases h3 : c = 120
      · right; right; left; exact ⟨h3, by rw [if_neg h1, if_neg h2, if_pos h3]⟩
      · by_cases h4 : c = 122
        · right; right; right; left; exact ⟨h4, by rw [if_neg h1, if_neg h2, if_neg h3, if_pos h4]⟩
        · right; right; right; right; exact ⟨⟨h1, h2, h3, h4⟩, by rw [if_neg h1, if_neg h2, if_neg h3, if_neg h4]⟩
theorem codeB_ch (c : UInt8) : decide (0 ≤ codeB c) = chB c := by
  rcases codeB_cases c with ⟨rfl, h⟩ | ⟨rfl, h⟩ | ⟨rfl, h⟩ | ⟨rfl, h⟩ | ⟨⟨h1, h2, h3, h4⟩, h⟩
  · rw [h]; rfl
  · rw [h]; rfl
  · rw [h]; rfl
  · rw [h]; rfl
  · rw [h]
    symm
    unfold chB
    simp [h1, h2, h3, h4]
/-- how often each character occurs -/
def cnt4 (l : List UInt8) : Array Value := #[.int .i64 (l.count 48 : Nat), .int .i64 (l.count 49 : Nat), .int .i64 (l.count 120 : Nat), .int .i64 (l.count 122 : Nat)]
def sum4 (l : List UInt8) : Nat := l.count 48 + l.count 49 + l.count 120 + l.count 122
theorem sum4_le (l : List UInt8) : sum4 l ≤ l.length ∧ (sum4 l = l.length ↔ l.all chB = true) := by
  induction l with
  | nil => exact ⟨Nat.le_refl _, by simp [sum4]⟩
  | cons a t ih =>
    obtain ⟨h1, h2⟩ := ih
    have e : sum4 (a :: t) = sum4 t + (if chB a then 1 else 0) := by
      unfold sum4
      simp only [List.count_cons]
      rcases codeB_cases a with ⟨rfl, _⟩ | ⟨rfl, _⟩ | ⟨rfl, _⟩ | ⟨rfl, _⟩ | ⟨⟨n1, n2, n3, n4⟩, _⟩
      · simp [chB]; omega
      · simp [chB]; omega
      · simp [chB]; omega
      · simp [chB]; omega
      · simp [chB, n1, n2, n3, n4]
    rw [e, List.all_cons, List.length_cons]
    cases hc : chB a with
    | true =>
      rw [if_pos rfl, Bool.true_and]
      exact ⟨by omega, ⟨fun h => h2.1 (by omega), fun h => by have := h2.2 h; omega⟩⟩
    | false =>
      rw [if_neg Bool.false_ne_true, Bool.false_and]
      exact ⟨by omega, ⟨fun h => by omega, fun h => by cases h⟩⟩
theorem cnt4_snoc (l : List UInt8) (c : UInt8) (k : Nat) (h : codeB c = k) : ∃ m : Nat, m ≤ l.length ∧ (cnt4 l)[k]? = some (.int .i64 (m : Nat)) ∧ (cnt4 l).setIfInBounds k (.int .i64 ((m : Int) + 1)) = cnt4 (l ++ [c]) := by
  have hk : ∀ x : UInt8, l.count x ≤ l.length := fun x => List.count_le_length
  rcases codeB_cases c with ⟨rfl, h'⟩ | ⟨rfl, h'⟩ | ⟨rfl, h'⟩ | ⟨rfl, h'⟩ | ⟨_, h'⟩
  · obtain rfl : k = 0 := by omega
    exact ⟨l.count 48, hk _, rfl, by simp [cnt4, List.count_append, List.count_cons]⟩
  · obtain rfl : k = 1 := by omega
    exact ⟨l.count 49, hk _, rfl, by simp [cnt4, List.count_append, List.count_cons]⟩
  · obtain rfl : k = 2 := by omega
    exact ⟨l.count 120, hk _, rfl, by simp [cnt4, List.count_append, List.count_cons]⟩
  · obtain rfl : k = 3 := by omega
    exact ⟨l.count 122, hk _, rfl, by simp [cnt4, List.count_append, List.count_cons]⟩
  · omega
theorem cnt4_skip (l : List UInt8) (c : UInt8) (h : codeB c = -1) : cnt4 (l ++ [c]) = cnt4 l := by
  rcases codeB_cases c with ⟨rfl, h'⟩ | ⟨rfl, h'⟩ | ⟨rfl, h'⟩ | ⟨rfl, h'⟩ | ⟨⟨n1, n2, n3, n4⟩, h'⟩
  · omega
  · omega
  · omega
  · omega
  · simp [cnt4, List.count_append, List.count_cons, n1, n2, n3, n4]
/-- is: whether a string is a value of some width -/
theorem isV_parts (s : ByteArray) : isV s.data.toList = (decide (1 ≤ s.size ∧ s.size ≤ 128) && decide (sum4 s.data.toList = s.size)) := by
  have hl : s.data.toList.length = s.size := (Lib.size_eq s).symm
  unfold isV
  rw [hl]
  congr 1
  rw [Bool.eq_iff_iff, decide_eq_true_eq, ← (sum4_le s.data.toList).2, hl]
end Go.Proofs.YtjlpekjfmgcbdaaGreatDoor

/- Contracts of bitvector's All, Extend and Shorten. -/
set_option linter.unusedVariables false
set_option linter.unusedSimpArgs false
namespace Go.Proofs.YtjlpekjfmgcbdaaGreatDoor
open Go.RowKit Go.Shelf Go.Sort

/-- a byte, so many times -/
theorem rep_any (c : UInt8) (k : Nat) (w : World) (hk : k ≤ 1000000) :
    Calls Tryz.prog 64 #[.string ⟨#[c]⟩, .int .i64 (k : Nat)] w fun e w' => e = .returned (.string (bsV (List.replicate k c))) ∧ Below w.heap.size w w' := by
  have h := Tryz.strings_Repeat ⟨#[c]⟩ k w (by omega) (by show 1 * k ≤ _; omega)
  have e : Lib.repeatL (⟨#[c]⟩ : ByteArray).data.toList k = List.replicate k c := by
    have := Lib.repeatL_replicate c 1 k
    rw [Nat.mul_one] at this
    exact this
  rw [e] at h
  exact h
theorem conv1b (w : World) (c : UInt8) : (convert 51 9 (.slice (some ⟨w.heap.size, 0, none⟩) 1 1)).run Tryz.prog (w.alloc (.cells #[.int .u8 (c.toNat : Int)] 5)) = .ok (.string ⟨#[c]⟩) (w.alloc (.cells #[.int .u8 (c.toNat : Int)] 5)) := by
  refine run_convert_bytes_back _ _ _ 5 ⟨w.heap.size, 0, none⟩ 1 [c] (by kernel_rfl) (by kernel_rfl) (by kernel_rfl) ?_
  intro j hj
  obtain rfl : j = 0 := by simpa using hj
  exact (Row.new w 5 #[.int .u8 (c.toNat : Int)]).cell 0
/-- what All returns -/
def allV (n : Int) (c : UInt8) : List UInt8 := if n < 1 ∨ 128 < n ∨ chB c = false then [] else List.replicate n.toNat c
/-- what Extend returns, as a walk reads it -/
theorem extendV_parts (n : Int) (s : ByteArray) : extendV n s.data.toList =
    if n < 1 ∨ 128 < n then ([], 1) else if s.size = 0 ∨ sum4 s.data.toList ≠ s.size then ([], 3) else if n < s.size then ([], 8) else (extL n.toNat s.data.toList, 0) := by
  have hl : s.data.toList.length = s.size := (Lib.size_eq s).symm
  unfold extendV
  have e1 : (s.data.toList = [] ∨ s.data.toList.all chB = false) ↔ (s.size = 0 ∨ sum4 s.data.toList ≠ s.size) := by
    rw [← List.length_eq_zero_iff, hl]
    have := (sum4_le s.data.toList).2
    rw [hl] at this
    constructor
    · rintro (h | h)
      · exact .inl h
      · right; intro e; rw [this.1 e] at h; cases h
    · rintro (h | h)
      · exact .inl h
      · right
        cases ha : s.data.toList.all chB with
        | false => rfl
        | true => exact absurd (this.2 ha) h
  simp only [e1, hl]
end Go.Proofs.YtjlpekjfmgcbdaaGreatDoor

/- Contract of bitvector's Shorten. -/
set_option linter.unusedVariables false
set_option linter.unusedSimpArgs false
namespace Go.Proofs.YtjlpekjfmgcbdaaGreatDoor
open Go.RowKit Go.Shelf Go.Sort

theorem bs_size (l : List UInt8) : (bsV l).size = l.length := by rw [Lib.size_eq, bsV_list]
theorem bs_get (l : List UInt8) (i : Nat) (h : i < (bsV l).size) : (bsV l)[i]'h = l[i]'(by rw [← bs_size]; exact h) := by
  have := Lib.data_getElem? (bsV l) i h
  rw [bsV_list, List.getElem?_eq_getElem (by rw [← bs_size]; exact h)] at this
  exact (Option.some.inj this).symm
theorem bs_drop (l : List UInt8) (k : Nat) : (bsV l).extract k (bsV l).size = bsV (l.drop k) := by
  apply Go.WideShapes.bytes_inj
  rw [Lib.extract_to_end, bsV_list, bsV_list]
theorem bs_take (l : List UInt8) (k : Nat) : (bsV l).extract 0 k = bsV (l.take k) := by
  apply Go.WideShapes.bytes_inj
  rw [Lib.extract_from_zero, bsV_list, bsV_list]
theorem bs_of (s : ByteArray) : s = bsV s.data.toList := rfl
/-- when a digit in front is left out -/
theorem frC_iff (a b : UInt8) : a = frC b ↔ (a = b ∧ a ≠ 49) ∨ (a = 48 ∧ b = 49) := by
  unfold frC
  by_cases h : b = 49
  · rw [if_pos h]
    constructor
    · intro e; exact .inr ⟨e, h⟩
    · rintro (⟨e, e2⟩ | ⟨e, _⟩)
      · exact absurd (e.trans h) e2
      · exact e
  · rw [if_neg h]
    constructor
    · intro e; exact .inl ⟨e, fun h2 => h (e ▸ h2)⟩
    · rintro (⟨e, e2⟩ | ⟨_, e⟩)
      · exact e
      · exact absurd e h
end Go.Proofs.YtjlpekjfmgcbdaaGreatDoor

/- Contracts of bytes.TrimLeft and TrimRight at the digit 0, and of decimal's trim and first. -/
set_option linter.unusedVariables false
set_option linter.unusedSimpArgs false
namespace Go.Proofs.YtjlpekjfmgcbdaaGreatDoor
open Go.RowKit Go.Shelf Go.Sort

def by8 (c : UInt8) : Value := .int .u8 (c.toNat : Int)
def dropR (l : List UInt8) : List UInt8 := (l.reverse.dropWhile (· == 48)).reverse
theorem Sl_drop {W : World} {b off : Nat} {l : List UInt8} (h : ∀ i (hi : i < l.length), W.cell? ⟨b, off + i, none⟩ = some (by8 (l[i]'hi))) (k : Nat) : Sl by8 W (some ⟨b, off + k, none⟩) (l.drop k) := fun hp =>
  ⟨b, off + k, rfl, fun i hi => by
    have hk : k + i < l.length := by rw [List.length_drop] at hi; omega
    rw [Nat.add_assoc, h (k + i) hk, List.getElem_drop]⟩
set_option maxRecDepth 20000 in
set_option maxHeartbeats 4000000 in
theorem trimLeftByte_any (A : Option Addr) (n cap : Nat) (l : List UInt8) (w : World) (hn : n = l.length) (hp : 0 < l.length) (hc : n ≤ cap) (hz : cap ≤ maxLen) (hs : Sl by8 w A l) :
    Calls Tryz.prog 137 #[.slice A n cap, .int .u8 48] w fun e w' => (∃ A' cap', e = .returned (.slice A' (l.dropWhile (· == 48)).length cap') ∧ (∀ W' : World, Sl by8 W' A l → Sl by8 W' A' (l.dropWhile (· == 48))) ∧ (l.dropWhile (· == 48)).length ≤ cap' ∧ cap' ≤ maxLen) ∧ w' = w := by
  subst hn
  obtain ⟨b, off, rfl, hat⟩ := hs hp
  unfold maxLen at hz ⊢
  have Hat := hide hat
  obtain ⟨R, hR⟩ : ∃ R, l.dropWhile (· == 48) = R := ⟨_, rfl⟩
  have HR := hide hR
  rw [hR]
  clear hat hR hs
  go_enter Tryz.func137, Tryz.ntmps137
  go_wp2
  go_loop [0] (fun v => ∃ (k : Nat) (A' : Option Addr), v = .slice A' (l.length - k) (cap - k) ∧ k ≤ l.length ∧ (l.drop k).dropWhile (· == 48) = R ∧ (k < l.length → A' = some ⟨b, off + k, none⟩)) (fun v => match v with | .slice _ m _ => m | _ => 0)
  case atStart => exact ⟨0, some ⟨b, off, none⟩, rfl, Nat.zero_le _, HR.out, fun _ => rfl⟩
  case round =>
    obtain ⟨k, A', rfl, hk, hrest, hA⟩ := hrel
    have HRest := hide hrest
    clear hrest
    by_cases hlt : k < l.length
    · obtain rfl := hA hlt
      have hcell := Hat.out k hlt
      have hdr : l.drop k = l[k] :: l.drop (k + 1) := List.drop_eq_getElem_cons hlt
      obtain ⟨c, hc0⟩ : ∃ c, l[k]'hlt = c := ⟨_, rfl⟩
      rw [hc0] at hcell hdr
      have hpos : (0 : Int) < ((l.length - k : Nat) : Int) := by omega
      have hpos' : 0 < l.length - k := by omega
      unfold by8 at hcell
      have h1c : (1 : Int) ≤ ((l.length - k : Nat) : Int) := by omega
      have h2c : ((l.length - k : Nat) : Int) ≤ ((cap - k : Nat) : Int) := by omega
      by_cases h48 : c = 48
      · have e48 : ((c.toNat : Int) == 48) = true := by rw [h48]; rfl
        have hr2 : (l.drop (k + 1)).dropWhile (· == 48) = R := by
          have := HRest.out
          rw [hdr, List.dropWhile_cons, h48] at this
          simpa using this
        have Hr2 := hide hr2
        clear hr2 hdr hc0 h48 hA
        go_wp2
        go_round
        case rel => exact ⟨k + 1, if cap - k = 1 then some ⟨b, off + k, none⟩ else some ⟨b, off + k + 1, none⟩, by rw [← Nat.sub_sub, ← Nat.sub_sub], by omega, Hr2.out, fun h => if_neg (by omega)⟩
        case measure => show l.length - k - 1 < l.length - k; omega
      · have e48 : ((c.toNat : Int) == 48) = false := beq_eq_false_iff_ne.2 (fun e => h48 ((u8i c 48).1 e))
        have hr2 : l.drop k = R := by
          have := HRest.out
          have h48' : (c == 48) = false := by simpa using h48
          rw [hdr, List.dropWhile_cons, h48'] at this
          rw [hdr]; simpa using this
        have hrl : R.length = l.length - k := by rw [← hr2, List.length_drop]
        have hsl : ∀ W' : World, Sl by8 W' (some ⟨b, off, none⟩) l → Sl by8 W' (some ⟨b, off + k, none⟩) R := fun W' h => by
          obtain ⟨b', off', hA', hat'⟩ := h hp
          cases hA'
          have := Sl_drop hat' k
          rw [hr2] at this
          exact this
        have Hsl := hide hsl
        have Hrl := hide hrl
        have hne0 : ((l.length - k : Nat) : Int) ≠ 0 := by omega
        have hne1 : l.length - k ≠ 0 := by omega
        clear hr2 hdr hc0 h48 hA hsl hrl
        go_wp2
        go_ret
        exact ⟨⟨some ⟨b, off + k, none⟩, cap - k, congrArg (fun m => Ending.returned (Value.slice (some ⟨b, off + k, none⟩) m (cap - k))) Hrl.out.symm, Hsl.out, by rw [Hrl.out]; omega, by omega⟩, rfl⟩
    · obtain rfl : k = l.length := by omega
      have hr0 : R = [] := by
        have := HRest.out
        rw [List.drop_length] at this
        exact this.symm
      subst hr0
      have hl0 : l.length - l.length = 0 := Nat.sub_self _
      rw [hl0]
      clear hA
      go_wp2
      go_ret
      exact ⟨⟨none, 0, rfl, fun W' _ => Sl.nil _ _ _, by omega⟩, rfl⟩
set_option maxRecDepth 20000 in
set_option maxHeartbeats 4000000 in
theorem TrimLeft_any (A : Option Addr) (n cap : Nat) (l : List UInt8) (w : World) (hn : n = l.length) (hc : n ≤ cap) (hz : cap ≤ maxLen) (hs : Sl by8 w A l) :
    Calls Tryz.prog 133 #[.slice A n cap, .string ⟨#[48]⟩] w fun e w' => (∃ A' cap', e = .returned (.slice A' (l.dropWhile (· == 48)).length cap') ∧ (∀ W' : World, Sl by8 W' A l → Sl by8 W' A' (l.dropWhile (· == 48))) ∧ (l.dropWhile (· == 48)).length ≤ cap' ∧ cap' ≤ maxLen) ∧ w' = w := by
  subst hn
  by_cases hp : 0 < l.length
  · have T := hide (fun (W : World) (h : Sl by8 W A l) => trimLeftByte_any A l.length cap l W rfl hp hc hz h)
    have Hs := hide hs
    have hn0 : ((l.length : Nat) : Int) ≠ 0 := by omega
    have hn1 : l.length ≠ 0 := by omega
    clear hs
    go_enter Tryz.func133, Tryz.ntmps133
    go_wp2_with fail
    refine (T.out _ Hs.out).mono ?_
    rintro e wx ⟨⟨A', cap', rfl, h1, h2, h3⟩, rfl⟩
    have H1 := hide h1
    clear h1
    go_wp2
    go_ret
    exact ⟨⟨A', cap', rfl, H1.out, h2, h3⟩, rfl⟩
  · obtain rfl : l = [] := List.eq_nil_of_length_eq_zero (by omega)
    go_enter Tryz.func133, Tryz.ntmps133
    go_wp2
    go_ret
    exact ⟨⟨none, 0, rfl, fun W' _ => Sl.nil _ _ _, Nat.le_refl _, by unfold maxLen; omega⟩, rfl⟩
theorem dropR_snoc (l : List UInt8) (k : Nat) (hk : k < l.length) : dropR (l.take (k + 1)) = if l[k] = 48 then dropR (l.take k) else l.take (k + 1) := by
  have e : l.take (k + 1) = l.take k ++ [l[k]] := List.take_succ_eq_append_getElem hk
  unfold dropR
  rw [e, List.reverse_append]
  show (List.dropWhile _ (l[k] :: (l.take k).reverse)).reverse = _
  rw [List.dropWhile_cons]
  by_cases h : l[k] = 48
  · rw [if_pos h]; simp [h]
  · have : (l[k] == 48) = false := by simpa using h
    rw [if_neg h, this]; simp
set_option maxRecDepth 20000 in
set_option maxHeartbeats 4000000 in
theorem trimRightByte_any (A : Option Addr) (n cap : Nat) (l : List UInt8) (w : World) (hn : n = l.length) (hp : 0 < l.length) (hc : n ≤ cap) (hz : cap ≤ maxLen) (hs : Sl by8 w A l) :
    Calls Tryz.prog 141 #[.slice A n cap, .int .u8 48] w fun e w' => (∃ A' cap', e = .returned (.slice A' (dropR l).length cap')) ∧ w' = w := by
  subst hn
  obtain ⟨b, off, rfl, hat⟩ := hs hp
  unfold maxLen at hz
  have Hat := hide hat
  obtain ⟨R, hR⟩ : ∃ R, dropR l = R := ⟨_, rfl⟩
  have HR := hide hR
  rw [hR]
  clear hat hR hs
  go_enter Tryz.func141, Tryz.ntmps141
  go_wp2
  go_loop [0] (fun v => ∃ k : Nat, v = .slice (some ⟨b, off, none⟩) k cap ∧ k ≤ l.length ∧ dropR (l.take k) = R) (fun v => match v with | .slice _ m _ => m | _ => 0)
  case atStart => exact ⟨l.length, rfl, Nat.le_refl _, by rw [List.take_length]; exact HR.out⟩
  case round =>
    obtain ⟨k, rfl, hk, hrest⟩ := hrel
    have HRest := hide hrest
    clear hrest
    by_cases hlt : 0 < k
    · obtain ⟨j, rfl⟩ : ∃ j, k = j + 1 := ⟨k - 1, by omega⟩
      have hjl : j < l.length := by omega
      have hcell := Hat.out j hjl
      have hst := dropR_snoc l j hjl
      rw [HRest.out] at hst
      obtain ⟨c, hc0⟩ : ∃ c, l[j]'hjl = c := ⟨_, rfl⟩
      rw [hc0] at hcell hst
      unfold by8 at hcell
      have hjc : ((j : Nat) : Int) ≤ (cap : Int) := by omega
      have hjm : (j : Int) ≤ 9223372036854775806 := by omega
      by_cases h48 : c = 48
      · have e48 : ((c.toNat : Int) == 48) = true := by rw [h48]; rfl
        rw [if_pos h48] at hst
        have Hst := hide hst
        clear hst hc0 h48
        go_wp2
        go_round
        case rel => exact ⟨j, by first | rfl | simp, by omega, Hst.out.symm⟩
        case measure => first | (show j < j + 1; omega) | (simp; omega)
      · have e48 : ((c.toNat : Int) == 48) = false := beq_eq_false_iff_ne.2 (fun e => h48 ((u8i c 48).1 e))
        rw [if_neg h48] at hst
        have hrl : R.length = j + 1 := by rw [hst, List.length_take]; omega
        have Hrl := hide hrl
        clear hst hc0 h48 hrl
        go_wp2
        go_ret
        exact ⟨⟨some ⟨b, off, none⟩, cap, congrArg (fun m => Ending.returned (Value.slice (some ⟨b, off, none⟩) m cap)) Hrl.out.symm⟩, rfl⟩
    · obtain rfl : k = 0 := by omega
      have hr0 : R = [] := by
        have := HRest.out
        exact this.symm
      subst hr0
      go_wp2
      go_ret
      exact ⟨⟨_, _, rfl⟩, rfl⟩
set_option maxRecDepth 20000 in
set_option maxHeartbeats 4000000 in
theorem TrimRight_any (A : Option Addr) (n cap : Nat) (l : List UInt8) (w : World) (hn : n = l.length) (hc : n ≤ cap) (hz : cap ≤ maxLen) (hs : Sl by8 w A l) :
    Calls Tryz.prog 134 #[.slice A n cap, .string ⟨#[48]⟩] w fun e w' => (∃ A' cap', e = .returned (.slice A' (dropR l).length cap')) ∧ w' = w := by
  subst hn
  by_cases hp : 0 < l.length
  · have T := hide (fun (W : World) (h : Sl by8 W A l) => trimRightByte_any A l.length cap l W rfl hp hc hz h)
    have Hs := hide hs
    have hn0 : ((l.length : Nat) : Int) ≠ 0 := by omega
    have hn1 : l.length ≠ 0 := by omega
    clear hs
    go_enter Tryz.func134, Tryz.ntmps134
    go_wp2_with fail
    refine (T.out _ Hs.out).mono ?_
    rintro e wx ⟨⟨A', cap', rfl⟩, rfl⟩
    go_wp2
    go_ret
    exact ⟨⟨A', cap', rfl⟩, rfl⟩
  · obtain rfl : l = [] := List.eq_nil_of_length_eq_zero (by omega)
    go_enter Tryz.func134, Tryz.ntmps134
    go_wp2
    go_ret
    exact ⟨⟨_, _, rfl⟩, rfl⟩
end Go.Proofs.YtjlpekjfmgcbdaaGreatDoor

/- Contracts of decimal's trim, first and of scan's closures. -/
set_option linter.unusedVariables false
set_option linter.unusedSimpArgs false
namespace Go.Proofs.YtjlpekjfmgcbdaaGreatDoor
open Go.RowKit Go.Shelf Go.Sort

/-- a number by value -/
def numV (neg : Bool) (A : Option Addr) (n cap : Nat) (e : Int) : Value := .agg #[.bool neg, .slice A n cap, .int .i64 e]
theorem stripV_dropR (l : List UInt8) : stripV l = dropR (l.dropWhile (· == 48)) := rfl
theorem dropR_le (l : List UInt8) : (dropR l).length ≤ l.length ∧ dropR l = l.take (dropR l).length := by
  have h : dropR l <+: l := by
    unfold dropR
    rw [← List.reverse_suffix, List.reverse_reverse]
    exact List.dropWhile_suffix _
  exact ⟨h.length_le, List.prefix_iff_eq_take.1 h⟩
theorem Sl_take {W : World} {A : Option Addr} {l : List UInt8} (h : Sl by8 W A l) (k : Nat) : Sl by8 W A (l.take k) := by
  intro hp
  rw [List.length_take] at hp
  obtain ⟨b, off, rfl, hat⟩ := h (by omega)
  exact ⟨b, off, rfl, fun i hi => by rw [hat i (by rw [List.length_take] at hi; omega), List.getElem_take]⟩
set_option maxRecDepth 20000 in
set_option maxHeartbeats 4000000 in
theorem numFirst_any (neg : Bool) (A : Option Addr) (n cap : Nat) (e : Int) (w : World) (hn : n ≤ 1000000) (h0 : -1000000000 ≤ e) (h1 : e ≤ 1000000000) :
    Calls Tryz.prog 129 #[numV neg A n cap e] w fun e' w' => e' = .returned (.int .i64 (e + n - 1)) ∧ Below w.heap.size w w' := by
  unfold numV
  have hn' : (n : Int) ≤ 1000000 := by omega
  go_enter Tryz.func129, Tryz.ntmps129
  go_wp2
  go_ret
  exact ⟨rfl, (Below.refl _ _).alloc (Nat.le_refl _) _⟩
set_option maxRecDepth 20000 in
set_option maxHeartbeats 8000000 in
theorem trim_any (neg : Bool) (A : Option Addr) (n cap : Nat) (l : List UInt8) (e : Int) (w : World) (hn : n = l.length) (hl : l.length ≤ 1000000) (hc : n ≤ cap) (hz : cap ≤ maxLen) (h0 : -1000000000 ≤ e) (h1 : e ≤ 1000000000) (hs : Sl by8 w A l) :
    Calls Tryz.prog 128 #[numV neg A n cap e] w fun e' w' => ∃ A' cap' neg' ex', e' = .returned (numV neg' A' (stripV l).length cap' ex') ∧ Sl by8 w' A' (stripV l) ∧ (stripV l).length ≤ cap' ∧ cap' ≤ maxLen ∧ Below w.heap.size w w' ∧
      (stripV l ≠ [] → neg' = neg ∧ ex' = e + ((l.dropWhile (· == 48)).length - (stripV l).length)) ∧ (stripV l = [] → neg' = false ∧ ex' = 0) := by
  subst hn
  unfold numV
  have TL := hide (fun (W : World) (h : Sl by8 W A l) => TrimLeft_any A l.length cap l W rfl hc hz h)
  have Hs := hide hs
  have hdl : (l.dropWhile (· == 48)).length ≤ l.length := (List.dropWhile_suffix (p := (· == (48 : UInt8))) (l := l)).length_le
  have hdr := dropR_le (l.dropWhile (· == 48))
  rw [stripV_dropR]
  generalize l.dropWhile (· == 48) = D at *
  obtain ⟨T, hT⟩ : ∃ T, dropR D = T := ⟨_, rfl⟩
  have TR := hide (fun (A' : Option Addr) (cap' : Nat) (W : World) (hc : D.length ≤ cap') (hz : cap' ≤ maxLen) (h : Sl by8 W A' D) => TrimRight_any A' D.length cap' D W rfl hc hz h)
  rw [hT] at TR hdr ⊢
  have htd : T.length ≤ D.length := hdr.1
  have HT := hide hdr.2
  have hdI : (D.length : Int) ≤ 1000000 := by omega
  have htI : (T.length : Int) ≤ D.length := by omega
  clear hs hdr hT
  go_enter Tryz.func128, Tryz.ntmps128
  go_wp2_with fail
  refine (TL.out _ (Hs.out.below (((Below.refl w.heap.size w).alloc (Nat.le_refl _) _).alloc (by rw [World.size_alloc]; omega) _))).mono ?_
  rintro e' wx ⟨⟨A1, cap1, rfl, hs1, hc1, hz1⟩, rfl⟩
  have Hs1 := hide hs1
  have hsD : Sl by8 w A1 D := hs1 w Hs.out
  have HsD := hide hsD
  clear hs1 hsD
  have c1 : (T.length : Int) ≤ (cap1 : Int) := by omega
  unfold maxLen at hz1
  have zI : (cap1 : Int) ≤ 9223372036854775807 := by omega
  go_wp2_with fail
  refine (TR.out _ _ _ hc1 hz1 (HsD.out.below (((Below.refl w.heap.size w).alloc (Nat.le_refl _) _).alloc (by rw [World.size_alloc]; omega) _))).mono ?_
  rintro e' wx ⟨⟨A2, cap2, rfl⟩, rfl⟩
  by_cases hT0 : T.length = 0
  · obtain rfl : T = [] := List.eq_nil_of_length_eq_zero hT0
    have hTI : (([] : List UInt8).length : Int) = 0 := rfl
    go_wp2
    exact bodyPost_ret (v := .agg #[.bool false, .slice none 0 0, .int .i64 0]) (results_cell_row rfl _ _ (w.heap.size + 1) 117 _ _ _ rfl (heap_alloc2_new w _ _) Tryz.underlying117 rfl (by kernel_rfl)) rfl
      ⟨none, 0, 0, rfl, Sl.nil _ _ _, by unfold maxLen; omega, ((Below.refl _ _).alloc (Nat.le_refl _) _).alloc (by rw [World.size_alloc]; omega) _, rfl⟩
  · have hTI : (T.length : Int) ≠ 0 := by omega
    have hne : T ≠ [] := fun e => hT0 (by rw [e]; rfl)
    have HsT := hide (show Sl by8 w A1 T from by have := Sl_take HsD.out T.length; rw [← HT.out] at this; exact this)
    go_wp2
    exact bodyPost_ret (v := .agg #[.bool neg, .slice A1 T.length T.length, .int .i64 (e + ((D.length : Int) - T.length))]) (results_cell_row rfl _ _ (w.heap.size + 1) 117 _ _ _ rfl (heap_alloc2_new w _ _) Tryz.underlying117 rfl (by kernel_rfl)) rfl
      ⟨A1, T.length, neg, _, rfl, HsT.out.below (((Below.refl _ _).alloc (Nat.le_refl _) _).alloc (by rw [World.size_alloc]; omega) _), Nat.le_refl _, by unfold maxLen; omega, ((Below.refl _ _).alloc (Nat.le_refl _) _).alloc (by rw [World.size_alloc]; omega) _, fun _ => ⟨rfl, rfl⟩, fun h => absurd h hne⟩
end Go.Proofs.YtjlpekjfmgcbdaaGreatDoor

/- Contracts of the closures of decimal.scan. -/
set_option linter.unusedVariables false
set_option linter.unusedSimpArgs false
namespace Go.Proofs.YtjlpekjfmgcbdaaGreatDoor
open Go.RowKit Go.Shelf Go.Sort

/-- where the scanner of a text stands -/
structure At (W : World) (pa ps : Nat) (k : Nat) (l : List UInt8) : Prop where
  pos : Row W pa 3 #[.int .i64 (k : Nat)]
  txt : Row W ps 9 #[.string (bsV l)]
theorem At.keep {W W' : World} {pa ps k : Nat} {l : List UInt8} (h : At W pa ps k l) {C : Nat → Prop} (hk : Keeps C W W') (h1 : ¬ C pa) (h2 : ¬ C ps) : At W' pa ps k l := ⟨h.pos.keep hk h1, h.txt.keep hk h2⟩
theorem At.drewN {W : World} {pa ps k : Nat} {l : List UInt8} (h : At W pa ps k l) (n : Nat) : At (W.drewN n) pa ps k l := ⟨h.pos.drewN n, h.txt.drewN n⟩
/-- whether the next byte is one of some -/
def oneB (set : List UInt8) (r : List UInt8) : Bool := match r.head? with | some c => set.contains c | none => false
set_option maxRecDepth 20000 in
set_option maxHeartbeats 8000000 in
theorem one_any (set l : List UInt8) (pa ps k : Nat) (w : World) (hne : pa ≠ ps) (hz : set.length ≤ 8) (hl : l.length ≤ 1000000) (hk : k ≤ l.length) (ha : At w pa ps k l) :
    Calls Tryz.prog 126 #[.string (bsV set), .pointer (some ⟨pa, 0, none⟩), .pointer (some ⟨ps, 0, none⟩)] w fun e w' => e = .returned (.bool (oneB set (l.drop k))) ∧ At w' pa ps (k + (if oneB set (l.drop k) then 1 else 0)) l ∧ Keeps (fun c => c = pa) w w' := by
  have hsz := bs_size set
  have hlz := bs_size l
  have Ha := hide ha
  obtain ⟨R, hR⟩ : ∃ R, oneB set (l.drop k) = R := ⟨_, rfl⟩
  have HR := hide hR
  rw [hR]
  clear ha hR
  have hset : ∀ (i : Nat) (h : i < (bsV set).size), (bsV set)[i]'h = set[i]'(by rw [← hsz]; exact h) := bs_get set
  have htxt : ∀ (i : Nat) (h : i < (bsV l).size), (bsV l)[i]'h = l[i]'(by rw [← hlz]; exact h) := bs_get l
  have HSet := hide hset
  have HTxt := hide htxt
  clear hset htxt
  go_enter Tryz.func126, Tryz.ntmps126
  go_wp2
  go_loopw [8] (fun v wr => ∃ i : Nat, v = .int .i64 i ∧ i ≤ set.length ∧ (∀ j (hj : j < set.length), j < i → (l.drop k).head? ≠ some set[j]) ∧ At wr pa ps k l ∧ Keeps (fun c => c = pa) w wr) (fun v _ => set.length - (intOf v).toNat)
  case atStart => exact ⟨0, rfl, Nat.zero_le _, (fun j hj h => absurd h (Nat.not_lt_zero _)), Ha.out, Keeps.refl _ _⟩
  case round =>
    obtain ⟨i, rfl, hi, hno, hat, hkp⟩ := hrel
    have Hno := hide hno
    have Hat := hide hat
    have Hkp := hide hkp
    have hca : wr.cell? ⟨pa, 0, none⟩ = some (.int .i64 (k : Nat)) := hat.pos.cell 0
    have hcs : wr.cell? ⟨ps, 0, none⟩ = some (.string (bsV l)) := hat.txt.cell 0
    have hfa : wr.frozen? ⟨pa, 0, none⟩ = false := hat.pos.frozen 0
    have hkI : (k : Int) ≤ 1000000 := by omega
    clear hno hat hkp
    by_cases hlt : i < set.length
    · have hltI : (i : Int) < ((bsV set).size : Int) := by rw [hsz]; omega
      have hltN : i < (bsV set).size := by rw [hsz]; exact hlt
      have hgs := HSet.out i hltN
      by_cases hin : k < l.length
      · have hinI : (k : Int) < ((bsV l).size : Int) := by rw [hlz]; omega
        have hinN : k < (bsV l).size := by rw [hlz]; exact hin
        have hgl := HTxt.out k hinN
        have hhd : (l.drop k).head? = some (l[k]'hin) := by rw [List.head?_drop, List.getElem?_eq_getElem hin]
        by_cases heq : l[k]'hin = set[i]'hlt
        · have e1 : ((((bsV l)[k]'hinN).toNat : Int) == (((bsV set)[i]'hltN).toNat : Int)) = true := by rw [hgl, hgs, heq]; simp
          have hRt : R = true := by
            rw [← HR.out]; unfold oneB; rw [hhd, heq]
            simp
          subst hRt
          have hk1 : ((k + 1 : Nat) : Int) = (k : Int) + 1 := by omega
          have HAt := hide (fun n : Nat => (show At ((wr.drewN n).setCell ⟨pa, 0, none⟩ (.int .i64 ((k : Int) + 1))) pa ps (k + 1) l from ⟨by rw [← hk1]; exact (Hat.out.drewN n).pos.set_ 0 (.int .i64 ((k + 1 : Nat) : Int)), (Hat.out.drewN n).txt.off (b := pa) (fun h => hne h.symm) 0 _⟩))
          clear hgl hgs hhd heq HR hk1
          generalize bsV l = lb at *
          generalize bsV set = sb at *
          go_upto_region 4 with fail
          go_quiet (fail)
          go_wp2
          go_ret
          exact ⟨rfl, HAt.out _, (Hkp.out.drewN _).set (.inl rfl) 0 _⟩
        · have e1 : ((((bsV l)[k]'hinN).toNat : Int) == (((bsV set)[i]'hltN).toNat : Int)) = false := by
            rw [hgl, hgs]; exact beq_eq_false_iff_ne.2 (fun e => heq ((u8i _ _).1 e))
          have Hno2 := hide (show ∀ j (hj : j < set.length), j < i + 1 → (l.drop k).head? ≠ some set[j] from fun j hj h => by
            rcases Nat.lt_or_ge j i with h1 | h1
            · exact Hno.out j hj h1
            · obtain rfl : j = i := by omega
              rw [hhd]; exact fun e => heq (Option.some.inj e))
          clear hgl hgs hhd heq
          generalize bsV l = lb at *
          generalize bsV set = sb at *
          go_upto_region 4 with fail
          go_quiet (fail)
          go_wp2
          go_roundw
          case rel => exact ⟨i + 1, by go_num, by omega, Hno2.out, Hat.out.drewN _, Hkp.out.drewN _⟩
          case measure => simp [intOf]; omega
      · have hinI : ¬ (k : Int) < ((bsV l).size : Int) := by rw [hlz]; omega
        have hhd : (l.drop k).head? = none := by rw [List.head?_drop]; exact List.getElem?_eq_none (by omega)
        have Hno2 := hide (show ∀ j (hj : j < set.length), j < i + 1 → (l.drop k).head? ≠ some set[j] from fun j hj h => by rw [hhd]; simp)
        clear hgs hhd
        generalize bsV l = lb at *
        generalize bsV set = sb at *
        go_upto_region 4 with fail
        go_quiet (fail)
        go_wp2
        go_roundw
        case rel => exact ⟨i + 1, by go_num, by omega, Hno2.out, Hat.out.drewN _, Hkp.out.drewN _⟩
        case measure => simp [intOf]; omega
    · obtain rfl : i = set.length := by omega
      have hRf : R = false := by
        rw [← HR.out]; unfold oneB
        cases hh : (l.drop k).head? with
        | none => rfl
        | some c =>
          cases hc : set.contains c with
          | false => exact hc
          | true =>
            obtain ⟨j, hj, hjc⟩ := List.mem_iff_getElem.1 (show c ∈ set by simpa using hc)
            exact absurd (by rw [hh, hjc]) (Hno.out j hj hj)
      subst hRf
      have hltI : ¬ (set.length : Int) < ((bsV set).size : Int) := by rw [hsz]; omega
      clear HR
      generalize bsV l = lb at *
      generalize bsV set = sb at *
      go_wp2
      go_ret
      exact ⟨rfl, Hat.out, Hkp.out⟩
set_option maxRecDepth 20000 in
set_option maxHeartbeats 8000000 in
theorem digits_any (l : List UInt8) (pa ps k : Nat) (w : World) (hne : pa ≠ ps) (hl : l.length ≤ 1000000) (hk : k ≤ l.length) (ha : At w pa ps k l) :
    Calls Tryz.prog 127 #[.pointer (some ⟨pa, 0, none⟩), .pointer (some ⟨ps, 0, none⟩)] w fun e w' => e = .returned (.string (bsV ((l.drop k).take (nd (l.drop k))))) ∧ At w' pa ps (k + nd (l.drop k)) l ∧ Keeps (fun c => c = pa) w w' := by
  have hlz := bs_size l
  have Ha := hide ha
  have htxt : ∀ (i : Nat) (h : i < (bsV l).size), (bsV l)[i]'h = l[i]'(by rw [← hlz]; exact h) := bs_get l
  have HTxt := hide htxt
  have hca0 : w.cell? ⟨pa, 0, none⟩ = some (.int .i64 (k : Nat)) := ha.pos.cell 0
  obtain ⟨N, hN⟩ : ∃ N, nd (l.drop k) = N := ⟨_, rfl⟩
  have hNle : N ≤ l.length - k := by rw [← hN, ← List.length_drop]; exact nd_le _
  have Hin := hide (show ∀ j (h : k + j < l.length), j < N → isD l[k + j] = true from fun j h hj => by
    have := nd_in (l.drop k) j (by rw [List.length_drop]; omega) (by rw [hN]; exact hj)
    rwa [List.getElem_drop] at this)
  have Hend := hide (show ∀ (h : k + N < l.length), isD l[k + N] = false from fun h => by
    have := nd_end (l.drop k) (by rw [List.length_drop, hN]; omega)
    rw [List.getElem_drop] at this
    simp only [hN] at this
    exact this)
  have hres : bsV ((l.drop k).take N) = (bsV l).extract k (k + N) := by
    apply Go.WideShapes.bytes_inj
    rw [bsV_list, Lib.extract_data, bsV_list, Nat.add_sub_cancel_left]
  have Hres := hide hres
  rw [hN]
  clear ha htxt hN hres
  go_enter Tryz.func127, Tryz.ntmps127
  go_wp2
  clear hca0
  go_loopg [21] N (fun g v wr => ∃ j : Nat, j + g = N ∧ At wr pa ps (k + j) l ∧ Keeps (fun c => c = pa) w wr)
  case atStart => exact ⟨0, Nat.zero_add _, Ha.out, Keeps.refl _ _⟩
  case round =>
    obtain ⟨j, hj, hat, hkp⟩ := hrel
    have Hat := hide hat
    have Hkp := hide hkp
    have hca : wr.cell? ⟨pa, 0, none⟩ = some (.int .i64 ((k + j : Nat) : Int)) := hat.pos.cell 0
    have hcs : wr.cell? ⟨ps, 0, none⟩ = some (.string (bsV l)) := hat.txt.cell 0
    have hfa : wr.frozen? ⟨pa, 0, none⟩ = false := hat.pos.frozen 0
    clear hat hkp
    obtain ⟨p, hp⟩ : ∃ p, k + j = p := ⟨_, rfl⟩
    have hpI : (p : Int) ≤ 1000000 := by omega
    rw [hp] at hca
    by_cases hin : p < l.length
    · have hinI : (p : Int) < ((bsV l).size : Int) := by rw [hlz]; omega
      have hinN : p < (bsV l).size := by rw [hlz]; exact hin
      have hgl := HTxt.out p hinN
      by_cases hlt : j < N
      · have hd := Hin.out j (by rw [hp]; exact hin) hlt
        simp only [hp] at hd
        rw [← hgl] at hd
        simp only [isD, decide_eq_true_eq] at hd
        have g1 : (48 : Int) ≤ (((bsV l)[p]'hinN).toNat : Int) := by omega
        have g2 : (((bsV l)[p]'hinN).toNat : Int) ≤ 57 := by omega
        have hk1 : ((k + (j + 1) : Nat) : Int) = (p : Int) + 1 := by omega
        have HAt := hide (show At (wr.setCell ⟨pa, 0, none⟩ (.int .i64 ((p : Int) + 1))) pa ps (k + (j + 1)) l from ⟨by rw [← hk1]; exact Hat.out.pos.set_ 0 (.int .i64 ((k + (j + 1) : Nat) : Int)), Hat.out.txt.off (b := pa) (fun h => hne h.symm) 0 _⟩)
        clear hgl hd hk1 hp
        generalize bsV l = lb at *
        go_wp2
        go_roundg (N - (j + 1))
        case measure => omega
        case rel => exact ⟨j + 1, by omega, HAt.out, Hkp.out.set (.inl rfl) 0 _⟩
      · obtain rfl : j = N := by omega
        have hd := Hend.out (by rw [hp]; exact hin)
        simp only [hp] at hd
        rw [← hgl] at hd
        simp only [isD, decide_eq_false_iff_not] at hd
        have hk1 : (k : Int) ≤ (p : Int) := by omega
        have hk2 : (p : Int) ≤ ((bsV l).size : Int) := by omega
        have hr2 := Hres.out
        rw [hp] at hr2
        have Hr2 := hide hr2
        clear hgl Hres hr2
        by_cases g1 : (48 : Int) ≤ (((bsV l)[p]'hinN).toNat : Int)
        · have g2 : ¬ (((bsV l)[p]'hinN).toNat : Int) ≤ 57 := by omega
          clear hd
          generalize bsV l = lb at *
          go_wp2
          go_ret
          exact ⟨ret_s Hr2.out, hp ▸ Hat.out, Hkp.out⟩
        · clear hd
          generalize bsV l = lb at *
          go_wp2
          go_ret
          exact ⟨ret_s Hr2.out, hp ▸ Hat.out, Hkp.out⟩
    · have hinI : ¬ (p : Int) < ((bsV l).size : Int) := by rw [hlz]; omega
      obtain rfl : j = N := by omega
      have hk1 : (k : Int) ≤ (p : Int) := by omega
      have hk2 : (p : Int) ≤ ((bsV l).size : Int) := by omega
      have hr2 := Hres.out
      rw [hp] at hr2
      have Hr2 := hide hr2
      clear Hres hr2
      generalize bsV l = lb at *
      go_wp2
      go_ret
      exact ⟨ret_s Hr2.out, hp ▸ Hat.out, Hkp.out⟩
end Go.Proofs.YtjlpekjfmgcbdaaGreatDoor

/- Contract of decimal.scan. -/
set_option linter.unusedVariables false
set_option linter.unusedSimpArgs false
namespace Go
theorem results_row_tmp {P : Program} {fn : Func} {p u : Tmp} {ty : TypeId} (h : fn.results = #[.cell p ty, .tmp u]) (tmps : Array Value) (w : World) (g : Nat) (t : TypeId) (cs : Array Value) (fr : Nat × Nat) (d : TypeDesc)
    (v : Value) (hv : tmps.getD u undef = v) (hp : tmps.getD p undef = .pointer (some ⟨g, 0, none⟩)) (hg : w.heap[g]? = some (.cells cs t fr))
    (hu : P.underlying ty = some d) (hd : (match d with | .struct _ | .array _ _ => true | _ => false) = true) (hi : (P.info? ty).map (·.size) = some cs.size) :
    (results fn tmps).run P w = .ok (.tuple #[.agg cs, v]) w := by
  subst hv
  have hp' : tmps[p]?.getD undef = .pointer (some ⟨g, 0, none⟩) := by simpa using hp
  rw [results_cell_tmp h]
  simp [hp', asAddr, Result.andThen, run_loadVar_row w g t ty cs fr d hg hu hd hi]
end Go
namespace Go.Proofs.YtjlpekjfmgcbdaaGreatDoor
open Go.RowKit Go.Shelf Go.Sort

theorem ownsRow_keeps' {w w' : World} {base b : Nat} {e : TypeId} {size : Nat} {v : Value} {n : Nat} {xs : List Value} (h : w.ownsRow base e size v n xs) (hk : Keeps (fun c => c = b) w w') (hb : b < base) : w'.ownsRow base e size v n xs :=
  World.ownsRow.kept (row := some b) h ⟨hk.os, hk.tape, hk.output, hk.size, fun k hz hne => hk.block k hz (fun e => hne (by rw [e]))⟩ (by
    cases ho : v.ownBlock with
    | none => simp
    | some g => have := (World.ownsRow.lt h g ho).1; simp; omega)
theorem oneB_one (c : UInt8) (r : List UInt8) : oneB [c] r = decide (r.head? = some c) := by
  unfold oneB
  cases h : r.head? with
  | none => rfl
  | some x =>
    rw [Bool.eq_iff_iff, decide_eq_true_eq]
    simp
theorem oneB_two (c d : UInt8) (r : List UInt8) : oneB [c, d] r = decide (r.head? = some c ∨ r.head? = some d) := by
  unfold oneB
  cases h : r.head? with
  | none => simp
  | some x =>
    rw [Bool.eq_iff_iff, decide_eq_true_eq]
    simp
/-- what scan has read -/
structure Scn (W : World) (B : Nat) (w : World) (l : List UInt8) (k : Nat) (neg : Bool) (dv : Value) (Ds : List UInt8) (ex : Int) : Prop where
  at_ : At W (B + 3) B k l
  num : Row W (B + 2) 117 #[.bool neg, dv, .int .i64 ex]
  res : Row W (B + 1) 117 #[.bool false, .slice none 0 0, .int .i64 0]
  own : W.ownsRow (B + 4) 5 1 dv Ds.length (byC Ds)
  bel : Below B w W
  big : B + 4 ≤ W.heap.size
theorem Scn.below {W W' : World} {B : Nat} {w : World} {l : List UInt8} {k : Nat} {neg : Bool} {dv : Value} {Ds : List UInt8} {ex : Int} (h : Scn W B w l k neg dv Ds ex) (hb : Below W.heap.size W W') : Scn W' B w l k neg dv Ds ex :=
  ⟨⟨h.at_.pos.below hb h.at_.pos.lt, h.at_.txt.below hb h.at_.txt.lt⟩, h.num.below hb h.num.lt, h.res.below hb h.res.lt, ownsRow_below h.own hb, h.bel.trans (hb.mono (Nat.le_trans (by omega) h.big)), Nat.le_trans h.big hb.size⟩
theorem Scn.turn {W W' : World} {B : Nat} {w : World} {l : List UInt8} {k k' : Nat} {neg : Bool} {dv : Value} {Ds : List UInt8} {ex : Int} (h : Scn W B w l k neg dv Ds ex) (ha : At W' (B + 3) B k' l) (hk : Keeps (fun c => c = B + 3) W W') : Scn W' B w l k' neg dv Ds ex :=
  ⟨ha, h.num.keep hk (by omega), h.res.keep hk (by omega), ownsRow_keeps' h.own hk (by omega), h.bel.trans (hk.below (by rintro c rfl; omega) (Nat.le_trans (by omega) h.big)), Nat.le_trans h.big hk.size⟩
/-- the number has turned -/
theorem Scn.neg_ {W : World} {B : Nat} {w : World} {l : List UInt8} {k : Nat} {neg : Bool} {dv : Value} {Ds : List UInt8} {ex : Int} (h : Scn W B w l k neg dv Ds ex) (neg' : Bool) : Scn (W.setCell ⟨B + 2, 0, none⟩ (.bool neg')) B w l k neg' dv Ds ex :=
  ⟨⟨h.at_.pos.off (by omega) _ _, h.at_.txt.off (by omega) _ _⟩, h.num.set_ 0 _, h.res.off (by omega) _ _, ownsRow_keeps' h.own ((Keeps.refl (fun c => c = B + 2) W).set (.inl rfl) 0 _) (by omega), h.bel.setCell (p := ⟨B + 2, 0, none⟩) (show B ≤ B + 2 by omega) _, by simpa [World.setCell] using h.big⟩
theorem Scn.exp_ {W : World} {B : Nat} {w : World} {l : List UInt8} {k : Nat} {neg : Bool} {dv : Value} {Ds : List UInt8} {ex : Int} (h : Scn W B w l k neg dv Ds ex) (ex' : Int) : Scn (W.setCell ⟨B + 2, 2, none⟩ (.int .i64 ex')) B w l k neg dv Ds ex' :=
  ⟨⟨h.at_.pos.off (by omega) _ _, h.at_.txt.off (by omega) _ _⟩, h.num.set_ 2 _, h.res.off (by omega) _ _, ownsRow_keeps' h.own ((Keeps.refl (fun c => c = B + 2) W).set (.inl rfl) 2 _) (by omega), h.bel.setCell (p := ⟨B + 2, 2, none⟩) (show B ≤ B + 2 by omega) _, by simpa [World.setCell] using h.big⟩
theorem Scn.grow {W W' : World} {B : Nat} {w : World} {l : List UInt8} {k : Nat} {neg : Bool} {dv dv' : Value} {Ds Ds' : List UInt8} {ex : Int} (h : Scn W B w l k neg dv Ds ex) (hown : W'.ownsRow (B + 4) 5 1 dv' Ds'.length (byC Ds')) (hg : W.grownBy W' dv.ownBlock) : Scn (W'.setCell ⟨B + 2, 1, none⟩ dv') B w l k neg dv' Ds' ex := by
  have hne : ∀ g, dv.ownBlock = some g → B + 4 ≤ g := fun g hg => (World.ownsRow.lt h.own g hg).1
  have f : ∀ b, b < B + 4 → some b ≠ dv.ownBlock := fun b hb e => by have := hne b e.symm; omega
  refine ⟨⟨(h.at_.pos.grown hg (f _ (by omega))).off (by omega) _ _, (h.at_.txt.grown hg (f _ (by omega))).off (by omega) _ _⟩, (h.num.grown hg (f _ (by omega))).set_ 1 _, (h.res.grown hg (f _ (by omega))).off (by omega) _ _, ownsRow_keeps' hown ((Keeps.refl (fun c => c = B + 2) W').set (.inl rfl) 1 _) (by omega), (h.bel.grown hg (Nat.le_trans (by omega) h.big) (fun j hj => Nat.le_trans (by omega) (hne j hj))).setCell (p := ⟨B + 2, 1, none⟩) (show B ≤ B + 2 by omega) _, ?_⟩
  have := Nat.le_trans h.big hg.size
  simpa [World.setCell] using this
theorem Scn.grown_num {W W' : World} {B : Nat} {w : World} {l : List UInt8} {k : Nat} {neg : Bool} {dv : Value} {Ds : List UInt8} {ex : Int} (h : Scn W B w l k neg dv Ds ex) (hg : W.grownBy W' dv.ownBlock) : Row W' (B + 2) 117 #[.bool neg, dv, .int .i64 ex] :=
  h.num.grown hg (fun e => by have := (World.ownsRow.lt h.own (B + 2) e.symm).1; omega)
/-- the number is laid where the result lies -/
theorem Scn.fail {W : World} {B : Nat} {w : World} {l : List UInt8} {k : Nat} {neg : Bool} {dv : Value} {Ds : List UInt8} {ex : Int} (h : Scn W B w l k neg dv Ds ex) :
    Row (((W.setCell ⟨B + 1, 0, none⟩ (.bool neg)).setCell ⟨B + 1, 1, none⟩ dv).setCell ⟨B + 1, 2, none⟩ (.int .i64 ex)) (B + 1) 117 #[.bool neg, dv, .int .i64 ex] ∧
    Below B w (((W.setCell ⟨B + 1, 0, none⟩ (.bool neg)).setCell ⟨B + 1, 1, none⟩ dv).setCell ⟨B + 1, 2, none⟩ (.int .i64 ex)) :=
  ⟨((h.res.set_ 0 (.bool neg)).set_ 1 dv).set_ 2 (.int .i64 ex), ((h.bel.setCell (p := ⟨B + 1, 0, none⟩) (Nat.le_succ _) _).setCell (p := ⟨B + 1, 1, none⟩) (Nat.le_succ _) _).setCell (p := ⟨B + 1, 2, none⟩) (Nat.le_succ _) _⟩
theorem Scn.form {W : World} {B : Nat} {w : World} {l : List UInt8} {k : Nat} {neg : Bool} {dv : Value} {Ds : List UInt8} {ex : Int} (h : Scn W B w l k neg dv Ds ex) : ∃ A cap, dv = .slice A Ds.length cap ∧ Sl by8 W A Ds ∧ Ds.length ≤ cap ∧ cap ≤ maxLen := by
  obtain ⟨A, cap, hv, hsl, _⟩ := Sl_own (f := by8) (xs := Ds) (n := Ds.length) (by exact h.own) rfl
  refine ⟨A, cap, hv, hsl, ?_, ?_⟩
  · rcases h.own.2 with ⟨h0, h1⟩ | ⟨g', cap', cur, hv', _, _, hle, _⟩
    · rw [hv] at h0; injection h0 with _ h2 h3; omega
    · rw [hv] at hv'; injection hv' with _ _ h3; omega
  · rcases h.own.2 with ⟨h0, h1⟩ | ⟨g', cap', cur, hv', _, _, hle, hm, _⟩
    · rw [hv] at h0; injection h0 with _ h2 h3; unfold maxLen; omega
    · rw [hv] at hv'; injection hv' with _ _ h3; omega
theorem Sl_off {W W' : World} {A : Option Addr} {l : List UInt8} {g : Nat} {t : TypeId} {cs : Array Value} (h : Sl by8 W A l) (hr : Row W g t cs) (hcs : ∀ (i : Nat) (c : UInt8), cs[i]? ≠ some (by8 c)) (hk : Keeps (fun c => c = g) W W') : Sl by8 W' A l := by
  intro hp
  obtain ⟨b, off, rfl, hat⟩ := h hp
  have hne : b ≠ g := fun e => by
    have := hat 0 hp
    rw [e, hr.cell] at this
    exact hcs _ _ this
  exact ⟨b, off, rfl, fun i hi => (hk.cell (p := ⟨b, off + i, none⟩) (World.block_lt_of_cell? W _ (hat i hi)) hne).trans (hat i hi)⟩
/-- what scan returns -/
def ScanPost (l : List UInt8) (B : Nat) (w : World) (e : Ending) (w' : World) : Prop :=
  Below B w w' ∧ ∃ neg A n cap ex ok, e = .returned (.tuple #[numV neg A n cap ex, .bool ok]) ∧ (scanV l = none → ok = false) ∧
    ∀ p, scanV l = some p → ok = true ∧ n = (stripV (p.2.1 ++ p.2.2.1)).length ∧ Sl by8 w' A (stripV (p.2.1 ++ p.2.2.1)) ∧ n ≤ cap ∧ cap ≤ maxLen ∧
      (stripV (p.2.1 ++ p.2.2.1) ≠ [] → neg = p.1 ∧ ex + n - 1 = (p.2.1.length : Int) - 1 - leadV (p.2.1 ++ p.2.2.1) + sgnV p.2.2.2.1 (esat 1048576 p.2.2.2.2)) ∧ (stripV (p.2.1 ++ p.2.2.1) = [] → ex = 0)
theorem infoU8' : (Tryz.prog.info? 5).map (fun i => (i.zero, i.size, i.bytes)) = some (some (.int .u8 0), 1, 1) := by kernel_rfl

theorem Scn.start (w : World) (l : List UInt8) : Scn ((((w.alloc (.cells #[.string (bsV l)] 9)).alloc (.cells #[.bool false, .slice none 0 0, .int .i64 0] 117)).alloc (.cells #[.bool false, .slice none 0 0, .int .i64 0] 117)).alloc (.cells #[.int .i64 0] 3)) w.heap.size w l 0 false (.slice none 0 0) [] 0 := by
  have r1 := Row.new w 9 #[.string (bsV l)]
  have r2 := Row.new (w.alloc (.cells #[.string (bsV l)] 9)) 117 #[.bool false, .slice none 0 0, .int .i64 0]
  have r3 := Row.new ((w.alloc (.cells #[.string (bsV l)] 9)).alloc (.cells #[.bool false, .slice none 0 0, .int .i64 0] 117)) 117 #[.bool false, .slice none 0 0, .int .i64 0]
  have r4 := Row.new (((w.alloc (.cells #[.string (bsV l)] 9)).alloc (.cells #[.bool false, .slice none 0 0, .int .i64 0] 117)).alloc (.cells #[.bool false, .slice none 0 0, .int .i64 0] 117)) 3 #[.int .i64 0]
  simp only [World.size_alloc] at r2 r3 r4
  exact ⟨⟨r4, ((r1.alloc _).alloc _).alloc _⟩, r3.alloc _, (r2.alloc _).alloc _, World.ownsRow_nil _ _ _ _,
    ((((Below.refl _ _).alloc (Nat.le_refl _) _).alloc (by simp only [World.size_alloc]; omega) _).alloc (by simp only [World.size_alloc]; omega) _).alloc (by simp only [World.size_alloc]; omega) _, by simp only [World.size_alloc]; omega⟩
theorem signV_pos (l : List UInt8) : (signV l).2 = l.drop (if l.head? = some 45 ∨ l.head? = some 43 then 1 else 0) ∧ (signV l).1 = decide (l.head? = some 45) := by
  unfold signV
  by_cases h1 : l.head? = some 45
  · rw [if_pos h1, if_pos (.inl h1), decide_eq_true h1]; exact ⟨by simp, rfl⟩
  · rw [if_neg h1, decide_eq_false h1]
    by_cases h2 : l.head? = some 43
    · rw [if_pos h2, if_pos (.inr h2)]; exact ⟨by simp, rfl⟩
    · rw [if_neg h2, if_neg (by rintro (h | h); exact h1 h; exact h2 h)]; exact ⟨rfl, rfl⟩
theorem toList_pos' {s : ByteArray} (h : 0 < s.size) : ¬ s.toList = [] ∧ s.toList.isEmpty = false := by
  cases hl : s.toList with
  | nil => rw [Lib.toList_data] at hl; rw [Lib.size_eq, hl] at h; simp at h
  | cons a t => simp
theorem head_len {l : List UInt8} {c : UInt8} (h : l.head? = some c) : 1 ≤ l.length := by
  cases l with
  | nil => cases h
  | cons a t => simp

set_option maxRecDepth 20000 in
set_option maxHeartbeats 16000000 in
theorem scan_any (l : List UInt8) (w : World) (hz : l.length ≤ 1000000) :
    Calls Tryz.prog 116 #[.string (bsV l)] w (ScanPost l w.heap.size w) := by
  have hlz := bs_size l
  by_cases h64 : 64 < l.length
  · have hI : (64 : Int) < ((bsV l).size : Int) := by omega
    have hN : scanV l = none := by unfold scanV; rw [if_pos (.inl h64)]
    have hrow : Row (((w.alloc (.cells #[.string (bsV l)] 9)).alloc (.cells #[.bool false, .slice none 0 0, .int .i64 0] 117)).alloc (.cells #[.bool false, .slice none 0 0, .int .i64 0] 117)) (w.heap.size + 1) 117 #[.bool false, .slice none 0 0, .int .i64 0] := by
      have := (Row.new (w.alloc (.cells #[.string (bsV l)] 9)) 117 #[.bool false, .slice none 0 0, .int .i64 0]).alloc (.cells #[.bool false, .slice none 0 0, .int .i64 0] 117)
      simp only [World.size_alloc] at this
      exact this
    have Hrow := hide hrow
    clear hlz hrow
    generalize bsV l = lb at *
    go_enter Tryz.func116, Tryz.ntmps116
    go_wp2
    exact bodyPost_ret (v := .tuple #[.agg #[.bool false, .slice none 0 0, .int .i64 0], .bool false]) (results_row_tmp rfl _ _ (w.heap.size + 1) 117 _ _ _ (.bool false) rfl rfl Hrow.out Tryz.underlying117 rfl (by kernel_rfl)) rfl
      ⟨(((Below.refl _ _).alloc (Nat.le_refl _) _).alloc (by simp only [World.size_alloc]; omega) _).alloc (by simp only [World.size_alloc]; omega) _, false, none, 0, 0, 0, false, rfl, fun _ => rfl, fun p hp => by rw [hN] at hp; cases hp⟩
  · have hI : ((bsV l).size : Int) ≤ 64 := by omega
    have O1 := hide (fun (set : List UInt8) (k : Nat) (W : World) (h8 : set.length ≤ 8) (hk : k ≤ l.length) (h : At W (w.heap.size + 3) w.heap.size k l) => one_any set l (w.heap.size + 3) w.heap.size k W (by omega) h8 hz hk h)
    have DG := hide (fun (k : Nat) (W : World) (hk : k ≤ l.length) (h : At W (w.heap.size + 3) w.heap.size k l) => digits_any l (w.heap.size + 3) w.heap.size k W (by omega) hz hk h)
    obtain ⟨sp1, sp2⟩ := signV_pos l
    have S0 := hide (Scn.start w l)
    go_enter Tryz.func116, Tryz.ntmps116
    go_wp2_with fail
    refine (O1.out [45] 0 _ (by decide) (Nat.zero_le _) S0.out.at_).mono ?_
    rintro e w2 ⟨rfl, hat, hkp⟩
    rw [oneB_one, List.drop_zero] at hat
    rw [oneB_one, List.drop_zero]
    have S2 := hide (S0.out.turn hat hkp)
    clear hat hkp S0
    go_upto_if 22 with fail
    go_cut [25] (fun v wx => ∃ k1, k1 ≤ l.length ∧ (signV l).2 = l.drop k1 ∧ Scn wx w.heap.size w l k1 (signV l).1 (.slice none 0 0) [] 0)
    case first =>
      by_cases h45 : l.head? = some 45
      · rw [decide_eq_true h45] at S2 ⊢
        rw [if_pos (.inl h45)] at sp1
        rw [decide_eq_true h45] at sp2
        have hl1 := head_len h45
        have hc : w2.cell? ⟨w.heap.size + 2, 0, none⟩ = some (.bool false) := S2.out.num.cell 0
        have hf : w2.frozen? ⟨w.heap.size + 2, 0, none⟩ = false := S2.out.num.frozen 0
        clear h45
        go_wp2_with fail
        go_meet
        rw [sp2]
        exact ⟨1, hl1, sp1, S2.out.neg_ true⟩
      · rw [decide_eq_false h45] at S2 ⊢
        rw [decide_eq_false h45] at sp2
        go_wp2_with fail
        refine (O1.out [43] 0 _ (by decide) (Nat.zero_le _) S2.out.at_).mono ?_
        rintro e w3 ⟨rfl, hat, hkp⟩
        rw [oneB_one, List.drop_zero] at hat
        have S3 := hide (S2.out.turn hat hkp)
        clear hat hkp S2
        go_wp2_with fail
        go_meet
        rw [sp2]
        by_cases h43 : l.head? = some 43
        · rw [decide_eq_true h43] at S3
          rw [if_pos (.inr h43)] at sp1
          exact ⟨1, head_len h43, sp1, S3.out⟩
        · rw [decide_eq_false h43] at S3
          rw [if_neg (by rintro (h | h); exact h45 h; exact h43 h)] at sp1
          exact ⟨0, Nat.zero_le _, sp1, S3.out⟩
    case rest =>
    obtain ⟨k1, hk1, hsg, hS⟩ := hcut
    have S1 := hide hS
    clear hS sp1 sp2
    obtain ⟨iu, hiu, hu0, hu1, hu2⟩ := info_parts infoU8'
    have HI1 := hide hiu
    have HI2 := hide hu0
    have HI3 := hide hu1
    have HI4 := hide hu2
    clear hiu hu0 hu1 hu2
    obtain ⟨neg, hneg⟩ : ∃ neg, (signV l).1 = neg := ⟨_, rfl⟩
    rw [hneg] at S1
    obtain ⟨r, hr⟩ : ∃ r, l.drop k1 = r := ⟨_, rfl⟩
    have hrl : r.length = l.length - k1 := by rw [← hr, List.length_drop]
    rw [hr] at hsg
    have hscan : scanV l = if nd r = 0 then none else (fracV (r.drop (nd r))).bind fun f => (expV f.2).bind fun x => if x.2.2 = [] then some (neg, r.take (nd r), f.1, x.1, x.2.1) else none := by
      unfold scanV
      rw [hsg, hneg]
      by_cases h0 : nd r = 0
      · rw [if_pos (.inr h0), if_pos h0]
      · rw [if_neg (by omega), if_neg h0]
    have HScan := hide hscan
    clear hscan hneg hsg
    go_wp2_with fail
    refine (DG.out k1 _ hk1 S1.out.at_).mono ?_
    rintro e w4 ⟨rfl, hat, hkp⟩
    rw [hr] at hat
    rw [hr]
    have S3 := hide (S1.out.turn hat hkp)
    clear hat hkp S1
    have hnl := nd_le r
    obtain ⟨N, hN⟩ : ∃ N, nd r = N := ⟨_, rfl⟩
    rw [hN] at S3 HScan hnl ⊢
    obtain ⟨Wd, hWd⟩ : ∃ Wd, r.take N = Wd := ⟨_, rfl⟩
    have hWl : Wd.length = N := by rw [← hWd, List.length_take]; omega
    have hWs := bs_size Wd
    rw [hWd] at HScan ⊢
    have hk2 : k1 + N ≤ l.length := by omega
    have hr2 : r.drop N = l.drop (k1 + N) := by rw [← hr, List.drop_drop]
    rw [hr2] at HScan
    obtain ⟨k2, hk2e⟩ : ∃ k2, k1 + N = k2 := ⟨_, rfl⟩
    rw [hk2e] at S3 HScan hk2
    clear hr2 hWd hN hr hrl hnl
    by_cases h0 : N = 0
    · have hW0 : Wd = [] := List.eq_nil_of_length_eq_zero (by omega)
      subst hW0
      have hbe : bsV [] = ⟨#[]⟩ := rfl
      rw [hbe]
      have fl := S3.out.fail
      have HF := hide fl
      have q0 := S3.out.num.cell 0
      have q1 := S3.out.num.cell 1
      have q2 := S3.out.num.cell 2
      have g0 := S3.out.res.cell 0
      have g1 := S3.out.res.cell 1
      have g2 := S3.out.res.cell 2
      have f0 := S3.out.res.frozen 0
      have f1 := S3.out.res.frozen 1
      have f2 := S3.out.res.frozen 2
      have hN := hide (show scanV l = none from by rw [HScan.out, if_pos h0])
      clear fl
      go_wp2
      exact bodyPost_ret (v := .tuple #[.agg #[_, _, _], .bool false]) (results_row_tmp rfl _ _ (w.heap.size + 1) 117 _ _ _ (.bool false) rfl rfl HF.out.1 Tryz.underlying117 rfl (by kernel_rfl)) rfl
        ⟨HF.out.2, _, none, _, 0, _, false, rfl, fun _ => rfl, fun p hp => by rw [hN.out] at hp; cases hp⟩
    · have hscan := HScan.out
      rw [if_neg h0] at hscan
      have HScan2 := hide hscan
      have hpos : 0 < (bsV Wd).size := by omega
      obtain ⟨hWn, hWe⟩ := toList_pos' hpos
      have hWe' : (!(bsV Wd).toList.isEmpty) = true := by rw [hWe]; rfl
      have q1 := S3.out.num.cell 1
      have f1 := S3.out.num.frozen 1
      clear hscan HScan
      go_upto_region 14 with (at_builtin; refine Lib.wpList_append_own_string _ rfl _ _ 51 9 rfl (w.heap.size + 4) 5 iu Tryz.underlying51 Tryz.underlying9 HI1.out HI2.out HI3.out HI4.out (.slice none 0 0) 0 [] rfl S3.out.own (bsV Wd) rfl (by unfold maxLen; omega) (by omega) (Nat.le_trans (by omega) S3.out.big) ?_; intro v4 w5 hown4 hgrow4 _; obtain ⟨g4, cap4, rfl, _⟩ := World.ownsRow.form hown4 (by omega); have qg1 := (S3.out.grown_num hgrow4).cell 1; have fg1 := (S3.out.grown_num hgrow4).frozen 1)
      have S4 := hide (show Scn (w5.setCell ⟨w.heap.size + 2, 1, none⟩ (.slice (some ⟨g4, 0, none⟩) (0 + (bsV Wd).size) cap4)) w.heap.size w l k2 neg (.slice (some ⟨g4, 0, none⟩) (0 + (bsV Wd).size) cap4) (Wd) 0 from S3.out.grow (by
        have e1 : 0 + (bsV Wd).size = (Wd).length := by rw [bs_size]; simp
        have e2 : [] ++ Lib.strCells (bsV Wd) = byC (Wd) := by first | rfl | (rw [byC_append]; rfl)
        rw [← e1, ← e2]; exact hown4) hgrow4)
      clear hown4 hgrow4 qg1 fg1
      clear q1 f1
      rw [show 0 + (bsV Wd).size = N by omega] at S4
      go_wp2_with fail
      refine (O1.out [46] k2 _ (by decide) hk2 S4.out.at_).mono ?_
      rintro e w6 ⟨rfl, hat, hkp⟩
      rw [oneB_one] at hat
      rw [oneB_one]
      obtain ⟨b46, hb46⟩ : ∃ b, decide ((l.drop k2).head? = some 46) = b := ⟨_, rfl⟩
      rw [hb46] at hat
      rw [hb46]
      have H46 := hide hb46
      have S5 := hide (S4.out.turn hat hkp)
      clear hat hkp S4 S3 S2 hb46
      go_upto_if 37 with fail
      go_cut [9] (fun v wx => ∃ k3 F dv, fracV (l.drop k2) = some (F, l.drop k3) ∧ k3 ≤ l.length ∧ F.length ≤ l.length ∧ Scn wx w.heap.size w l k3 neg dv (Wd ++ F) (-(F.length : Int)))
      case first =>
        cases b46 with
        | true =>
          have h46 := of_decide_eq_true H46.out
          have hk2' : k2 + 1 ≤ l.length := by have := head_len h46; rw [List.length_drop] at this; omega
          have S5' := hide (show Scn w6 w.heap.size w l (k2 + 1) neg (.slice (some ⟨g4, 0, none⟩) N cap4) Wd 0 from S5.out)
          obtain ⟨r2, hr2⟩ : ∃ r2, l.drop (k2 + 1) = r2 := ⟨_, rfl⟩
          have htl : (l.drop k2).tail = r2 := by rw [← hr2, List.tail_drop]
          clear H46
          have hfr : fracV (l.drop k2) = if nd r2 = 0 then none else some (r2.take (nd r2), r2.drop (nd r2)) := by
            unfold fracV; rw [if_pos h46, htl]
          have HFr := hide hfr
          have hrl : r2.length = l.length - (k2 + 1) := by rw [← hr2, List.length_drop]
          clear hfr htl h46 S5
          go_wp2_with fail
          refine (DG.out (k2 + 1) _ hk2' S5'.out.at_).mono ?_
          rintro e w7 ⟨rfl, hat, hkp⟩
          rw [hr2] at hat
          rw [hr2]
          have S6 := hide (S5'.out.turn hat hkp)
          clear hat hkp S5'
          have hnl := nd_le r2
          obtain ⟨N2, hN2⟩ : ∃ N2, nd r2 = N2 := ⟨_, rfl⟩
          rw [hN2] at S6 HFr hnl ⊢
          obtain ⟨F, hF⟩ : ∃ F, r2.take N2 = F := ⟨_, rfl⟩
          have hFl : F.length = N2 := by rw [← hF, List.length_take]; omega
          have hFs := bs_size F
          rw [hF] at HFr ⊢
          have hr3 : r2.drop N2 = l.drop (k2 + 1 + N2) := by rw [← hr2, List.drop_drop]
          rw [hr3] at HFr
          obtain ⟨k3, hk3e⟩ : ∃ k3, k2 + 1 + N2 = k3 := ⟨_, rfl⟩
          have hk3 : k3 ≤ l.length := by omega
          rw [hk3e] at S6 HFr
          clear hr3 hF hN2 hr2 hrl hnl hWn hWe hWe'
          by_cases h0' : N2 = 0
          · have hF0 : F = [] := List.eq_nil_of_length_eq_zero (by omega)
            subst hF0
            have hbe : bsV [] = ⟨#[]⟩ := rfl
            rw [hbe]
            have fl := S6.out.fail
            have HF := hide fl
            have q0 := S6.out.num.cell 0
            have q1 := S6.out.num.cell 1
            have q2 := S6.out.num.cell 2
            have g0 := S6.out.res.cell 0
            have g1 := S6.out.res.cell 1
            have g2 := S6.out.res.cell 2
            have f0 := S6.out.res.frozen 0
            have f1 := S6.out.res.frozen 1
            have f2 := S6.out.res.frozen 2
            have hN := hide (show scanV l = none from by rw [HScan2.out, HFr.out, if_pos h0']; rfl)
            clear fl
            go_wp2
            exact bodyPost_ret (v := .tuple #[.agg #[_, _, _], .bool false]) (results_row_tmp rfl _ _ (w.heap.size + 1) 117 _ _ _ (.bool false) rfl rfl HF.out.1 Tryz.underlying117 rfl (by kernel_rfl)) rfl
              ⟨HF.out.2, _, some ⟨g4, 0, none⟩, N, cap4, _, false, rfl, fun _ => rfl, fun p hp => by rw [hN.out] at hp; cases hp⟩
          · have hfr := HFr.out
            rw [if_neg h0'] at hfr
            have HFr2 := hide hfr
            have hposF : 0 < (bsV F).size := by omega
            obtain ⟨hWn, hWe⟩ := toList_pos' hposF
            have hWe' : (!(bsV F).toList.isEmpty) = true := by rw [hWe]; rfl
            have q1 := S6.out.num.cell 1
            have f1 := S6.out.num.frozen 1
            have hWN : N + (bsV F).size = (Wd ++ F).length := by rw [List.length_append]; omega
            have eown := fun (W : World) (v : Value) (h : W.ownsRow (w.heap.size + 4) 5 1 v (N + (bsV F).size) (byC Wd ++ Lib.strCells (bsV F))) => (show W.ownsRow (w.heap.size + 4) 5 1 v (Wd ++ F).length (byC (Wd ++ F)) from by rw [byC_append, ← hWN]; exact h)
            have HOwn := hide eown
            have oS6 : w7.ownsRow (w.heap.size + 4) 5 1 (.slice (some ⟨g4, 0, none⟩) N cap4) N (byC Wd) := by have := S6.out.own; rw [hWl] at this; exact this
            have OS6 := hide oS6
            clear hfr HFr eown oS6
            go_upto_region 19 with (at_builtin; refine Lib.wpList_append_own_string _ rfl _ _ 51 9 rfl (w.heap.size + 4) 5 iu Tryz.underlying51 Tryz.underlying9 HI1.out HI2.out HI3.out HI4.out (.slice (some ⟨g4, 0, none⟩) N cap4) N (byC Wd) rfl OS6.out (bsV F) rfl (by unfold maxLen; omega) (by omega) (Nat.le_trans (by omega) S6.out.big) ?_; intro v8 w8 hown8 hgrow8 _; obtain ⟨g8, cap8, rfl, _⟩ := World.ownsRow.form hown8 (by omega); have qg1 := (S6.out.grown_num hgrow8).cell 1; have fg1 := (S6.out.grown_num hgrow8).frozen 1)
            have S7 := hide (show Scn (w8.setCell ⟨w.heap.size + 2, 1, none⟩ (.slice (some ⟨g8, 0, none⟩) (N + (bsV F).size) cap8)) w.heap.size w l k3 neg (.slice (some ⟨g8, 0, none⟩) (N + (bsV F).size) cap8) (Wd ++ F) 0 from S6.out.grow (HOwn.out _ _ hown8) hgrow8)
            rw [show (bsV F).size = N2 by omega] at S7
            have qe := S7.out.num.cell 2
            have fe := S7.out.num.frozen 2
            have S8 := hide (S7.out.exp_ (-(F.length : Int)))
            have qg2 := (S6.out.grown_num hgrow8).cell 2
            have fg2 := (S6.out.grown_num hgrow8).frozen 2
            have hFle : F.length ≤ l.length := by omega
            have hFb : (F.length : Int) ≤ 1000000 := by omega
            have hbF : ((bsV F).size : Int) = (F.length : Int) := by rw [hFs]
            clear hown8 hgrow8 q1 f1 qe fe hFl hFs
            go_wp2_with fail
            go_meet
            exact ⟨k3, F, _, HFr2.out, hk3, hFle, S8.out⟩
        | false =>
          have h46 := of_decide_eq_false H46.out
          have hfr : fracV (l.drop k2) = some ([], l.drop k2) := by unfold fracV; rw [if_neg h46]
          have HFr := hide hfr
          clear h46 H46 hfr
          go_wp2_with fail
          go_meet
          exact ⟨k2, [], _, HFr.out, hk2, Nat.zero_le _, by have := S5.out; rw [List.append_nil]; exact this⟩
      case rest =>
      obtain ⟨k3, F, dv, hfr, hk3, hFl, hS⟩ := hcut
      have S6 := hide hS
      have hsc := HScan2.out
      rw [hfr] at hsc
      have HScan3 := hide (show scanV l = (expV (l.drop k3)).bind fun x => if x.2.2 = [] then some (neg, Wd, F, x.1, x.2.1) else none from hsc)
      clear hS hfr hsc HScan2 S5 H46
      go_wp2_with fail
      refine (O1.out [101, 69] k3 _ (by decide) hk3 S6.out.at_).mono ?_
      rintro e w7 ⟨rfl, hat, hkp⟩
      rw [oneB_two] at hat
      rw [oneB_two]
      obtain ⟨bE, hbE⟩ : ∃ b, decide ((l.drop k3).head? = some 101 ∨ (l.drop k3).head? = some 69) = b := ⟨_, rfl⟩
      rw [hbE] at hat
      rw [hbE]
      have HE := hide hbE
      have S7 := hide (S6.out.turn hat hkp)
      clear hat hkp S6 hbE
      go_upto_if 53 with fail
      go_cut [12] (fun v wx => ∃ k4 down ds, expV (l.drop k3) = some (down, ds, l.drop k4) ∧ k4 ≤ l.length ∧ Scn wx w.heap.size w l k4 neg dv (Wd ++ F) (-(F.length : Int) + sgnV down (esat 1048576 ds)))
      case first =>
        cases bE with
        | true =>
          have hE := of_decide_eq_true HE.out
          have hk3' : k3 + 1 ≤ l.length := by
            have : 1 ≤ (l.drop k3).length := by rcases hE with h | h; exact head_len h; exact head_len h
            rw [List.length_drop] at this; omega
          have S7' := hide (show Scn w7 w.heap.size w l (k3 + 1) neg dv (Wd ++ F) (-(F.length : Int)) from S7.out)
          obtain ⟨r3, hr3⟩ : ∃ r3, l.drop (k3 + 1) = r3 := ⟨_, rfl⟩
          have htl : (l.drop k3).tail = r3 := by rw [← hr3, List.tail_drop]
          have hex : expV (l.drop k3) = if nd (signV r3).2 = 0 then none else some ((signV r3).1, (signV r3).2.take (nd (signV r3).2), (signV r3).2.drop (nd (signV r3).2)) := by
            unfold expV; rw [if_pos hE, htl]
          have HEx := hide hex
          obtain ⟨sp1, sp2⟩ := signV_pos r3
          clear hex htl hE HE S7
          go_wp2_with fail
          refine (O1.out [45] (k3 + 1) _ (by decide) hk3' S7'.out.at_).mono ?_
          rintro e w8 ⟨rfl, hat, hkp⟩
          rw [oneB_one, hr3, ← sp2] at hat
          rw [oneB_one, hr3, ← sp2]
          have S8 := hide (S7'.out.turn hat hkp)
          obtain ⟨down, hdn⟩ : ∃ down, (signV r3).1 = down := ⟨_, rfl⟩
          rw [hdn] at S8 HEx sp2
          rw [hdn]
          have Hsp2 := hide sp2
          have Hsp1 := hide sp1
          clear hat hkp S7' hdn sp1 sp2
          go_upto_if 57 with fail
          go_cut [59] (fun v wx => ∃ k5, (signV r3).2 = l.drop k5 ∧ k5 ≤ l.length ∧ Scn wx w.heap.size w l k5 neg dv (Wd ++ F) (-(F.length : Int)))
          case first =>
            cases down with
            | true =>
              have h45 := of_decide_eq_true Hsp2.out.symm
              have hk5 : k3 + 1 + 1 ≤ l.length := by have := head_len h45; rw [← hr3, List.length_drop] at this; omega
              have hs5 : (signV r3).2 = l.drop (k3 + 1 + 1) := by
                rw [Hsp1.out, if_pos (.inl h45), ← hr3, List.drop_drop]
              have Hs5 := hide hs5
              clear h45 hs5
              go_wp2_with fail
              go_meet
              exact ⟨k3 + 1 + 1, Hs5.out, hk5, S8.out⟩
            | false =>
              have h45 := of_decide_eq_false Hsp2.out.symm
              have H45 := hide h45
              have S8' := hide (show Scn w8 w.heap.size w l (k3 + 1) neg dv (Wd ++ F) (-(F.length : Int)) from S8.out)
              clear h45 S8
              go_wp2_with fail
              refine (O1.out [43] (k3 + 1) _ (by decide) hk3' S8'.out.at_).mono ?_
              rintro e w9 ⟨rfl, hat, hkp⟩
              rw [oneB_one, hr3] at hat
              rw [oneB_one, hr3]
              obtain ⟨b43, hb43⟩ : ∃ b, decide (r3.head? = some 43) = b := ⟨_, rfl⟩
              rw [hb43] at hat
              rw [hb43]
              have H43 := hide hb43
              have S9 := hide (S8'.out.turn hat hkp)
              clear hat hkp hb43 S8'
              go_wp2_with fail
              go_meet
              cases b43 with
              | true =>
                have h43 := of_decide_eq_true H43.out
                have hk5 : k3 + 1 + 1 ≤ l.length := by have := head_len h43; rw [← hr3, List.length_drop] at this; omega
                exact ⟨k3 + 1 + 1, by rw [Hsp1.out, if_pos (.inr h43), ← hr3, List.drop_drop], hk5, S9.out⟩
              | false =>
                have h43 := of_decide_eq_false H43.out
                exact ⟨k3 + 1, by rw [Hsp1.out, if_neg (by rintro (h | h); exact H45.out h; exact h43 h), List.drop_zero, hr3], hk3', S9.out⟩
          case rest =>
          obtain ⟨k5, hs5, hk5, hS⟩ := hcut
          have S9 := hide hS
          obtain ⟨r4, hr4⟩ : ∃ r4, l.drop k5 = r4 := ⟨_, rfl⟩
          have hex := HEx.out
          rw [hs5, hr4] at hex
          have HEx2 := hide hex
          have hrl4 : r4.length = l.length - k5 := by rw [← hr4, List.length_drop]
          clear hS S8 hex HEx Hsp1 Hsp2 hs5 hr3
          go_wp2_with fail
          refine (DG.out k5 _ hk5 S9.out.at_).mono ?_
          rintro e w10 ⟨rfl, hat, hkp⟩
          rw [hr4] at hat
          rw [hr4]
          have S10 := hide (S9.out.turn hat hkp)
          clear hat hkp S9
          have hnl4 := nd_le r4
          have hd4 := nd_in r4
          obtain ⟨N4, hN4⟩ : ∃ N4, nd r4 = N4 := ⟨_, rfl⟩
          rw [hN4] at S10 HEx2 hnl4 hd4 ⊢
          obtain ⟨ds, hds⟩ : ∃ ds, r4.take N4 = ds := ⟨_, rfl⟩
          have hdl : ds.length = N4 := by rw [← hds, List.length_take]; omega
          have hdd : ∀ c ∈ ds, isD c = true := fun c hc => by
            obtain ⟨j, hj, rfl⟩ := List.mem_iff_getElem.1 hc
            have hj2 : j < r4.length := by omega
            have e : ds[j] = r4[j] := by
              have : (r4.take N4)[j]'(by rw [hds]; exact hj) = r4[j] := List.getElem_take
              rw [← this]; congr 1; exact hds.symm
            rw [e]; exact hd4 j hj2 (by omega)
          have hdS := bs_size ds
          rw [hds] at HEx2 ⊢
          have hr5 : r4.drop N4 = l.drop (k5 + N4) := by rw [← hr4, List.drop_drop]
          rw [hr5] at HEx2
          obtain ⟨k4, hk4e⟩ : ∃ k4, k5 + N4 = k4 := ⟨_, rfl⟩
          have hk4 : k4 ≤ l.length := by omega
          rw [hk4e] at S10 HEx2
          have Hdd := hide hdd
          clear hr5 hds hN4 hr4 hrl4 hnl4 hd4 hdd
          by_cases h0' : N4 = 0
          · have hd0 : ds = [] := List.eq_nil_of_length_eq_zero (by omega)
            subst hd0
            have hbe : bsV [] = ⟨#[]⟩ := rfl
            rw [hbe]
            obtain ⟨Af, capf, hdv, _, _, _⟩ := S10.out.form
            obtain ⟨nf, hnf⟩ : ∃ nf, (Wd ++ F).length = nf := ⟨_, rfl⟩
            rw [hnf] at hdv
            subst hdv
            clear hnf
            have fl := S10.out.fail
            have HF := hide fl
            have q0 := S10.out.num.cell 0
            have q1 := S10.out.num.cell 1
            have q2 := S10.out.num.cell 2
            have g0 := S10.out.res.cell 0
            have g1 := S10.out.res.cell 1
            have g2 := S10.out.res.cell 2
            have f0 := S10.out.res.frozen 0
            have f1 := S10.out.res.frozen 1
            have f2 := S10.out.res.frozen 2
            have hN := hide (show scanV l = none from by rw [HScan3.out, HEx2.out, if_pos h0']; rfl)
            clear fl
            go_wp2
            exact bodyPost_ret (v := .tuple #[.agg #[_, _, _], .bool false]) (results_row_tmp rfl _ _ (w.heap.size + 1) 117 _ _ _ (.bool false) rfl rfl HF.out.1 Tryz.underlying117 rfl (by kernel_rfl)) rfl
              ⟨HF.out.2, _, Af, _, capf, _, false, rfl, fun _ => rfl, fun p hp => by rw [hN.out] at hp; cases hp⟩
          · have hex := HEx2.out
            rw [if_neg h0'] at hex
            have HEx3 := hide hex
            have hposD : 0 < (bsV ds).size := by omega
            obtain ⟨hWn', hWe''⟩ := toList_pos' hposD
            have hWe3 : (!(bsV ds).toList.isEmpty) = true := by rw [hWe'']; rfl
            clear hex HEx2
            have hcv := Lib.run_convert_string_bytes (P := Tryz.prog) w10 9 51 5 (bsV ds) Tryz.underlying9 Tryz.underlying51 Tryz.underlying5
            have hW0 : Below w10.heap.size w10 (Lib.bytesWorld w10 5 (bsV ds)) := ⟨rfl, rfl, rfl, by rw [Lib.bytesWorld_size]; omega, fun k hk => Lib.bytesWorld_at_old w10 _ _ k hk⟩
            have hWc : ∀ j, ∀ hj : j < ds.length, (Lib.bytesWorld w10 5 (bsV ds)).cell? ⟨w10.heap.size, j, none⟩ = some (.int .u8 ((ds[j]'hj).toNat : Int)) := fun j hj => by
              rw [Lib.bytesWorld_cell w10 _ (bsV ds) j (by omega), List.getD_eq_getElem?_getD, bsV_list, List.getElem?_eq_getElem hj]; rfl
            generalize Lib.bytesWorld w10 5 (bsV ds) = wB at hcv hW0 hWc
            have HWc := hide hWc
            have S11 := hide (S10.out.below hW0)
            clear hW0 hWc S10
            go_wp2
            clear hcv
            go_loop [12, 68] (fun v vi => ∃ i : Nat, vi = .int .i64 i ∧ i ≤ ds.length ∧ v = .int .i64 ((esat 1048576 (ds.take i) : Nat) : Int)) (fun _ vi => ds.length - (intOf vi).toNat)
            case atStart => exact ⟨0, rfl, Nat.zero_le _, rfl⟩
            case round =>
              obtain ⟨i, rfl, hi, rfl⟩ := hrel
              have hEle : esat 1048576 (ds.take i) ≤ 1048576 := by rw [esat_eq]; exact Nat.min_le_left _ _
              by_cases hlt : i < ds.length
              · have hcell := HWc.out i hlt
                have hdig := Hdd.out _ (List.getElem_mem hlt)
                have hes : esat 1048576 (ds.take (i + 1)) = min 1048576 (10 * esat 1048576 (ds.take i) + ((ds[i]'hlt).toNat - 48)) := by
                  rw [List.take_succ_eq_append_getElem hlt]
                  unfold esat
                  rw [List.foldl_append]; rfl
                obtain ⟨c, hc⟩ : ∃ c, ds[i]'hlt = c := ⟨_, rfl⟩
                rw [hc] at hcell hdig hes
                simp only [isD, decide_eq_true_eq] at hdig
                obtain ⟨E, hE⟩ : ∃ E, esat 1048576 (ds.take i) = E := ⟨_, rfl⟩
                rw [hE] at hes hEle ⊢
                have hu8 : IntKind.u8.wrap ((c.toNat : Int) - 48) = (c.toNat : Int) - 48 := IntWalk.u8_in _ (by omega)
                have hE10 : (E : Int) ≤ 1048576 := by omega
                have hc1 : (48 : Int) ≤ (c.toNat : Int) := by omega
                have hc2 : (c.toNat : Int) ≤ 57 := by omega
                have hmin : min (1048576 : Int) (10 * (E : Int) + ((c.toNat : Int) - 48)) = ((esat 1048576 (ds.take (i + 1)) : Nat) : Int) := by rw [hes]; omega
                have Hmin := hide hmin
                clear hc hes hdig hE hmin
                go_wp2
                go_round
                case rel => exact ⟨i + 1, by go_num, by omega, by rw [Hmin.out]⟩
                case measure => simp [intOf]; omega
              · obtain rfl : i = ds.length := by omega
                rw [List.take_length] at hEle ⊢
                obtain ⟨E, hE⟩ : ∃ E, esat 1048576 ds = E := ⟨_, rfl⟩
                rw [hE] at hEle ⊢
                have hEb : (E : Int) ≤ 1048576 := by omega
                have qe := S11.out.num.cell 2
                have fe := S11.out.num.frozen 2
                have hFb : (F.length : Int) ≤ 1000000 := by omega
                cases down with
                | true =>
                  have S12 := hide (S11.out.exp_ (-(F.length : Int) + -(E : Int)))
                  have HE2 := hide (show (-(F.length : Int) + -(E : Int)) = -(F.length : Int) + sgnV true (esat 1048576 ds) by rw [hE]; rfl)
                  clear hE
                  go_wp2_with fail
                  go_meet
                  exact ⟨k4, true, ds, HEx3.out, hk4, by rw [← HE2.out]; exact S12.out⟩
                | false =>
                  have S12 := hide (S11.out.exp_ (-(F.length : Int) + (E : Int)))
                  have HE2 := hide (show (-(F.length : Int) + (E : Int)) = -(F.length : Int) + sgnV false (esat 1048576 ds) by rw [hE]; rfl)
                  clear hE
                  go_wp2_with fail
                  go_meet
                  exact ⟨k4, false, ds, HEx3.out, hk4, by rw [← HE2.out]; exact S12.out⟩
        | false =>
          have hE := of_decide_eq_false HE.out
          have hex : expV (l.drop k3) = some (false, [], l.drop k3) := by unfold expV; rw [if_neg hE]
          have HEx := hide hex
          have hz0 : -(F.length : Int) + sgnV false (esat 1048576 []) = -(F.length : Int) := by
            have : sgnV false (esat 1048576 []) = 0 := rfl
            rw [this, Int.add_zero]
          have Hz0 := hide hz0
          clear hE HE hex hz0
          go_wp2_with fail
          go_meet
          exact ⟨k3, false, [], HEx.out, hk3, by rw [Hz0.out]; exact S7.out⟩
      case rest =>
      obtain ⟨k4, down, ds, hex, hk4, hS⟩ := hcut
      have hsc := HScan3.out
      rw [hex] at hsc
      have hsc2 : scanV l = if l.drop k4 = [] then some (neg, Wd, F, down, ds) else none := hsc
      have S8 := hide hS
      have hFb : (F.length : Int) ≤ 1000000 := by omega
      have hsat : esat 1048576 ds ≤ 1048576 := by rw [esat_eq]; exact Nat.min_le_left _ _
      obtain ⟨X, hX⟩ : ∃ X, -(F.length : Int) + sgnV down (esat 1048576 ds) = X := ⟨_, rfl⟩
      have hX1 : -1000000000 ≤ X := by rw [← hX]; unfold sgnV; split <;> omega
      have hX2 : X ≤ 1000000000 := by rw [← hX]; unfold sgnV; split <;> omega
      rw [hX] at S8
      obtain ⟨A, cap, hdv, hsl, hnc, hcm⟩ := S8.out.form
      obtain ⟨n, hn⟩ : ∃ n, (Wd ++ F).length = n := ⟨_, rfl⟩
      have hnz : n ≤ 1000000 := by rw [← hn, List.length_append]; omega
      rw [hn] at hdv hnc
      subst hdv
      have HSl := hide hsl
      have TR := hide (fun (W : World) (h : Sl by8 W A (Wd ++ F)) => trim_any neg A n cap (Wd ++ F) X W hn.symm (by omega) hnc hcm hX1 hX2 h)
      have q0 : wc.cell? ⟨w.heap.size + 2, 0, none⟩ = some (.bool neg) := S8.out.num.cell 0
      have q1 : wc.cell? ⟨w.heap.size + 2, 1, none⟩ = some (.slice A n cap) := S8.out.num.cell 1
      have q2 : wc.cell? ⟨w.heap.size + 2, 2, none⟩ = some (.int .i64 X) := S8.out.num.cell 2
      have q3 : wc.cell? ⟨w.heap.size + 3, 0, none⟩ = some (.int .i64 (k4 : Int)) := S8.out.at_.pos.cell 0
      have q4 : wc.cell? ⟨w.heap.size, 0, none⟩ = some (.string (bsV l)) := S8.out.at_.txt.cell 0
      have Hn := hide hn
      have HX := hide hX
      have HSc := hide hsc2
      have hbig := S8.out.big
      unfold numV at TR
      clear hS hex hsc hsc2 HScan3 S7 HE hn hX hsl
      go_upto_region 36 with fail
      go_region_held3 (fun w' => w'.cell? ⟨w.heap.size + 2, 0, none⟩ = some (.bool neg) ∧ w'.cell? ⟨w.heap.size + 2, 1, none⟩ = some (.slice A n cap) ∧ w'.cell? ⟨w.heap.size + 2, 2, none⟩ = some (.int .i64 X) ∧ w'.cell? ⟨w.heap.size + 3, 0, none⟩ = some (.int .i64 (k4 : Int)) ∧ w'.cell? ⟨w.heap.size, 0, none⟩ = some (.string (bsV l)))
        (first | exact ⟨y0, y1, y2, y3, y4⟩ | go_keep)
        ((go_at_call 128; refine (TR.out _ (HSl.out.below (Below.refl _ _).drew)).mono ?_; rintro e wT ⟨A2, cap2, neg2, ex2, rfl, hs2, hc2, hm2, hb2, ht2, ht3⟩; have y0 := (hb2.cell (p := ⟨w.heap.size + 2, 0, none⟩) (show w.heap.size + 2 < wc.heap.size by omega)).trans q0; have y1 := (hb2.cell (p := ⟨w.heap.size + 2, 1, none⟩) (show w.heap.size + 2 < wc.heap.size by omega)).trans q1; have y2 := (hb2.cell (p := ⟨w.heap.size + 2, 2, none⟩) (show w.heap.size + 2 < wc.heap.size by omega)).trans q2; have y3 := (hb2.cell (p := ⟨w.heap.size + 3, 0, none⟩) (show w.heap.size + 3 < wc.heap.size by omega)).trans q3; have y4 := (hb2.cell (p := ⟨w.heap.size, 0, none⟩) (show w.heap.size < wc.heap.size by omega)).trans q4; have yr : Row wT (w.heap.size + 1) 117 #[.bool false, .slice none 0 0, .int .i64 0] := S8.out.res.drew.below hb2 (show w.heap.size + 1 < wc.heap.size by omega); have z0 : wT.cell? ⟨w.heap.size + 1, 0, none⟩ = some (.bool false) := yr.cell 0; have z1 : wT.cell? ⟨w.heap.size + 1, 1, none⟩ = some (.slice none 0 0) := yr.cell 1; have z2 : wT.cell? ⟨w.heap.size + 1, 2, none⟩ = some (.int .i64 0) := yr.cell 2; have f0 : wT.frozen? ⟨w.heap.size + 1, 0, none⟩ = false := yr.frozen 0; have f1 : wT.frozen? ⟨w.heap.size + 1, 1, none⟩ = false := yr.frozen 1; have f2 : wT.frozen? ⟨w.heap.size + 1, 2, none⟩ = false := yr.frozen 2))
      have hb3 : Below w.heap.size w wT := S8.out.bel.trans ((show Below wc.heap.size wc wT from ⟨hb2.os, hb2.tape, hb2.output, hb2.size, hb2.block⟩).mono (Nat.le_trans (by omega) hbig))
      have hkp : Keeps (fun c => c = w.heap.size + 1) wT (((wT.setCell ⟨w.heap.size + 1, 0, none⟩ (.bool neg2)).setCell ⟨w.heap.size + 1, 1, none⟩ (.slice A2 (stripV (Wd ++ F)).length cap2)).setCell ⟨w.heap.size + 1, 2, none⟩ (.int .i64 ex2)) := (((Keeps.refl (fun c => c = w.heap.size + 1) wT).set (.inl rfl) 0 _).set (.inl rfl) 1 _).set (.inl rfl) 2 _
      have hslF := Sl_off hs2 yr (by
        intro i c
        match i with
        | 0 => intro h; cases h
        | 1 => intro h; cases h
        | 2 => intro h; cases h
        | i + 3 => intro h; cases h) hkp
      have hrowF : Row (((wT.setCell ⟨w.heap.size + 1, 0, none⟩ (.bool neg2)).setCell ⟨w.heap.size + 1, 1, none⟩ (.slice A2 (stripV (Wd ++ F)).length cap2)).setCell ⟨w.heap.size + 1, 2, none⟩ (.int .i64 ex2)) (w.heap.size + 1) 117 #[.bool neg2, .slice A2 (stripV (Wd ++ F)).length cap2, .int .i64 ex2] := ((yr.set_ 0 (.bool neg2)).set_ 1 (.slice A2 (stripV (Wd ++ F)).length cap2)).set_ 2 (.int .i64 ex2)
      have hbF := ((hb3.setCell (p := ⟨w.heap.size + 1, 0, none⟩) (Nat.le_succ _) (.bool neg2)).setCell (p := ⟨w.heap.size + 1, 1, none⟩) (Nat.le_succ _) (.slice A2 (stripV (Wd ++ F)).length cap2)).setCell (p := ⟨w.heap.size + 1, 2, none⟩) (Nat.le_succ _) (.int .i64 ex2)
      have hfin : ScanPost l w.heap.size w (.returned (.tuple #[numV neg2 A2 (stripV (Wd ++ F)).length cap2 ex2, .bool ((k4 : Int) == (l.length : Int))])) (((wT.setCell ⟨w.heap.size + 1, 0, none⟩ (.bool neg2)).setCell ⟨w.heap.size + 1, 1, none⟩ (.slice A2 (stripV (Wd ++ F)).length cap2)).setCell ⟨w.heap.size + 1, 2, none⟩ (.int .i64 ex2)) := by
        refine ⟨hbF, neg2, A2, _, cap2, ex2, _, rfl, fun hnone => ?_, fun p hp => ?_⟩
        · rw [HSc.out] at hnone
          refine beq_eq_false_iff_ne.2 (fun e => ?_)
          have : l.drop k4 = [] := List.drop_eq_nil_of_le (by omega)
          rw [if_pos this] at hnone; cases hnone
        · rw [HSc.out] at hp
          split at hp
          · rename_i hd
            cases hp
            have hkl : k4 = l.length := by
              have := congrArg List.length hd
              rw [List.length_drop] at this
              simp at this; omega
            refine ⟨by rw [hkl]; simp, rfl, hslF, hc2, hm2, fun hne => ?_, fun h => (ht3 h).2⟩
            obtain ⟨e1, e2⟩ := ht2 hne
            refine ⟨e1, ?_⟩
            have hlen : ((Wd ++ F).dropWhile (· == 48)).length + leadV (Wd ++ F) = (Wd ++ F).length := by
              unfold leadV
              have := congrArg List.length (List.takeWhile_append_dropWhile (p := (· == (48 : UInt8))) (l := Wd ++ F))
              rw [List.length_append] at this; omega
            rw [List.length_append] at hlen
            have hXo := HX.out
            rw [e2]
            simp only
            omega
          · cases hp
      have HFin := hide hfin
      have HRowF := hide hrowF
      clear hfin hrowF hbF hslF hkp hb3 ht2 ht3 hs2 hc2 hm2 hb2 y0 y1 y2 y3 y4 yr z0 z1 z2 f0 f1 f2 HSl TR q0 q1 q2 q3 q4 HSc HX Hn
      go_wp2
      exact bodyPost_ret (v := .tuple #[numV neg2 A2 (stripV (Wd ++ F)).length cap2 ex2, .bool ((k4 : Int) == (l.length : Int))]) (results_row_tmp rfl _ _ (w.heap.size + 1) 117 _ _ _ (.bool ((k4 : Int) == (l.length : Int))) rfl rfl HRowF.out Tryz.underlying117 rfl (by kernel_rfl)) rfl HFin.out
end Go.Proofs.YtjlpekjfmgcbdaaGreatDoor

/- Contracts of decimal's text, Parse, canonical and Valid. -/
set_option linter.unusedVariables false
set_option linter.unusedSimpArgs false
namespace Go.Proofs.YtjlpekjfmgcbdaaGreatDoor
open Go.RowKit Go.Shelf Go.Sort

theorem conv_sl {W : World} {A : Option Addr} {l : List UInt8} (cap : Nat) (h : Sl by8 W A l) (hp : 0 < l.length) : (convert 51 9 (.slice A l.length cap)).run Tryz.prog W = .ok (.string (bsV l)) W := by
  obtain ⟨b, off, rfl, hat⟩ := h hp
  refine run_convert_bytes_back W _ _ 5 ⟨b, off, none⟩ cap l (by kernel_rfl) (by kernel_rfl) (by kernel_rfl) (fun j hj => ?_)
  have hadd : (⟨b, off, none⟩ : Addr).add j = ⟨b, off + j, none⟩ := by unfold Addr.add; split <;> simp_all
  rw [hadd]
  exact hat j hj
theorem bs_app (a b : List UInt8) : bsV a ++ bsV b = bsV (a ++ b) := by
  apply Go.WideShapes.bytes_inj
  rw [bsV_app, bsV_list, bsV_list, bsV_list]
set_option maxRecDepth 20000 in
set_option maxHeartbeats 16000000 in
theorem text_any (neg : Bool) (A : Option Addr) (n cap : Nat) (T : List UInt8) (ex : Int) (w : World) (hn : n = T.length) (hz : T.length ≤ 1000000) (hc : n ≤ cap) (hcm : cap ≤ maxLen) (h0 : -1000000000 ≤ ex) (h1 : ex ≤ 1000000000) (hs : Sl by8 w A T) (hg : Gl w) :
    Calls Tryz.prog 117 #[numV neg A n cap ex] w fun e w' => e = .returned (.tuple #[.string (textV neg T (ex + n - 1)).1, .int .i64 (textV neg T (ex + n - 1)).2]) ∧ Below w.heap.size w w' := by
  subst hn
  have FR := hide (fun W : World => numFirst_any neg A T.length cap ex W hz h0 h1)
  have Hs := hide hs
  have G := hide hg
  clear hs hg
  unfold numV at FR ⊢
  obtain ⟨fi, hfi⟩ : ∃ fi, ex + (T.length : Int) - 1 = fi := ⟨_, rfl⟩
  rw [hfi] at FR ⊢
  have hrow := Row.new w 117 #[.bool neg, .slice A T.length cap, .int .i64 ex]
  have hbl := (Below.refl w.heap.size w).alloc (Nat.le_refl _) (.cells #[.bool neg, .slice A T.length cap, .int .i64 ex] 117)
  have R0 := hide hrow
  have B0 := hide hbl
  clear hrow hbl
  by_cases hT : T.length = 0
  · have hT0 : T = [] := List.eq_nil_of_length_eq_zero hT
    have hR : textV neg T fi = (⟨#[48]⟩, 0) := by unfold textV; rw [if_pos hT0]
    rw [hR]
    have hTI : (T.length : Int) = 0 := by omega
    clear hT0 hR
    go_enter Tryz.func117, Tryz.ntmps117
    go_wp2
    go_ret2
    exact ⟨rfl, (Below.refl _ _).alloc (Nat.le_refl _) _⟩
  · have hTne : T ≠ [] := fun e => hT (by rw [e]; rfl)
    have hTI : (T.length : Int) ≠ 0 := by omega
    by_cases h17 : 17 < T.length
    · have hR : textV neg T fi = (⟨#[]⟩, 9) := by unfold textV; rw [if_neg hTne, if_pos (.inl h17)]
      rw [hR]
      have h17I : (17 : Int) < (T.length : Int) := by omega
      clear hR
      go_enter Tryz.func117, Tryz.ntmps117
      go_wp2
      go_ret2
      exact ⟨rfl, B0.out⟩
    · have h17I : ¬ (17 : Int) < (T.length : Int) := by omega
      by_cases hlo : fi < -400
      · have hR : textV neg T fi = (⟨#[]⟩, 9) := by unfold textV; rw [if_neg hTne, if_pos (.inr (.inl hlo))]
        rw [hR]
        clear hR
        go_enter Tryz.func117, Tryz.ntmps117
        go_wp2_with fail
        refine (FR.out _).mono ?_
        rintro e w1 ⟨rfl, hb⟩
        have B1 := hide (B0.out.trans (hb.mono B0.out.size))
        clear hb
        go_wp2
        go_ret2
        exact ⟨rfl, B1.out⟩
      · by_cases hhi : 400 < fi
        · have hR : textV neg T fi = (⟨#[]⟩, 9) := by unfold textV; rw [if_neg hTne, if_pos (.inr (.inr hhi))]
          rw [hR]
          clear hR
          go_enter Tryz.func117, Tryz.ntmps117
          go_wp2_with fail
          refine (FR.out _).mono ?_
          rintro e w1 ⟨rfl, hb⟩
          have B1 := hide (B0.out.trans (hb.mono B0.out.size))
          have R1 := hide (R0.out.below hb R0.out.lt)
          have q0 : w1.cell? ⟨w.heap.size, 0, none⟩ = some (.bool neg) := R1.out.cell 0
          have q1 : w1.cell? ⟨w.heap.size, 1, none⟩ = some (.slice A T.length cap) := R1.out.cell 1
          have q2 : w1.cell? ⟨w.heap.size, 2, none⟩ = some (.int .i64 ex) := R1.out.cell 2
          clear hb
          go_wp2_with fail
          refine (FR.out _).mono ?_
          rintro e w2 ⟨rfl, hb⟩
          have B2 := hide (B1.out.trans (hb.mono B1.out.size))
          clear hb
          go_wp2
          go_ret2
          exact ⟨rfl, B2.out⟩
        · have hR : textV neg T fi = (bsV ((if neg then [45] else []) ++ (T.take 1 ++ (if 1 < T.length then 46 :: T.drop 1 else []))) ++ ⟨#[101]⟩ ++ decB fi, 0) := by
            unfold textV; rw [if_neg hTne, if_neg (by omega)]
          rw [hR]
          have IT := hide (fun (W : World) (h : Gl W) => itoa_any fi W (by omega) (by omega) h)
          have ht1 : (T.take 1).length = 1 := by rw [List.length_take]; omega
          have hdl : (T.drop 1).length = T.length - 1 := List.length_drop
          obtain ⟨t1, ht1'⟩ : ∃ t1, T.take 1 = t1 := ⟨_, rfl⟩
          obtain ⟨td, htd⟩ : ∃ td, T.drop 1 = td := ⟨_, rfl⟩
          rw [ht1'] at ht1 ⊢
          rw [htd] at hdl ⊢
          obtain ⟨Rb, hRb⟩ : ∃ Rb, bsV ((if neg then [45] else []) ++ (t1 ++ (if 1 < T.length then 46 :: td else []))) ++ ⟨#[101]⟩ ++ decB fi = Rb := ⟨_, rfl⟩
          rw [hRb]
          have HRb := hide hRb
          have Ht1 := hide ht1'
          have Htd := hide htd
          have Hdl := hide hdl
          have hzd : (decB fi).size ≤ 21 := by
            have := Lib.itoa_length_le fi (by omega) (by omega)
            show (Lib.itoa fi).toArray.size ≤ 21
            simpa using this
          clear hR ht1' htd hdl hRb
          go_enter Tryz.func117, Tryz.ntmps117
          go_wp2_with fail
          refine (FR.out _).mono ?_
          rintro e w1 ⟨rfl, hb⟩
          have B1 := hide (B0.out.trans (hb.mono B0.out.size))
          have R1 := hide (R0.out.below hb R0.out.lt)
          have q0 : w1.cell? ⟨w.heap.size, 0, none⟩ = some (.bool neg) := R1.out.cell 0
          have q1 : w1.cell? ⟨w.heap.size, 1, none⟩ = some (.slice A T.length cap) := R1.out.cell 1
          have q2 : w1.cell? ⟨w.heap.size, 2, none⟩ = some (.int .i64 ex) := R1.out.cell 2
          clear hb
          go_wp2_with fail
          refine (FR.out _).mono ?_
          rintro e w2 ⟨rfl, hb⟩
          have B2 := hide (B1.out.trans (hb.mono B1.out.size))
          have R2 := hide (R1.out.below hb R1.out.lt)
          clear hb q0 q1 q2
          have q0 : w2.cell? ⟨w.heap.size, 0, none⟩ = some (.bool neg) := R2.out.cell 0
          have q1 : w2.cell? ⟨w.heap.size, 1, none⟩ = some (.slice A T.length cap) := R2.out.cell 1
          have q2 : w2.cell? ⟨w.heap.size, 2, none⟩ = some (.int .i64 ex) := R2.out.cell 2
          have S2 := Hs.out.below B2.out
          have hSt := Sl_take S2 1
          rw [Ht1.out] at hSt
          have hcv1 := conv_sl cap hSt (by omega)
          rw [ht1] at hcv1
          clear hSt
          obtain ⟨b, off, hA, hat⟩ := S2 (by omega)
          subst hA
          have hS1 := Sl_drop hat 1
          rw [Htd.out] at hS1
          obtain ⟨tl, htl⟩ : ∃ tl, (if 1 < T.length then 46 :: td else []) = tl := ⟨_, rfl⟩
          have hcI : (1 : Int) ≤ (cap : Int) := by omega
          have hTc : (T.length : Int) ≤ (cap : Int) := by omega
          have hT1 : (1 : Int) ≤ (T.length : Int) := by omega
          go_upto_if 30 with fail
          go_cut [4] (fun v wx => v = .string (bsV (t1 ++ tl)) ∧ wx = w2)
          case first =>
            by_cases h1T : 1 < T.length
            · have h1I : (1 : Int) < (T.length : Int) := by omega
              have hcap : ¬ cap = 1 := by omega
              have hcv2 := conv_sl (cap - 1) hS1 (by have := Hdl.out; omega)
              rw [Hdl.out] at hcv2
              have hcap1 : ¬ cap - 1 = 0 := by omega
              rw [if_pos h1T] at htl
              have d1 := fun W => cat_run (P := Tryz.prog) ⟨#[46]⟩ (bsV (td)) (by have := Hdl.out; rw [bs_size]; show 1 + _ ≤ 1000; omega) W
              have e1 : (⟨#[46]⟩ : ByteArray) ++ bsV (td) = bsV (46 :: td) := bs_app [46] (td)
              rw [e1, htl] at d1
              have htlz : tl.length ≤ 20 := by have := Hdl.out; rw [← htl, List.length_cons]; omega
              have d2 := fun W => cat_run (P := Tryz.prog) (bsV (t1)) (bsV tl) (by rw [bs_size, bs_size]; omega) W
              rw [bs_app] at d2
              clear e1
              go_wp2_with fail
              go_meet
              exact ⟨rfl, rfl⟩
            · have h1I : ¬ (1 : Int) < (T.length : Int) := by omega
              rw [if_neg h1T] at htl
              subst htl
              go_wp2_with fail
              go_meet
              exact ⟨by rw [List.append_nil], rfl⟩
          case rest =>
          obtain ⟨rfl, rfl⟩ := hcut
          obtain ⟨m, hm⟩ : ∃ m, t1 ++ tl = m := ⟨_, rfl⟩
          have hmz : m.length ≤ 30 := by
            rw [← hm, List.length_append, ← htl]
            have := Hdl.out
            split
            · rw [List.length_cons]; omega
            · show _ + 0 ≤ 30; omega
          rw [hm]
          have Hm := hide hm
          have Htl := hide htl
          clear hcv1 hS1 hat htl hm ht1
          go_upto_if 39 with fail
          go_cut [4] (fun v wx => v = .string (bsV ((if neg then [45] else []) ++ m)) ∧ wx = wc)
          case first =>
            cases neg with
            | true =>
              have d1 := fun W => cat_run (P := Tryz.prog) ⟨#[45]⟩ (bsV m) (by rw [bs_size]; show 1 + _ ≤ 1000; omega) W
              have e1 : (⟨#[45]⟩ : ByteArray) ++ bsV m = bsV (45 :: m) := bs_app [45] m
              rw [e1] at d1
              clear e1
              go_wp2_with fail
              go_meet
              exact ⟨rfl, rfl⟩
            | false =>
              go_wp2_with fail
              go_meet
              exact ⟨rfl, rfl⟩
          case rest =>
          obtain ⟨rfl, hwx⟩ := hcut
          obtain ⟨M, hM⟩ : ∃ M, (if neg then [45] else []) ++ m = M := ⟨_, rfl⟩
          have hMz : M.length ≤ 31 := by
            rw [← hM, List.length_append]
            have : (if neg then [45] else [] : List UInt8).length ≤ 1 := by split <;> simp
            omega
          rw [hM]
          subst hwx
          have d1 := fun W => cat_run (P := Tryz.prog) (bsV M) ⟨#[101]⟩ (by rw [bs_size]; show _ + 1 ≤ 1000; omega) W
          have d2 := fun W => cat_run (P := Tryz.prog) (bsV M ++ ⟨#[101]⟩) (decB fi) (by rw [ByteArray.size_append, bs_size]; show _ + 1 + _ ≤ 1000; omega) W
          have HM := hide hM
          clear hM
          go_wp2_with fail
          refine (FR.out _).mono ?_
          rintro e w3 ⟨rfl, hb⟩
          have B3 := hide (B2.out.trans (hb.mono B2.out.size))
          clear hb
          go_wp2_with fail
          refine (IT.out _ (G.out.below B3.out)).mono ?_
          rintro e w4 ⟨rfl, hb⟩
          have B4 := hide (B3.out.trans (hb.mono B3.out.size))
          clear hb
          have he : bsV M ++ ⟨#[101]⟩ ++ decB fi = Rb := by rw [← HM.out, ← Hm.out, ← Htl.out]; exact HRb.out
          have He := hide he
          clear he
          go_wp2
          go_ret2
          exact ⟨by rw [← He.out]; rfl, B4.out⟩
end Go.Proofs.YtjlpekjfmgcbdaaGreatDoor

/- Contracts of decimal's Parse, canonical and Valid. -/
set_option linter.unusedVariables false
set_option linter.unusedSimpArgs false
namespace Go.Proofs.YtjlpekjfmgcbdaaGreatDoor
open Go.RowKit Go.Shelf Go.Sort

theorem toList_beq (a b : ByteArray) : (a.toList == b.toList) = decide (a = b) := by
  rw [Bool.eq_iff_iff, beq_iff_eq, decide_eq_true_eq]
  constructor
  · intro h; exact Go.WideShapes.bytes_inj (by rw [← Lib.toList_data, ← Lib.toList_data, h])
  · intro h; rw [h]
theorem textV_zero (neg : Bool) (a b : Int) : textV neg [] a = textV false [] b := by unfold textV; rw [if_pos rfl, if_pos rfl]
/-- what is parsed, by what scan returns -/
theorem scan_text_eq {l : List UInt8} {p : Bool × List UInt8 × List UInt8 × Bool × List UInt8} {neg : Bool} {n : Nat} {ex : Int} (hp : scanV l = some p) (hn : n = (stripV (p.2.1 ++ p.2.2.1)).length)
    (h : stripV (p.2.1 ++ p.2.2.1) ≠ [] → neg = p.1 ∧ ex + n - 1 = (p.2.1.length : Int) - 1 - leadV (p.2.1 ++ p.2.2.1) + sgnV p.2.2.2.1 (esat 1048576 p.2.2.2.2)) :
    parseV 100000 l = textV neg (stripV (p.2.1 ++ p.2.2.1)) (ex + n - 1) := by
  rw [← parseV_sat]
  unfold parseV
  rw [hp]
  show resV 1048576 p = _
  unfold resV
  by_cases hT : stripV (p.2.1 ++ p.2.2.1) = []
  · rw [hT]
    exact (textV_zero _ _ 0).trans (textV_zero _ _ 0).symm
  · obtain ⟨h1, h2⟩ := h hT
    rw [h1, h2]
theorem strip_len {l : List UInt8} {p : Bool × List UInt8 × List UInt8 × Bool × List UInt8} (hp : scanV l = some p) : (stripV (p.2.1 ++ p.2.2.1)).length ≤ 128 := by
  obtain ⟨_, h2, h3, _⟩ := scanV_len hp
  have h4 := (dropR_le ((p.2.1 ++ p.2.2.1).dropWhile (· == 48))).1
  have h5 := (List.dropWhile_suffix (p := (· == (48 : UInt8))) (l := p.2.1 ++ p.2.2.1)).length_le
  rw [List.length_append] at h5
  rw [stripV_dropR]
  omega
theorem ex_bounds {l : List UInt8} {p : Bool × List UInt8 × List UInt8 × Bool × List UInt8} {neg : Bool} {n : Nat} {ex : Int} (hp : scanV l = some p) (hn : n = (stripV (p.2.1 ++ p.2.2.1)).length)
    (h : stripV (p.2.1 ++ p.2.2.1) ≠ [] → neg = p.1 ∧ ex + n - 1 = (p.2.1.length : Int) - 1 - leadV (p.2.1 ++ p.2.2.1) + sgnV p.2.2.2.1 (esat 1048576 p.2.2.2.2)) (h0 : stripV (p.2.1 ++ p.2.2.1) = [] → ex = 0) :
    -1000000000 ≤ ex ∧ ex ≤ 1000000000 := by
  obtain ⟨_, h2, h3, _⟩ := scanV_len hp
  have hs := strip_len hp
  have hl := leadV_le (p.2.1 ++ p.2.2.1)
  rw [List.length_append] at hl
  have he : esat 1048576 p.2.2.2.2 ≤ 1048576 := by rw [esat_eq]; exact Nat.min_le_left _ _
  by_cases hT : stripV (p.2.1 ++ p.2.2.1) = []
  · rw [h0 hT]; decide
  · obtain ⟨_, h1⟩ := h hT
    unfold sgnV at h1
    split at h1 <;> omega
set_option maxRecDepth 20000 in
set_option maxHeartbeats 8000000 in
theorem decParse_any (l : List UInt8) (w : World) (hz : l.length ≤ 1000000) (hg : Gl w) :
    Calls Tryz.prog 104 #[.string (bsV l)] w fun e w' => e = .returned (.tuple #[.string (parseV 100000 l).1, .int .i64 (parseV 100000 l).2]) ∧ Below w.heap.size w w' := by
  have SC := hide (scan_any l w hz)
  have G := hide hg
  clear hg
  obtain ⟨R, hR⟩ : ∃ R, parseV 100000 l = R := ⟨_, rfl⟩
  have HR := hide hR
  rw [hR]
  clear hR
  generalize bsV l = lb at *
  go_enter Tryz.func104, Tryz.ntmps104
  go_wp2_with fail
  refine SC.out.mono ?_
  rintro e w1 ⟨hb, neg, A, n, cap, ex, ok, rfl, hno, hyes⟩
  have B1 := hide hb
  have Hyes := hide hyes
  have Hno := hide hno
  clear hb hyes hno
  unfold numV
  cases hsc : scanV l with
  | none =>
    obtain rfl := Hno.out hsc
    have hRn : R = (⟨#[]⟩, 3) := by rw [← HR.out]; unfold parseV; rw [hsc]
    subst hRn
    clear hsc
    go_wp2
    go_ret2
    exact ⟨rfl, B1.out.alloc B1.out.size _⟩
  | some p =>
    obtain ⟨rfl, hn, hsl, hnc, hcm, h1, h2⟩ := Hyes.out p hsc
    have heq := scan_text_eq hsc hn h1
    obtain ⟨x1, x2⟩ := ex_bounds hsc hn h1 h2
    have hTz := strip_len hsc
    obtain ⟨T, hT⟩ : ∃ T, stripV (p.2.1 ++ p.2.2.1) = T := ⟨_, rfl⟩
    rw [hT] at hn hsl heq hTz
    have TX := hide (fun (W : World) (h : Sl by8 W A T) (hg : Gl W) => text_any neg A n cap T ex W hn (by omega) hnc hcm x1 x2 h hg)
    rw [← heq, HR.out] at TX
    have Hsl := hide (hsl.below ((Below.refl w1.heap.size w1).alloc (Nat.le_refl _) (.cells #[.bool neg, .slice A n cap, .int .i64 ex] 117)))
    have B2 := hide (B1.out.alloc B1.out.size (.cells #[.bool neg, .slice A n cap, .int .i64 ex] 117))
    unfold numV at TX
    clear hsc hn hsl heq h1 h2 hT Hyes Hno
    go_wp2_with fail
    refine (TX.out _ Hsl.out (G.out.below B2.out)).mono ?_
    rintro e w2 ⟨rfl, hb⟩
    have B3 := hide (B2.out.trans (hb.mono B2.out.size))
    clear hb
    go_wp2
    go_ret2
    exact ⟨rfl, B3.out⟩
theorem canV_parts (l : List UInt8) : canV l = (decide ((parseV 100000 l).2 = 0) && decide ((parseV 100000 l).1 = bsV l)) := by
  unfold canV
  rw [Bool.eq_iff_iff, Bool.and_eq_true, decide_eq_true_eq, decide_eq_true_eq, decide_eq_true_eq]
  constructor
  · rintro ⟨h1, h2⟩; exact ⟨h1, Go.WideShapes.bytes_inj (by rw [h2, bsV_list])⟩
  · rintro ⟨h1, h2⟩; exact ⟨h1, by rw [h2, bsV_list]⟩
end Go.Proofs.YtjlpekjfmgcbdaaGreatDoor
