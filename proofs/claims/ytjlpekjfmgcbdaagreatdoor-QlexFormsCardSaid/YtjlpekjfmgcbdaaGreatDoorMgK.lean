/- MgK: the texts VaJ VaK VaL VaM VaN VaO VaR VaS VaT VaU VaV VaW VaX in one. -/
import Derived.Test.YtjlpekjfmgcbdaaGreatDoorMgC
import Derived.Laws.Runes
import Derived.Laws.RangeAny
import Derived.StillTailTactics
import Derived.Laws.EntriesVeiled
import Derived.Lib.QuietBelow
import Derived.Test.YtjlpekjfmgcbdaaGreatDoorRows
/- Contracts of strings.ContainsRune at the runes beyond ASCII, and of value's digits. -/
set_option linter.unusedVariables false
set_option linter.unusedSimpArgs false
namespace Go.Proofs.YtjlpekjfmgcbdaaGreatDoor
open Go.RowKit Go.Shelf Go.Sort

def setD : ByteArray := ⟨#[48, 49, 120, 122, 88, 90]⟩
theorem setD_lt : ∀ (i : Nat) (h : i < setD.size), (setD[i]'h).toNat < 128 := by
  intro i h
  have hm : setD[i]'h ∈ setD.data.toList := List.mem_of_getElem? (Lib.data_getElem? setD i h)
  have hall : ∀ b ∈ setD.data.toList, b.toNat < 128 := by decide
  exact hall _ hm
theorem setD_index (a : Nat) (c : UInt8) (hc : 128 ≤ c.toNat) : Lib.indexByte (setD.extract a 6).data.toList c = -1 := by
  rcases Int.lt_or_le (Lib.indexByte (setD.extract a 6).data.toList c) 0 with h | h
  · have := Lib.indexByte_ge (setD.extract a 6).data.toList c; omega
  · exfalso
    have h2 := Lib.indexByte_some (l := (setD.extract a 6).data.toList) (c := c) (o := (Lib.indexByte (setD.extract a 6).data.toList c).toNat) (by omega)
    have hm : c ∈ (setD.extract a 6).data.toList := List.mem_of_getElem? h2.1
    have hm2 := mem_extract hm
    have : ∀ b ∈ setD.data.toList, b.toNat < 128 := by decide
    have := this c hm2
    omega
set_option maxRecDepth 100000 in
set_option maxHeartbeats 8000000 in
theorem indexRune_high (r : Int) (w : World) (h1 : 128 ≤ r) (h2 : r ≤ 2147483647) :
    Calls Tryz.prog 113 #[.string setD, .int .i32 r] w fun e w' => e = .returned (.int .i64 (-1)) ∧ Below w.heap.size w w' := by
  have VR := hide (fun W : World => Tryz.utf8_ValidRune r W)
  have hsz : setD.size = 6 := rfl
  have hg0 : (0 : Int) ≤ r := by omega
  have hg1 : ¬ r < 128 := by omega
  by_cases hbad : r = 65533
  · subst hbad
    have hch := setD_lt
    have Hch := hide hch
    clear hch
    generalize setD = sd at *
    go_enter Tryz.func113, Tryz.ntmps113
    go_wp2
    go_loopw [176] (fun _ wr => ∃ pos : Nat, pos ≤ sd.size ∧ wr = w.iter sd pos) (fun _ wr => sd.size - wr.iterPos w.heap.size)
    case atStart => exact ⟨0, Nat.zero_le _, rfl⟩
    case round =>
      obtain ⟨pos, hp, rfl⟩ := hrel
      by_cases hlt : pos < sd.size
      · have hc := Hch.out pos hlt
        have hdec := decode_ascii sd pos hlt hc
        obtain ⟨c, hcc⟩ : ∃ c, (sd[pos]'hlt).toNat = c := ⟨_, rfl⟩
        rw [hcc] at hdec hc
        have hnx := fun ty => run_next_any (P := Tryz.prog) w sd pos ty hlt
        rw [hdec] at hnx
        simp only at hnx
        have hne : (((c : Nat) : Int) == 65533) = false := beq_eq_false_iff_ne.2 (by omega)
        clear hdec hcc
        go_wp2
        go_roundw
        case rel => exact ⟨pos + 1, hlt, rfl⟩
        case measure => rw [World.iterPos_iter, World.iterPos_iter]; omega
      · have hnx := fun ty => run_next_end (P := Tryz.prog) w sd pos ty hlt
        go_wp2
        go_ret
        exact ⟨rfl, (Below.refl _ _).alloc (Nat.le_refl _) _⟩
  · have hbad' : (r == 65533) = false := beq_eq_false_iff_ne.2 hbad
    cases hv : Lib.validRune r with
    | false =>
      rw [hv] at VR
      clear hv
      generalize setD = sd at *
      go_enter Tryz.func113, Tryz.ntmps113
      go_wp2_with fail
      refine (VR.out _).mono ?_
      rintro e wx ⟨rfl, rfl⟩
      go_wp2
      go_ret
      exact ⟨rfl, Below.refl _ _⟩
    | true =>
      rw [hv] at VR
      have hv2 : Utf8.valid r = true := by
        rw [validRune_eq]
        unfold validRune
        unfold Lib.validRune at hv
        have := of_decide_eq_true hv
        exact decide_eq_true (by omega)
      obtain ⟨en1, en2, en3⟩ := encode_facts r hv2 h1
      obtain ⟨E, hE⟩ : ∃ E, Utf8.encode r = E := ⟨_, rfl⟩
      rw [hE] at en1 en2 en3
      have Hen := hE
      have hlast : E.size - 1 < E.size := by omega
      have hl128 := en3 hlast
      obtain ⟨n, hn⟩ : ∃ n, E.size = n + 1 := ⟨E.size - 1, by omega⟩
      have hnE : n < E.size := by omega
      have hl2 : 128 ≤ (E[n]'hnE).toNat := by
        have e : E.size - 1 = n := by omega
        simp only [e] at hl128
        exact hl128
      have hn6 : n < setD.size := by show n < 6; omega
      have hd128 := setD_lt n hn6
      have hnI : (n : Int) < 6 := by omega
      have hnI2 : (n : Int) ≤ 3 := by omega
      have hn1 : (1 : Int) ≤ (n : Int) := by omega
      have hne : (((setD[n]'hn6).toNat : Int) != ((E[n]'hnE).toNat : Int)) = true := by
        have : ((setD[n]'hn6).toNat : Int) ≠ ((E[n]'hnE).toNat : Int) := by omega
        simpa using this
      have IB := hide (fun W : World => Tryz.strings_IndexByte (setD.extract (n + 1) 6) ((E[n]'hnE).toNat : Int) W)
      rw [show (((E[n]'hnE).toNat : Int)).toNat.toUInt8 = E[n]'hnE by simp, setD_index (n + 1) _ hl2] at IB
      have hlen : (E.size : Int) - 1 = (n : Int) := by omega
      have hEle : (E.size : Int) ≤ 4 := by omega
      have hwr : IntKind.i64.wrap ((n : Int) + 1) = (n : Int) + 1 := IntWalk.i64_in _ (by omega)
      have hp16 : (n : Int) + 1 ≤ 6 := by omega
      have hp10 : (0 : Int) ≤ (n : Int) + 1 := by omega
      have hp1n : ((n : Int) + 1).toNat = n + 1 := by omega
      have hnEI : (n : Int) < (E.size : Int) := by omega
      clear hv hv2 en1 en2 en3 hl128 hlast hd128 hl2 hn
      generalize setD = sd at *
      go_enter Tryz.func113, Tryz.ntmps113
      go_wp2_with fail
      refine (VR.out _).mono ?_
      rintro e wx ⟨rfl, rfl⟩
      go_wp2_with fail
      go_step3
      go_upto_region 2 with fail
      try rw [hE]
      clear hE Hen
      go_wp2_with fail
      go_loopw [9] (fun v wr => v = .int .i64 (n : Int) ∧ wr = wx) (fun _ _ => 0)
      case atStart => exact ⟨by first | rfl | (congr 1; omega), rfl⟩
      case round =>
        obtain ⟨rfl, rfl⟩ := hrel
        go_wp2_with fail
        go_step3
        go_wp2_with fail
        go_quiet (fail)
        go_wp2_with fail
        go_quiet ((exact (IB.out _).mono (fun _ _ h => ⟨h.1, _, h.2⟩)))
        go_wp2
        show bodyPost Tryz.prog Tryz.f113 (fun e w' => e = .returned (.int .i64 (-1)) ∧ Below wr.heap.size wr w') Exit.ret _ _
        go_ret
        exact ⟨rfl, Below_drewN (Below.refl _ _) _⟩
theorem containsRune_high (r : Int) (w : World) (h1 : 128 ≤ r) (h2 : r ≤ 2147483647) :
    Calls Tryz.prog 96 #[.string setD, .int .i32 r] w fun e w' => e = .returned (.bool false) ∧ Below w.heap.size w w' := by
  have IR := hide (fun W : World => indexRune_high r W h1 h2)
  generalize setD = sd at *
  go_enter Tryz.func96, Tryz.ntmps96
  go_wp2_with fail
  refine (IR.out _).mono ?_
  rintro e wx ⟨rfl, hb⟩
  have Hb := hide hb
  clear hb
  go_wp2
  go_ret
  exact ⟨rfl, Hb.out⟩
theorem setD_mem (c : UInt8) : decide (0 ≤ Lib.indexByte setD.data.toList c) = dgB c := by
  have hl : setD.data.toList = [48, 49, 120, 122, 88, 90] := rfl
  rw [hl]
  by_cases h : c = 48 ∨ c = 49 ∨ c = 120 ∨ c = 122 ∨ c = 88 ∨ c = 90
  · rw [dgB_of h]
    rcases h with rfl | rfl | rfl | rfl | rfl | rfl <;> decide
  · have hd : dgB c = false := by
      cases hh : dgB c with
      | false => rfl
      | true => exact absurd (dgB_cases hh) h
    rw [hd]
    refine decide_eq_false ?_
    intro h0
    have h2 := Lib.indexByte_some (l := [48, 49, 120, 122, 88, 90]) (c := c) (o := (Lib.indexByte [48, 49, 120, 122, 88, 90] c).toNat) (by omega)
    have hm : c ∈ ([48, 49, 120, 122, 88, 90] : List UInt8) := List.mem_of_getElem? h2.1
    simp only [List.mem_cons, List.not_mem_nil, or_false] at hm
    exact h hm
theorem dgB_high {c : UInt8} (h : 128 ≤ c.toNat) : dgB c = false := by
  cases hh : dgB c with
  | false => rfl
  | true => rcases dgB_cases hh with rfl | rfl | rfl | rfl | rfl | rfl <;> exact absurd h (by decide)
/-- digits: whether a text is digits of Bits, in either case -/
def digV (l : List UInt8) : Bool := decide (l ≠ []) && l.all dgB
end Go.Proofs.YtjlpekjfmgcbdaaGreatDoor

/- Contracts of value's parseBits and parseEvent. -/
set_option linter.unusedVariables false
set_option linter.unusedSimpArgs false
namespace Go.Proofs.YtjlpekjfmgcbdaaGreatDoor
open Go.RowKit Go.Shelf Go.Sort

theorem bytesWorld_frozen (w : World) (e : TypeId) (s : ByteArray) (j : Nat) (hj : j < s.size) : (Lib.bytesWorld w e s).frozen? ⟨w.heap.size, j, none⟩ = false := by
  have h := Lib.bytesWorld_at_new w e s
  have hc := Lib.bytesWorld_cell w e s j hj
  have hlt : j < (Lib.bytesCells w e s).size := by
    rcases Nat.lt_or_ge j (Lib.bytesCells w e s).size with h1 | h1
    · exact h1
    · simp [World.cell?, h, Array.getElem?_eq_none h1] at hc
  simp [World.frozen?, h]
  omega
/-- a text with its letters in lower case, so far -/
def mixL (l : List UInt8) (i : Nat) : List UInt8 := (l.take i).map lowC ++ l.drop i
theorem mixL_len (l : List UInt8) (i : Nat) : (mixL l i).length = l.length := by
  unfold mixL; rw [List.length_append, List.length_map, List.length_take, List.length_drop]; omega
theorem mixL_get (l : List UInt8) (i j : Nat) (hj : j < l.length) : (mixL l i)[j]'(by rw [mixL_len]; exact hj) = if j < i then lowC l[j] else l[j] := by
  unfold mixL
  by_cases h : j < i
  · rw [if_pos h, List.getElem_append_left (by rw [List.length_map, List.length_take]; omega), List.getElem_map, List.getElem_take]
  · rw [if_neg h, List.getElem_append_right (by rw [List.length_map, List.length_take]; omega), List.getElem_drop]
    congr 1
    rw [List.length_map, List.length_take]; omega
end Go.Proofs.YtjlpekjfmgcbdaaGreatDoor

/- Contracts of value's kinds and of. -/
set_option linter.unusedVariables false
set_option linter.unusedSimpArgs false
namespace Go.Proofs.YtjlpekjfmgcbdaaGreatDoor
open Go.RowKit Go.Shelf Go.Sort

/-- a function with nothing caught -/
def fnV (f : Nat) : Value := .func (.func f) #[] #[]
def kindS (n : Nat) : ByteArray := if n = 1 then ⟨#[48]⟩ else ⟨#[]⟩
end Go.Proofs.YtjlpekjfmgcbdaaGreatDoor

/- Contract of value's of. -/
set_option linter.unusedVariables false
set_option linter.unusedSimpArgs false
namespace Go.Proofs.YtjlpekjfmgcbdaaGreatDoor
open Go.RowKit Go.Shelf Go.Sort

/-- the cells of no kind -/
def kindZ : Array Value := #[.int .i64 0, .int .i64 0, .nilFunc, .nilFunc, .nilFunc, .nilFunc, .string ⟨#[]⟩]
def okW (k : Nat) (wd : Int) : Bool := if k = 0 then decide (1 ≤ wd ∧ wd ≤ 128) else decide (wd = 0)
end Go.Proofs.YtjlpekjfmgcbdaaGreatDoor

/- Contracts of the functions that a kind holds, by the kind's number. -/
set_option linter.unusedVariables false
set_option linter.unusedSimpArgs false
namespace Go.Proofs.YtjlpekjfmgcbdaaGreatDoor
open Go.RowKit Go.Shelf Go.Sort

def capt (k p : Nat) : Array Value := match k with
  | 0 => #[] | _ => #[.pointer (some ⟨p, 0, none⟩)]
def loK (k : Nat) : Int := match k with | 0 => 1 | _ => 0
def hiK (k : Nat) : Int := match k with | 0 => 128 | _ => 0
def letK (k : Nat) : ByteArray := match k with | 0 => ⟨#[98]⟩ | 1 => ⟨#[114]⟩ | 2 => ⟨#[115]⟩ | _ => ⟨#[]⟩
/-- is it a value of the kind -/
def validK (k : Nat) (wd : Int) (l : List UInt8) : Bool := match k with
  | 0 => valV wd l | 1 => canV l | 2 => decide (l.length ≤ 64) | _ => decide (l = [])
def formatK (k : Nat) (l : List UInt8) : List UInt8 := match k with
  | 0 => if isV l then shortV l else [] | 1 => l | 2 => quoteL l | _ => [49]
def parseK (k : Nat) (wd : Int) (l : List UInt8) : ByteArray × Int := match k with
  | 0 => (bsV (bitsV wd l).1, (bitsV wd l).2) | 1 => parseV 100000 l | 2 => unqRes l | _ => (⟨#[]⟩, if l.length = 1 ∧ l.all dgB = true then 0 else 3)
def initK (k : Nat) (wd : Int) : ByteArray := match k with
  | 0 => bsV (allV wd 120) | 1 => ⟨#[48]⟩ | _ => ⟨#[]⟩

theorem enter_of {P : Program} {f : FuncId} {fn : Func} (hf : P.funcs[f]? = some fn) (hname : (fn.name == "runtime.NumGoroutine") = false) (hb : fn.body.isNone = false) (args : Array Value) (w : World) :
    (callFunc f args).run P w = .ok (.enter f args) w := by
  cases hc : fn.body with
  | none => rw [hc] at hb; cases hb
  | some c =>
    have h1 : fn.name ≠ "runtime.NumGoroutine" := by simpa using hname
    simp [callFunc, go_sem, hf, h1, hc]
end Go.Proofs.YtjlpekjfmgcbdaaGreatDoor

/- Contracts of value's exported functions. -/
set_option linter.unusedVariables false
set_option linter.unusedSimpArgs false
namespace Go.Proofs.YtjlpekjfmgcbdaaGreatDoor
open Go.RowKit Go.Shelf Go.Sort

/-- is there a kind with that number and that width -/
def inK (n wd : Int) : Bool := decide (0 ≤ n ∧ n < 4) && okW n.toNat wd
theorem inK_nat (k : Nat) (wd : Int) (h : k < 4) : inK (k : Int) wd = okW k wd := by
  unfold inK
  rw [decide_eq_true (by omega), Bool.true_and, Int.toNat_natCast]
theorem inK_out {n : Int} (wd : Int) (h : n < 0 ∨ 4 ≤ n) : inK n wd = false := by
  unfold inK
  rw [decide_eq_false (by omega), Bool.false_and]
def validN (n wd : Int) (l : List UInt8) : Bool := inK n wd && validK n.toNat wd l
def initN (n wd : Int) : ByteArray := if inK n wd then initK n.toNat wd else ⟨#[]⟩
def parseN (n wd : Int) (l : List UInt8) : ByteArray × Int := if inK n wd then parseK n.toNat wd l else (⟨#[]⟩, 7)
def formatN (n wd : Int) (l : List UInt8) : List UInt8 := if validN n wd l then formatK n.toNat l else []

end Go.Proofs.YtjlpekjfmgcbdaaGreatDoor

/- Contracts of value's code and Command. -/
set_option linter.unusedVariables false
set_option linter.unusedSimpArgs false
namespace Go.Proofs.YtjlpekjfmgcbdaaGreatDoor
open Go.RowKit Go.Shelf Go.Sort

/-- is it an identifier code -/
def codeV (l : List UInt8) : Bool := allPr l && decide (l ≠ []) && decide (l.length ≤ 8) && decide (l ≠ [36, 101, 110, 100])
theorem allPr_take (l : List UInt8) (i : Nat) (h : i < l.length) : allPr (l.take (i + 1)) = (allPr (l.take i) && prB l[i]) := by
  unfold allPr
  rw [List.take_add_one, List.getElem?_eq_getElem h, List.all_append]
  simp
theorem codeV_bad {l : List UInt8} (i : Nat) (h : i < l.length) (hp : prB l[i] = false) : codeV l = false := by
  have : allPr l = false := by
    unfold allPr
    rw [List.all_eq_false]
    exact ⟨l[i], List.getElem_mem h, by rw [hp]; decide⟩
  unfold codeV; rw [this]; rfl

theorem bsV_append (a b : List UInt8) : bsV a ++ bsV b = bsV (a ++ b) := by
  apply ByteArray.ext
  apply Array.toList_inj.1
  rw [bsV_app, bsV_list, bsV_list, bsV_list]
theorem formatK_len (k : Nat) (l : List UInt8) : (formatK k l).length ≤ 4 * l.length + 1 := by
  match k with
  | 0 =>
    show (if isV l then shortV l else []).length ≤ _
    split
    · have := (shortV_suffix l).length_le; omega
    · simp
  | 1 => show l.length ≤ _; omega
  | 2 => have := quoteL_len l; show (quoteL l).length ≤ _; omega
  | _ + 3 => show (1 : Nat) ≤ _; omega
theorem run_add (a b : List UInt8) (ha : a.length ≤ 10000000) (hb : b.length ≤ 10000000) (W : World) : (Op.stringOp .add (bsV a) (bsV b)).run Tryz.prog W = .ok (.string (bsV (a ++ b))) W := by
  rw [run_string_add_sum W _ _ (by rw [bs_size, bs_size]; omega), bsV_append]
/-- the letter of a kind -/
def letL (k : Nat) : List UInt8 := (letK k).data.toList
theorem letL_len (k : Nat) : (letL k).length ≤ 1 := by
  match k with
  | 0 => decide
  | 1 => decide
  | 2 => decide
  | _ + 3 => exact Nat.zero_le _
def commandN (n wd : Int) (l id : List UInt8) : List UInt8 :=
  if validN n wd l && codeV id then (if n = 3 ∨ (n = 0 ∧ wd = 1) then formatK n.toNat l ++ id else letL n.toNat ++ formatK n.toNat l ++ [32] ++ id) else []

end Go.Proofs.YtjlpekjfmgcbdaaGreatDoor

/- Plain laws of values, and the examples of the chapter. -/
set_option linter.unusedVariables false
set_option linter.unusedSimpArgs false
namespace Go.Proofs.YtjlpekjfmgcbdaaGreatDoor
open Go.RowKit Go.Shelf Go.Sort

theorem hexV_D : ∀ n, n < 16 → hexV (hexD n) = some n := by decide +kernel
theorem step1_quote (c : UInt8) (l : List UInt8) : step1 (quoteB c ++ l) = some (c, (quoteB c).length) := by
  unfold quoteB
  by_cases hc : c = 92
  · rw [if_pos hc, hc]; rfl
  · rw [if_neg hc]
    cases hp : prB c with
    | true =>
      rw [if_pos rfl]
      show step1 (c :: l) = _
      unfold step1; simp only; rw [if_neg hc, hp]; rfl
    | false =>
      rw [if_neg (by decide)]
      show step1 (92 :: 120 :: hexD (c.toNat / 16) :: hexD (c.toNat % 16) :: l) = _
      have hlt := c.toNat_lt
      unfold step1; simp only
      rw [if_pos trivial, if_neg (by decide), if_pos trivial, hexV_D _ (by omega), hexV_D _ (by omega)]
      simp only
      rw [show 16 * (c.toNat / 16) + c.toNat % 16 = c.toNat by omega, UInt8.ofNat_toNat]; rfl
theorem unq_quote_app (l r : List UInt8) : unq (quoteL l ++ r) = (unq r).map (l ++ ·) := by
  induction l with
  | nil => simp [quoteL]
  | cons c l ih =>
    have e : quoteL (c :: l) ++ r = quoteB c ++ (quoteL l ++ r) := by
      show (quoteB c ++ quoteL l) ++ r = _
      rw [List.append_assoc]
    rw [e, unq_step (step1_quote c _), List.drop_left, ih]
    cases unq r <;> simp
theorem unq_quote (l : List UInt8) : unq (quoteL l) = some l := by
  have := unq_quote_app l []
  rw [List.append_nil, unq_nil] at this
  rw [this]; simp
theorem unqRes_ok {l : List UInt8} (h : (unqRes l).2 = 0) : ∃ s, unq l = some s ∧ s.length ≤ 64 ∧ unqRes l = (⟨s.toArray⟩, 0) := by
  unfold unqRes at h ⊢
  cases hu : unq l with
  | none => rw [hu] at h; exact absurd h (by decide)
  | some s =>
    rw [hu] at h
    simp only at h ⊢
    by_cases h64 : 64 < s.length
    · rw [if_pos h64] at h; exact absurd h (by decide)
    · rw [if_neg h64]; exact ⟨s, rfl, by omega, rfl⟩
theorem unqRes_err {l : List UInt8} (h : ¬ (unqRes l).2 = 0) : (unqRes l).1 = ⟨#[]⟩ := by
  unfold unqRes at h ⊢
  cases hu : unq l with
  | none => rfl
  | some s =>
    rw [hu] at h
    simp only at h ⊢
    by_cases h64 : 64 < s.length
    · rw [if_pos h64]
    · rw [if_neg h64] at h; exact absurd rfl h

theorem okW_0 {wd : Int} (h : okW 0 wd = true) : 1 ≤ wd ∧ wd ≤ 128 := of_decide_eq_true (by unfold okW at h; exact h)
theorem isV_of_val {wd : Int} {l : List UInt8} (h : valV wd l = true) : isV l = true := by
  unfold valV at h; rw [Bool.and_eq_true] at h; exact h.1
theorem back_k (k : Nat) (hk : k < 4) (wd : Int) (l : List UInt8) (hv : validK k wd l = true) : parseK k wd (formatK k l) = (bsV l, 0) := by
  match k with
  | 0 =>
    have hv' : valV wd l = true := hv
    show (bsV (bitsV wd (if isV l then shortV l else [])).1, (bitsV wd (if isV l then shortV l else [])).2) = _
    rw [if_pos (isV_of_val hv'), short_back hv']
  | 1 => exact (canV_iff l).1 hv
  | 2 =>
    have h64 : l.length ≤ 64 := of_decide_eq_true hv
    show unqRes (quoteL l) = _
    unfold unqRes
    rw [unq_quote]
    show (if 64 < l.length then _ else _) = _
    rw [if_neg (by omega)]; rfl
  | 3 =>
    have hl : l = [] := of_decide_eq_true hv
    subst hl
    show ((⟨#[]⟩ : ByteArray), if ([49] : List UInt8).length = 1 ∧ ([49] : List UInt8).all dgB = true then (0 : Int) else 3) = _
    decide +kernel
  | _ + 4 => omega
theorem parse_good (k : Nat) (wd : Int) (l : List UInt8) (h : (parseK k wd l).2 = 0) : validK k wd (parseK k wd l).1.data.toList = true := by
  match k with
  | 0 =>
    show valV wd (bitsV wd l).1 = true
    exact bits_value (v := (bitsV wd l).1) (by rw [← show (bitsV wd l).2 = 0 from h])
  | 1 => exact parse_again l h
  | 2 =>
    obtain ⟨s, h1, h2, h3⟩ := unqRes_ok (l := l) h
    show decide ((unqRes l).1.data.toList.length ≤ 64) = true
    rw [h3]
    exact decide_eq_true h2
  | _ + 3 => rfl
theorem parse_bad (k : Nat) (wd : Int) (l : List UInt8) (h : (parseK k wd l).2 ≠ 0) : (parseK k wd l).1 = ⟨#[]⟩ := by
  match k with
  | 0 =>
    show bsV (bitsV wd l).1 = _
    rw [bitsV_err (w := wd) (l := l) h]; rfl
  | 1 => exact parseV_err l h
  | 2 => exact unqRes_err (l := l) h
  | _ + 3 => rfl
theorem valid_len (k : Nat) (wd : Int) (l : List UInt8) (h : validK k wd l = true) : l.length ≤ 128 := by
  match k with
  | 0 =>
    have := (valV_iff (w := wd) (l := l)).1 h
    omega
  | 1 =>
    have h2 := (canV_iff l).1 h
    unfold parseV at h2
    cases hs : scanV l with
    | none =>
      rw [hs] at h2
      have h3 : (3 : Int) = 0 := congrArg Prod.snd h2
      omega
    | some p => have := (scanV_len hs).1; omega
  | 2 => have : l.length ≤ 64 := of_decide_eq_true h; omega
  | _ + 3 =>
    have : l = [] := of_decide_eq_true h
    subst this; exact Nat.zero_le _
theorem inK_k {n wd : Int} (h : inK n wd = true) : ∃ k : Nat, n = k ∧ k < 4 ∧ okW k wd = true := by
  unfold inK at h
  rw [Bool.and_eq_true] at h
  have h1 := of_decide_eq_true h.1
  exact ⟨n.toNat, by omega, by omega, h.2⟩
theorem validN_k {n wd : Int} {l : List UInt8} (h : validN n wd l = true) : inK n wd = true ∧ validK n.toNat wd l = true := by
  unfold validN at h
  rwa [Bool.and_eq_true] at h
theorem back_N (n wd : Int) (l : List UInt8) (h : validN n wd l = true) : parseN n wd (formatN n wd l) = (bsV l, 0) := by
  obtain ⟨h1, h2⟩ := validN_k h
  obtain ⟨k, rfl, hk, ho⟩ := inK_k h1
  rw [Int.toNat_natCast] at h2
  unfold parseN formatN
  rw [h, if_pos h1, if_pos rfl, Int.toNat_natCast]
  exact back_k k hk wd l h2
theorem good_N (n wd : Int) (l : List UInt8) (h : (parseN n wd l).2 = 0) : validN n wd (parseN n wd l).1.data.toList = true := by
  unfold parseN at h ⊢
  by_cases h1 : inK n wd = true
  · rw [if_pos h1] at h ⊢
    unfold validN
    rw [h1, Bool.true_and]
    exact parse_good _ wd l h
  · rw [if_neg h1] at h
    exact absurd h (by decide)
theorem bad_N (n wd : Int) (l : List UInt8) (h : (parseN n wd l).2 ≠ 0) : (parseN n wd l).1 = ⟨#[]⟩ := by
  unfold parseN at h ⊢
  by_cases h1 : inK n wd = true
  · rw [if_pos h1] at h ⊢
    exact parse_bad _ wd l h
  · rw [if_neg h1]
theorem len_N (n wd : Int) (l : List UInt8) (h : validN n wd l = true) : l.length ≤ 128 := valid_len _ wd l (validN_k h).2
theorem formatN_len (n wd : Int) (l : List UInt8) : (formatN n wd l).length ≤ 4 * l.length + 1 := by
  unfold formatN
  split
  · exact formatK_len _ l
  · exact Nat.zero_le _

theorem ex_1 : parseN 0 4 [122, 48] = (⟨#[122, 122, 122, 48]⟩, 0) := by decide +kernel
theorem ex_2 : parseN 1 0 [49, 46, 53, 48] = (⟨#[49, 46, 53, 101, 48]⟩, 0) := by decide +kernel
theorem ex_3 : bsV (commandN 0 4 [48, 48, 48, 49] [33]) = ⟨#[98, 49, 32, 33]⟩ := by decide +kernel
theorem ex_4 : bsV (commandN 0 1 [49] [33]) = ⟨#[49, 33]⟩ := by decide +kernel
theorem ex_5 : initN 0 2 = ⟨#[120, 120]⟩ := by decide +kernel
theorem ex_6 : inK 3 0 = true := by decide +kernel
theorem ex_7 : validN 2 0 [97, 32, 98] = true := by decide +kernel
theorem ex_8 : bsV (formatN 2 0 [97, 32, 98]) = ⟨#[97, 92, 120, 50, 48, 98]⟩ := by decide +kernel

end Go.Proofs.YtjlpekjfmgcbdaaGreatDoor

/- Contracts of the reference's characters, bit vectors and digits. -/
set_option linter.unusedVariables false
set_option linter.unusedSimpArgs false
namespace Go.Proofs.YtjlpekjfmgcbdaaGreatDoor
open Go.RowKit Go.Shelf Go.Sort

theorem all_take {p : UInt8 → Bool} (l : List UInt8) (i : Nat) (h : i < l.length) : (l.take (i + 1)).all p = ((l.take i).all p && p l[i]) := by
  rw [List.take_add_one, List.getElem?_eq_getElem h, List.all_append]
  simp
theorem all_bad {p : UInt8 → Bool} {l : List UInt8} (i : Nat) (h : i < l.length) (hp : p l[i] = false) : l.all p = false := by
  rw [List.all_eq_false]
  exact ⟨l[i], List.getElem_mem h, by rw [hp]; decide⟩

theorem rep_snoc (c : UInt8) (i : Nat) : List.replicate i c ++ [c] = List.replicate (i + 1) c := by rw [List.replicate_succ']

end Go.Proofs.YtjlpekjfmgcbdaaGreatDoor

/- Contracts of the reference's lower, front, Extend and Shorten. -/
set_option linter.unusedVariables false
set_option linter.unusedSimpArgs false
namespace Go.Proofs.YtjlpekjfmgcbdaaGreatDoor
open Go.RowKit Go.Shelf Go.Sort

theorem bs_one (l : List UInt8) (i : Nat) (h : i < l.length) : (bsV l).extract i (i + 1) = bsV [l[i]] := by
  apply ByteArray.ext
  apply Array.toList_inj.1
  rw [Lib.extract_data]
  show (l.drop i).take (i + 1 - i) = [l[i]]
  rw [show i + 1 - i = 1 by omega, List.drop_eq_getElem_cons h]
  rfl
theorem map_take (l : List UInt8) (i : Nat) (h : i < l.length) : (l.take (i + 1)).map lowC = (l.take i).map lowC ++ [lowC l[i]] := by
  rw [List.take_add_one, List.getElem?_eq_getElem h, List.map_append]
  rfl

theorem extendV_bad {n : Int} {l : List UInt8} (h1 : 1 ≤ n) (h2 : n ≤ 128) (h : l = [] ∨ l.all chB = false) : extendV n l = ([], 3) := by
  unfold extendV; rw [if_neg (by omega), if_pos h]
theorem extendV_long {n : Int} {l : List UInt8} (h1 : 1 ≤ n) (h2 : n ≤ 128) (h3 : l ≠ []) (h4 : l.all chB = true) (h5 : n < l.length) : extendV n l = ([], 8) := by
  unfold extendV; rw [if_neg (by omega), if_neg (by rintro (h | h); exact h3 h; rw [h4] at h; cases h), if_pos h5]
theorem extendV_ok {n : Int} {l : List UInt8} (h1 : 1 ≤ n) (h2 : n ≤ 128) (h3 : l ≠ []) (h4 : l.all chB = true) (h5 : (l.length : Int) ≤ n) : extendV n l = (extL n.toNat l, 0) := by
  unfold extendV; rw [if_neg (by omega), if_neg (by rintro (h | h); exact h3 h; rw [h4] at h; cases h), if_neg (by omega)]

/-- no shorter text than n digits -/
theorem short_len {l : List UInt8} (hne : l ≠ []) (n : Nat) (h : ∀ j, 1 ≤ j → j < n → extL l.length (l.drop (l.length - j)) ≠ l) : n ≤ (shortV l).length := by
  obtain ⟨p, hp⟩ := shortV_suffix l
  have h1 : 1 ≤ (shortV l).length := List.length_pos_iff.2 (shortV_ne hne)
  have h2 : (shortV l).length ≤ l.length := (shortV_suffix l).length_le
  have hd : l.drop (l.length - (shortV l).length) = shortV l := by
    conv => lhs; rw [← hp]
    rw [List.length_append, show p.length + (shortV l).length - (shortV (p ++ shortV l)).length = p.length + (shortV l).length - (shortV l).length by rw [hp], Nat.add_sub_cancel, List.drop_left]
  rcases Nat.lt_or_ge (shortV l).length n with hlt | hge
  · exact absurd (by rw [hd]; exact (shortV_front l hne).2) (h _ h1 hlt)
  · exact hge
theorem short_is {l : List UInt8} (hne : l ≠ []) (n : Nat) (hn1 : 1 ≤ n) (hn2 : n ≤ l.length) (h : ∀ j, 1 ≤ j → j < n → extL l.length (l.drop (l.length - j)) ≠ l) (he : extL l.length (l.drop (l.length - n)) = l) : shortV l = l.drop (l.length - n) := by
  have h3 := short_len hne n h
  have hdn : (l.drop (l.length - n)).length = n := by rw [List.length_drop]; omega
  have hs := shortV_least l (l.drop (l.length - n)) (by intro e; rw [e] at hdn; simp at hdn; omega) (List.drop_suffix _ _) he
  exact hs.eq_of_length_le (by rw [hdn]; exact h3)
theorem short_all {l : List UInt8} (hne : l ≠ []) (h : ∀ j, 1 ≤ j → j < l.length → extL l.length (l.drop (l.length - j)) ≠ l) : shortV l = l :=
  (shortV_suffix l).eq_of_length_le (short_len hne l.length h)

end Go.Proofs.YtjlpekjfmgcbdaaGreatDoor

/- Contracts of the reference's digits, Decimal, strip and Text. -/
set_option linter.unusedVariables false
set_option linter.unusedSimpArgs false
namespace Go.Proofs.YtjlpekjfmgcbdaaGreatDoor
open Go.RowKit Go.Shelf Go.Sort

theorem refDigit_any3 (c : UInt8) (w : World) :
    Calls Tryz.prog 131 #[.int .u8 (c.toNat : Int)] w fun e w' => e = .returned (.bool (isD c)) ∧ w' = w := by
  cases h : isD c with
  | true =>
    have hd := of_decide_eq_true (show decide (48 ≤ c.toNat ∧ c.toNat ≤ 57) = true from h)
    have h1 : (48 : Int) ≤ (c.toNat : Int) := by omega
    have h2 : (c.toNat : Int) ≤ 57 := by omega
    clear h hd
    go_enter Tryz.func131, Tryz.ntmps131
    go_wp2
    go_ret
    exact ⟨rfl, rfl⟩
  | false =>
    have hd := of_decide_eq_false (show decide (48 ≤ c.toNat ∧ c.toNat ≤ 57) = false from h)
    by_cases h1 : 48 ≤ c.toNat
    · have h1' : (48 : Int) ≤ (c.toNat : Int) := by omega
      have h2 : ¬ (c.toNat : Int) ≤ 57 := by omega
      clear h hd
      go_enter Tryz.func131, Tryz.ntmps131
      go_wp2
      go_ret
      exact ⟨rfl, rfl⟩
    · have h1' : ¬ (48 : Int) ≤ (c.toNat : Int) := by omega
      clear h hd
      go_enter Tryz.func131, Tryz.ntmps131
      go_wp2
      go_ret
      exact ⟨rfl, rfl⟩
theorem nd_stop (l : List UInt8) (n : Nat) (hn : n ≤ l.length) (h : (l.take n).all isD = true) (he : ∀ c, l[n]? = some c → isD c = false) : nd l = n := by
  have := nd_app (l.take n) (l.drop n) (fun c hc => List.all_eq_true.1 h c hc) (fun c hc => he c (by rw [List.head?_drop] at hc; exact hc))
  rw [List.take_append_drop] at this
  rw [this, List.length_take]; omega

set_option maxRecDepth 20000 in
set_option maxHeartbeats 4000000 in
theorem refDigits_any (l : List UInt8) (a : Nat) (w : World) (ha : a ≤ l.length) (hz : l.length ≤ 1000000) :
    Calls Tryz.prog 119 #[.string (bsV l), .int .i64 (a : Int)] w fun e w' => e = .returned (.int .i64 (nd (l.drop a) : Nat)) ∧ w' = w := by
  have hsz := bs_size l
  go_enter Tryz.func119, Tryz.ntmps119
  go_wp2
  go_loopw [5] (fun v wr => ∃ i : Nat, v = .int .i64 i ∧ a + i ≤ l.length ∧ ((l.drop a).take i).all isD = true ∧ wr = w) (fun v _ => l.length - (intOf v).toNat)
  case atStart => exact ⟨0, rfl, by omega, rfl, rfl⟩
  case round =>
    obtain ⟨i, rfl, hi, hp, rfl⟩ := hrel
    have hwr : IntKind.i64.wrap ((a : Int) + (i : Int)) = (a : Int) + (i : Int) := IntWalk.i64_in _ (by omega)
    have hai : ((a : Int) + (i : Int)).toNat = a + i := by omega
    have hdl : (l.drop a).length = l.length - a := List.length_drop ..
    by_cases hlt : a + i < l.length
    · have hlt' : (a : Int) + (i : Int) < (l.length : Int) := by omega
      have h0' : (0 : Int) ≤ (a : Int) + (i : Int) := by omega
      have hi2 : a + i < (bsV l).size := by rw [hsz]; exact hlt
      have hget := bs_get l (a + i) hi2
      obtain ⟨c, hc⟩ : ∃ c, (bsV l)[a + i]'hi2 = c := ⟨_, rfl⟩
      have hcl : l[a + i]'hlt = c := hget.symm.trans hc
      have hcd : (l.drop a)[i]'(by rw [hdl]; omega) = c := by rw [List.getElem_drop]; exact hcl
      have Hc := hide hc
      have Hp := hide hp
      have CC := hide (fun W : World => refDigit_any3 c W)
      clear hp hget hc
      cases hpr : isD c with
      | true =>
        have Hr := hide (show ((l.drop a).take (i + 1)).all isD = true by rw [all_take (l.drop a) i (by rw [hdl]; omega), Hp.out, hcd, hpr]; rfl)
        rw [hpr] at CC
        clear hpr hcl hcd
        go_wp2_with fail
        rw [Hc.out]
        refine (CC.out _).mono ?_
        rintro e wx ⟨rfl, rfl⟩
        go_wp2
        go_roundw
        case rel => exact ⟨i + 1, by go_num, by omega, Hr.out, by trivial⟩
        case measure => simp [intOf]; omega
      | false =>
        have Hv := hide (nd_stop (l.drop a) i (by rw [hdl]; omega) Hp.out (fun x hx => by
          rw [List.getElem?_eq_getElem (by rw [hdl]; omega), hcd] at hx
          rw [← Option.some.inj hx]; exact hpr))
        rw [hpr] at CC
        clear hpr hcl hcd
        go_wp2_with fail
        rw [Hc.out]
        refine (CC.out _).mono ?_
        rintro e wx ⟨rfl, rfl⟩
        go_wp2
        go_ret
        exact ⟨congrArg (fun b : Nat => Ending.returned (.int .i64 (b : Int))) Hv.out.symm, rfl⟩
    · have hlt' : ¬ (a : Int) + (i : Int) < (l.length : Int) := by omega
      have Hv := hide (nd_stop (l.drop a) i (by rw [hdl]; omega) hp (fun x hx => by
        rw [List.getElem?_eq_none (by rw [hdl]; omega)] at hx; cases hx))
      clear hp
      go_wp2
      go_ret
      exact ⟨congrArg (fun b : Nat => Ending.returned (.int .i64 (b : Int))) Hv.out.symm, rfl⟩

theorem decB_neg (n : Int) (h : n < 0) : decB n = ⟨#[45]⟩ ++ decB (-n) := by
  unfold decB Lib.itoa
  rw [if_pos h, if_neg (by omega), show (-n).toNat = n.natAbs by omega]
  apply ByteArray.ext
  simp
set_option maxHeartbeats 1000000 in
set_option maxRecDepth 20000 in
theorem refDec_nat (n : Nat) : ∀ (w : World) (hn : n ≤ 999999999999999),
    Calls Tryz.prog 121 #[.int .i64 n] w fun e w' => e = .returned (.string (decB n)) ∧ Below w.heap.size w w' := by
  induction n using Nat.strongRecOn with
  | _ n ih =>
  intro w hn
  obtain ⟨c, hc⟩ : ∃ c : UInt8, UInt8.ofNat (48 + n % 10) = c := ⟨_, rfl⟩
  have hct : (c.toNat : Int) = 48 + (n : Int) % 10 := by
    rw [← hc, UInt8.toNat_ofNat', Nat.mod_eq_of_lt (by omega)]
    omega
  have hw : IntKind.u8.wrap (48 + (n : Int) % 10) = (c.toNat : Int) := by rw [hct, IntKind.wrap_u8]; omega
  have hcv := conv1 w c
  have hn0 : ¬ (n : Int) < 0 := by omega
  by_cases h : n < 10
  · rw [dec_small n h, hc]
    clear hc hct ih
    go_enter Tryz.func121, Tryz.ntmps121
    go_wp2
    go_ret
    exact ⟨rfl, (Below.refl _ _).alloc (Nat.le_refl _) _⟩
  · have D := hide (fun W : World => ih (n / 10) (by omega) W (by omega))
    have hq : ((n / 10 : Nat) : Int) = (n : Int) / 10 := by omega
    rw [hq] at D
    have z1 := decB_size ((n : Int) / 10) (by omega) (by omega)
    have c1 := fun W => cat_run (P := Tryz.prog) (decB ((n : Int) / 10)) ⟨#[c]⟩ (by show _ + 1 ≤ _; omega) W
    rw [dec_big n h, hc, hq]
    clear hc hct ih z1 hq
    go_enter Tryz.func121, Tryz.ntmps121
    go_wp2_with fail
    refine (D.out _).mono ?_
    rintro e w1 ⟨rfl, hb⟩
    have HB := hide (((Below.refl w.heap.size w).alloc (Nat.le_refl _) (.cells #[.int .u8 (c.toNat : Int)] 5)).trans (hb.mono (by rw [World.size_alloc]; exact Nat.le_succ _)))
    clear hb
    go_wp2
    go_ret
    exact ⟨rfl, HB.out⟩
set_option maxRecDepth 20000 in
theorem refDec_any (i : Int) (w : World) (h0 : -999999999999999 ≤ i) (h1 : i ≤ 999999999999999) :
    Calls Tryz.prog 121 #[.int .i64 i] w fun e w' => e = .returned (.string (decB i)) ∧ Below w.heap.size w w' := by
  by_cases hn : i < 0
  · obtain ⟨n, hni⟩ : ∃ n : Nat, -i = n := ⟨(-i).toNat, by omega⟩
    have D := hide (fun W : World => refDec_nat n W (by omega))
    have z1 := decB_size (n : Int) (by omega) (by omega)
    have c1 := fun W => cat_run (P := Tryz.prog) ⟨#[45]⟩ (decB (n : Int)) (by show 1 + _ ≤ _; omega) W
    have hwr : IntKind.i64.wrap (-i) = (n : Int) := by rw [IntWalk.i64_in _ (by omega)]; exact hni
    rw [decB_neg i hn, hni]
    clear hni z1
    go_enter Tryz.func121, Tryz.ntmps121
    go_wp2_with fail
    refine (D.out _).mono ?_
    rintro e w1 ⟨rfl, hb⟩
    have HB := hide hb
    clear hb
    go_wp2
    go_ret
    exact ⟨rfl, HB.out⟩
  · obtain ⟨n, rfl⟩ : ∃ n : Nat, i = n := ⟨i.toNat, by omega⟩
    exact refDec_nat n w (by omega)
end Go.Proofs.YtjlpekjfmgcbdaaGreatDoor

/- Contracts of the reference's strip and Text. -/
set_option linter.unusedVariables false
set_option linter.unusedSimpArgs false
namespace Go.Proofs.YtjlpekjfmgcbdaaGreatDoor
open Go.RowKit Go.Shelf Go.Sort

theorem lead_stop (d : List UInt8) (i : Nat) (hi : i ≤ d.length) (h : (d.take i).all (· == 48) = true) (he : ∀ c, d[i]? = some c → c ≠ 48) : d.dropWhile (· == 48) = d.drop i ∧ leadV d = i := by
  have hd : d = d.take i ++ d.drop i := (List.take_append_drop i d).symm
  have h2 : ∀ a ∈ d.take i, (a == 48) = true := fun a ha => List.all_eq_true.1 h a ha
  have hx : (d.drop i).dropWhile (· == 48) = d.drop i ∧ (d.drop i).takeWhile (· == 48) = [] := by
    cases hc : d.drop i with
    | nil => exact ⟨rfl, rfl⟩
    | cons c t =>
      have : c ≠ 48 := he c (by rw [← List.head?_drop, hc]; rfl)
      exact ⟨List.dropWhile_cons_of_neg (by simpa using this), List.takeWhile_cons_of_neg (by simpa using this)⟩
  constructor
  · conv => lhs; rw [hd]
    rw [List.dropWhile_append_of_pos h2, hx.1]
  · unfold leadV
    conv => lhs; rw [hd]
    rw [List.takeWhile_append_of_pos h2, hx.2, List.append_nil, List.length_take]; omega
theorem tail_stop (D : List UInt8) (j : Nat) (hj : j ≤ D.length) (h : (D.drop j).all (· == 48) = true) (he : ∀ c, 0 < j → D[j - 1]? = some c → c ≠ 48) : (D.reverse.dropWhile (· == 48)).reverse = D.take j := by
  have hr : D.reverse = (D.drop j).reverse ++ (D.take j).reverse := by
    rw [← List.reverse_append, List.take_append_drop]
  have h2 : ∀ a ∈ (D.drop j).reverse, (a == 48) = true := fun a ha => List.all_eq_true.1 h a (List.mem_reverse.1 ha)
  rw [hr, List.dropWhile_append_of_pos h2]
  have hx : (D.take j).reverse.dropWhile (· == 48) = (D.take j).reverse := by
    cases hc : (D.take j).reverse with
    | nil => rfl
    | cons c t =>
      have hh : (D.take j).getLast? = some c := by rw [← List.head?_reverse, hc]; rfl
      have hl : (D.take j).length = j := by rw [List.length_take]; omega
      have hj0 : 0 < j := by
        rcases Nat.eq_zero_or_pos j with h0 | h0
        · subst h0; simp at hc
        · exact h0
      have hg : D[j - 1]? = some c := by
        rw [List.getLast?_eq_getElem?, hl, List.getElem?_take] at hh
        rwa [if_pos (by omega)] at hh
      exact List.dropWhile_cons_of_neg (by simpa using he c hj0 hg)
  rw [hx, List.reverse_reverse]
/-- the parts without zeros at both ends -/
def stripRV (neg : Bool) (d : List UInt8) (e : Int) : Array Value :=
  if stripV d = [] then #[.bool false, .string ⟨#[]⟩, .int .i64 0] else #[.bool neg, .string (bsV (stripV d)), .int .i64 (e - leadV d)]

set_option maxRecDepth 20000 in
set_option maxHeartbeats 8000000 in
theorem refStrip_any (neg : Bool) (d : List UInt8) (e : Int) (w : World) (hz : d.length ≤ 1000000) (he0 : -1000000000 ≤ e) (he1 : e ≤ 1000000000) :
    Calls Tryz.prog 120 #[.agg #[.bool neg, .string (bsV d), .int .i64 e]] w fun x w' => x = .returned (.agg (stripRV neg d e)) ∧ Below w.heap.size w w' := by
  have R0 := hide (Row.new w 104 #[.bool neg, .string (bsV d), .int .i64 e])
  have R1 := hide (fun W : World => Row.new W 104 #[.bool false, .string ⟨#[]⟩, .int .i64 0])
  have B0 := hide (((Below.refl w.heap.size w).alloc (Nat.le_refl _) (.cells #[.bool neg, .string (bsV d), .int .i64 e] 104)).alloc (by rw [World.size_alloc]; omega) (.cells #[.bool false, .string ⟨#[]⟩, .int .i64 0] 104))
  go_enter Tryz.func120, Tryz.ntmps120
  go_wp2
  go_loopg [3] d.length (fun g _ wr => ∃ i : Nat, i + g = d.length ∧ (d.take i).all (· == 48) = true ∧ Row wr w.heap.size 104 #[.bool neg, .string (bsV (d.drop i)), .int .i64 (e - i)] ∧ Row wr (w.heap.size + 1) 104 #[.bool false, .string ⟨#[]⟩, .int .i64 0] ∧ Below w.heap.size w wr)
  case atStart =>
    refine ⟨0, by omega, rfl, ?_, ?_, B0.out⟩
    · have := R0.out.alloc (.cells #[.bool false, .string ⟨#[]⟩, .int .i64 0] 104)
      rw [List.drop_zero, show e - ((0 : Nat) : Int) = e by omega]
      exact this
    · have := R1.out (w.alloc (.cells #[.bool neg, .string (bsV d), .int .i64 e] 104))
      rw [World.size_alloc] at this
      exact this
  case round =>
    obtain ⟨i, hig, hp, hr0, hr1, hb⟩ := hrel
    have H0 := hide hr0
    have H1 := hide hr1
    have Hb := hide hb
    have c0 : wr.cell? ⟨w.heap.size, 0, none⟩ = some (.bool neg) := hr0.cell 0
    have c1 : wr.cell? ⟨w.heap.size, 1, none⟩ = some (.string (bsV (d.drop i))) := hr0.cell 1
    have c2 : wr.cell? ⟨w.heap.size, 2, none⟩ = some (.int .i64 (e - i)) := hr0.cell 2
    have f1 : wr.frozen? ⟨w.heap.size, 1, none⟩ = false := hr0.frozen 1
    have f2 : wr.frozen? ⟨w.heap.size, 2, none⟩ = false := hr0.frozen 2
    clear hr0 hr1 hb
    have hsz := bs_size (d.drop i)
    have hdl : (d.drop i).length = d.length - i := List.length_drop ..
    cases gk with
    | zero =>
      have hstop : ∀ c, d[i]? = some c → c ≠ 48 := fun c h => by rw [List.getElem?_eq_none (by omega)] at h; cases h
      have hl00 : d.drop i = [] := List.drop_eq_nil_of_le (by omega)
      obtain ⟨D, hD⟩ : ∃ D, d.drop i = D := ⟨_, rfl⟩
      obtain ⟨E, hE⟩ : ∃ E, e - (i : Int) = E := ⟨_, rfl⟩
      obtain ⟨hdw, hld⟩ := lead_stop d i (by omega) hp hstop
      have hsv : stripV d = (D.reverse.dropWhile (· == 48)).reverse := by unfold stripV; rw [hdw, hD]
      have HSV := hide hsv
      have HLD := hide (show e - (leadV d : Int) = E by rw [hld]; exact hE)
      rw [hD] at H0 c1 hsz
      rw [hE] at H0 c2
      have hDz : D.length ≤ 1000000 := by rw [← hD, List.length_drop]; omega
      clear hdw hld hsv hstop hp hig
      have hl0 : D = [] := by rw [← hD]; exact hl00
      have hl1 : (D.length : Int) = 0 := by rw [hl0]; rfl
      clear hl0 hl00 hdl hD hE
      go_wp2
      clear hl1
      clear c0 c1 c2 f1 f2
      go_loopg [21] D.length (fun g _ wr => g ≤ D.length ∧ (D.drop g).all (· == 48) = true ∧ Row wr w.heap.size 104 #[.bool neg, .string (bsV (D.take g)), .int .i64 E] ∧ Row wr (w.heap.size + 1) 104 #[.bool false, .string ⟨#[]⟩, .int .i64 0] ∧ Below w.heap.size w wr)
      case atStart => exact ⟨Nat.le_refl _, by rw [List.drop_length]; rfl, by rw [List.take_length]; exact H0.out, H1.out, Hb.out⟩
      case round =>
        obtain ⟨hj, hq, hr0, hr1, hb⟩ := hrel
        have K0 := hide hr0
        have K1 := hide hr1
        have Kb := hide hb
        have c0 : wr.cell? ⟨w.heap.size, 0, none⟩ = some (.bool neg) := hr0.cell 0
        have c1 : wr.cell? ⟨w.heap.size, 1, none⟩ = some (.string (bsV (D.take gk))) := hr0.cell 1
        have c2 : wr.cell? ⟨w.heap.size, 2, none⟩ = some (.int .i64 E) := hr0.cell 2
        have f1 : wr.frozen? ⟨w.heap.size, 1, none⟩ = false := hr0.frozen 1
        have z0 : wr.cell? ⟨w.heap.size + 1, 0, none⟩ = some (.bool false) := hr1.cell 0
        have z1 : wr.cell? ⟨w.heap.size + 1, 1, none⟩ = some (.string ⟨#[]⟩) := hr1.cell 1
        have z2 : wr.cell? ⟨w.heap.size + 1, 2, none⟩ = some (.int .i64 0) := hr1.cell 2
        have g0 : wr.frozen? ⟨w.heap.size + 1, 0, none⟩ = false := hr1.frozen 0
        have g1 : wr.frozen? ⟨w.heap.size + 1, 1, none⟩ = false := hr1.frozen 1
        have g2 : wr.frozen? ⟨w.heap.size + 1, 2, none⟩ = false := hr1.frozen 2
        clear hr0 hr1 hb
        have hsz2 : (bsV (D.take gk)).size = gk := by rw [bs_size, List.length_take]; omega
        cases gk with
        | zero =>
          have hs0 : stripV d = [] := by rw [HSV.out, tail_stop D 0 (Nat.zero_le _) hq (fun c h => by omega)]; rfl
          have HV := hide (show stripRV neg d e = #[.bool false, .string ⟨#[]⟩, .int .i64 0] by unfold stripRV; rw [if_pos hs0])
          rw [List.take_zero, show bsV [] = (⟨#[]⟩ : ByteArray) from rfl] at c1
          clear hs0 hq hsz2
          have Hrow := hide (show Row (((wr.setCell ⟨w.heap.size + 1, 0, none⟩ (.bool false)).setCell ⟨w.heap.size + 1, 1, none⟩ (.string ⟨#[]⟩)).setCell ⟨w.heap.size + 1, 2, none⟩ (.int .i64 0)) (w.heap.size + 1) 104 #[.bool false, .string ⟨#[]⟩, .int .i64 0] from ((K1.out.set_ 0 (.bool false)).set_ 1 (.string ⟨#[]⟩)).set_ 2 (.int .i64 0))
          have HB2 := hide (((Kb.out.setCell (p := ⟨w.heap.size + 1, 0, none⟩) (Nat.le_succ _) (.bool false)).setCell (p := ⟨w.heap.size + 1, 1, none⟩) (Nat.le_succ _) (.string ⟨#[]⟩)).setCell (p := ⟨w.heap.size + 1, 2, none⟩) (Nat.le_succ _) (.int .i64 0))
          go_wp2
          exact bodyPost_ret (v := .agg #[.bool false, .string ⟨#[]⟩, .int .i64 0]) (results_cell_row rfl _ _ (w.heap.size + 1) 104 _ _ _ rfl Hrow.out Tryz.underlying104 rfl (by kernel_rfl)) rfl ⟨congrArg (fun a => Ending.returned (.agg a)) HV.out.symm, HB2.out⟩
        | succ g =>
          have hgl : g < D.length := by omega
          obtain ⟨c, hc⟩ : ∃ c, D[g]'hgl = c := ⟨_, rfl⟩
          have hi2 : g < (bsV (D.take (g + 1))).size := by omega
          have hget : (bsV (D.take (g + 1)))[g]'hi2 = c := by rw [bs_get, List.getElem_take]; exact hc
          have hex : (bsV (D.take (g + 1))).extract 0 g = bsV (D.take g) := by rw [bs_take, List.take_take, Nat.min_eq_left (Nat.le_succ g)]
          have hp1 : (0 : Int) < ((g + 1 : Nat) : Int) := by omega
          have hsub : ((g + 1 : Nat) : Int) - 1 = (g : Int) := by omega
          have hwr : IntKind.i64.wrap (((g + 1 : Nat) : Int) - 1) = (g : Int) := by rw [hsub]; exact IntWalk.i64_in _ (by omega)
          have hs1 : (0 : Int) ≤ (g : Int) := by omega
          have hs2 : (g : Int) ≤ ((g + 1 : Nat) : Int) := by omega
          have hs3 : (g : Int) < ((g + 1 : Nat) : Int) := by omega
          obtain ⟨e1, e2⟩ := toList_ne (s := bsV (D.take (g + 1))) (by omega)
          by_cases h48 : c = 48
          · have hcq : ((c.toNat : Int) == 48) = true := by rw [h48]; rfl
            have Hq := hide (show (D.drop g).all (· == 48) = true by
              rw [List.drop_eq_getElem_cons hgl, List.all_cons, hq, hc, h48]; rfl)
            clear h48 hq hc
            obtain ⟨m, hm⟩ : ∃ m : Int, ((g + 1 : Nat) : Int) = m := ⟨_, rfl⟩
            rw [hm] at hp1 hwr hs2 hs3 hsub
            have hsz3 : ((bsV (D.take (g + 1))).size : Int) = m := by rw [hsz2]; exact hm
            clear hsz2
            generalize hX : bsV (D.take (g + 1)) = X at *
            clear hX
            go_wp2
            go_roundg g
            case measure => omega
            case rel => exact ⟨by omega, Hq.out, K0.out.set_ 1 (.string (bsV (D.take g))), K1.out.off (by omega) _ _, Kb.out.setCell (p := ⟨w.heap.size, 1, none⟩) (Nat.le_refl _) _⟩
          · have hcq : ((c.toNat : Int) == 48) = false := beq_eq_false_iff_ne.2 fun e => h48 ((u8i c 48).1 e)
            have hs0 : stripV d = D.take (g + 1) := by
              rw [HSV.out]
              refine tail_stop D (g + 1) hj hq (fun x _ hx => ?_)
              rw [Nat.add_sub_cancel, List.getElem?_eq_getElem hgl, hc] at hx
              rw [← Option.some.inj hx]; exact h48
            have HV := hide (show stripRV neg d e = #[.bool neg, .string (bsV (D.take (g + 1))), .int .i64 E] by
              unfold stripRV
              rw [hs0, if_neg (by intro h; rw [h] at hsz2; cases hsz2), HLD.out])
            clear h48 hq hc hs0
            obtain ⟨m, hm⟩ : ∃ m : Int, ((g + 1 : Nat) : Int) = m := ⟨_, rfl⟩
            rw [hm] at hp1 hwr hs2 hs3 hsub
            have hsz3 : ((bsV (D.take (g + 1))).size : Int) = m := by rw [hsz2]; exact hm
            clear hsz2 hm
            generalize bsV (D.take (g + 1)) = X at *
            have Hrow := hide (show Row (((wr.setCell ⟨w.heap.size + 1, 0, none⟩ (.bool neg)).setCell ⟨w.heap.size + 1, 1, none⟩ (.string X)).setCell ⟨w.heap.size + 1, 2, none⟩ (.int .i64 E)) (w.heap.size + 1) 104 #[.bool neg, .string X, .int .i64 E] from ((K1.out.set_ 0 (.bool neg)).set_ 1 (.string X)).set_ 2 (.int .i64 E))
            have HB2 := hide (((Kb.out.setCell (p := ⟨w.heap.size + 1, 0, none⟩) (Nat.le_succ _) (.bool neg)).setCell (p := ⟨w.heap.size + 1, 1, none⟩) (Nat.le_succ _) (.string X)).setCell (p := ⟨w.heap.size + 1, 2, none⟩) (Nat.le_succ _) (.int .i64 E))
            go_wp2
            exact bodyPost_ret (v := .agg #[.bool neg, .string X, .int .i64 E]) (results_cell_row rfl _ _ (w.heap.size + 1) 104 _ _ _ rfl Hrow.out Tryz.underlying104 rfl (by kernel_rfl)) rfl ⟨congrArg (fun a => Ending.returned (.agg a)) HV.out.symm, HB2.out⟩
    | succ g =>
      have hil : i < d.length := by omega
      have hi2 : 0 < (bsV (d.drop i)).size := by rw [hsz, hdl]; omega
      obtain ⟨c, hc⟩ : ∃ c, d[i]'hil = c := ⟨_, rfl⟩
      have hget : (bsV (d.drop i))[0]'hi2 = c := by rw [bs_get]; rw [← hc]; simp
      have hp0 : (0 : Int) < ((d.drop i).length : Int) := by rw [hdl]; omega
      by_cases h48 : c = 48
      · have hcq : ((c.toNat : Int) == 48) = true := by rw [h48]; rfl
        have Hp := hide (show (d.take (i + 1)).all (· == 48) = true by rw [all_take d i hil, hp, hc, h48]; rfl)
        have hex : (bsV (d.drop i)).extract 1 (bsV (d.drop i)).size = bsV (d.drop (i + 1)) := by rw [bs_drop, List.drop_drop]
        have hs1 : (1 : Int) ≤ ((bsV (d.drop i)).size : Int) := by rw [hsz, hdl]; omega
        have hwr : IntKind.i64.wrap (e - (i : Int) - 1) = e - ((i + 1 : Nat) : Int) := by rw [IntWalk.i64_in _ (by omega)]; omega
        obtain ⟨E, hE⟩ : ∃ E, e - (i : Int) = E := ⟨_, rfl⟩
        obtain ⟨E2, hE2⟩ : ∃ E2, e - ((i + 1 : Nat) : Int) = E2 := ⟨_, rfl⟩
        rw [hE] at H0 c2 hwr
        rw [hE2] at hwr
        have HE2 := hide hE2
        have HI := hide (And.intro hig hil)
        generalize hX : bsV (d.drop i) = X at *
        obtain ⟨Y, hY⟩ : ∃ Y, bsV (d.drop (i + 1)) = Y := ⟨_, rfl⟩
        rw [hY] at hex
        have HY := hide hY
        rw [hsz, hdl] at hs1 hex
        rw [hdl] at hsz hp0
        clear hE hE2 hX hY h48 hp hc hil hig hdl
        go_wp2_with fail
        go_region
        all_goals
          go_wp2
          go_roundg g
          case measure => omega
          case rel => exact ⟨i + 1, by have := HI.out.1; omega, Hp.out, by rw [HY.out, HE2.out]; exact ((H0.out.set_ 1 (.string Y)).set_ 2 (.int .i64 E2)).drew, ((H1.out.off (by omega) _ _).off (by omega) _ _).drew, ((Hb.out.setCell (p := ⟨w.heap.size, 1, none⟩) (Nat.le_refl _) _).setCell (p := ⟨w.heap.size, 2, none⟩) (Nat.le_refl _) _).drew⟩
      · have hcq : ((c.toNat : Int) == 48) = false := beq_eq_false_iff_ne.2 fun e => h48 ((u8i c 48).1 e)
        have hstop : ∀ c, d[i]? = some c → c ≠ 48 := fun x hx => by
          rw [List.getElem?_eq_getElem hil, hc] at hx
          rw [← Option.some.inj hx]; exact h48
        obtain ⟨D, hD⟩ : ∃ D, d.drop i = D := ⟨_, rfl⟩
        obtain ⟨E, hE⟩ : ∃ E, e - (i : Int) = E := ⟨_, rfl⟩
        obtain ⟨hdw, hld⟩ := lead_stop d i (by omega) hp hstop
        have hsv : stripV d = (D.reverse.dropWhile (· == 48)).reverse := by unfold stripV; rw [hdw, hD]
        have HSV := hide hsv
        have HLD := hide (show e - (leadV d : Int) = E by rw [hld]; exact hE)
        rw [hD] at H0 c1 hsz
        rw [hE] at H0 c2
        have hDz : D.length ≤ 1000000 := by rw [← hD, List.length_drop]; omega
        clear hdw hld hsv hstop hp hig
        rw [hD] at hp0
        have hi3 : 0 < (bsV D).size := by rw [← hD]; exact hi2
        have hget2 : (bsV D)[0]'hi3 = c := by subst hD; exact hget
        clear h48 hdl hc hil hget hE hi2 hD
        go_wp2
        clear c0 c1 c2 f1 f2
        go_loopg [21] D.length (fun g _ wr => g ≤ D.length ∧ (D.drop g).all (· == 48) = true ∧ Row wr w.heap.size 104 #[.bool neg, .string (bsV (D.take g)), .int .i64 E] ∧ Row wr (w.heap.size + 1) 104 #[.bool false, .string ⟨#[]⟩, .int .i64 0] ∧ Below w.heap.size w wr)
        case atStart => exact ⟨Nat.le_refl _, by rw [List.drop_length]; rfl, by rw [List.take_length]; exact H0.out, H1.out, Hb.out⟩
        case round =>
          obtain ⟨hj, hq, hr0, hr1, hb⟩ := hrel
          have K0 := hide hr0
          have K1 := hide hr1
          have Kb := hide hb
          have c0 : wr.cell? ⟨w.heap.size, 0, none⟩ = some (.bool neg) := hr0.cell 0
          have c1 : wr.cell? ⟨w.heap.size, 1, none⟩ = some (.string (bsV (D.take gk))) := hr0.cell 1
          have c2 : wr.cell? ⟨w.heap.size, 2, none⟩ = some (.int .i64 E) := hr0.cell 2
          have f1 : wr.frozen? ⟨w.heap.size, 1, none⟩ = false := hr0.frozen 1
          have z0 : wr.cell? ⟨w.heap.size + 1, 0, none⟩ = some (.bool false) := hr1.cell 0
          have z1 : wr.cell? ⟨w.heap.size + 1, 1, none⟩ = some (.string ⟨#[]⟩) := hr1.cell 1
          have z2 : wr.cell? ⟨w.heap.size + 1, 2, none⟩ = some (.int .i64 0) := hr1.cell 2
          have g0 : wr.frozen? ⟨w.heap.size + 1, 0, none⟩ = false := hr1.frozen 0
          have g1 : wr.frozen? ⟨w.heap.size + 1, 1, none⟩ = false := hr1.frozen 1
          have g2 : wr.frozen? ⟨w.heap.size + 1, 2, none⟩ = false := hr1.frozen 2
          clear hr0 hr1 hb
          have hsz2 : (bsV (D.take gk)).size = gk := by rw [bs_size, List.length_take]; omega
          cases gk with
          | zero =>
            have hs0 : stripV d = [] := by rw [HSV.out, tail_stop D 0 (Nat.zero_le _) hq (fun c h => by omega)]; rfl
            have HV := hide (show stripRV neg d e = #[.bool false, .string ⟨#[]⟩, .int .i64 0] by unfold stripRV; rw [if_pos hs0])
            rw [List.take_zero, show bsV [] = (⟨#[]⟩ : ByteArray) from rfl] at c1
            clear hs0 hq hsz2
            have Hrow := hide (show Row (((wr.setCell ⟨w.heap.size + 1, 0, none⟩ (.bool false)).setCell ⟨w.heap.size + 1, 1, none⟩ (.string ⟨#[]⟩)).setCell ⟨w.heap.size + 1, 2, none⟩ (.int .i64 0)) (w.heap.size + 1) 104 #[.bool false, .string ⟨#[]⟩, .int .i64 0] from ((K1.out.set_ 0 (.bool false)).set_ 1 (.string ⟨#[]⟩)).set_ 2 (.int .i64 0))
            have HB2 := hide (((Kb.out.setCell (p := ⟨w.heap.size + 1, 0, none⟩) (Nat.le_succ _) (.bool false)).setCell (p := ⟨w.heap.size + 1, 1, none⟩) (Nat.le_succ _) (.string ⟨#[]⟩)).setCell (p := ⟨w.heap.size + 1, 2, none⟩) (Nat.le_succ _) (.int .i64 0))
            go_wp2
            exact bodyPost_ret (v := .agg #[.bool false, .string ⟨#[]⟩, .int .i64 0]) (results_cell_row rfl _ _ (w.heap.size + 1) 104 _ _ _ rfl Hrow.out Tryz.underlying104 rfl (by kernel_rfl)) rfl ⟨congrArg (fun a => Ending.returned (.agg a)) HV.out.symm, HB2.out⟩
          | succ g =>
            have hgl : g < D.length := by omega
            obtain ⟨c, hc⟩ : ∃ c, D[g]'hgl = c := ⟨_, rfl⟩
            have hi2 : g < (bsV (D.take (g + 1))).size := by omega
            have hget : (bsV (D.take (g + 1)))[g]'hi2 = c := by rw [bs_get, List.getElem_take]; exact hc
            have hex : (bsV (D.take (g + 1))).extract 0 g = bsV (D.take g) := by rw [bs_take, List.take_take, Nat.min_eq_left (Nat.le_succ g)]
            have hp1 : (0 : Int) < ((g + 1 : Nat) : Int) := by omega
            have hsub : ((g + 1 : Nat) : Int) - 1 = (g : Int) := by omega
            have hwr : IntKind.i64.wrap (((g + 1 : Nat) : Int) - 1) = (g : Int) := by rw [hsub]; exact IntWalk.i64_in _ (by omega)
            have hs1 : (0 : Int) ≤ (g : Int) := by omega
            have hs2 : (g : Int) ≤ ((g + 1 : Nat) : Int) := by omega
            have hs3 : (g : Int) < ((g + 1 : Nat) : Int) := by omega
            obtain ⟨e1, e2⟩ := toList_ne (s := bsV (D.take (g + 1))) (by omega)
            by_cases h48 : c = 48
            · have hcq : ((c.toNat : Int) == 48) = true := by rw [h48]; rfl
              have Hq := hide (show (D.drop g).all (· == 48) = true by
                rw [List.drop_eq_getElem_cons hgl, List.all_cons, hq, hc, h48]; rfl)
              clear h48 hq hc
              obtain ⟨m, hm⟩ : ∃ m : Int, ((g + 1 : Nat) : Int) = m := ⟨_, rfl⟩
              rw [hm] at hp1 hwr hs2 hs3 hsub
              have hsz3 : ((bsV (D.take (g + 1))).size : Int) = m := by rw [hsz2]; exact hm
              clear hsz2
              generalize hX : bsV (D.take (g + 1)) = X at *
              clear hX
              go_wp2
              go_roundg g
              case measure => omega
              case rel => exact ⟨by omega, Hq.out, K0.out.set_ 1 (.string (bsV (D.take g))), K1.out.off (by omega) _ _, Kb.out.setCell (p := ⟨w.heap.size, 1, none⟩) (Nat.le_refl _) _⟩
            · have hcq : ((c.toNat : Int) == 48) = false := beq_eq_false_iff_ne.2 fun e => h48 ((u8i c 48).1 e)
              have hs0 : stripV d = D.take (g + 1) := by
                rw [HSV.out]
                refine tail_stop D (g + 1) hj hq (fun x _ hx => ?_)
                rw [Nat.add_sub_cancel, List.getElem?_eq_getElem hgl, hc] at hx
                rw [← Option.some.inj hx]; exact h48
              have HV := hide (show stripRV neg d e = #[.bool neg, .string (bsV (D.take (g + 1))), .int .i64 E] by
                unfold stripRV
                rw [hs0, if_neg (by intro h; rw [h] at hsz2; cases hsz2), HLD.out])
              clear h48 hq hc hs0
              obtain ⟨m, hm⟩ : ∃ m : Int, ((g + 1 : Nat) : Int) = m := ⟨_, rfl⟩
              rw [hm] at hp1 hwr hs2 hs3 hsub
              have hsz3 : ((bsV (D.take (g + 1))).size : Int) = m := by rw [hsz2]; exact hm
              clear hsz2 hm
              generalize bsV (D.take (g + 1)) = X at *
              have Hrow := hide (show Row (((wr.setCell ⟨w.heap.size + 1, 0, none⟩ (.bool neg)).setCell ⟨w.heap.size + 1, 1, none⟩ (.string X)).setCell ⟨w.heap.size + 1, 2, none⟩ (.int .i64 E)) (w.heap.size + 1) 104 #[.bool neg, .string X, .int .i64 E] from ((K1.out.set_ 0 (.bool neg)).set_ 1 (.string X)).set_ 2 (.int .i64 E))
              have HB2 := hide (((Kb.out.setCell (p := ⟨w.heap.size + 1, 0, none⟩) (Nat.le_succ _) (.bool neg)).setCell (p := ⟨w.heap.size + 1, 1, none⟩) (Nat.le_succ _) (.string X)).setCell (p := ⟨w.heap.size + 1, 2, none⟩) (Nat.le_succ _) (.int .i64 E))
              go_wp2
              exact bodyPost_ret (v := .agg #[.bool neg, .string X, .int .i64 E]) (results_cell_row rfl _ _ (w.heap.size + 1) 104 _ _ _ rfl Hrow.out Tryz.underlying104 rfl (by kernel_rfl)) rfl ⟨congrArg (fun a => Ending.returned (.agg a)) HV.out.symm, HB2.out⟩
end Go.Proofs.YtjlpekjfmgcbdaaGreatDoor

/- Contract of the reference's Text. -/
set_option linter.unusedVariables false
set_option linter.unusedSimpArgs false
namespace Go.Proofs.YtjlpekjfmgcbdaaGreatDoor
open Go.RowKit Go.Shelf Go.Sort
theorem decB_400 (n : Int) (h0 : -400 ≤ n) (h1 : n ≤ 400) : (decB n).size ≤ 50 := by
  have := itoa_len n h0 h1
  show (Lib.itoa n).toArray.size ≤ 50
  simp only [List.size_toArray]; omega
theorem run_add_b (a b : ByteArray) (h : a.size + b.size ≤ 10000000) (W : World) : (Op.stringOp .add a b).run Tryz.prog W = .ok (.string (a ++ b)) W := run_string_add_sum W _ _ (by omega)
theorem run_add_h (c : UInt8) (b : List UInt8) (h : b.length ≤ 1000000) (W : World) : (Op.stringOp .add ⟨#[c]⟩ (bsV b)).run Tryz.prog W = .ok (.string (bsV (c :: b))) W := run_add [c] b (by simp) (by omega) W

set_option maxRecDepth 20000 in
set_option maxHeartbeats 8000000 in
theorem refText_nil (neg : Bool) (d : List UInt8) (e : Int) (w : World) (hz : d.length ≤ 1000000) (he0 : -1000000000 ≤ e) (he1 : e ≤ 1000000000) (hT : stripV d = []) :
    Calls Tryz.prog 109 #[.agg #[.bool neg, .string (bsV d), .int .i64 e]] w fun x w' => x = .returned (.tuple #[.string (textV neg (stripV d) (e - leadV d)).1, .int .i64 (textV neg (stripV d) (e - leadV d)).2]) ∧ Below w.heap.size w w' := by
  have ST := hide (fun W : World => refStrip_any neg d e W hz he0 he1)
  have hs : stripRV neg d e = #[.bool false, .string ⟨#[]⟩, .int .i64 0] := by unfold stripRV; rw [if_pos hT]
  rw [hs] at ST
  have hR : textV neg (stripV d) (e - leadV d) = (⟨#[48]⟩, 0) := by unfold textV; rw [if_pos hT]
  rw [hR]
  clear hs hR hT
  go_enter Tryz.func109, Tryz.ntmps109
  go_wp2_with fail
  refine (ST.out _).mono ?_
  rintro x w1 ⟨rfl, hb⟩
  have hrow := (Row.new w 104 #[.bool neg, .string (bsV d), .int .i64 e]).below hb (by rw [World.size_alloc]; omega)
  have c0 : w1.cell? ⟨w.heap.size, 0, none⟩ = some (.bool neg) := hrow.cell 0
  have c1 : w1.cell? ⟨w.heap.size, 1, none⟩ = some (.string (bsV d)) := hrow.cell 1
  have c2 : w1.cell? ⟨w.heap.size, 2, none⟩ = some (.int .i64 e) := hrow.cell 2
  have f0 : w1.frozen? ⟨w.heap.size, 0, none⟩ = false := hrow.frozen 0
  have f1 : w1.frozen? ⟨w.heap.size, 1, none⟩ = false := hrow.frozen 1
  have f2 : w1.frozen? ⟨w.heap.size, 2, none⟩ = false := hrow.frozen 2
  have HB := hide (((Below.refl w.heap.size w).alloc (Nat.le_refl _) (.cells #[.bool neg, .string (bsV d), .int .i64 e] 104)).trans (hb.mono (by rw [World.size_alloc]; exact Nat.le_succ _)))
  clear hb hrow
  go_wp2
  go_ret2
  exact ⟨rfl, ((HB.out.setCell (p := ⟨w.heap.size, 0, none⟩) (Nat.le_refl _) (.bool false)).setCell (p := ⟨w.heap.size, 1, none⟩) (Nat.le_refl _) (.string ⟨#[]⟩)).setCell (p := ⟨w.heap.size, 2, none⟩) (Nat.le_refl _) (.int .i64 0)⟩

set_option maxRecDepth 20000 in
set_option maxHeartbeats 8000000 in
theorem refText_long (neg : Bool) (d : List UInt8) (e : Int) (w : World) (hz : d.length ≤ 1000000) (he0 : -1000000000 ≤ e) (he1 : e ≤ 1000000000) (t0 : UInt8) (tt : List UInt8) (hT : stripV d = t0 :: tt) (hL : 17 < (t0 :: tt).length) :
    Calls Tryz.prog 109 #[.agg #[.bool neg, .string (bsV d), .int .i64 e]] w fun x w' => x = .returned (.tuple #[.string (textV neg (stripV d) (e - leadV d)).1, .int .i64 (textV neg (stripV d) (e - leadV d)).2]) ∧ Below w.heap.size w w' := by
  have ST := hide (fun W : World => refStrip_any neg d e W hz he0 he1)
  have hs : stripRV neg d e = #[.bool neg, .string (bsV (t0 :: tt)), .int .i64 (e - leadV d)] := by unfold stripRV; rw [hT, if_neg (by simp)]
  rw [hs] at ST
  rw [hT]
  have hlz : leadV d ≤ d.length := leadV_le d
  have hsz := bs_size (t0 :: tt)
  obtain ⟨e1, e2⟩ := toList_ne (s := bsV (t0 :: tt)) (by rw [hsz]; simp)
  obtain ⟨fi, hfi⟩ : ∃ fi, e - (leadV d : Int) = fi := ⟨_, rfl⟩
  rw [hfi] at ST ⊢
  clear hs hT
  have hlc : (t0 :: tt).length = tt.length + 1 := rfl
  obtain ⟨m, hm⟩ : ∃ m, (t0 :: tt).length = m := ⟨_, rfl⟩
  rw [hm] at hsz
  have hL1 : (17 : Int) < (m : Int) := by omega
  have hR : textV neg (t0 :: tt) fi = (⟨#[]⟩, 9) := by unfold textV; rw [if_neg (by simp), if_pos (.inl hL)]
  rw [hR]
  clear hR hL hfi hlz hm hlc
  generalize bsV (t0 :: tt) = X at *
  go_enter Tryz.func109, Tryz.ntmps109
  go_wp2_with fail
  refine (ST.out _).mono ?_
  rintro x w1 ⟨rfl, hb⟩
  have hrow := (Row.new w 104 #[.bool neg, .string (bsV d), .int .i64 e]).below hb (by rw [World.size_alloc]; omega)
  have c0 : w1.cell? ⟨w.heap.size, 0, none⟩ = some (.bool neg) := hrow.cell 0
  have c1 : w1.cell? ⟨w.heap.size, 1, none⟩ = some (.string (bsV d)) := hrow.cell 1
  have c2 : w1.cell? ⟨w.heap.size, 2, none⟩ = some (.int .i64 e) := hrow.cell 2
  have f0 : w1.frozen? ⟨w.heap.size, 0, none⟩ = false := hrow.frozen 0
  have f1 : w1.frozen? ⟨w.heap.size, 1, none⟩ = false := hrow.frozen 1
  have f2 : w1.frozen? ⟨w.heap.size, 2, none⟩ = false := hrow.frozen 2
  have HB := hide (((Below.refl w.heap.size w).alloc (Nat.le_refl _) (.cells #[.bool neg, .string (bsV d), .int .i64 e] 104)).trans (hb.mono (by rw [World.size_alloc]; exact Nat.le_succ _)))
  clear hb hrow
  go_wp2
  go_ret2
  exact ⟨rfl, ((HB.out.setCell (p := ⟨w.heap.size, 0, none⟩) (Nat.le_refl _) (.bool neg)).setCell (p := ⟨w.heap.size, 1, none⟩) (Nat.le_refl _) (.string X)).setCell (p := ⟨w.heap.size, 2, none⟩) (Nat.le_refl _) (.int .i64 fi)⟩

set_option maxRecDepth 20000 in
set_option maxHeartbeats 8000000 in
theorem refText_low (neg : Bool) (d : List UInt8) (e : Int) (w : World) (hz : d.length ≤ 1000000) (he0 : -1000000000 ≤ e) (he1 : e ≤ 1000000000) (t0 : UInt8) (tt : List UInt8) (hT : stripV d = t0 :: tt) (hL : ¬ 17 < (t0 :: tt).length) (hf : e - leadV d < -400) :
    Calls Tryz.prog 109 #[.agg #[.bool neg, .string (bsV d), .int .i64 e]] w fun x w' => x = .returned (.tuple #[.string (textV neg (stripV d) (e - leadV d)).1, .int .i64 (textV neg (stripV d) (e - leadV d)).2]) ∧ Below w.heap.size w w' := by
  have ST := hide (fun W : World => refStrip_any neg d e W hz he0 he1)
  have hs : stripRV neg d e = #[.bool neg, .string (bsV (t0 :: tt)), .int .i64 (e - leadV d)] := by unfold stripRV; rw [hT, if_neg (by simp)]
  rw [hs] at ST
  rw [hT]
  have hlz : leadV d ≤ d.length := leadV_le d
  have hsz := bs_size (t0 :: tt)
  obtain ⟨e1, e2⟩ := toList_ne (s := bsV (t0 :: tt)) (by rw [hsz]; simp)
  obtain ⟨fi, hfi⟩ : ∃ fi, e - (leadV d : Int) = fi := ⟨_, rfl⟩
  rw [hfi] at ST ⊢
  clear hs hT
  have hlc : (t0 :: tt).length = tt.length + 1 := rfl
  obtain ⟨m, hm⟩ : ∃ m, (t0 :: tt).length = m := ⟨_, rfl⟩
  rw [hm] at hsz
  have hL1 : ¬ (17 : Int) < (m : Int) := by omega
  rw [hfi] at hf
  have hR : textV neg (t0 :: tt) fi = (⟨#[]⟩, 9) := by unfold textV; rw [if_neg (by simp), if_pos (.inr (.inl hf))]
  rw [hR]
  clear hR hL hfi hlz hm hlc
  generalize bsV (t0 :: tt) = X at *
  go_enter Tryz.func109, Tryz.ntmps109
  go_wp2_with fail
  refine (ST.out _).mono ?_
  rintro x w1 ⟨rfl, hb⟩
  have hrow := (Row.new w 104 #[.bool neg, .string (bsV d), .int .i64 e]).below hb (by rw [World.size_alloc]; omega)
  have c0 : w1.cell? ⟨w.heap.size, 0, none⟩ = some (.bool neg) := hrow.cell 0
  have c1 : w1.cell? ⟨w.heap.size, 1, none⟩ = some (.string (bsV d)) := hrow.cell 1
  have c2 : w1.cell? ⟨w.heap.size, 2, none⟩ = some (.int .i64 e) := hrow.cell 2
  have f0 : w1.frozen? ⟨w.heap.size, 0, none⟩ = false := hrow.frozen 0
  have f1 : w1.frozen? ⟨w.heap.size, 1, none⟩ = false := hrow.frozen 1
  have f2 : w1.frozen? ⟨w.heap.size, 2, none⟩ = false := hrow.frozen 2
  have HB := hide (((Below.refl w.heap.size w).alloc (Nat.le_refl _) (.cells #[.bool neg, .string (bsV d), .int .i64 e] 104)).trans (hb.mono (by rw [World.size_alloc]; exact Nat.le_succ _)))
  clear hb hrow
  go_wp2
  go_ret2
  exact ⟨rfl, ((HB.out.setCell (p := ⟨w.heap.size, 0, none⟩) (Nat.le_refl _) (.bool neg)).setCell (p := ⟨w.heap.size, 1, none⟩) (Nat.le_refl _) (.string X)).setCell (p := ⟨w.heap.size, 2, none⟩) (Nat.le_refl _) (.int .i64 fi)⟩

set_option maxRecDepth 20000 in
set_option maxHeartbeats 8000000 in
theorem refText_high (neg : Bool) (d : List UInt8) (e : Int) (w : World) (hz : d.length ≤ 1000000) (he0 : -1000000000 ≤ e) (he1 : e ≤ 1000000000) (t0 : UInt8) (tt : List UInt8) (hT : stripV d = t0 :: tt) (hL : ¬ 17 < (t0 :: tt).length) (hf0 : ¬ e - leadV d < -400) (hf : 400 < e - leadV d) :
    Calls Tryz.prog 109 #[.agg #[.bool neg, .string (bsV d), .int .i64 e]] w fun x w' => x = .returned (.tuple #[.string (textV neg (stripV d) (e - leadV d)).1, .int .i64 (textV neg (stripV d) (e - leadV d)).2]) ∧ Below w.heap.size w w' := by
  have ST := hide (fun W : World => refStrip_any neg d e W hz he0 he1)
  have hs : stripRV neg d e = #[.bool neg, .string (bsV (t0 :: tt)), .int .i64 (e - leadV d)] := by unfold stripRV; rw [hT, if_neg (by simp)]
  rw [hs] at ST
  rw [hT]
  have hlz : leadV d ≤ d.length := leadV_le d
  have hsz := bs_size (t0 :: tt)
  obtain ⟨e1, e2⟩ := toList_ne (s := bsV (t0 :: tt)) (by rw [hsz]; simp)
  obtain ⟨fi, hfi⟩ : ∃ fi, e - (leadV d : Int) = fi := ⟨_, rfl⟩
  rw [hfi] at ST ⊢
  clear hs hT
  have hlc : (t0 :: tt).length = tt.length + 1 := rfl
  obtain ⟨m, hm⟩ : ∃ m, (t0 :: tt).length = m := ⟨_, rfl⟩
  rw [hm] at hsz
  have hL1 : ¬ (17 : Int) < (m : Int) := by omega
  rw [hfi] at hf hf0
  have hR : textV neg (t0 :: tt) fi = (⟨#[]⟩, 9) := by unfold textV; rw [if_neg (by simp), if_pos (.inr (.inr hf))]
  rw [hR]
  clear hR hL hfi hlz hm hlc
  generalize bsV (t0 :: tt) = X at *
  go_enter Tryz.func109, Tryz.ntmps109
  go_wp2_with fail
  refine (ST.out _).mono ?_
  rintro x w1 ⟨rfl, hb⟩
  have hrow := (Row.new w 104 #[.bool neg, .string (bsV d), .int .i64 e]).below hb (by rw [World.size_alloc]; omega)
  have c0 : w1.cell? ⟨w.heap.size, 0, none⟩ = some (.bool neg) := hrow.cell 0
  have c1 : w1.cell? ⟨w.heap.size, 1, none⟩ = some (.string (bsV d)) := hrow.cell 1
  have c2 : w1.cell? ⟨w.heap.size, 2, none⟩ = some (.int .i64 e) := hrow.cell 2
  have f0 : w1.frozen? ⟨w.heap.size, 0, none⟩ = false := hrow.frozen 0
  have f1 : w1.frozen? ⟨w.heap.size, 1, none⟩ = false := hrow.frozen 1
  have f2 : w1.frozen? ⟨w.heap.size, 2, none⟩ = false := hrow.frozen 2
  have HB := hide (((Below.refl w.heap.size w).alloc (Nat.le_refl _) (.cells #[.bool neg, .string (bsV d), .int .i64 e] 104)).trans (hb.mono (by rw [World.size_alloc]; exact Nat.le_succ _)))
  clear hb hrow
  go_wp2
  go_ret2
  exact ⟨rfl, ((HB.out.setCell (p := ⟨w.heap.size, 0, none⟩) (Nat.le_refl _) (.bool neg)).setCell (p := ⟨w.heap.size, 1, none⟩) (Nat.le_refl _) (.string X)).setCell (p := ⟨w.heap.size, 2, none⟩) (Nat.le_refl _) (.int .i64 fi)⟩

set_option maxRecDepth 20000 in
set_option maxHeartbeats 8000000 in
theorem refText_ok_one_false (d : List UInt8) (e : Int) (w : World) (hz : d.length ≤ 1000000) (he0 : -1000000000 ≤ e) (he1 : e ≤ 1000000000) (t0 : UInt8) (tt : List UInt8) (hT : stripV d = t0 :: tt) (hL : ¬ 17 < (t0 :: tt).length) (hf0 : ¬ e - leadV d < -400) (hf : ¬ 400 < e - leadV d) (hL1 : tt = []) :
    Calls Tryz.prog 109 #[.agg #[.bool false, .string (bsV d), .int .i64 e]] w fun x w' => x = .returned (.tuple #[.string (textV false (stripV d) (e - leadV d)).1, .int .i64 (textV false (stripV d) (e - leadV d)).2]) ∧ Below w.heap.size w w' := by
  have ST := hide (fun W : World => refStrip_any false d e W hz he0 he1)
  have hs : stripRV false d e = #[.bool false, .string (bsV (t0 :: tt)), .int .i64 (e - leadV d)] := by unfold stripRV; rw [hT, if_neg (by simp)]
  rw [hs] at ST
  rw [hT]
  have hlz : leadV d ≤ d.length := leadV_le d
  have hsz := bs_size (t0 :: tt)
  obtain ⟨e1, e2⟩ := toList_ne (s := bsV (t0 :: tt)) (by rw [hsz]; simp)
  obtain ⟨fi, hfi⟩ : ∃ fi, e - (leadV d : Int) = fi := ⟨_, rfl⟩
  rw [hfi] at ST ⊢
  clear hs hT
  have hlc : (t0 :: tt).length = tt.length + 1 := rfl
  obtain ⟨m, hm⟩ : ∃ m, (t0 :: tt).length = m := ⟨_, rfl⟩
  rw [hm] at hsz
  rw [hfi] at hf hf0
  have hR : textV false (t0 :: tt) fi = (bsV [t0] ++ ⟨#[101]⟩ ++ decB fi, 0) := by
    unfold textV
    rw [if_neg (by simp), if_neg (by rintro (h | h | h); exact hL h; exact hf0 h; exact hf h)]
    subst hL1; rfl
  rw [hR]
  have hL2 : ¬ (17 : Int) < (m : Int) := by omega
  have D := hide (fun W : World => refDec_any fi W (by omega) (by omega))
  have ha4 : ∀ W, (Op.stringOp .add (bsV [t0]) ⟨#[101]⟩).run Tryz.prog W = .ok (.string (bsV [t0] ++ ⟨#[101]⟩)) W := run_add_b (bsV [t0]) ⟨#[101]⟩ (by rw [bs_size]; show _ + 1 ≤ _; simp)
  have hdz : (decB fi).size ≤ 50 := decB_400 fi (by omega) (by omega)
  have ha5 : ∀ W, (Op.stringOp .add (bsV [t0] ++ ⟨#[101]⟩) (decB fi)).run Tryz.prog W = .ok (.string (bsV [t0] ++ ⟨#[101]⟩ ++ decB fi)) W := run_add_b (bsV [t0] ++ ⟨#[101]⟩) (decB fi) (by rw [ByteArray.size_append, bs_size]; show _ + 1 + _ ≤ _; simp; omega)
  have hm1 : ¬ (1 : Int) < (m : Int) := by subst hL1; simp at hm; omega
  have hm2 : (1 : Int) ≤ (m : Int) := by omega
  have x1 : (bsV (t0 :: tt)).extract 0 1 = bsV [t0] := bs_take (t0 :: tt) 1
  have x2 : (bsV (t0 :: tt)).extract 1 m = bsV tt := by rw [← hsz]; exact bs_drop (t0 :: tt) 1
  have HR2 := hide (show bsV [t0] ++ ⟨#[101]⟩ ++ decB fi = bsV [t0] ++ ⟨#[101]⟩ ++ decB fi from rfl)
  skip
  generalize hZ : bsV [t0] ++ ⟨#[101]⟩ ++ decB fi = Z at *
  generalize bsV [t0] ++ ⟨#[101]⟩ = Z2 at *
  generalize bsV [t0] = Z1 at *
  skip
  generalize bsV (t0 :: tt) = X at *
  generalize decB fi = Dd at *
  try generalize bsV [t0] = Y0 at *
  clear hR hL hfi hlz hm hlc HR2 hZ hdz hL1
  go_enter Tryz.func109, Tryz.ntmps109
  go_wp2_with fail
  refine (ST.out _).mono ?_
  rintro x w1 ⟨rfl, hb⟩
  have hrow := (Row.new w 104 #[.bool false, .string (bsV d), .int .i64 e]).below hb (by rw [World.size_alloc]; omega)
  have c0 : w1.cell? ⟨w.heap.size, 0, none⟩ = some (.bool false) := hrow.cell 0
  have c1 : w1.cell? ⟨w.heap.size, 1, none⟩ = some (.string (bsV d)) := hrow.cell 1
  have c2 : w1.cell? ⟨w.heap.size, 2, none⟩ = some (.int .i64 e) := hrow.cell 2
  have f0 : w1.frozen? ⟨w.heap.size, 0, none⟩ = false := hrow.frozen 0
  have f1 : w1.frozen? ⟨w.heap.size, 1, none⟩ = false := hrow.frozen 1
  have f2 : w1.frozen? ⟨w.heap.size, 2, none⟩ = false := hrow.frozen 2
  have HB := hide (((Below.refl w.heap.size w).alloc (Nat.le_refl _) (.cells #[.bool false, .string (bsV d), .int .i64 e] 104)).trans (hb.mono (by rw [World.size_alloc]; exact Nat.le_succ _)))
  clear hb hrow
  go_wp2_with fail
  refine (D.out _).mono ?_
  rintro x w2 ⟨rfl, hb⟩
  have HB2 := hide (((HB.out.setCell (p := ⟨w.heap.size, 0, none⟩) (Nat.le_refl _) (.bool false)).setCell (p := ⟨w.heap.size, 1, none⟩) (Nat.le_refl _) (.string X)).setCell (p := ⟨w.heap.size, 2, none⟩) (Nat.le_refl _) (.int .i64 fi))
  have HB3 := hide (HB2.out.trans (hb.mono HB2.out.size))
  clear hb
  go_wp2
  go_ret2
  exact ⟨rfl, HB3.out⟩

set_option maxRecDepth 20000 in
set_option maxHeartbeats 8000000 in
theorem refText_ok_one_true (d : List UInt8) (e : Int) (w : World) (hz : d.length ≤ 1000000) (he0 : -1000000000 ≤ e) (he1 : e ≤ 1000000000) (t0 : UInt8) (tt : List UInt8) (hT : stripV d = t0 :: tt) (hL : ¬ 17 < (t0 :: tt).length) (hf0 : ¬ e - leadV d < -400) (hf : ¬ 400 < e - leadV d) (hL1 : tt = []) :
    Calls Tryz.prog 109 #[.agg #[.bool true, .string (bsV d), .int .i64 e]] w fun x w' => x = .returned (.tuple #[.string (textV true (stripV d) (e - leadV d)).1, .int .i64 (textV true (stripV d) (e - leadV d)).2]) ∧ Below w.heap.size w w' := by
  have ST := hide (fun W : World => refStrip_any true d e W hz he0 he1)
  have hs : stripRV true d e = #[.bool true, .string (bsV (t0 :: tt)), .int .i64 (e - leadV d)] := by unfold stripRV; rw [hT, if_neg (by simp)]
  rw [hs] at ST
  rw [hT]
  have hlz : leadV d ≤ d.length := leadV_le d
  have hsz := bs_size (t0 :: tt)
  obtain ⟨e1, e2⟩ := toList_ne (s := bsV (t0 :: tt)) (by rw [hsz]; simp)
  obtain ⟨fi, hfi⟩ : ∃ fi, e - (leadV d : Int) = fi := ⟨_, rfl⟩
  rw [hfi] at ST ⊢
  clear hs hT
  have hlc : (t0 :: tt).length = tt.length + 1 := rfl
  obtain ⟨m, hm⟩ : ∃ m, (t0 :: tt).length = m := ⟨_, rfl⟩
  rw [hm] at hsz
  rw [hfi] at hf hf0
  have hR : textV true (t0 :: tt) fi = (bsV (45 :: [t0]) ++ ⟨#[101]⟩ ++ decB fi, 0) := by
    unfold textV
    rw [if_neg (by simp), if_neg (by rintro (h | h | h); exact hL h; exact hf0 h; exact hf h)]
    subst hL1; rfl
  rw [hR]
  have hL2 : ¬ (17 : Int) < (m : Int) := by omega
  have D := hide (fun W : World => refDec_any fi W (by omega) (by omega))
  have ha3 := run_add_h 45 [t0] (by simp)
  have ha4 : ∀ W, (Op.stringOp .add (bsV (45 :: [t0])) ⟨#[101]⟩).run Tryz.prog W = .ok (.string (bsV (45 :: [t0]) ++ ⟨#[101]⟩)) W := run_add_b (bsV (45 :: [t0])) ⟨#[101]⟩ (by rw [bs_size]; show _ + 1 ≤ _; simp)
  have hdz : (decB fi).size ≤ 50 := decB_400 fi (by omega) (by omega)
  have ha5 : ∀ W, (Op.stringOp .add (bsV (45 :: [t0]) ++ ⟨#[101]⟩) (decB fi)).run Tryz.prog W = .ok (.string (bsV (45 :: [t0]) ++ ⟨#[101]⟩ ++ decB fi)) W := run_add_b (bsV (45 :: [t0]) ++ ⟨#[101]⟩) (decB fi) (by rw [ByteArray.size_append, bs_size]; show _ + 1 + _ ≤ _; simp; omega)
  have hm1 : ¬ (1 : Int) < (m : Int) := by subst hL1; simp at hm; omega
  have hm2 : (1 : Int) ≤ (m : Int) := by omega
  have x1 : (bsV (t0 :: tt)).extract 0 1 = bsV [t0] := bs_take (t0 :: tt) 1
  have x2 : (bsV (t0 :: tt)).extract 1 m = bsV tt := by rw [← hsz]; exact bs_drop (t0 :: tt) 1
  have HR2 := hide (show bsV (45 :: [t0]) ++ ⟨#[101]⟩ ++ decB fi = bsV (45 :: [t0]) ++ ⟨#[101]⟩ ++ decB fi from rfl)
  skip
  generalize hZ : bsV (45 :: [t0]) ++ ⟨#[101]⟩ ++ decB fi = Z at *
  generalize bsV (45 :: [t0]) ++ ⟨#[101]⟩ = Z2 at *
  generalize bsV (45 :: [t0]) = Z1 at *
  generalize bsV [t0] = Z0 at *
  generalize bsV (t0 :: tt) = X at *
  generalize decB fi = Dd at *
  try generalize bsV [t0] = Y0 at *
  clear hR hL hfi hlz hm hlc HR2 hZ hdz hL1
  go_enter Tryz.func109, Tryz.ntmps109
  go_wp2_with fail
  refine (ST.out _).mono ?_
  rintro x w1 ⟨rfl, hb⟩
  have hrow := (Row.new w 104 #[.bool true, .string (bsV d), .int .i64 e]).below hb (by rw [World.size_alloc]; omega)
  have c0 : w1.cell? ⟨w.heap.size, 0, none⟩ = some (.bool true) := hrow.cell 0
  have c1 : w1.cell? ⟨w.heap.size, 1, none⟩ = some (.string (bsV d)) := hrow.cell 1
  have c2 : w1.cell? ⟨w.heap.size, 2, none⟩ = some (.int .i64 e) := hrow.cell 2
  have f0 : w1.frozen? ⟨w.heap.size, 0, none⟩ = false := hrow.frozen 0
  have f1 : w1.frozen? ⟨w.heap.size, 1, none⟩ = false := hrow.frozen 1
  have f2 : w1.frozen? ⟨w.heap.size, 2, none⟩ = false := hrow.frozen 2
  have HB := hide (((Below.refl w.heap.size w).alloc (Nat.le_refl _) (.cells #[.bool true, .string (bsV d), .int .i64 e] 104)).trans (hb.mono (by rw [World.size_alloc]; exact Nat.le_succ _)))
  clear hb hrow
  go_wp2_with fail
  refine (D.out _).mono ?_
  rintro x w2 ⟨rfl, hb⟩
  have HB2 := hide (((HB.out.setCell (p := ⟨w.heap.size, 0, none⟩) (Nat.le_refl _) (.bool true)).setCell (p := ⟨w.heap.size, 1, none⟩) (Nat.le_refl _) (.string X)).setCell (p := ⟨w.heap.size, 2, none⟩) (Nat.le_refl _) (.int .i64 fi))
  have HB3 := hide (HB2.out.trans (hb.mono HB2.out.size))
  clear hb
  go_wp2
  go_ret2
  exact ⟨rfl, HB3.out⟩

set_option maxRecDepth 20000 in
set_option maxHeartbeats 8000000 in
theorem refText_ok_more_false (d : List UInt8) (e : Int) (w : World) (hz : d.length ≤ 1000000) (he0 : -1000000000 ≤ e) (he1 : e ≤ 1000000000) (t0 : UInt8) (tt : List UInt8) (hT : stripV d = t0 :: tt) (hL : ¬ 17 < (t0 :: tt).length) (hf0 : ¬ e - leadV d < -400) (hf : ¬ 400 < e - leadV d) (hL1 : tt ≠ []) :
    Calls Tryz.prog 109 #[.agg #[.bool false, .string (bsV d), .int .i64 e]] w fun x w' => x = .returned (.tuple #[.string (textV false (stripV d) (e - leadV d)).1, .int .i64 (textV false (stripV d) (e - leadV d)).2]) ∧ Below w.heap.size w w' := by
  have ST := hide (fun W : World => refStrip_any false d e W hz he0 he1)
  have hs : stripRV false d e = #[.bool false, .string (bsV (t0 :: tt)), .int .i64 (e - leadV d)] := by unfold stripRV; rw [hT, if_neg (by simp)]
  rw [hs] at ST
  rw [hT]
  have hlz : leadV d ≤ d.length := leadV_le d
  have hsz := bs_size (t0 :: tt)
  obtain ⟨e1, e2⟩ := toList_ne (s := bsV (t0 :: tt)) (by rw [hsz]; simp)
  obtain ⟨fi, hfi⟩ : ∃ fi, e - (leadV d : Int) = fi := ⟨_, rfl⟩
  rw [hfi] at ST ⊢
  clear hs hT
  have hlc : (t0 :: tt).length = tt.length + 1 := rfl
  obtain ⟨m, hm⟩ : ∃ m, (t0 :: tt).length = m := ⟨_, rfl⟩
  rw [hm] at hsz
  rw [hfi] at hf hf0
  have hR : textV false (t0 :: tt) fi = (bsV (t0 :: 46 :: tt) ++ ⟨#[101]⟩ ++ decB fi, 0) := by
    unfold textV
    rw [if_neg (by simp), if_neg (by rintro (h | h | h); exact hL h; exact hf0 h; exact hf h)]
    rw [if_pos (show 1 < (t0 :: tt).length by rw [hlc]; have := List.length_pos_iff.2 hL1; omega)]; rfl
  rw [hR]
  have hL2 : ¬ (17 : Int) < (m : Int) := by omega
  have D := hide (fun W : World => refDec_any fi W (by omega) (by omega))
  have ha1 := run_add [t0] [46] (by simp) (by simp)
  rw [show bsV [46] = (⟨#[46]⟩ : ByteArray) from rfl] at ha1
  have ha2 : ∀ W, (Op.stringOp .add (bsV ([t0] ++ [46])) (bsV tt)).run Tryz.prog W = .ok (.string (bsV (t0 :: 46 :: tt))) W := run_add ([t0] ++ [46]) tt (by simp) (by omega)
  have ha4 : ∀ W, (Op.stringOp .add (bsV (t0 :: 46 :: tt)) ⟨#[101]⟩).run Tryz.prog W = .ok (.string (bsV (t0 :: 46 :: tt) ++ ⟨#[101]⟩)) W := run_add_b (bsV (t0 :: 46 :: tt)) ⟨#[101]⟩ (by rw [bs_size]; show _ + 1 ≤ _; simp only [List.length_cons]; omega)
  have hdz : (decB fi).size ≤ 50 := decB_400 fi (by omega) (by omega)
  have ha5 : ∀ W, (Op.stringOp .add (bsV (t0 :: 46 :: tt) ++ ⟨#[101]⟩) (decB fi)).run Tryz.prog W = .ok (.string (bsV (t0 :: 46 :: tt) ++ ⟨#[101]⟩ ++ decB fi)) W := run_add_b (bsV (t0 :: 46 :: tt) ++ ⟨#[101]⟩) (decB fi) (by rw [ByteArray.size_append, bs_size]; show _ + 1 + _ ≤ _; simp only [List.length_cons]; omega)
  have hm1 : (1 : Int) < (m : Int) := by have := List.length_pos_iff.2 hL1; omega
  have hm2 : (1 : Int) ≤ (m : Int) := by omega
  have x1 : (bsV (t0 :: tt)).extract 0 1 = bsV [t0] := bs_take (t0 :: tt) 1
  have x2 : (bsV (t0 :: tt)).extract 1 m = bsV tt := by rw [← hsz]; exact bs_drop (t0 :: tt) 1
  have HR2 := hide (show bsV (t0 :: 46 :: tt) ++ ⟨#[101]⟩ ++ decB fi = bsV (t0 :: 46 :: tt) ++ ⟨#[101]⟩ ++ decB fi from rfl)
  generalize bsV ([t0] ++ [46]) = Y1 at *
  generalize hZ : bsV (t0 :: 46 :: tt) ++ ⟨#[101]⟩ ++ decB fi = Z at *
  generalize bsV (t0 :: 46 :: tt) ++ ⟨#[101]⟩ = Z2 at *
  generalize bsV (t0 :: 46 :: tt) = Z1 at *
  skip
  generalize bsV (t0 :: tt) = X at *
  generalize decB fi = Dd at *
  try generalize bsV [t0] = Y0 at *
  clear hR hL hfi hlz hm hlc HR2 hZ hdz hL1
  go_enter Tryz.func109, Tryz.ntmps109
  go_wp2_with fail
  refine (ST.out _).mono ?_
  rintro x w1 ⟨rfl, hb⟩
  have hrow := (Row.new w 104 #[.bool false, .string (bsV d), .int .i64 e]).below hb (by rw [World.size_alloc]; omega)
  have c0 : w1.cell? ⟨w.heap.size, 0, none⟩ = some (.bool false) := hrow.cell 0
  have c1 : w1.cell? ⟨w.heap.size, 1, none⟩ = some (.string (bsV d)) := hrow.cell 1
  have c2 : w1.cell? ⟨w.heap.size, 2, none⟩ = some (.int .i64 e) := hrow.cell 2
  have f0 : w1.frozen? ⟨w.heap.size, 0, none⟩ = false := hrow.frozen 0
  have f1 : w1.frozen? ⟨w.heap.size, 1, none⟩ = false := hrow.frozen 1
  have f2 : w1.frozen? ⟨w.heap.size, 2, none⟩ = false := hrow.frozen 2
  have HB := hide (((Below.refl w.heap.size w).alloc (Nat.le_refl _) (.cells #[.bool false, .string (bsV d), .int .i64 e] 104)).trans (hb.mono (by rw [World.size_alloc]; exact Nat.le_succ _)))
  clear hb hrow
  go_wp2_with fail
  refine (D.out _).mono ?_
  rintro x w2 ⟨rfl, hb⟩
  have HB2 := hide (((HB.out.setCell (p := ⟨w.heap.size, 0, none⟩) (Nat.le_refl _) (.bool false)).setCell (p := ⟨w.heap.size, 1, none⟩) (Nat.le_refl _) (.string X)).setCell (p := ⟨w.heap.size, 2, none⟩) (Nat.le_refl _) (.int .i64 fi))
  have HB3 := hide (HB2.out.trans (hb.mono HB2.out.size))
  clear hb
  go_wp2
  go_ret2
  exact ⟨rfl, HB3.out⟩

set_option maxRecDepth 20000 in
set_option maxHeartbeats 8000000 in
theorem refText_ok_more_true (d : List UInt8) (e : Int) (w : World) (hz : d.length ≤ 1000000) (he0 : -1000000000 ≤ e) (he1 : e ≤ 1000000000) (t0 : UInt8) (tt : List UInt8) (hT : stripV d = t0 :: tt) (hL : ¬ 17 < (t0 :: tt).length) (hf0 : ¬ e - leadV d < -400) (hf : ¬ 400 < e - leadV d) (hL1 : tt ≠ []) :
    Calls Tryz.prog 109 #[.agg #[.bool true, .string (bsV d), .int .i64 e]] w fun x w' => x = .returned (.tuple #[.string (textV true (stripV d) (e - leadV d)).1, .int .i64 (textV true (stripV d) (e - leadV d)).2]) ∧ Below w.heap.size w w' := by
  have ST := hide (fun W : World => refStrip_any true d e W hz he0 he1)
  have hs : stripRV true d e = #[.bool true, .string (bsV (t0 :: tt)), .int .i64 (e - leadV d)] := by unfold stripRV; rw [hT, if_neg (by simp)]
  rw [hs] at ST
  rw [hT]
  have hlz : leadV d ≤ d.length := leadV_le d
  have hsz := bs_size (t0 :: tt)
  obtain ⟨e1, e2⟩ := toList_ne (s := bsV (t0 :: tt)) (by rw [hsz]; simp)
  obtain ⟨fi, hfi⟩ : ∃ fi, e - (leadV d : Int) = fi := ⟨_, rfl⟩
  rw [hfi] at ST ⊢
  clear hs hT
  have hlc : (t0 :: tt).length = tt.length + 1 := rfl
  obtain ⟨m, hm⟩ : ∃ m, (t0 :: tt).length = m := ⟨_, rfl⟩
  rw [hm] at hsz
  rw [hfi] at hf hf0
  have hR : textV true (t0 :: tt) fi = (bsV (45 :: t0 :: 46 :: tt) ++ ⟨#[101]⟩ ++ decB fi, 0) := by
    unfold textV
    rw [if_neg (by simp), if_neg (by rintro (h | h | h); exact hL h; exact hf0 h; exact hf h)]
    rw [if_pos (show 1 < (t0 :: tt).length by rw [hlc]; have := List.length_pos_iff.2 hL1; omega)]; rfl
  rw [hR]
  have hL2 : ¬ (17 : Int) < (m : Int) := by omega
  have D := hide (fun W : World => refDec_any fi W (by omega) (by omega))
  have ha1 := run_add [t0] [46] (by simp) (by simp)
  rw [show bsV [46] = (⟨#[46]⟩ : ByteArray) from rfl] at ha1
  have ha2 : ∀ W, (Op.stringOp .add (bsV ([t0] ++ [46])) (bsV tt)).run Tryz.prog W = .ok (.string (bsV (t0 :: 46 :: tt))) W := run_add ([t0] ++ [46]) tt (by simp) (by omega)
  have ha3 := run_add_h 45 (t0 :: 46 :: tt) (by simp only [List.length_cons]; omega)
  have ha4 : ∀ W, (Op.stringOp .add (bsV (45 :: t0 :: 46 :: tt)) ⟨#[101]⟩).run Tryz.prog W = .ok (.string (bsV (45 :: t0 :: 46 :: tt) ++ ⟨#[101]⟩)) W := run_add_b (bsV (45 :: t0 :: 46 :: tt)) ⟨#[101]⟩ (by rw [bs_size]; show _ + 1 ≤ _; simp only [List.length_cons]; omega)
  have hdz : (decB fi).size ≤ 50 := decB_400 fi (by omega) (by omega)
  have ha5 : ∀ W, (Op.stringOp .add (bsV (45 :: t0 :: 46 :: tt) ++ ⟨#[101]⟩) (decB fi)).run Tryz.prog W = .ok (.string (bsV (45 :: t0 :: 46 :: tt) ++ ⟨#[101]⟩ ++ decB fi)) W := run_add_b (bsV (45 :: t0 :: 46 :: tt) ++ ⟨#[101]⟩) (decB fi) (by rw [ByteArray.size_append, bs_size]; show _ + 1 + _ ≤ _; simp only [List.length_cons]; omega)
  have hm1 : (1 : Int) < (m : Int) := by have := List.length_pos_iff.2 hL1; omega
  have hm2 : (1 : Int) ≤ (m : Int) := by omega
  have x1 : (bsV (t0 :: tt)).extract 0 1 = bsV [t0] := bs_take (t0 :: tt) 1
  have x2 : (bsV (t0 :: tt)).extract 1 m = bsV tt := by rw [← hsz]; exact bs_drop (t0 :: tt) 1
  have HR2 := hide (show bsV (45 :: t0 :: 46 :: tt) ++ ⟨#[101]⟩ ++ decB fi = bsV (45 :: t0 :: 46 :: tt) ++ ⟨#[101]⟩ ++ decB fi from rfl)
  generalize bsV ([t0] ++ [46]) = Y1 at *
  generalize hZ : bsV (45 :: t0 :: 46 :: tt) ++ ⟨#[101]⟩ ++ decB fi = Z at *
  generalize bsV (45 :: t0 :: 46 :: tt) ++ ⟨#[101]⟩ = Z2 at *
  generalize bsV (45 :: t0 :: 46 :: tt) = Z1 at *
  generalize bsV (t0 :: 46 :: tt) = Z0 at *
  generalize bsV (t0 :: tt) = X at *
  generalize decB fi = Dd at *
  try generalize bsV [t0] = Y0 at *
  clear hR hL hfi hlz hm hlc HR2 hZ hdz hL1
  go_enter Tryz.func109, Tryz.ntmps109
  go_wp2_with fail
  refine (ST.out _).mono ?_
  rintro x w1 ⟨rfl, hb⟩
  have hrow := (Row.new w 104 #[.bool true, .string (bsV d), .int .i64 e]).below hb (by rw [World.size_alloc]; omega)
  have c0 : w1.cell? ⟨w.heap.size, 0, none⟩ = some (.bool true) := hrow.cell 0
  have c1 : w1.cell? ⟨w.heap.size, 1, none⟩ = some (.string (bsV d)) := hrow.cell 1
  have c2 : w1.cell? ⟨w.heap.size, 2, none⟩ = some (.int .i64 e) := hrow.cell 2
  have f0 : w1.frozen? ⟨w.heap.size, 0, none⟩ = false := hrow.frozen 0
  have f1 : w1.frozen? ⟨w.heap.size, 1, none⟩ = false := hrow.frozen 1
  have f2 : w1.frozen? ⟨w.heap.size, 2, none⟩ = false := hrow.frozen 2
  have HB := hide (((Below.refl w.heap.size w).alloc (Nat.le_refl _) (.cells #[.bool true, .string (bsV d), .int .i64 e] 104)).trans (hb.mono (by rw [World.size_alloc]; exact Nat.le_succ _)))
  clear hb hrow
  go_wp2_with fail
  refine (D.out _).mono ?_
  rintro x w2 ⟨rfl, hb⟩
  have HB2 := hide (((HB.out.setCell (p := ⟨w.heap.size, 0, none⟩) (Nat.le_refl _) (.bool true)).setCell (p := ⟨w.heap.size, 1, none⟩) (Nat.le_refl _) (.string X)).setCell (p := ⟨w.heap.size, 2, none⟩) (Nat.le_refl _) (.int .i64 fi))
  have HB3 := hide (HB2.out.trans (hb.mono HB2.out.size))
  clear hb
  go_wp2
  go_ret2
  exact ⟨rfl, HB3.out⟩

theorem refText_any (neg : Bool) (d : List UInt8) (e : Int) (w : World) (hz : d.length ≤ 1000000) (he0 : -1000000000 ≤ e) (he1 : e ≤ 1000000000) :
    Calls Tryz.prog 109 #[.agg #[.bool neg, .string (bsV d), .int .i64 e]] w fun x w' => x = .returned (.tuple #[.string (textV neg (stripV d) (e - leadV d)).1, .int .i64 (textV neg (stripV d) (e - leadV d)).2]) ∧ Below w.heap.size w w' := by
  cases hT : stripV d with
  | nil => rw [← hT]; exact refText_nil neg d e w hz he0 he1 hT
  | cons t0 tt =>
    rw [← hT]
    by_cases hL : 17 < (t0 :: tt).length
    · exact refText_long neg d e w hz he0 he1 t0 tt hT hL
    · by_cases h0 : e - leadV d < -400
      · exact refText_low neg d e w hz he0 he1 t0 tt hT hL h0
      · by_cases h1 : 400 < e - leadV d
        · exact refText_high neg d e w hz he0 he1 t0 tt hT hL h0 h1
        · by_cases ht : tt = []
          · cases neg with
            | false => exact refText_ok_one_false d e w hz he0 he1 t0 tt hT hL h0 h1 ht
            | true => exact refText_ok_one_true d e w hz he0 he1 t0 tt hT hL h0 h1 ht
          · cases neg with
            | false => exact refText_ok_more_false d e w hz he0 he1 t0 tt hT hL h0 h1 ht
            | true => exact refText_ok_more_true d e w hz he0 he1 t0 tt hT hL h0 h1 ht
end Go.Proofs.YtjlpekjfmgcbdaaGreatDoor
