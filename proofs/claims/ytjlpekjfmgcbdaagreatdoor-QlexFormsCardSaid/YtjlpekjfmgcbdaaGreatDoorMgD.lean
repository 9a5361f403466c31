/- MgD: the texts QlJ QlK QlL QlM QlN QlO QlQ QlR in one. -/
import Derived.Test.YtjlpekjfmgcbdaaGreatDoorMgB
import Derived.Test.YtjlpekjfmgcbdaaGreatDoorMgC
import Derived.Laws.IdiomStrings
import Derived.Laws.EntriesVeiled
import Derived.Test.YtjlpekjfmgcbdaaGreatDoorShelfB
import Derived.Deep.DeepCutAuto
import Derived.Deep.CutBlock
/- Contracts of qlex's stripped, repeated. -/
set_option linter.unusedVariables false
set_option linter.unusedSimpArgs false
namespace Go.Proofs.YtjlpekjfmgcbdaaGreatDoor
open Go.RowKit Go.Shelf
theorem trimQ (l : List UInt8) : Lib.trimLeftB l 48 = l.dropWhile (· == 48) := by
  rfl
set_option maxRecDepth 20000 in
theorem strippedQ_any (l : List UInt8) (w : World) : Calls Tryz.prog 105 #[.string (bsQ l)] w fun e w' => e = .returned (.string (bsQ (stripQ l))) ∧ Below w.heap.size w w' := by
  have T := Tryz.strings_TrimLeft_one (bsQ l) 48 (by decide)
  rw [bsQ_list, trimQ] at T
  unfold stripQ
  generalize l.dropWhile (· == 48) = m at *
  cases m with
  | nil =>
    rw [if_pos rfl]
    go_enter Tryz.func105, Tryz.ntmps105
    go_wp2_with fail
    refine (T _).mono ?_
    rintro e w1 ⟨rfl, rfl⟩
    go_wp2
    go_ret
    exact ⟨rfl, Below.refl _ _⟩
  | cons c t =>
    rw [if_neg (by simp)]
    go_enter Tryz.func105, Tryz.ntmps105
    go_wp2_with fail
    refine (T _).mono ?_
    rintro e w1 ⟨rfl, rfl⟩
    go_wp2
    go_ret
    exact ⟨rfl, Below.refl _ _⟩
set_option maxRecDepth 20000 in
theorem repeatedQ_any (c : UInt8) (k : Int) (w : World) (hk : k ≤ 1000000) :
    Calls Tryz.prog 35 #[.int .u8 (c.toNat : Int), .int .i64 k] w fun e w' => e = .returned (.string (bsQ (List.replicate k.toNat c))) ∧ Below w.heap.size w w' := by
  have hcv := fun W : World => conv1b W c
  by_cases h0 : 0 ≤ k
  · obtain ⟨n, rfl⟩ : ∃ n : Nat, k = n := ⟨k.toNat, by omega⟩
    rw [show ((n : Int)).toNat = n from rfl]
    have R := hide (fun W : World => rep_any c n W (by omega))
    have hmx : max (n : Int) 0 = (n : Int) := by omega
    clear hk h0
    go_enter Tryz.func35, Tryz.ntmps35
    go_wp2_with fail
    refine (R.out _).mono ?_
    rintro e w1 ⟨rfl, hb⟩
    have Hb := hide (((Below.refl w.heap.size w).alloc (Nat.le_refl _) (.cells #[.int .u8 (c.toNat : Int)] 5)).trans (hb.mono (by rw [World.size_alloc]; omega)))
    clear hb
    go_wp2
    go_ret
    exact ⟨rfl, Hb.out⟩
  · have R := hide (fun W : World => rep_any c 0 W (by omega))
    rw [show k.toNat = 0 by omega]
    have hmx : max k 0 = 0 := by omega
    clear hk h0
    go_enter Tryz.func35, Tryz.ntmps35
    go_wp2_with fail
    refine (R.out _).mono ?_
    rintro e w1 ⟨rfl, hb⟩
    have Hb := hide (((Below.refl w.heap.size w).alloc (Nat.le_refl _) (.cells #[.int .u8 (c.toNat : Int)] 5)).trans (hb.mono (by rw [World.size_alloc]; omega)))
    clear hb
    go_wp2
    go_ret
    exact ⟨rfl, Hb.out⟩
end Go.Proofs.YtjlpekjfmgcbdaaGreatDoor

/- Plain: the bits of a decimal number, one digit after the other. -/
set_option linter.unusedVariables false
set_option linter.unusedSimpArgs false
namespace Go.Proofs.YtjlpekjfmgcbdaaGreatDoor
open Go.RowKit Go.Shelf
def bitQ (x : Nat) : UInt8 := if x % 2 = 1 then 49 else 48
theorem binQ_succ (n v : Nat) : binQ (n + 1) v = binQ n (v / 2) ++ [bitQ v] := rfl
theorem binQ_len : ∀ (n v : Nat), (binQ n v).length = n
  | 0, _ => rfl
  | n + 1, v => by rw [binQ_succ, List.length_append, binQ_len n]; rfl
theorem binQ_front : ∀ (n v : Nat), binQ (n + 1) v = bitQ (v / 2 ^ n) :: binQ n v
  | 0, v => by rw [binQ_succ]; simp [binQ]
  | n + 1, v => by
    rw [binQ_succ (n + 1), binQ_front n (v / 2), binQ_succ n v, Nat.div_div_eq_div_mul, Nat.pow_succ, Nat.mul_comm 2]
    rfl
theorem binQ_mod : ∀ (n v : Nat), binQ n (v % 2 ^ n) = binQ n v
  | 0, v => rfl
  | n + 1, v => by
    rw [binQ_succ, binQ_succ, Nat.pow_succ, show bitQ (v % (2 ^ n * 2)) = bitQ v by unfold bitQ; rw [Nat.mod_mul_left_mod], Nat.mul_comm, Nat.mod_mul_right_div_self, binQ_mod n]
/-- the bits when k of them are those of 10 v + c -/
def partQ (N k v c : Nat) : List UInt8 := binQ (N - k) (v / 2 ^ k) ++ binQ k (10 * v + c)
def carryQ (k v c : Nat) : Nat := (10 * (v % 2 ^ k) + c) / 2 ^ k
theorem partQ_len {N k : Nat} (v c : Nat) (h : k ≤ N) : (partQ N k v c).length = N := by
  unfold partQ; rw [List.length_append, binQ_len, binQ_len]; omega
theorem partQ_zero (N v c : Nat) : partQ N 0 v c = binQ N v := by
  unfold partQ; simp [binQ]
theorem partQ_full (N v c : Nat) : partQ N N v c = binQ N (10 * v + c) := by
  unfold partQ; rw [Nat.sub_self]; rfl
theorem carryQ_zero (v c : Nat) : carryQ 0 v c = c := by unfold carryQ; simp [Nat.mod_one]
theorem carryQ_le (k v : Nat) {c : Nat} (hc : c ≤ 9) : carryQ k v c ≤ 9 := by
  unfold carryQ
  have h := Nat.mod_lt v (Nat.two_pow_pos k)
  have : 10 * (v % 2 ^ k) + c < 10 * 2 ^ k := by omega
  have := (Nat.div_lt_iff_lt_mul (Nat.two_pow_pos k)).2 this
  omega
theorem carryQ_sum (k v c : Nat) : (10 * v + c) / 2 ^ k = 10 * (v / 2 ^ k) + carryQ k v c := by
  have h := Nat.div_add_mod v (2 ^ k)
  unfold carryQ
  conv => lhs; rw [← h]
  rw [show 10 * (2 ^ k * (v / 2 ^ k) + v % 2 ^ k) + c = (10 * (v % 2 ^ k) + c) + 2 ^ k * (10 * (v / 2 ^ k)) by rw [Nat.mul_add, ← Nat.mul_assoc, Nat.mul_comm 10 (2 ^ k), Nat.mul_assoc]; omega]
  rw [Nat.add_mul_div_left _ _ (Nat.two_pow_pos k)]
  omega
/-- the step at a bit -/
def sumQ (k v c : Nat) : Nat := 10 * (v / 2 ^ k % 2) + carryQ k v c
theorem sumQ_bit (k v c : Nat) : bitQ ((10 * v + c) / 2 ^ k) = bitQ (sumQ k v c) := by
  unfold bitQ sumQ
  rw [carryQ_sum]
  have : (10 * (v / 2 ^ k) + carryQ k v c) % 2 = (10 * (v / 2 ^ k % 2) + carryQ k v c) % 2 := by omega
  rw [this]
theorem sumQ_carry (k v c : Nat) : carryQ (k + 1) v c = sumQ k v c / 2 := by
  have h1 := carryQ_sum (k + 1) v c
  have h2 := carryQ_sum k v c
  have h3 : (10 * v + c) / 2 ^ (k + 1) = (10 * v + c) / 2 ^ k / 2 := by rw [Nat.div_div_eq_div_mul, Nat.pow_succ]
  have h4 : v / 2 ^ (k + 1) = v / 2 ^ k / 2 := by rw [Nat.div_div_eq_div_mul, Nat.pow_succ]
  unfold sumQ
  rw [h3, h2, h4] at h1
  omega
theorem partQ_split {N k : Nat} (v c : Nat) (h : k < N) : partQ N k v c = binQ (N - k - 1) (v / 2 ^ (k + 1)) ++ bitQ (v / 2 ^ k) :: binQ k (10 * v + c) := by
  unfold partQ
  obtain ⟨m, hm⟩ : ∃ m, N - k = m + 1 := ⟨N - k - 1, by omega⟩
  rw [hm, binQ_succ, Nat.div_div_eq_div_mul, ← Nat.pow_succ]
  simp
theorem partQ_next {N k : Nat} (v c : Nat) (h : k < N) : partQ N (k + 1) v c = binQ (N - k - 1) (v / 2 ^ (k + 1)) ++ bitQ (sumQ k v c) :: binQ k (10 * v + c) := by
  unfold partQ
  rw [binQ_front, sumQ_bit, show N - (k + 1) = N - k - 1 by omega]
theorem partQ_get {N k : Nat} (v c : Nat) (h : k < N) : (partQ N k v c)[N - 1 - k]? = some (bitQ (v / 2 ^ k)) := by
  have hl := binQ_len (N - k - 1) (v / 2 ^ (k + 1))
  rw [partQ_split v c h, List.getElem?_append_right (by omega), hl, show N - 1 - k - (N - k - 1) = 0 by omega]
  rfl
theorem partQ_set {N k : Nat} (v c : Nat) (h : k < N) : (partQ N k v c).set (N - 1 - k) (bitQ (sumQ k v c)) = partQ N (k + 1) v c := by
  have hl := binQ_len (N - k - 1) (v / 2 ^ (k + 1))
  rw [partQ_split v c h, partQ_next v c h, List.set_append_right _ _ (by omega), hl, show N - 1 - k - (N - k - 1) = 0 by omega]
  rfl
theorem binQ_zero : ∀ n, binQ n 0 = List.replicate n 48
  | 0 => rfl
  | n + 1 => by rw [binQ_succ, Nat.zero_div, binQ_zero n, List.replicate_succ']; rfl
end Go.Proofs.YtjlpekjfmgcbdaaGreatDoor

/- Contract of qlex's decimalBits. -/
set_option linter.unusedVariables false
set_option linter.unusedSimpArgs false
namespace Go.Proofs.YtjlpekjfmgcbdaaGreatDoor
open Go.RowKit Go.Shelf
theorem infoQ_parts {P : Program} {t : TypeId} {z : Value} {s b : Nat} (h : (P.info? t).map (fun i => (i.zero, i.size, i.bytes)) = some (some z, s, b)) : ∃ i, P.info? t = some i ∧ i.zero = some z ∧ i.size = s ∧ i.bytes = b := by
  cases hi : P.info? t with
  | none => rw [hi] at h; cases h
  | some i => rw [hi] at h; simp at h; exact ⟨i, rfl, h.1, h.2.1, h.2.2⟩
theorem madeQ (z : Value) (hz : z.cells = #[z]) (n : Nat) : madeCells z.cells n = (List.replicate n z).toArray := by
  rw [hz]
  apply Array.ext
  · simp [madeCells]
  · intro i h1 h2
    simp [madeCells, Nat.mod_one]
theorem infoByteQ : (Tryz.prog.info? 5).map (fun i => (i.zero, i.size, i.bytes)) = some (some (.int .u8 0), 1, 1) := by kernel_rfl
theorem run_make_bytes (n : Nat) (hn : n ≤ 1099511627776) (w : World) : (Instr.makeSlice 51 (.int .i64 (n : Int)) (.int .i64 (n : Int))).run Tryz.prog w =
    .ok (.slice (some ⟨w.heap.size, 0, none⟩) n n) (w.alloc (.cells (List.replicate n (Value.int .u8 0)).toArray 5)) := by
  obtain ⟨i, hi, hz, h1, h2⟩ := infoQ_parts infoByteQ
  have h := run_make (P := Tryz.prog) w 51 5 i _ Tryz.underlying51 hi hz .i64 .i64 (n : Int) (n : Int) (by omega) (Int.le_refl _) (by rw [h2]; omega) (by omega)
  rw [h1, madeQ _ rfl, show (n : Int).toNat = n by omega, Nat.mul_one] at h
  exact h
/-- a string as a slice of bytes -/
theorem bytes_ofQ (W : World) (l : List UInt8) : ∃ W1 cap, (convert 9 51 (.string (bsQ l))).run Tryz.prog W = .ok (.slice (some ⟨W.heap.size, 0, none⟩) l.length cap) W1 ∧ Below W.heap.size W W1 ∧
    (∀ i (h : i < l.length), W1.cell? ⟨W.heap.size, i, none⟩ = some (.int .u8 (l[i].toNat : Int))) ∧ W1.heap.size = W.heap.size + 1 := by
  have h := run_bytes_of_string (P := Tryz.prog) W 9 51 5 (bsQ l) Tryz.underlying9 Tryz.underlying51 Tryz.underlying5
  rw [bsQ_size] at h
  refine ⟨_, _, h, (Below.refl _ _).drew.alloc (Nat.le_refl _) _, fun i hi => ?_, by rw [World.size_alloc]; rfl⟩
  have e : (World.alloc W.drew (.cells (bytesRow (bsQ l) (grownCap W l.length 0 5)) 5 ((bytesRow (bsQ l) (grownCap W l.length 0 5)).size, (bytesRow (bsQ l) (grownCap W l.length 0 5)).size + 1))).heap[W.heap.size]? = some _ := World.alloc_heap_new W.drew _
  rw [World.cell?, e]
  exact bytesRow_at (bsQ l) _ i (by show i < l.toArray.size; simpa using hi)
def u8V (c : UInt8) : Value := .int .u8 (c.toNat : Int)
/-- a row of bytes -/
def BytesAt (w : World) (g : Nat) (l : List UInt8) : Prop := Row w g 5 (l.map u8V).toArray
theorem BytesAt.cell {w : World} {g : Nat} {l : List UInt8} (h : BytesAt w g l) (i : Nat) (hi : i < l.length) : w.cell? ⟨g, i, none⟩ = some (.int .u8 (l[i].toNat : Int)) := by
  rw [Row.cell h]; simp [hi, u8V]
theorem BytesAt.set {w : World} {g : Nat} {l : List UInt8} (h : BytesAt w g l) (i : Nat) (c : UInt8) : BytesAt (w.setCell ⟨g, i, none⟩ (.int .u8 (c.toNat : Int))) g (l.set i c) := by
  have := Row.set_ h i (.int .u8 (c.toNat : Int))
  unfold BytesAt
  rwa [List.setIfInBounds_toArray, show (l.map u8V).set i (.int .u8 (c.toNat : Int)) = (l.set i c).map u8V by rw [List.map_set]; rfl] at this
theorem BytesAt.str {w : World} {g : Nat} {l : List UInt8} (h : BytesAt w g l) (cap : Nat) : (convert 51 9 (.slice (some ⟨g, 0, none⟩) l.length cap)).run Tryz.prog w = .ok (.string (bsQ l)) w := by
  refine run_convert_bytes_back _ _ _ 5 ⟨g, 0, none⟩ cap l Tryz.underlying51 Tryz.underlying5 Tryz.underlying9 ?_
  intro j hj
  have := h.cell j hj
  rwa [show (⟨g, j, none⟩ : Addr) = (⟨g, 0, none⟩ : Addr).add j by unfold Addr.add; simp] at this
/-- the bytes of a text that was turned into a slice -/
def TextAt (w : World) (g : Nat) (l : List UInt8) : Prop := ∀ i (h : i < l.length), w.cell? ⟨g, i, none⟩ = some (.int .u8 (l[i].toNat : Int))
theorem TextAt.far {w : World} {g : Nat} {l : List UInt8} (h : TextAt w g l) {b : Nat} (hb : g ≠ b) (o : Nat) (v : Value) : TextAt (w.setCell ⟨b, o, none⟩ v) g l := fun i hi =>
  (World.cell?_of_block (w := w) (a := ⟨g, i, none⟩) (Below.heap_setCell w ⟨b, o, none⟩ v g hb)).trans (h i hi)
theorem TextAt.below {w w' : World} {g B : Nat} {l : List UInt8} (h : TextAt w g l) (hb : Below B w w') (hg : g < B) : TextAt w' g l := fun i hi => (hb.cell (p := ⟨g, i, none⟩) hg).trans (h i hi)
theorem bitQ_int (n : Nat) : 48 + (n : Int) % 2 = ((bitQ n).toNat : Int) := by
  unfold bitQ
  rcases Nat.mod_two_eq_zero_or_one n with h | h
  · rw [if_neg (by omega)]; show _ = (48 : Int); omega
  · rw [if_pos h]; show _ = (49 : Int); omega
theorem carry_posN (N x d : Nat) (hx : x < 2 ^ N) : 2 ^ N ≤ 10 * x + d ↔ carryQ N x d ≠ 0 := by
  unfold carryQ
  rw [Nat.mod_eq_of_lt hx]
  have hp := Nat.two_pow_pos N
  generalize 2 ^ N = M at *
  constructor
  · intro h
    have := Nat.div_le_div_right (c := M) h
    rw [Nat.div_self hp] at this
    omega
  · intro h
    rcases Nat.lt_or_ge (10 * x + d) M with h2 | h2
    · exact absurd (Nat.div_eq_of_lt h2) h
    · exact h2
/-- a step of the reckoning -/
theorem dec_step (c : UInt8) (t : List UInt8) (x d : Nat) (hd : c.toNat = d + 48) (hx : x < 2 ^ 140) :
    (carryQ 140 x d = 0 → 10 * x + d < 2 ^ 140 ∧ decBitsF (c :: t) x = decBitsF t (10 * x + d)) ∧ (carryQ 140 x d ≠ 0 → decBitsF (c :: t) x = 49 :: binQ 140 (10 * x + d)) := by
  have h := carry_posN 140 x d hx
  have e : decBitsF (c :: t) x = if 2 ^ 140 ≤ 10 * x + (c.toNat - 48) then 49 :: binQ 140 ((10 * x + (c.toNat - 48)) % 2 ^ 140) else decBitsF t (10 * x + (c.toNat - 48)) := rfl
  rw [hd, Nat.add_sub_cancel, binQ_mod] at e
  refine ⟨fun hc => ?_, fun hc => ?_⟩
  · have hn : ¬ 2 ^ 140 ≤ 10 * x + d := fun h2 => (h.1 h2) hc
    exact ⟨Nat.lt_of_not_le hn, by rw [e, if_neg hn]⟩
  · rw [e, if_pos (h.2 hc)]
def zerQ (i : Nat) : List UInt8 := List.replicate i 48 ++ List.replicate (140 - i) 0
theorem zerQ_len {i : Nat} (h : i ≤ 140) : (zerQ i).length = 140 := by unfold zerQ; simp; omega
theorem zerQ_set {i : Nat} (h : i < 140) : (zerQ i).set i 48 = zerQ (i + 1) := by
  unfold zerQ
  rw [List.set_append_right _ _ (by simp), show 140 - i = (140 - (i + 1)) + 1 by omega, List.replicate_succ, List.length_replicate, Nat.sub_self, List.set_cons_zero, List.replicate_succ' , List.append_assoc]
  rfl
theorem zerQ_full : zerQ 140 = binQ 140 0 := by rw [binQ_zero]; rfl
set_option maxRecDepth 20000 in
set_option maxHeartbeats 8000000 in
theorem decimalBitsQ_any (l : List UInt8) (w : World) (hl : l.length ≤ 100000) (hd : ∀ c ∈ l, dgQ c = true) :
    Calls Tryz.prog 36 #[.string (bsQ l)] w fun e w' => e = .returned (.string (bsQ (decBitsF l 0))) ∧ Below w.heap.size w w' := by
  have hmk : ∀ W : World, (Instr.makeSlice 51 (.int .i64 140) (.int .i64 140)).run Tryz.prog W = _ := run_make_bytes 140 (by omega)
  obtain ⟨F, hF⟩ : ∃ F, (List.replicate 140 (Value.int .u8 0)).toArray = F := ⟨_, rfl⟩
  rw [hF] at hmk
  have HD := hide hd
  clear hd
  have hF0 : F = ((zerQ 0).map u8V).toArray := by rw [← hF]; unfold zerQ; simp [u8V]
  obtain ⟨R, hR⟩ : ∃ R, bsQ (decBitsF l 0) = R := ⟨_, rfl⟩
  have HR := hide hR
  rw [hR]
  clear hR hF
  have HF := hide hF0
  clear hF0
  go_enter Tryz.func36, Tryz.ntmps36
  go_upto_region 3 with fail
  obtain ⟨W1, hW1⟩ : ∃ W1, w.alloc (.cells F 5) = W1 := ⟨_, rfl⟩
  rw [hW1]
  have B1 : Below w.heap.size w W1 := by rw [← hW1]; exact (Below.refl _ _).alloc (Nat.le_refl _) _
  have R1 : BytesAt W1 w.heap.size (zerQ 0) := by rw [← hW1]; unfold BytesAt; rw [← HF.out]; exact Row.new _ _ _
  have HB1 := hide B1
  have HR1 := hide R1
  clear B1 R1 hW1 HF hmk
  obtain ⟨g, hg⟩ : ∃ g, w.heap.size = g := ⟨_, rfl⟩
  rw [hg] at HR1
  have Hg := hide hg
  rw [hg]
  clear hg
  go_loopw [13] (fun v wr => ∃ i : Nat, v = .int .i64 (i : Int) ∧ i ≤ 140 ∧ BytesAt wr g (zerQ i) ∧ Below w.heap.size w wr) (fun v _ => 140 - (intOf v).toNat)
  case atStart => exact ⟨0, rfl, by omega, HR1.out, HB1.out⟩
  case round =>
    obtain ⟨i, rfl, hi, hrow, hb⟩ := hrel
    have Hb := hide hb
    have Hrow := hide hrow
    by_cases hlt : i < 140
    · have hi' : (i : Int) < 140 := by omega
      have hi0 : (0 : Int) ≤ (i : Int) := by omega
      have hwi : IntKind.i64.wrap ((i : Int) + 1) = (i : Int) + 1 := IntWalk.i64_in _ (by omega)
      obtain ⟨v, hc⟩ : ∃ v, wr.cell? ⟨g, i, none⟩ = some v := ⟨_, hrow.cell i (by rw [zerQ_len hi]; exact hlt)⟩
      have hf : wr.frozen? ⟨g, i, none⟩ = false := Row.frozen hrow i
      have HR2 := hide (show BytesAt (wr.setCell ⟨g, i, none⟩ (.int .u8 48)) g (zerQ (i + 1)) by have := hrow.set i 48; rwa [zerQ_set hlt] at this)
      have HB2 := hide (hb.setCell (p := ⟨g, i, none⟩) (by rw [Hg.out]; exact Nat.le_refl _) (.int .u8 48))
      clear hrow hb
      go_wp2
      go_roundw
      case rel => exact ⟨i + 1, by go_num, by omega, HR2.out, HB2.out⟩
      case measure => simp [intOf]; omega
    · have hi' : ¬ (i : Int) < 140 := by omega
      obtain rfl : i = 140 := by omega
      clear hrow hb
      obtain ⟨W2, cap, hcv, hb2, htx, _⟩ := bytes_ofQ wr l
      have hgl : g < wr.heap.size := Row.lt Hrow.out
      have HR2 := hide (show BytesAt W2 g (binQ 140 0) by rw [← zerQ_full]; exact Row.below Hrow.out hb2 hgl)
      have HB2 := hide (Hb.out.trans (hb2.mono Hb.out.size))
      obtain ⟨g2, hg2⟩ : ∃ g2, wr.heap.size = g2 := ⟨_, rfl⟩
      rw [hg2] at hcv htx hgl
      have HT2 := hide (show TextAt W2 g2 l from htx)
      have hz := bsQ_size l
      generalize bsQ l = s at *
      clear htx hb2 hg2 hi
      go_wp2_with fail
      go_loopw [23] (fun v wr => ∃ (i x : Nat), v = .int .i64 (i : Int) ∧ i ≤ l.length ∧ Hid (x < 2 ^ 140) ∧ bsQ (decBitsF (l.drop i) x) = R ∧ BytesAt wr g (binQ 140 x) ∧ TextAt wr g2 l ∧ Below w.heap.size w wr) (fun v _ => l.length - (intOf v).toNat)
      case atStart => exact ⟨0, 0, rfl, by omega, hide (Nat.two_pow_pos 140), HR.out, HR2.out, HT2.out, HB2.out⟩
      case round =>
        obtain ⟨i, x, rfl, hi, Hx, hR, hrow, htx, hb⟩ := hrel
        have Hb := hide hb
        have Hrow := hide hrow
        have Htx := hide htx
        have HR := hide hR
        clear hR
        by_cases hlt : i < l.length
        · have hi' : (i : Int) < (l.length : Int) := by omega
          have hi0 : (0 : Int) ≤ (i : Int) := by omega
          have hwi : IntKind.i64.wrap ((i : Int) + 1) = (i : Int) + 1 := IntWalk.i64_in _ (by omega)
          have hdr : l.drop i = l[i] :: l.drop (i + 1) := List.drop_eq_getElem_cons hlt
          have hdg := HD.out _ (List.getElem_mem hlt)
          obtain ⟨c, hc⟩ : ∃ c, l[i] = c := ⟨_, rfl⟩
          have hcell := htx i hlt
          rw [hc] at hdr hdg hcell
          have hb2 : 48 ≤ c.toNat ∧ c.toNat ≤ 57 := of_decide_eq_true hdg
          obtain ⟨d, hd⟩ : ∃ d, c.toNat = d + 48 := ⟨c.toNat - 48, by omega⟩
          have hd9 : d ≤ 9 := by omega
          rw [hd] at hcell
          have hcell : wr.cell? ⟨g2, i, none⟩ = some (.int .u8 ((d : Int) + 48)) := hcell
          have hw1 : IntKind.u8.wrap (d : Int) = (d : Int) := by rw [IntKind.wrap_u8]; omega
          have hw2 : IntKind.i64.wrap (d : Int) = (d : Int) := IntWalk.i64_in _ (by omega)
          have HDr := hide hdr
          have HDd := hide hd
          clear hdr hc hdg hb2 hd hrow hb htx
          have HP0 := hide (show BytesAt wr g (partQ 140 0 x d) by rw [partQ_zero]; exact Hrow.out)
          have HD9 := hide hd9
          have Hgg := hide (show g2 ≠ g by omega)
          go_wp2_with fail
          go_loopw [7, 8] (fun v7 v8 wq => ∃ k m : Nat, k + m = 140 ∧ v7 = .int .i64 (carryQ k x d : Int) ∧ v8 = .int .i64 ((m : Int) - 1) ∧ BytesAt wq g (partQ 140 k x d) ∧ TextAt wq g2 l ∧ Below w.heap.size w wq) (fun _ v _ => (intOf v + 1).toNat)
          case atStart => exact ⟨0, 140, rfl, by rw [carryQ_zero], by go_num, HP0.out, Htx.out, Hb.out⟩
          case round =>
            obtain ⟨k, m, hkm, rfl, rfl, hrow, htx, hb⟩ := hrel
            have Hb := hide hb
            have Hrow := hide hrow
            have Htx := hide htx
            cases m with
            | succ j =>
              have hjj : ((j + 1 : Nat) : Int) - 1 = (j : Int) := by omega
              rw [hjj]
              have hj0 : (0 : Int) ≤ (j : Int) := by omega
              have hj1 : (j : Int) < 140 := by omega
              have hwj : IntKind.i64.wrap ((j : Int) - 1) = (j : Int) - 1 := IntWalk.i64_in _ (by omega)
              have hjk : 140 - 1 - k = j := by omega
              have hget := partQ_get (N := 140) x d (k := k) (by omega)
              have hset := partQ_set (N := 140) x d (k := k) (by omega)
              rw [hjk] at hget hset
              have hlen := partQ_len (N := 140) (k := k) x d (by omega)
              have hcj := hrow.cell j (by omega)
              have hbit : (partQ 140 k x d)[j]'(by omega) = bitQ (x / 2 ^ k) := by rw [List.getElem?_eq_getElem (by omega)] at hget; exact Option.some.inj hget
              rw [hbit] at hcj
              have hf : wr.frozen? ⟨g, j, none⟩ = false := Row.frozen hrow j
              have HS := hide (fun (u : Int) (hu : u = ((bitQ (sumQ k x d)).toNat : Int)) => show BytesAt (wr.setCell ⟨g, j, none⟩ (.int .u8 u)) g (partQ 140 (k + 1) x d) by have := hrow.set j (bitQ (sumQ k x d)); rw [hset] at this; rw [hu]; exact this)
              have HK := hide (sumQ_carry k x d)
              have hq := carryQ_le k x HD9.out
              have HSu := hide (show sumQ k x d = 10 * (x / 2 ^ k % 2) + carryQ k x d from rfl)
              generalize carryQ k x d = q at *
              generalize sumQ k x d = n at *
              rcases Nat.mod_two_eq_zero_or_one (x / 2 ^ k) with hb2 | hb2
              · have hcv : wr.cell? ⟨g, j, none⟩ = some (.int .u8 48) := by rw [hcj]; unfold bitQ; rw [if_neg (by omega)]; rfl
                have HN := hide (show n = q by rw [HSu.out, hb2]; omega)
                clear hb2 hcj hbit hget hset hlen hrow hb htx hjj
                have hn : n = q := HN.out
                subst hn
                have hwq : IntKind.i64.wrap (n : Int) = (n : Int) := IntWalk.i64_in _ (by omega)
                have HBn := hide (bitQ_int n)
                clear HSu HN
                go_wp2
                go_roundw
                case rel => exact ⟨k + 1, j, by omega, (by rw [HK.out]; first | done | rfl), rfl, HS.out _ (HBn.out), Htx.out.far Hgg.out _ _, Hb.out.setCell (p := ⟨g, j, none⟩) (by rw [Hg.out]; exact Nat.le_refl _) _⟩
                case measure => simp [intOf]
              · have hcv : wr.cell? ⟨g, j, none⟩ = some (.int .u8 49) := by rw [hcj]; unfold bitQ; rw [if_pos (by omega)]; rfl
                have HN := hide (show n = 10 + q by rw [HSu.out, hb2])
                clear hb2 hcj hbit hget hset hlen hrow hb htx hjj
                have hn : n = 10 + q := HN.out
                have hwq : IntKind.i64.wrap (10 + (q : Int)) = (n : Int) := by rw [hn]; exact IntWalk.i64_in _ (by omega)
                have HBn := hide (bitQ_int n)
                have hn19 : (n : Int) ≤ 19 := by omega
                clear HSu HN hn
                go_wp2
                go_roundw
                case rel => exact ⟨k + 1, j, by omega, (by rw [HK.out]; first | done | rfl), rfl, HS.out _ (HBn.out), Htx.out.far Hgg.out _ _, Hb.out.setCell (p := ⟨g, j, none⟩) (by rw [Hg.out]; exact Nat.le_refl _) _⟩
                case measure => simp [intOf]
            | zero =>
              obtain rfl : k = 140 := by omega
              have hz0 : ((0 : Nat) : Int) - 1 = -1 := rfl
              rw [hz0]
              have HF := hide (partQ_full 140 x d)
              have hq := carryQ_le 140 x HD9.out
              have HDec := hide (dec_step c (l.drop (i + 1)) x d HDd.out Hx.out)
              generalize carryQ 140 x d = q at *
              clear hrow hb htx hkm
              by_cases hq0 : q = 0
              · have hqq : ¬ (0 : Int) < (q : Int) := by omega
                have HR3 := hide (show bsQ (decBitsF (l.drop (i + 1)) (10 * x + d)) = R by rw [← HR.out, HDr.out, (HDec.out.1 hq0).2])
                have HX3 := hide (HDec.out.1 hq0).1
                go_wp2
                go_roundw
                case rel => exact ⟨i + 1, 10 * x + d, by go_num, by omega, HX3, HR3.out, by rw [← HF.out]; exact Hrow.out, Htx.out, Hb.out⟩
                case measure => simp [intOf]; omega
              · have hqq : (0 : Int) < (q : Int) := by omega
                have HR3 := hide (show bsQ (49 :: binQ 140 (10 * x + d)) = R by rw [← HR.out, HDr.out, HDec.out.2 hq0])
                have hrow3 : BytesAt wr g (binQ 140 (10 * x + d)) := by rw [← HF.out]; exact Hrow.out
                have hlen3 := binQ_len 140 (10 * x + d)
                generalize binQ 140 (10 * x + d) = X at *
                have hstr := hrow3.str 140
                rw [hlen3] at hstr
                have y1 : ∀ W : World, (Op.stringOp .add ⟨#[49]⟩ (bsQ X)).run Tryz.prog W = .ok (.string R) W := fun W => by
                  rw [← HR3.out]
                  exact catQ [49] X (by rw [hlen3]; decide) W
                generalize bsQ X = S at *
                clear HR3 hrow3 hlen3 HF
                go_wp2
                go_ret
                exact ⟨rfl, Hb.out⟩
        · have hi' : ¬ (i : Int) < (l.length : Int) := by omega
          have hrow3 := hrow
          have hlen3 := binQ_len 140 x
          have hR2 : bsQ (binQ 140 x) = R := by
            rw [← HR.out, List.drop_eq_nil_of_le (by omega)]
            unfold decBitsF
            rfl
          clear hrow
          generalize binQ 140 x = X at *
          have hstr := hrow3.str 140
          rw [hlen3, hR2] at hstr
          clear hR2 hrow3 hlen3 Hrow hb htx Hx
          go_wp2
          go_ret
          exact ⟨rfl, Hb.out⟩
end Go.Proofs.YtjlpekjfmgcbdaaGreatDoor

/- Contracts of strings.Builder's WriteByte and WriteString beside a row of bytes of the call's own: nothing but the builder's block and its buffer is written. -/
set_option linter.unusedVariables false
set_option linter.unusedSimpArgs false
namespace Go.Proofs.YtjlpekjfmgcbdaaGreatDoor
open Go.RowKit Go.Shelf
/-- a builder in block b whose buffer lies behind B -/
def BX (w : World) (b B : Nat) (l : List UInt8) : Prop :=
  b < B ∧ B ≤ w.heap.size ∧ ∃ p v, w.heap[b]? = some (.cells #[p, v] 65 (0, 0)) ∧ (p = .pointer none ∨ p = .pointer (some ⟨b, 0, none⟩)) ∧ w.ownsRow B 5 1 v l.length (Lib.byteCells l)
/-- blocks below B other than b are kept -/
def ButB (b B : Nat) (w w' : World) : Prop := Below b w w' ∧ (∀ k, k < B → k ≠ b → w'.heap[k]? = w.heap[k]?) ∧ ∀ k, k < w.heap.size → k ≠ b → (∀ cs t, w.heap[k]? ≠ some (.cells cs t (0, 0))) → w'.heap[k]? = w.heap[k]?
theorem ButB.refl (b B : Nat) (w : World) : ButB b B w w := ⟨Below.refl _ _, fun _ _ _ => rfl, fun _ _ _ _ => rfl⟩
theorem ButB.trans {b B : Nat} {a c d : World} (h : ButB b B a c) (k : ButB b B c d) : ButB b B a d := ⟨h.1.trans k.1, fun i h1 h2 => (k.2.1 i h1 h2).trans (h.2.1 i h1 h2), fun i h1 h2 h3 => by
  have e := h.2.2 i h1 h2 h3
  exact (k.2.2 i (Nat.lt_of_lt_of_le h1 h.1.size) h2 (by rw [e]; exact h3)).trans e⟩
theorem own_marks {w : World} {B : Nat} {e : TypeId} {v : Value} {n : Nat} {xs : List Value} (hown : w.ownsRow B e 1 v n xs) {k : Nat} (hk : ∀ cs t, w.heap[k]? ≠ some (.cells cs t (0, 0))) : some k ≠ v.ownBlock := by
  intro e
  obtain ⟨_, h6 | ⟨g, cap, cur, rfl, hg, h7, _⟩⟩ := hown
  · rw [h6.1] at e; cases e
  · have : k = g := by simpa [Value.ownBlock] using e
    subst this
    exact hk _ _ h7
/-- the bytes of a text that was turned into a slice: its block bears marks -/
def TextM (w : World) (g : Nat) (l : List UInt8) : Prop := g < w.heap.size ∧ (∀ cs t, w.heap[g]? ≠ some (.cells cs t (0, 0))) ∧ TextAt w g l
theorem TextM.below {w w' : World} {g B : Nat} {l : List UInt8} (h : TextM w g l) (hb : Below B w w') (hg : g < B) : TextM w' g l :=
  ⟨Nat.lt_of_lt_of_le h.1 hb.size, by rw [hb.block g hg]; exact h.2.1, h.2.2.below hb hg⟩
theorem ButB.textM {b B : Nat} {w w' : World} (h : ButB b B w w') {g : Nat} {l : List UInt8} (ht : TextM w g l) (hgb : g ≠ b) : TextM w' g l := by
  have e := h.2.2 g ht.1 hgb ht.2.1
  exact ⟨Nat.lt_of_lt_of_le ht.1 h.1.size, by rw [e]; exact ht.2.1, fun i hi => (World.cell?_of_block (w := w) (a := ⟨g, i, none⟩) e).trans (ht.2.2 i hi)⟩
theorem ButB.text {b B : Nat} {w w' : World} (h : ButB b B w w') {g : Nat} {l : List UInt8} (ht : TextAt w g l) (hg : g < B) (hgb : g ≠ b) : TextAt w' g l := fun i hi =>
  (World.cell?_of_block (w := w) (a := ⟨g, i, none⟩) (h.2.1 g hg hgb)).trans (ht i hi)
theorem BX.fresh {w : World} {b B : Nat} (hb : w.heap[b]? = some (.cells #[.pointer none, .slice none 0 0] 65 (0, 0))) (h1 : b < B) (h2 : B ≤ w.heap.size) : BX w b B [] :=
  ⟨h1, h2, _, _, hb, .inl rfl, rfl, .inl ⟨rfl, rfl⟩⟩
theorem BX.below {w w' : World} {b B : Nat} {l : List UInt8} (h : BX w b B l) (hb : Below w.heap.size w w') : BX w' b B l := by
  obtain ⟨h1, h2, p, v, h3, h4, h5⟩ := h
  exact ⟨h1, Nat.le_trans h2 hb.size, p, v, (hb.block b (by omega)).trans h3, h4, ownsRow_below h5 hb⟩
theorem copyQ (b : Nat) (p v : Value) (w : World) (hb : w.heap[b]? = some (.cells #[p, v] 65 (0, 0))) (hp : p = .pointer none ∨ p = .pointer (some ⟨b, 0, none⟩)) :
    Calls Tryz.prog 75 #[.pointer (some ⟨b, 0, none⟩)] w fun e w' => e = .returned (.tuple #[]) ∧ w'.heap[b]? = some (.cells #[.pointer (some ⟨b, 0, none⟩), v] 65 (0, 0)) ∧ ∃ q, w' = w ∨ w' = w.setCell ⟨b, 0, none⟩ q := by
  rcases hp with rfl | rfl
  · refine (Any.Builder_copyCheck_fresh { Tryz.laysB167 with } Tryz.BuilderB_Extra_167.toX72 b w (by rw [Lib.cell_of_heap hb]; rfl) (by simp [World.shape?, hb]; rfl) (Lib.frozen_of_heap hb 0)).mono ?_
    rintro e w' ⟨rfl, rfl⟩
    exact ⟨rfl, by simp [World.setCell, Array.getElem?_modify, hb], _, .inr rfl⟩
  · refine (Any.Builder_copyCheck_used { Tryz.laysB167 with } Tryz.BuilderB_Extra_167.toX72 b w (by rw [Lib.cell_of_heap hb]; rfl)).mono ?_
    rintro e w' ⟨rfl, rfl⟩
    exact ⟨rfl, hb, .pointer none, .inl rfl⟩
theorem copyX (b B : Nat) (l : List UInt8) (w : World) (h : BX w b B l) :
    Calls Tryz.prog 75 #[.pointer (some ⟨b, 0, none⟩)] w fun e w' => e = .returned (.tuple #[]) ∧ B ≤ w'.heap.size ∧ ButB b B w w' ∧ ∃ v, w'.heap[b]? = some (.cells #[.pointer (some ⟨b, 0, none⟩), v] 65 (0, 0)) ∧ w'.ownsRow B 5 1 v l.length (Lib.byteCells l) := by
  obtain ⟨h1, h2, p, v, h3, h4, h5⟩ := h
  refine (copyQ b p v w h3 h4).mono ?_
  rintro e w' ⟨rfl, hb, q, rfl | rfl⟩
  · exact ⟨rfl, h2, ButB.refl _ _ _, v, hb, h5⟩
  · refine ⟨rfl, by simpa [World.setCell] using h2, ⟨(Below.refl _ _).setCell (p := ⟨b, 0, none⟩) (Nat.le_refl _) _, fun k _ hk => Below.heap_setCell _ _ _ _ hk, fun k _ hk _ => Below.heap_setCell _ _ _ _ hk⟩, v, hb, ?_⟩
    refine World.ownsRow.kept (row := some b) h5 ⟨rfl, rfl, rfl, by simp [World.setCell], fun k _ hk => Below.heap_setCell _ _ _ _ (fun e => hk (by simp [e]))⟩ (.inr ?_)
    intro e
    obtain ⟨_, h6 | ⟨g, cap, cur, rfl, hg, _⟩⟩ := h5
    · rw [h6.1] at e; cases e
    · have : g = b := by simpa [Value.ownBlock] using e
      omega
theorem BX.put {w : World} {b B : Nat} {p v v' : Value} {l' : List UInt8} (h1 : b < B) (h2 : B ≤ w.heap.size) (hb : w.heap[b]? = some (.cells #[p, v] 65 (0, 0))) (hp : p = .pointer none ∨ p = .pointer (some ⟨b, 0, none⟩))
    (hown : w.ownsRow B 5 1 v' l'.length (Lib.byteCells l')) : BX (w.setCell ⟨b, 1, none⟩ v') b B l' := by
  refine ⟨h1, by simpa [World.setCell] using h2, p, v', by simp [World.setCell, Array.getElem?_modify, hb], hp, ?_⟩
  refine World.ownsRow.kept (row := some b) hown ⟨rfl, rfl, rfl, by simp [World.setCell], fun k _ hk => Below.heap_setCell _ _ _ _ (fun e => hk (by simp [e]))⟩ (.inr ?_)
  intro e
  obtain ⟨_, h6 | ⟨g, cap, cur, rfl, hg, _⟩⟩ := hown
  · rw [h6.1] at e; cases e
  · have : g = b := by simpa [Value.ownBlock] using e
    omega
theorem own_not {w : World} {b B : Nat} {v : Value} {n : Nat} {xs : List Value} (hown : w.ownsRow B 5 1 v n xs) {k : Nat} (hk : k < B) : some k ≠ v.ownBlock := by
  intro e
  obtain ⟨_, h6 | ⟨g, cap, cur, rfl, hg, _⟩⟩ := hown
  · rw [h6.1] at e; cases e
  · have : k = g := by simpa [Value.ownBlock] using e
    omega
theorem byteCells_snoc (l : List UInt8) (c : UInt8) : Lib.byteCells l ++ [.int .u8 (c.toNat : Int)] = Lib.byteCells (l ++ [c]) := by unfold Lib.byteCells; simp
theorem byteCells_app (l m : List UInt8) : Lib.byteCells l ++ Lib.strCells (bsQ m) = Lib.byteCells (l ++ m) := by unfold Lib.byteCells Lib.strCells; rw [bsQ_list]; simp
set_option maxHeartbeats 2000000 in
set_option maxRecDepth 100000 in
theorem writeByteQ (b B : Nat) (l : List UInt8) (c : UInt8) (w : World) (h : BX w b B l) (hlen : l.length + 1 ≤ 1000000000) :
    Calls Tryz.prog 48 #[.pointer (some ⟨b, 0, none⟩), .int .u8 (c.toNat : Int)] w fun e w' => e = .returned .nilIface ∧ BX w' b B (l ++ [c]) ∧ ButB b B w w' := by
  obtain ⟨i0, hi, hz0, hz1, hz2⟩ := infoQ_parts infoByteQ
  have C := hide (copyX b B l w h)
  have hbB := h.1
  clear h
  go_enter Tryz.func48, Tryz.ntmps48
  go_wp2_with fail
  refine C.out.mono ?_
  rintro e w1 ⟨rfl, hBs, hbut, v, hbk, hown⟩
  have c1 : w1.cell? ⟨b, 1, none⟩ = some v := by rw [Lib.cell_of_heap hbk]; rfl
  have hlt : b < w1.heap.size := by omega
  go_wp2_with (at_builtin; refine wpList_append_own _ rfl _ _ 51 rfl B 5 i0 (.int .u8 0) 1 1 Tryz.underlying51 hi hz0 hz1 hz2 rfl (by decide) _ _ _ rfl (hown.alloc _) ⟨w1.heap.size, 0, none⟩ 1 1 [.int .u8 (c.toNat : Int)] rfl rfl ?c1 ?c2 ?c3 ?c4 ?c5 ?_)
  case c1 =>
    intro j u hj
    match j, hj with
    | 0, hj => simp at hj; subst hj; simp [Addr.add]
  case c2 => intro u hu; simp at hu; subst hu; rfl
  case c3 => unfold maxLen; omega
  case c4 => omega
  case c5 => simp; omega
  intro v' w2 hown' hgrow _
  have hk2 : ∀ k, k < B → w2.heap[k]? = w1.heap[k]? := fun k hk => by
    rw [hgrow.block k (by simp; omega) (own_not (b := b) hown hk), Lib.alloc_old w1 _ k (by omega)]
  have hb2 := (hk2 b hbB).trans hbk
  have d1 : w2.cell? ⟨b, 1, none⟩ = some v := by rw [Lib.cell_of_heap hb2]; rfl
  have f1 : w2.frozen? ⟨b, 1, none⟩ = false := Lib.frozen_of_heap hb2 1
  obtain ⟨g, cap, rfl⟩ : ∃ g cap, v' = .slice (some ⟨g, 0, none⟩) (l.length + 1) cap := by
    rcases hown'.2 with ⟨_, h0⟩ | ⟨g, cap, cur, hv, _⟩
    · omega
    · exact ⟨g, cap, hv⟩
  have hsz : w1.heap.size ≤ w2.heap.size := by have := hgrow.size; simp at this; omega
  have HF := hide (show ButB b B w w2 from hbut.trans ⟨((Below.refl w1.heap.size w1).alloc (Nat.le_refl _) _ |>.mono (by omega)).grown hgrow (by simp; omega) (fun k hk => by have := (hown.lt k hk).1; omega), fun k hk _ => hk2 k hk, fun k hk _ hm => by rw [hgrow.block k (by simp; omega) (own_marks hown hm), Lib.alloc_old w1 _ k hk]⟩)
  have HO := hide (show BX (w2.setCell ⟨b, 1, none⟩ (.slice (some ⟨g, 0, none⟩) (l.length + 1) cap)) b B (l ++ [c]) from BX.put hbB (by omega) hb2 (.inr rfl) (by rw [byteCells_snoc] at hown'; simpa using hown'))
  clear hown hown' hgrow hk2 hb2 hbk hbut
  go_wp2
  go_ret
  exact ⟨rfl, HO.out, HF.out.trans ⟨(Below.refl _ _).setCell (p := ⟨b, 1, none⟩) (Nat.le_refl _) _, fun k _ hk => Below.heap_setCell _ _ _ _ hk, fun k _ hk _ => Below.heap_setCell _ _ _ _ hk⟩⟩
set_option maxHeartbeats 2000000 in
set_option maxRecDepth 100000 in
theorem writeStringQ (b B : Nat) (l m : List UInt8) (w : World) (h : BX w b B l) (hlen : l.length + m.length ≤ 1000000000) :
    Calls Tryz.prog 49 #[.pointer (some ⟨b, 0, none⟩), .string (bsQ m)] w fun e w' => (∃ v, e = .returned v) ∧ BX w' b B (l ++ m) ∧ ButB b B w w' := by
  obtain ⟨i0, hi, hz0, hz1, hz2⟩ := infoQ_parts infoByteQ
  have C := hide (copyX b B l w h)
  have hbB := h.1
  have HX := hide (byteCells_app l m)
  have hsm := bsQ_size m
  generalize bsQ m = s at *
  clear h
  go_enter Tryz.func49, Tryz.ntmps49
  go_wp2_with fail
  refine C.out.mono ?_
  rintro e w1 ⟨rfl, hBs, hbut, v, hbk, hown⟩
  have c1 : w1.cell? ⟨b, 1, none⟩ = some v := by rw [Lib.cell_of_heap hbk]; rfl
  have hlt : b < w1.heap.size := by omega
  go_wp2_with (at_builtin; refine Lib.wpList_append_own_string _ rfl _ _ 51 9 rfl B 5 i0 Tryz.underlying51 Tryz.underlying9 hi hz0 hz1 hz2 _ _ _ rfl hown s rfl ?c3 ?c4 ?c5 ?_)
  case c3 => unfold maxLen; omega
  case c4 => omega
  case c5 => omega
  intro v' w2 hown' hgrow _
  have hk2 : ∀ k, k < B → w2.heap[k]? = w1.heap[k]? := fun k hk => hgrow.block k (by omega) (own_not (b := b) hown hk)
  have hb2 := (hk2 b hbB).trans hbk
  have d1 : w2.cell? ⟨b, 1, none⟩ = some v := by rw [Lib.cell_of_heap hb2]; rfl
  have f1 : w2.frozen? ⟨b, 1, none⟩ = false := Lib.frozen_of_heap hb2 1
  obtain ⟨ao, n', cap, rfl⟩ : ∃ ao n' cap, v' = .slice ao n' cap := by
    rcases hown'.2 with ⟨hv, _⟩ | ⟨g, cap, cur, hv, _⟩
    · exact ⟨_, _, _, hv⟩
    · exact ⟨_, _, _, hv⟩
  have hsz : w1.heap.size ≤ w2.heap.size := hgrow.size
  have HF := hide (show ButB b B w w2 from hbut.trans ⟨((Below.refl w1.heap.size w1).mono (by omega)).grown hgrow (by omega) (fun k hk => by have := (hown.lt k hk).1; omega), fun k hk _ => hk2 k hk, fun k hk _ hm => hgrow.block k hk (own_marks hown hm)⟩)
  have HO := hide (show BX (w2.setCell ⟨b, 1, none⟩ (.slice ao n' cap)) b B (l ++ m) from BX.put hbB (by omega) hb2 (.inr rfl) (by rw [HX.out] at hown'; rw [List.length_append]; exact hown'))
  clear hown hown' hgrow hk2 hb2 hbk hbut
  go_wp2
  go_ret2
  exact ⟨⟨_, rfl⟩, HO.out, HF.out.trans ⟨(Below.refl _ _).setCell (p := ⟨b, 1, none⟩) (Nat.le_refl _) _, fun k _ hk => Below.heap_setCell _ _ _ _ hk, fun k _ hk _ => Below.heap_setCell _ _ _ _ hk⟩⟩
theorem stringQ (b B : Nat) (l : List UInt8) (w : World) (h : BX w b B l) :
    Calls Tryz.prog 50 #[.pointer (some ⟨b, 0, none⟩)] w fun e w' => e = .returned (.string (bsQ l)) ∧ Below b w w' := by
  obtain ⟨h1, h2, p, v, h3, h4, h5⟩ := h
  have hne : v.ownBlock ≠ some b := fun e => own_not (b := b) h5 h1 e.symm
  refine Tryz.Builder_String_any b b l w ?_ (by omega)
  rcases h4 with rfl | rfl
  · exact .inl ⟨Nat.le_refl _, v, h3, by rw [Lib.byteCells_length]; exact ownsRow_mono h5 (by omega), hne⟩
  · exact .inr ⟨Nat.le_refl _, v, h3, by rw [Lib.byteCells_length]; exact ownsRow_mono h5 (by omega), hne⟩
end Go.Proofs.YtjlpekjfmgcbdaaGreatDoor

/- Contract of qlex's spelled. -/
set_option linter.unusedVariables false
set_option linter.unusedSimpArgs false
namespace Go.Proofs.YtjlpekjfmgcbdaaGreatDoor
open Go.RowKit Go.Shelf
theorem spellQ_yes (k : Nat) {c : UInt8} (t : List UInt8) (h : unkQ c ≠ 0) : spellQ k (c :: t) = List.replicate k (unkQ c) ++ spellQ k t := by
  unfold spellQ; rw [List.flatMap_cons, if_pos h]
theorem spellQ_no (k : Nat) {c : UInt8} (t : List UInt8) (h : unkQ c = 0) : spellQ k (c :: t) = binQ k (hexQ c).toNat ++ spellQ k t := by
  unfold spellQ; rw [List.flatMap_cons, if_neg (fun e => e h)]
theorem spellQ_len (k : Nat) : ∀ l : List UInt8, (spellQ k l).length = k * l.length
  | [] => rfl
  | c :: t => by
    by_cases h : unkQ c = 0
    · rw [spellQ_no k t h, List.length_append, binQ_len, spellQ_len k t, List.length_cons, Nat.mul_succ]; omega
    · rw [spellQ_yes k t h, List.length_append, List.length_replicate, spellQ_len k t, List.length_cons, Nat.mul_succ]; omega
theorem and_bit (x j : Nat) (h : x ≤ 15) : wrap64 (48 + bits .and .i64 ((x : Int) / 2 ^ j) 1) % 256 = ((bitQ (x / 2 ^ j)).toNat : Int) := by
  have e : (x : Int) / 2 ^ j = ((x / 2 ^ j : Nat) : Int) := by simp
  rw [e]
  have hle : x / 2 ^ j < 16 := Nat.lt_of_le_of_lt (Nat.div_le_self _ _) (by omega)
  have h2 : ∀ y : Fin 16, wrap64 (48 + bits .and .i64 (y.val : Int) 1) % 256 = ((bitQ y.val).toNat : Int) := by decide +kernel
  exact h2 ⟨_, hle⟩
theorem unk_zero {c : UInt8} (h : unkQ c = 0) : ((unkQ c).toNat : Int) = 0 := by rw [h]; rfl
set_option maxRecDepth 20000 in
set_option maxHeartbeats 8000000 in
theorem spelledQ_any (l : List UInt8) (k : Nat) (w : World) (hl : l.length ≤ 100000) (hk : k ≤ 4) (hd : ∀ c ∈ l, unkQ c ≠ 0 ∨ 0 ≤ hexQ c) :
    Calls Tryz.prog 37 #[.string (bsQ l), .int .i64 (k : Int)] w fun e w' => e = .returned (.string (bsQ (spellQ k l))) ∧ Below w.heap.size w w' := by
  have HD := hide hd
  clear hd
  obtain ⟨RL, hRL⟩ : ∃ R, spellQ k l = R := ⟨_, rfl⟩
  have hRlen : RL.length ≤ 400000 := by rw [← hRL, spellQ_len]; have := Nat.mul_le_mul hk hl; omega
  have HR := hide hRL
  rw [hRL]
  clear hRL
  go_enter Tryz.func37, Tryz.ntmps37
  go_upto_region 2 with fail
  obtain ⟨W1, hW1⟩ : ∃ W1, w.alloc (.cells #[.pointer none, .slice none 0 0] 65) = W1 := ⟨_, rfl⟩
  rw [hW1]
  obtain ⟨W2, cap, hcv, hb2, htx, hs2⟩ := bytes_ofQ W1 l
  obtain ⟨b, hb⟩ : ∃ b, w.heap.size = b := ⟨_, rfl⟩
  have hs1 : W1.heap.size = b + 1 := by rw [← hW1, ← hb]; simp
  have hk1 : W1.heap[b]? = some (.cells #[.pointer none, .slice none 0 0] 65 (0, 0)) := by rw [← hW1, ← hb]; exact World.alloc_heap_new _ _
  rw [hs1] at hs2 htx hcv
  have HT := hide (show TextAt W2 (b + 1) l from htx)
  have HX := hide (show BX W2 b (b + 2) [] from BX.fresh ((hb2.block b (by omega)).trans hk1) (by omega) (by omega))
  have HB := hide (show Below w.heap.size w W2 from ((show Below w.heap.size w W1 by rw [← hW1]; exact (Below.refl _ _).alloc (Nat.le_refl _) _)).trans (hb2.mono (by omega)))
  have Hb := hide (show w.heap.size ≤ b by omega)
  have hz := bsQ_size l
  rw [hb]
  generalize bsQ l = s at *
  clear htx hk1 hs1 hs2 hb2 hW1 hb
  go_wp2_with fail
  go_loopw [13] (fun v wr => ∃ (i : Nat) (P : List UInt8), v = .int .i64 (i : Int) ∧ i ≤ l.length ∧ P ++ spellQ k (l.drop i) = RL ∧ BX wr b (b + 2) P ∧ TextAt wr (b + 1) l ∧ Below w.heap.size w wr) (fun v _ => l.length - (intOf v).toNat)
  case atStart => exact ⟨0, [], rfl, by omega, HR.out, HX.out, HT.out, HB.out⟩
  case round =>
    obtain ⟨i, P, rfl, hi, hP, hx, htx, hb⟩ := hrel
    have HX := hide hx
    have Hb2 := hide hb
    have Htx := hide htx
    have HP := hide hP
    clear hP hx hb
    by_cases hlt : i < l.length
    · have hi' : (i : Int) < (l.length : Int) := by omega
      have hi0 : (0 : Int) ≤ (i : Int) := by omega
      have hwi : IntKind.i64.wrap ((i : Int) + 1) = (i : Int) + 1 := IntWalk.i64_in _ (by omega)
      have hdr : l.drop i = l[i] :: l.drop (i + 1) := List.drop_eq_getElem_cons hlt
      have hdg := HD.out _ (List.getElem_mem hlt)
      obtain ⟨c, hc⟩ : ∃ c, l[i] = c := ⟨_, rfl⟩
      have hcell : wr.cell? ⟨b + 1, i, none⟩ = some (.int .u8 (l[i].toNat : Int)) := htx i hlt
      rw [hc] at hdr hdg hcell
      have HDr := hide hdr
      have U := hide (unknownQ_any c)
      have HPl := hide (show P.length ≤ 400000 by have := congrArg List.length HP.out; rw [List.length_append] at this; omega)
      clear hdr hc htx
      by_cases hu : unkQ c = 0
      · have hh : 0 ≤ hexQ c := hdg.resolve_left (fun h => h hu)
        have hh2 := (hexQ_range c).2
        have H := hide (hexQ_any c)
        obtain ⟨x, hx⟩ : ∃ x : Nat, hexQ c = x := ⟨(hexQ c).toNat, by omega⟩
        have hHS := spellQ_no k (l.drop (i + 1)) hu
        rw [← HDr.out, hx, Int.toNat_natCast] at hHS
        rw [hx] at H hh2
        have HHS := hide hHS
        rw [hu] at U
        clear hu hh hdg hx hHS
        have U := hide (fun W : World => (show Calls Tryz.prog 34 #[.int .u8 (c.toNat : Int)] W fun e w' => e = .returned (.int .u8 0) ∧ w' = W from U.out W))
        have hwk : IntKind.i64.wrap ((k : Int) - 1) = (k : Int) - 1 := IntWalk.i64_in _ (by omega)
        go_wp2_with fail
        refine (U.out _).mono ?_
        rintro e wx ⟨rfl, rfl⟩
        go_wp2_with fail
        go_loopw [9] (fun v wr => ∃ (m : Nat) (P2 : List UInt8), v = .int .i64 ((m : Int) - 1) ∧ m ≤ k ∧ P2 ++ binQ m x = P ++ binQ k x ∧ BX wr b (b + 2) P2 ∧ TextAt wr (b + 1) l ∧ Below w.heap.size w wr) (fun v _ => (intOf v + 1).toNat)
        case atStart => exact ⟨k, P, rfl, Nat.le_refl _, rfl, HX.out, Htx.out, Hb2.out⟩
        case round =>
          obtain ⟨m, P2, rfl, hm, hP2, hx, htx, hb⟩ := hrel
          have HX := hide hx
          have Hb2 := hide hb
          have Htx := hide htx
          have HP2 := hide hP2
          clear hP2 hx hb htx
          cases m with
          | succ j =>
            have hjj : ((j + 1 : Nat) : Int) - 1 = (j : Int) := by omega
            rw [hjj]
            have hj0 : (0 : Int) ≤ (j : Int) := by omega
            have hwj : IntKind.i64.wrap ((j : Int) - 1) = (j : Int) - 1 := IntWalk.i64_in _ (by omega)
            go_wp2_with fail
            refine (H.out _).mono ?_
            rintro e wy ⟨rfl, rfl⟩
            go_wp2_with fail
            have W := hide (writeByteQ b (b + 2) P2 (bitQ (x / 2 ^ j)) wy HX.out (by have := congrArg List.length HP2.out; rw [List.length_append, List.length_append, binQ_len, binQ_len] at this; have := HPl.out; omega))
            rw [← and_bit x j (by omega)] at W
            refine W.out.mono ?_
            rintro e wz ⟨rfl, hx, hbut⟩
            have HX3 := hide hx
            have Htx3 := hide (hbut.text Htx.out (by omega) (by omega))
            have Hb3 := hide (Hb2.out.trans (hbut.1.mono Hb.out))
            have HP3 := hide (show (P2 ++ [bitQ (x / 2 ^ j)]) ++ binQ j x = P ++ binQ k x by rw [← HP2.out, binQ_front, List.append_assoc]; rfl)
            clear hx hbut
            go_wp2
            go_roundw
            case rel => exact ⟨j, _, rfl, by omega, HP3.out, HX3.out, Htx3.out, Hb3.out⟩
            case measure => simp [intOf]
          | zero =>
            have hz0 : ((0 : Nat) : Int) - 1 = -1 := rfl
            rw [hz0]
            have HP3 := hide (show P2 ++ spellQ k (l.drop (i + 1)) = RL by rw [← HP.out, HHS.out, ← List.append_assoc, ← HP2.out]; unfold binQ; rw [List.append_nil])
            go_wp2
            go_roundw
            case rel => exact ⟨i + 1, P2, by go_num, by omega, HP3.out, HX.out, Htx.out, Hb2.out⟩
            case measure => simp [intOf]; omega
      · have hHS := spellQ_yes k (l.drop (i + 1)) hu
        rw [← HDr.out] at hHS
        have HHS := hide hHS
        have hu2 : ((unkQ c).toNat : Int) ≠ 0 := fun e => hu (UInt8.toNat_inj.1 (by show (unkQ c).toNat = 0; omega))
        have R := hide (fun W : World => repeatedQ_any (unkQ c) k W (by omega))
        rw [show ((k : Int)).toNat = k from rfl] at R
        generalize hU : unkQ c = u at *
        have e1 : ((u.toNat : Int) == 0) = false := beq_eq_false_iff_ne.2 hu2
        have e2 : ((u.toNat : Int) != 0) = true := by rw [bne, e1]; rfl
        clear hHS hu hU hdg hu2
        go_wp2_with fail
        refine (U.out _).mono ?_
        rintro e wx ⟨rfl, rfl⟩
        go_wp2_with fail
        refine (R.out _).mono ?_
        rintro e wy ⟨rfl, hb3⟩
        have W := hide (writeStringQ b (b + 2) P (List.replicate k u) wy (HX.out.below hb3) (by rw [List.length_replicate]; have := HPl.out; omega))
        have Htx2 := hide (Htx.out.below hb3 (by have := HX.out.2.1; omega))
        have Hb3 := hide (Hb2.out.trans (hb3.mono Hb2.out.size))
        clear hb3
        go_wp2_with fail
        refine W.out.mono ?_
        rintro e wz ⟨⟨vv, rfl⟩, hx, hbut⟩
        have HX3 := hide hx
        have Htx3 := hide (hbut.text Htx2.out (by omega) (by omega))
        have Hb4 := hide (Hb3.out.trans (hbut.1.mono Hb.out))
        have HP3 := hide (show (P ++ List.replicate k u) ++ spellQ k (l.drop (i + 1)) = RL by rw [← HP.out, HHS.out, List.append_assoc])
        clear hx hbut
        go_wp2
        go_roundw
        case rel => exact ⟨i + 1, _, by go_num, by omega, HP3.out, HX3.out, Htx3.out, Hb4.out⟩
        case measure => simp [intOf]; omega
    · have hi' : ¬ (i : Int) < (l.length : Int) := by omega
      have hPR : P = RL := by rw [← HP.out, List.drop_eq_nil_of_le (by omega)]; show P = P ++ []; rw [List.append_nil]
      have S := hide (stringQ b (b + 2) P wr HX.out)
      rw [hPR] at S
      clear hPR htx
      go_wp2_with fail
      refine S.out.mono ?_
      rintro e wz ⟨rfl, hb3⟩
      go_wp2
      go_ret
      exact ⟨rfl, Hb2.out.trans (hb3.mono Hb.out)⟩
end Go.Proofs.YtjlpekjfmgcbdaaGreatDoor

/- Plain: what Bits makes of width, base and digits. -/
set_option linter.unusedVariables false
set_option linter.unusedSimpArgs false
namespace Go.Proofs.YtjlpekjfmgcbdaaGreatDoor
open Go.RowKit Go.Shelf
def fitQ (w : Nat) (u : UInt8) (out : List UInt8) : List UInt8 × Int :=
  if out.length < w then (List.replicate (w - out.length) (if u ≠ 0 then u else 48) ++ out, 0)
  else if (out.take (out.length - w)).all (· == 48) then (out.drop (out.length - w), 0) else ([], 8)
def outQ (b : UInt8) (ds : List UInt8) : List UInt8 := if b = 100 then decBitsF ds 0 else spellQ ((baseQ b).getD 0) ds
/-- the bits of a constant whose width, base and digits are known -/
def bitsW (d : List UInt8) (b : UInt8) (ds : List UInt8) : List UInt8 × Int :=
  if b = 100 ∧ ¬ (ds.length = 1 ∧ unkQ (ds.headD 0) ≠ 0) ∧ spn dgQ ds < ds.length then ([], 3) else
  if widthQ d < 1 ∨ 128 < widthQ d then ([], 8) else
  if b = 100 ∧ ds.length = 1 ∧ unkQ (ds.headD 0) ≠ 0 then (List.replicate (widthQ d) (unkQ (ds.headD 0)), 0) else
  fitQ (widthQ d) (unkQ (ds.headD 0)) (outQ b ds)
theorem bitsQ_none {l : List UInt8} (h : spn dgQ l = 0) : bitsQ l = ([], 3) := by
  unfold bitsQ; rw [if_pos (.inl h)]
theorem bitsQ_form {l : List UInt8} (h : constQ l (spn dgQ l) ≠ l.length) : bitsQ l = ([], 3) := by
  unfold bitsQ; rw [if_pos (.inr h)]
theorem bitsQ_of {l : List UInt8} (h : spn dgQ l ≠ 0) (hc : constQ l (spn dgQ l) = l.length) :
    bitsQ l = bitsW (l.take (spn dgQ l)) (lowQ (l.getD (spn dgQ l + 1) 0)) (l.drop (spn dgQ l + 2)) := by
  unfold bitsQ
  rw [if_neg (by rintro (h1 | h1); exact h h1; exact h1 hc)]
  rfl
theorem spn_all {p : UInt8 → Bool} {t : List UInt8} (h : spn p t = t.length) : ∀ c ∈ t, p c = true := by
  have h1 : t.takeWhile p = t := by
    have hp := List.takeWhile_prefix p (l := t)
    exact hp.eq_of_length h
  intro c hc
  have h2 := List.all_takeWhile (p := p) (l := t)
  rw [h1] at h2
  exact List.all_eq_true.1 h2 c hc
theorem spn_of_all {p : UInt8 → Bool} : ∀ {t : List UInt8}, (∀ c ∈ t, p c = true) → spn p t = t.length
  | [], _ => rfl
  | c :: t, h => by
    rw [spn_yes (h c List.mem_cons_self), spn_of_all (fun x hx => h x (List.mem_cons_of_mem _ hx))]; rfl
theorem constQ_full {l : List UInt8} {n : Nat} (h : constQ l n = l.length) (hl : 0 < l.length) :
    n + 2 < l.length ∧ (baseQ (lowQ (l.getD (n + 1) 0))).isSome = true ∧ ∀ c ∈ l.drop (n + 2), ofQ (lowQ (l.getD (n + 1) 0)) c = true := by
  unfold constQ at h
  split at h
  · next b t e =>
    split at h
    · omega
    · rename_i hno
      split at h
      · omega
      · rename_i hs
        have e1 : l.getD (n + 1) 0 = b := by
          have h2 : (l.drop n)[1]? = some b := by rw [e]; rfl
          rw [List.getElem?_drop] at h2
          rw [List.getD_eq_getElem?_getD, h2]; rfl
        have e2 : l.drop (n + 2) = t := by
          have h2 : (l.drop n).drop 2 = t := by rw [e]; rfl
          rw [← h2, List.drop_drop]
        have hlen : l.length = n + 2 + t.length := by
          have h3 := congrArg List.length e
          rw [List.length_drop, List.length_cons, List.length_cons] at h3
          omega
        have hsp : spn (ofQ (lowQ b)) t = t.length := by omega
        have htl : t.length ≠ 0 := fun h4 => hno (.inl (List.length_eq_zero_iff.1 h4))
        rw [e1, e2]
        refine ⟨by omega, ?_, spn_all hsp⟩
        cases hb : baseQ (lowQ b) with
        | none => exact absurd (.inr (.inl hb)) hno
        | some _ => rfl
  · omega
/-- what spelled asks of the digits -/
theorem ofQ_spell {b c : UInt8} (h : ofQ b c = true) (hb : b ≠ 100) : unkQ c ≠ 0 ∨ 0 ≤ hexQ c := by
  unfold ofQ at h
  split at h
  · rename_i hx
    left
    unfold unkQ
    rw [if_pos hx]
    rcases hx with hx | hx <;> rw [hx] <;> decide
  · first | rw [if_neg hb] at h | skip
    exact .inr (of_decide_eq_true h).1
def stepW (w : Nat) (c : UInt8) : Nat := min (10 * w + (c.toNat - 48)) 1000
theorem widthQ_eq (d : List UInt8) : widthQ d = d.foldl stepW 0 := rfl
theorem foldW_le : ∀ (d : List UInt8) (w : Nat), w ≤ 1000 → d.foldl stepW w ≤ 1000
  | [], w, h => h
  | c :: t, w, h => by
    rw [List.foldl_cons]
    exact foldW_le t _ (Nat.min_le_right _ _)
theorem widthQ_le (d : List UInt8) : widthQ d ≤ 1000 := foldW_le d 0 (Nat.zero_le _)
theorem decBits_len : ∀ (ds : List UInt8) (v : Nat), 140 ≤ (decBitsF ds v).length ∧ (decBitsF ds v).length ≤ 141
  | [], v => by unfold decBitsF; rw [binQ_len]; omega
  | c :: t, v => by
    unfold decBitsF
    split
    · rw [List.length_cons, binQ_len]; omega
    · exact decBits_len t _
theorem outQ_len (b : UInt8) (ds : List UInt8) (h : ds.length ≤ 100000) : (outQ b ds).length ≤ 400000 := by
  unfold outQ
  split
  · have := (decBits_len ds 0).2; omega
  · rw [spellQ_len]
    have := Nat.mul_le_mul (show (baseQ b).getD 0 ≤ 4 by rcases baseQ_cases b with k | k | k | k <;> rw [k] <;> omega) h
    omega
end Go.Proofs.YtjlpekjfmgcbdaaGreatDoor

/- Contract of qlex's Bits. -/
set_option linter.unusedVariables false
set_option linter.unusedSimpArgs false
namespace Go.Proofs.YtjlpekjfmgcbdaaGreatDoor
open Go.RowKit Go.Shelf
theorem dropW_nil {p : UInt8 → Bool} : ∀ {l : List UInt8}, l.dropWhile p = [] ↔ ∀ x ∈ l, p x = true
  | [] => ⟨fun _ x hx => (by cases hx), fun _ => rfl⟩
  | c :: t => by
    rw [List.dropWhile_cons]
    split
    · rename_i h
      rw [dropW_nil (l := t)]
      refine ⟨fun h2 x hx => ?_, fun h2 x hx => h2 x (List.mem_cons_of_mem _ hx)⟩
      rcases List.mem_cons.1 hx with rfl | h3
      · exact h
      · exact h2 x h3
    · rename_i h
      exact ⟨fun h2 => (by cases h2), fun h2 => absurd (h2 c List.mem_cons_self) h⟩
theorem trimQ_nil (l : List UInt8) : Lib.trimB l 48 = [] ↔ l.all (· == 48) = true := by
  unfold Lib.trimB Lib.trimLeftB Lib.trimRightB
  rw [dropW_nil, List.all_eq_true]
  constructor
  · intro h
    cases hm : l.reverse.dropWhile (· == 48) with
    | nil =>
      rw [dropW_nil] at hm
      intro x hx
      exact hm x (List.mem_reverse.2 hx)
    | cons a t =>
      have h1 := List.head_dropWhile_not (p := (· == (48 : UInt8))) (l := l.reverse) (by rw [hm]; simp)
      have h2 := h a (by rw [hm]; simp)
      simp only [hm, List.head_cons] at h1
      rw [h2] at h1
      cases h1
  · intro h x hx
    have h1 := List.mem_reverse.1 hx
    have h2 : x ∈ l.reverse := (List.dropWhile_sublist (p := (· == (48 : UInt8)))).mem h1
    exact h x (List.mem_reverse.1 h2)
theorem retQ2 {p : List UInt8 × Int} {t : List UInt8} {k : Int} (h : p = (t, k)) : Ending.returned (.tuple #[.string (bsQ t), .int .i64 k]) = .returned (.tuple #[.string (bsQ p.1), .int .i64 p.2]) := by rw [h]
theorem arrQ (l : List UInt8) : (⟨l.toArray⟩ : ByteArray) = bsQ l := rfl
set_option maxRecDepth 20000 in
set_option maxHeartbeats 8000000 in
theorem bits48_any (l : List UInt8) (w : World) (hl : l.length ≤ 50000) :
    Calls Tryz.prog 13 #[.string (bsQ l)] w fun e w' => e = .returned (.tuple #[.string (bsQ (bitsQ l).1), .int .i64 (bitsQ l).2]) ∧ Below w.heap.size w w' := by
  have hz := bsQ_size l
  obtain ⟨n, hn⟩ : ∃ n, spn dgQ l = n := ⟨_, rfl⟩
  have hnl : n ≤ l.length := by rw [← hn]; exact spn_le _ _
  have RD := hide (fun W : World => show Calls Tryz.prog 31 #[.string (bsQ l), .int .i64 0, .func (.func 32) #[] #[]] W fun e w' => e = .returned (.int .i64 (n : Int)) ∧ Below W.heap.size W w' by
    have := runDigit l 0 W (by omega) (by omega)
    rw [List.drop_zero, hn, Nat.zero_add] at this
    exact this)
  by_cases h0 : n = 0
  · subst h0
    have HV := hide (bitsQ_none hn)
    generalize bsQ l = s at *
    clear hn hz
    have RD := hide (fun W : World => show Calls Tryz.prog 31 #[.string s, .int .i64 0, .func (.func 32) #[] #[]] W fun e w' => e = .returned (.int .i64 0) ∧ Below W.heap.size W w' from RD.out W)
    go_enter Tryz.func13, Tryz.ntmps13
    go_wp2_with fail
    refine (RD.out _).mono ?_
    rintro e w1 ⟨rfl, hb⟩
    go_wp2
    go_ret2
    exact ⟨retQ2 HV.out, hb⟩
  have CQ := hide (fun W : World => constQ_any l n W (by omega) (by omega))
  have n0 : ((n : Int) == 0) = false := beq_eq_false_iff_ne.2 (by omega)
  obtain ⟨k, hk⟩ : ∃ k, constQ l n = k := ⟨_, rfl⟩
  rw [hk] at CQ
  by_cases h1 : k = l.length
  rotate_left
  · have HV := hide (bitsQ_form (l := l) (by rw [hn, hk]; exact h1))
    have e1 : ((k : Int) == ((bsQ l).size : Int)) = false := beq_eq_false_iff_ne.2 (by omega)
    have e2 : ((k : Int) != ((bsQ l).size : Int)) = true := by rw [bne, e1]; rfl
    generalize bsQ l = s at *
    clear hn hz hk h0 h1
    go_enter Tryz.func13, Tryz.ntmps13
    go_wp2_with fail
    refine (RD.out _).mono ?_
    rintro e w1 ⟨rfl, hb⟩
    have Hb := hide hb
    clear hb
    go_wp2_with fail
    refine (CQ.out _).mono ?_
    rintro e w2 ⟨rfl, hb⟩
    have Hb2 := hide (Hb.out.trans (hb.mono Hb.out.size))
    clear hb
    go_wp2
    go_ret2
    exact ⟨retQ2 HV.out, Hb2.out⟩
  subst h1
  obtain ⟨f1, f2, f3⟩ := constQ_full hk (by omega)
  have HV0 := bitsQ_of (l := l) (by rw [hn]; exact h0) (by rw [hn, hk])
  rw [hn] at HV0
  obtain ⟨c, hc⟩ : ∃ c, l.getD (n + 1) 0 = c := ⟨_, rfl⟩
  have hlt1 : n + 1 < (bsQ l).size := by omega
  have hsc : (bsQ l)[n + 1]'hlt1 = c := by
    rw [bsQ_get, ← hc, List.getD_eq_getElem?_getD, List.getElem?_eq_getElem (by omega)]; rfl
  rw [hc] at f2 f3 HV0
  have hor := low_or c
  obtain ⟨ds, hds⟩ : ∃ ds, l.drop (n + 2) = ds := ⟨_, rfl⟩
  have hdl : ds.length + n + 2 = l.length := by rw [← hds, List.length_drop]; omega
  obtain ⟨dw, hdw⟩ : ∃ dw, l.take n = dw := ⟨_, rfl⟩
  have hdwl : dw.length = n := by rw [← hdw, List.length_take]; omega
  have x1 : (bsQ l).extract (n + 2) (bsQ l).size = bsQ ds := by rw [bsQ_drop, hds]
  have x2 : (bsQ l).extract 0 n = bsQ dw := by rw [bsQ_take, hdw]
  have hdg : ∀ c ∈ dw, dgQ c = true := by
    rw [← hdw, ← hn]
    exact fun c hc => by
      have h1 : l.take (spn dgQ l) = l.takeWhile dgQ := (List.prefix_iff_eq_take.1 (List.takeWhile_prefix dgQ)).symm
      rw [h1] at hc
      exact List.all_eq_true.1 List.all_takeWhile c hc
  rw [hds] at f3 HV0
  rw [hdw] at HV0
  generalize lowQ c = b at *
  obtain ⟨c0, dt, hcons⟩ : ∃ c0 dt, ds = c0 :: dt := by
    cases ds with
    | nil => rw [List.length_nil] at hdl; omega
    | cons a t => exact ⟨a, t, rfl⟩
  have hd0 : ds.headD 0 = c0 := by rw [hcons]; rfl
  obtain ⟨u, hu⟩ : ∃ u, unkQ c0 = u := ⟨_, rfl⟩
  have U := hide (unknownQ_any c0)
  rw [hu] at U
  have RD2 := hide (fun W : World => show Calls Tryz.prog 31 #[.string (bsQ ds), .int .i64 0, .func (.func 32) #[] #[]] W fun e w' => e = .returned (.int .i64 ((spn dgQ ds : Nat) : Int)) ∧ Below W.heap.size W w' by
    have := runDigit ds 0 W (by omega) (by omega)
    rw [List.drop_zero, Nat.zero_add] at this
    exact this)
  have hsz2 := bsQ_size ds
  have hds0 : 0 < ds.length := by rw [hcons]; exact Nat.succ_pos _
  have hsz0 : 0 < (bsQ ds).size := by omega
  have hg0 : (bsQ ds)[0]'hsz0 = c0 := by rw [bsQ_get]; simp [hcons]
  obtain ⟨al, hal⟩ : ∃ al, decide (ds.length = 1 ∧ u ≠ 0) = al := ⟨_, rfl⟩
  obtain ⟨sd, hsd⟩ : ∃ sd, spn dgQ ds = sd := ⟨_, rfl⟩
  have hsdl : sd ≤ ds.length := by rw [← hsd]; exact spn_le _ _
  rw [hsd] at RD2
  have HX1 := hide x1
  have HX2 := hide x2
  have HBO := hide (fun W : World => bytes_ofQ W dw)
  have HW : Hid (widthQ dw ≤ 1000) := hide (widthQ_le dw)
  have HV := hide HV0
  have HF3 := hide f3
  have HDG := hide hdg
  have HDS := hide (And.intro hd0 hu)
  have Hal := hide hal
  have Hsd := hide hsd
  have Hk := hide hk
  clear x1 x2 f3 HV0 hdg hd0 hu hal hsd hk hn h0 hc hds hdw hcons
  have DB := hide (fun (W : World) (h : ∀ c ∈ ds, dgQ c = true) => decimalBitsQ_any ds W (by omega) h)
  have SP := hide (fun (W : World) (k : Nat) (hk : k ≤ 4) (h : ∀ c ∈ ds, unkQ c ≠ 0 ∨ 0 ≤ hexQ c) => spelledQ_any ds k W (by omega) hk h)
  have BA := hide bases_any
  have hgn1 : ((n : Int) + 1).toNat = n + 1 := by omega
  have hgn2 : ((n : Int) + 2).toNat = n + 2 := by omega
  have k1 : (0 : Int) ≤ (n : Int) + 1 := by omega
  have k2 : (n : Int) + 1 < ((bsQ l).size : Int) := by omega
  have k3 : (0 : Int) ≤ (n : Int) + 2 := by omega
  have k4 : (n : Int) + 2 ≤ ((bsQ l).size : Int) := by omega
  have k5 : (0 : Int) ≤ (n : Int) := by omega
  have k6 : (n : Int) ≤ ((bsQ l).size : Int) := by omega
  have hw1 : IntKind.i64.wrap ((n : Int) + 1) = (n : Int) + 1 := IntWalk.i64_in _ (by omega)
  have hw2 : IntKind.i64.wrap ((n : Int) + 2) = (n : Int) + 2 := IntWalk.i64_in _ (by omega)
  have e1 : ((l.length : Int) == ((bsQ l).size : Int)) = true := by rw [hz]; exact beq_self_eq_true _
  have e2 : ((l.length : Int) != ((bsQ l).size : Int)) = false := by rw [bne, e1]; rfl
  generalize bsQ l = s at *
  generalize bsQ ds = t at *
  have Hz2 := hide hsz2
  clear hsz2
  have x1 := HX1.out
  have x2 := HX2.out
  have Hz := hide hz
  clear hz
  go_enter Tryz.func13, Tryz.ntmps13
  go_wp2_with fail
  refine (RD.out _).mono ?_
  rintro e w1 ⟨rfl, hb⟩
  have Hb := hide hb
  clear hb
  go_wp2_with fail
  refine (CQ.out _).mono ?_
  rintro e w2 ⟨rfl, hb⟩
  have Hb2 := hide (Hb.out.trans (hb.mono Hb.out.size))
  clear hb Hb
  go_upto_region 4 with fail
  go_quiet (fail)
  go_upto_region 5 with fail
  have B0 := hide (Below_drewN Hb2.out nq)
  generalize w2.drewN nq = w3 at B0 ⊢
  clear Hb2 RD CQ
  go_cut [7] (fun v7 wx => v7 = .bool al ∧ wx = w3)
  case first =>
    by_cases hd1 : ds.length = 1
    · have q1 : ((t.size : Int) == 1) = true := by rw [Hz2.out, hd1]; rfl
      by_cases hu0 : u = 0
      · have HA := hide (show false = al by rw [← Hal.out, hu0]; simp)
        subst hu0
        have U := hide (fun W : World => show Calls Tryz.prog 34 #[.int .u8 (c0.toNat : Int)] W fun e w' => e = .returned (.int .u8 0) ∧ w' = W from U.out W)
        clear hd1
        go_wp2_with fail
        refine (U.out _).mono ?_
        rintro e w4 ⟨rfl, rfl⟩
        go_wp2_with fail
        go_meet
        exact ⟨congrArg Value.bool HA.out, rfl⟩
      · have HA := hide (show true = al by rw [← Hal.out]; exact (decide_eq_true ⟨hd1, hu0⟩).symm)
        have e1 : ((u.toNat : Int) == 0) = false := toNat_neQ (d := 0) hu0
        have e2 : ((u.toNat : Int) != 0) = true := by rw [bne, e1]; rfl
        clear hd1 hu0
        go_wp2_with fail
        refine (U.out _).mono ?_
        rintro e w4 ⟨rfl, rfl⟩
        go_wp2_with fail
        go_meet
        exact ⟨congrArg Value.bool HA.out, rfl⟩
    · have HA := hide (show false = al by rw [← Hal.out]; exact (decide_eq_false (fun h => hd1 h.1)).symm)
      have q1 : ((t.size : Int) == 1) = false := beq_eq_false_iff_ne.2 (by have := Hz2.out; omega)
      clear hd1
      go_wp2_with fail
      go_meet
      exact ⟨congrArg Value.bool HA.out, rfl⟩
  case rest =>
  obtain ⟨rfl, rfl⟩ := hcut
  go_upto_region 6 with fail
  obtain ⟨bad, hbad⟩ : ∃ bad, decide (b = 100 ∧ al = false ∧ sd < ds.length) = bad := ⟨_, rfl⟩
  have HBad := hide hbad
  clear hbad
  go_cut [56] (fun v wx => v = .bool bad ∧ Below w.heap.size w wx)
  case first =>
    by_cases hb : b = 100
    · subst hb
      cases al with
      | true =>
        have HA := hide (show false = bad by rw [← HBad.out]; simp)
        go_wp2_with fail
        go_meet
        exact ⟨congrArg Value.bool HA.out, B0.out⟩
      | false =>
        have HA := hide (show decide (sd < t.size) = bad by rw [← HBad.out, Hz2.out]; simp)
        go_wp2_with fail
        refine (RD2.out _).mono ?_
        rintro e w4 ⟨rfl, hb⟩
        have Hb2 := hide (B0.out.trans (hb.mono B0.out.size))
        clear hb
        go_wp2_with fail
        go_meet
        exact ⟨congrArg Value.bool HA.out, Hb2.out⟩
    · have q1 : ((b.toNat : Int) == 100) = false := toNat_neQ (d := 100) hb
      have HA := hide (show false = bad by rw [← HBad.out]; simp [hb])
      clear hb
      go_wp2_with fail
      go_meet
      exact ⟨congrArg Value.bool HA.out, B0.out⟩
  case rest =>
  obtain ⟨rfl, hb⟩ := hcut
  have B1 := hide hb
  clear hb B0
  cases bad with
  | true =>
    have HV2 := hide (show bitsQ l = ([], 3) by
      have h := of_decide_eq_true HBad.out
      rw [HV.out]
      unfold bitsW
      rw [if_pos ⟨h.1, by rw [HDS.out.1, HDS.out.2]; have := Hal.out; rw [h.2.1] at this; exact of_decide_eq_false this, by rw [Hsd.out]; exact h.2.2⟩])
    go_wp2
    go_ret2
    exact ⟨retQ2 HV2.out, B1.out⟩
  | false =>
  have HV2 := hide (show bitsQ l = if widthQ dw < 1 ∨ 128 < widthQ dw then ([], 8) else if b = 100 ∧ al = true then (List.replicate (widthQ dw) u, 0) else fitQ (widthQ dw) u (outQ b ds) by
    have h := of_decide_eq_false HBad.out
    rw [HV.out]
    unfold bitsW
    rw [HDS.out.1, HDS.out.2]
    have ha := Hal.out
    have h2 : (ds.length = 1 ∧ u ≠ 0) ↔ al = true := by rw [← ha]; exact decide_eq_true_iff.symm
    rw [if_neg (fun k => h ⟨k.1, by rw [h2] at k; exact Bool.eq_false_iff.2 k.2.1, by rw [← Hsd.out]; exact k.2.2⟩)]
    simp only [h2])
  obtain ⟨W1, cap, hcv, hb2, htx, hsw⟩ := HBO.out wc
  clear HBO
  have B2 := hide (B1.out.trans (hb2.mono B1.out.size))
  obtain ⟨g, hg⟩ : ∃ g, wc.heap.size = g := ⟨_, rfl⟩
  rw [hg] at hcv htx
  have HT := hide (show TextAt W1 g dw from htx)
  have Hg := hide hg
  clear hg htx hb2 B1 hsw
  go_wp2_with fail
  go_loopw [8, 62] (fun v8 v62 wr => ∃ i W : Nat, v62 = .int .i64 (i : Int) ∧ v8 = .int .i64 (W : Int) ∧ i ≤ dw.length ∧ W ≤ 1000 ∧ (dw.drop i).foldl stepW W = widthQ dw ∧ TextAt wr g dw ∧ Below w.heap.size w wr) (fun _ v _ => dw.length - (intOf v).toNat)
  case atStart => exact ⟨0, 0, rfl, rfl, Nat.zero_le _, Nat.zero_le _, rfl, HT.out, B2.out⟩
  case round =>
    obtain ⟨i, W, rfl, rfl, hi, hW, hfo, htx, hb⟩ := hrel
    have Hb := hide hb
    have Htx := hide htx
    have Hfo := hide hfo
    clear hfo hb
    by_cases hlt : i < dw.length
    · have hi' : (i : Int) < (dw.length : Int) := by omega
      have hi0 : (0 : Int) ≤ (i : Int) := by omega
      have hwi : IntKind.i64.wrap ((i : Int) + 1) = (i : Int) + 1 := IntWalk.i64_in _ (by omega)
      have hdr : dw.drop i = dw[i] :: dw.drop (i + 1) := List.drop_eq_getElem_cons hlt
      have hdg := HDG.out _ (List.getElem_mem hlt)
      obtain ⟨c, hc⟩ : ∃ c, dw[i] = c := ⟨_, rfl⟩
      have hcell := htx i hlt
      rw [hc] at hdr hdg hcell
      have hb2 : 48 ≤ c.toNat ∧ c.toNat ≤ 57 := of_decide_eq_true hdg
      obtain ⟨d, hd⟩ : ∃ d, c.toNat = d + 48 := ⟨c.toNat - 48, by omega⟩
      have hd9 : d ≤ 9 := by omega
      rw [hd] at hcell
      have hcell : wr.cell? ⟨g, i, none⟩ = some (.int .u8 ((d : Int) + 48)) := hcell
      have hw1 : IntKind.u8.wrap (d : Int) = (d : Int) := by rw [IntKind.wrap_u8]; omega
      have hw2 : IntKind.i64.wrap (d : Int) = (d : Int) := IntWalk.i64_in _ (by omega)
      obtain ⟨W2, hW2⟩ : ∃ W2, stepW W c = W2 := ⟨_, rfl⟩
      have hW2' : min (10 * W + d) 1000 = W2 := by rw [← hW2]; unfold stepW; rw [hd, Nat.add_sub_cancel]
      have hmn : min (10 * (W : Int) + (d : Int)) 1000 = (W2 : Int) := by omega
      have Hfo2 := hide (show (dw.drop (i + 1)).foldl stepW W2 = widthQ dw by rw [← Hfo.out, hdr, List.foldl_cons, hW2])
      have hW2l : W2 ≤ 1000 := by omega
      clear hdr hc hdg hb2 hd htx hW2 hW2'
      go_wp2
      go_roundw
      case rel => exact ⟨i + 1, W2, by go_num, rfl, by omega, hW2l, Hfo2.out, Htx.out, Hb.out⟩
      case measure => simp [intOf]; omega
    · have hi' : ¬ (i : Int) < (dw.length : Int) := by omega
      have HW3 := hide (show W = widthQ dw by rw [← Hfo.out, List.drop_eq_nil_of_le (by omega)]; rfl)
      have hv3 := HV2.out
      rw [← HW3.out] at hv3
      have HV3 := hide hv3
      clear htx hv3
      by_cases hw1 : W < 1
      · have q1 : (W : Int) < 1 := by omega
        have HV4 := hide (show bitsQ l = ([], 8) by rw [HV3.out, if_pos (.inl hw1)])
        go_wp2
        go_ret2
        exact ⟨(by rw [HV4.out]; rfl), Hb.out⟩
      by_cases hw2 : 128 < W
      · have q1 : ¬ (W : Int) < 1 := by omega
        have q2 : (128 : Int) < (W : Int) := by omega
        have HV4 := hide (show bitsQ l = ([], 8) by rw [HV3.out, if_pos (.inr hw2)])
        go_wp2
        go_ret2
        exact ⟨(by rw [HV4.out]; rfl), Hb.out⟩
      have q1 : ¬ (W : Int) < 1 := by omega
      have q2 : ¬ (128 : Int) < (W : Int) := by omega
      have hv4 := HV3.out
      rw [if_neg (by omega)] at hv4
      have HV4 := hide hv4
      clear hv4
      have Rp := hide (fun (c : UInt8) (W' : World) => repeatedQ_any c (W : Int) W' (by omega))
      clear HV3 HV2 hW hw1 hw2
      by_cases hfull : b = 100 ∧ al = true
      · have HV5 := hide (show bitsQ l = (List.replicate W u, 0) by rw [HV4.out, if_pos hfull])
        obtain ⟨rfl, rfl⟩ := hfull
        clear HV4
        go_wp2_with fail
        refine (U.out _).mono ?_
        rintro e w5 ⟨rfl, rfl⟩
        go_wp2_with fail
        refine (Rp.out _ _).mono ?_
        rintro e w6 ⟨rfl, hb⟩
        have Hb2 := hide (Hb.out.trans (hb.mono Hb.out.size))
        clear hb
        go_wp2
        go_ret2
        exact ⟨(by rw [HV5.out]; rfl), Hb2.out⟩
      have HV5 := hide (show bitsQ l = fitQ W u (outQ b ds) by rw [HV4.out, if_neg hfull])
      clear HV4
      have ho := outQ_len b ds (by omega)
      obtain ⟨o, hoe⟩ : ∃ o, outQ b ds = o := ⟨_, rfl⟩
      rw [hoe] at HV5 ho
      have Hoe := hide hoe
      clear hoe
      have Hfull := hide hfull
      clear hfull
      go_upto_block 2 with fail
      go_cut [11] (fun v wx => v = .string (bsQ o) ∧ Below w.heap.size w wx)
      case first =>
        by_cases hb1 : b = 100
        · have hal2 : al = false := Bool.eq_false_iff.2 fun h => Hfull.out ⟨hb1, h⟩
          have hsl : ∀ c ∈ ds, dgQ c = true := spn_all (by
            have h := of_decide_eq_false HBad.out
            rw [Hsd.out]
            rcases Nat.lt_or_ge sd ds.length with h2 | h2
            · exact absurd ⟨hb1, hal2, h2⟩ h
            · omega)
          have DB2 := hide (fun W => DB.out W hsl)
          have HO := hide (show decBitsF ds 0 = o by rw [← Hoe.out]; unfold outQ; rw [if_pos hb1])
          subst hb1 hal2
          rw [HO.out] at DB2
          clear hsl
          go_wp2_with fail
          refine (DB2.out _).mono ?_
          rintro e w5 ⟨rfl, hb⟩
          have Hb2 := hide (Hb.out.trans (hb.mono Hb.out.size))
          clear hb
          go_wp2_with fail
          go_meet
          exact ⟨rfl, Hb2.out⟩
        · have q3 : ((b.toNat : Int) == 100) = false := toNat_neQ (d := 100) hb1
          have HO := hide (show spellQ ((baseQ b).getD 0) ds = o by rw [← Hoe.out]; unfold outQ; rw [if_neg hb1])
          have SP2 := hide (fun W => SP.out W ((baseQ b).getD 0) (by rcases baseQ_cases b with k | k | k | k <;> rw [k] <;> omega) (fun c hc => ofQ_spell (HF3.out c hc) hb1))
          rw [HO.out] at SP2
          have L := hide (fun (W : World) (r : Nat) (h : BasesAt W r) => show (Instr.lookup 54 (.map (some r)) (.int .u8 b.toNat) false).run Tryz.prog W = .ok (.int .i64 _) W from look_base W r h b false)
          generalize (((baseQ b).getD 0 : Nat) : Int) = kk at *
          clear hb1
          go_wp2_with fail
          refine (BA.out _).mono ?_
          rintro e w5 ⟨rfl, hB, hb⟩
          have L1 := L.out _ _ hB
          have Hb2 := hide (Hb.out.trans (hb.mono Hb.out.size))
          clear hb hB
          go_wp2_with fail
          refine (SP2.out _).mono ?_
          rintro e w6 ⟨rfl, hb⟩
          have Hb3 := hide (Hb2.out.trans (hb.mono Hb2.out.size))
          clear hb
          go_wp2_with fail
          go_meet
          exact ⟨rfl, Hb3.out⟩
      case rest =>
      obtain ⟨rfl, hb⟩ := hcut
      have B3 := hide hb
      clear hb DB SP BA Hb
      have hso := bsQ_size o
      by_cases hfit : o.length < W
      · obtain ⟨cc, hcc⟩ : ∃ cc : UInt8, (if u ≠ 0 then u else 48) = cc := ⟨_, rfl⟩
        have HV6 := hide (show bitsQ l = (List.replicate (W - o.length) cc ++ o, 0) by rw [HV5.out]; unfold fitQ; rw [if_pos hfit, hcc])
        obtain ⟨m, hm⟩ : ∃ m, W - o.length = m := ⟨_, rfl⟩
        rw [hm] at HV6
        have y : ∀ W', (Op.stringOp .add (bsQ (List.replicate m cc)) (bsQ o)).run Tryz.prog W' = .ok (.string (bsQ (List.replicate m cc ++ o))) W' := fun W' => catQ _ _ (by rw [List.length_replicate]; omega) W'
        have Rp2 := hide (fun (W' : World) => repeatedQ_any cc (m : Int) W' (by omega))
        rw [show ((m : Int)).toNat = m from rfl] at Rp2
        have hmm : (W : Int) - ((bsQ o).size : Int) = (m : Int) := by omega
        have hlt2 : ((bsQ o).size : Int) < (W : Int) := by omega
        generalize bsQ o = so at *
        clear hm hso hfit
        by_cases hu0 : u = 0
        · have hcc2 : cc = 48 := by rw [← hcc, hu0]; rfl
          subst hu0 hcc2
          have U := hide (fun W : World => show Calls Tryz.prog 34 #[.int .u8 (c0.toNat : Int)] W fun e w' => e = .returned (.int .u8 0) ∧ w' = W from U.out W)
          have Rp2 := hide (fun W' : World => show Calls Tryz.prog 35 #[.int .u8 48, .int .i64 (m : Int)] W' fun e w' => e = .returned (.string (bsQ (List.replicate m 48))) ∧ Below W'.heap.size W' w' from Rp2.out W')
          clear hcc
          go_wp2_with fail
          refine (U.out _).mono ?_
          rintro e w5 ⟨rfl, rfl⟩
          go_wp2_with fail
          refine (Rp2.out _).mono ?_
          rintro e w6 ⟨rfl, hb⟩
          have Hb2 := hide (B3.out.trans (hb.mono B3.out.size))
          clear hb
          go_wp2
          go_ret2
          exact ⟨(by rw [HV6.out]; rfl), Hb2.out⟩
        · have hcc2 : cc = u := by rw [← hcc, if_pos hu0]
          subst hcc2
          have e1 : ((cc.toNat : Int) == 0) = false := toNat_neQ (d := 0) hu0
          have e2 : ((cc.toNat : Int) != 0) = true := by rw [bne, e1]; rfl
          clear hcc hu0
          go_wp2_with fail
          refine (U.out _).mono ?_
          rintro e w5 ⟨rfl, rfl⟩
          go_wp2_with fail
          refine (Rp2.out _).mono ?_
          rintro e w6 ⟨rfl, hb⟩
          have Hb2 := hide (B3.out.trans (hb.mono B3.out.size))
          clear hb
          go_wp2
          go_ret2
          exact ⟨(by rw [HV6.out]; rfl), Hb2.out⟩
      · obtain ⟨m, hm⟩ : ∃ m, o.length - W = m := ⟨_, rfl⟩
        have hV6 := HV5.out
        unfold fitQ at hV6
        rw [if_neg hfit, hm] at hV6
        have x3 : (bsQ o).extract 0 ((bsQ o).size - W) = bsQ (o.take m) := by rw [show (bsQ o).size - W = m by omega]; exact bsQ_take o m
        have x4 : (bsQ o).extract ((bsQ o).size - W) (bsQ o).size = bsQ (o.drop m) := by rw [show (bsQ o).size - W = m by omega]; exact bsQ_drop o m
        have hlt2 : ¬ ((bsQ o).size : Int) < (W : Int) := by omega
        have hm0 : (0 : Int) ≤ ((bsQ o).size : Int) - (W : Int) := by omega
        have hm1 : ((bsQ o).size : Int) - (W : Int) ≤ ((bsQ o).size : Int) := by omega
        have hm3 : ((bsQ o).size : Int) ≤ 400000 := by omega
        have hm2 : (((bsQ o).size : Int) - (W : Int)).toNat = (bsQ o).size - W := by omega
        have TR := hide (fun W' : World => (Tryz.strings_Trim_one (bsQ (o.take m)) 48 (by decide) W' (by rw [bsQ_size, List.length_take]; omega)).mono (R' := fun e w' => e = .returned (.string ⟨(Lib.trimB (o.take m) 48).toArray⟩) ∧ Below W'.heap.size W' w') (by
          rintro e w' ⟨rfl, rfl | rfl⟩
          · exact ⟨rfl, Below.refl _ _⟩
          · exact ⟨rfl, (Below.refl _ _).drew⟩))
        have htn := trimQ_nil (o.take m)
        generalize bsQ o = so at *
        generalize bsQ (o.take m) = sp at *
        cases htr : Lib.trimB (o.take m) 48 with
        | nil =>
          have HV7 := hide (show bitsQ l = (o.drop m, 0) by rw [hV6, if_pos (htn.1 htr)])
          rw [htr] at TR
          clear htr htn hV6 hm hso hfit HV5
          go_wp2_with fail
          refine (TR.out _).mono ?_
          rintro e w6 ⟨rfl, hb⟩
          have Hb2 := hide (B3.out.trans (hb.mono B3.out.size))
          clear hb
          go_wp2
          go_ret2
          exact ⟨(by rw [HV7.out]; rfl), Hb2.out⟩
        | cons x y =>
          have HV7 := hide (show bitsQ l = ([], 8) by rw [hV6, if_neg (fun h => by rw [htn.2 h] at htr; cases htr)])
          rw [htr] at TR
          clear htr htn hV6 hm hso hfit HV5
          go_wp2_with fail
          refine (TR.out _).mono ?_
          rintro e w6 ⟨rfl, hb⟩
          have Hb2 := hide (B3.out.trans (hb.mono B3.out.size))
          clear hb
          go_wp2
          go_ret2
          exact ⟨(by rw [HV7.out]; rfl), Hb2.out⟩
end Go.Proofs.YtjlpekjfmgcbdaaGreatDoor

/- Contract of qlex's Quote. -/
set_option linter.unusedVariables false
set_option linter.unusedSimpArgs false
namespace Go.Proofs.YtjlpekjfmgcbdaaGreatDoor
open Go.RowKit Go.Shelf
theorem bytes_ofM (W : World) (l : List UInt8) : ∃ W1 cap, (convert 9 51 (.string (bsQ l))).run Tryz.prog W = .ok (.slice (some ⟨W.heap.size, 0, none⟩) l.length cap) W1 ∧ Below W.heap.size W W1 ∧ TextM W1 W.heap.size l := by
  have h := run_bytes_of_string (P := Tryz.prog) W 9 51 5 (bsQ l) Tryz.underlying9 Tryz.underlying51 Tryz.underlying5
  rw [bsQ_size] at h
  have e : (World.alloc W.drew (.cells (bytesRow (bsQ l) (grownCap W l.length 0 5)) 5 ((bytesRow (bsQ l) (grownCap W l.length 0 5)).size, (bytesRow (bsQ l) (grownCap W l.length 0 5)).size + 1))).heap[W.heap.size]? = some _ := World.alloc_heap_new W.drew _
  refine ⟨_, _, h, (Below.refl _ _).drew.alloc (Nat.le_refl _) _, ?_, ?_, fun i hi => ?_⟩
  · rw [World.size_alloc]; exact Nat.lt_succ_self _
  · intro cs t h2
    rw [e] at h2
    simp only [Option.some.injEq, Obj.cells.injEq, Prod.mk.injEq] at h2
    exact absurd h2.2.2.2 (Nat.succ_ne_zero _)
  · rw [World.cell?, e]
    exact bytesRow_at (bsQ l) _ i (by show i < l.toArray.size; simpa using hi)
def escQ (c : UInt8) : List UInt8 := if c = 34 ∨ c = 92 then [92, c] else if c.toNat < 32 ∨ 126 < c.toNat then [92, 120, figQ (c.toNat / 16), figQ (c.toNat % 16)] else [c]
theorem quoQ_eq (l : List UInt8) : quoQ l = 34 :: (l.flatMap escQ ++ [34]) := rfl
theorem escQ_len (c : UInt8) : (escQ c).length ≤ 4 := by
  unfold escQ
  split
  · show 2 ≤ 4; omega
  · split
    · show 4 ≤ 4; omega
    · show 1 ≤ 4; omega
theorem escs_len : ∀ l : List UInt8, (l.flatMap escQ).length ≤ 4 * l.length
  | [] => Nat.le_refl _
  | c :: t => by
    rw [List.flatMap_cons, List.length_append, List.length_cons]
    have := escs_len t
    have := escQ_len c
    omega
theorem fig_get (n : Nat) (h : n < 16) (h2 : n < (⟨#[48, 49, 50, 51, 52, 53, 54, 55, 56, 57, 97, 98, 99, 100, 101, 102]⟩ : ByteArray).size) : (⟨#[48, 49, 50, 51, 52, 53, 54, 55, 56, 57, 97, 98, 99, 100, 101, 102]⟩ : ByteArray)[n]'h2 = figQ n := by
  have h3 : ∀ k : Fin 16, (⟨#[48, 49, 50, 51, 52, 53, 54, 55, 56, 57, 97, 98, 99, 100, 101, 102]⟩ : ByteArray)[k.val]'(by have := k.isLt; show k.val < 16; omega) = figQ k.val := by decide +kernel
  exact h3 ⟨n, h⟩
theorem and15 (c : UInt8) : bits .and .u8 (c.toNat : Int) 15 = ((c.toNat % 16 : Nat) : Int) := by
  have h := u8_and_nat c.toNat 15 c.toNat_lt (by decide)
  rw [Nat.and_two_pow_sub_one_eq_mod c.toNat 4] at h
  exact h
theorem shr4 (c : UInt8) : ((c.toNat : Int) / 2 ^ 4).toNat = c.toNat / 16 := by omega
theorem esc_two {P E X : List UInt8} {a b : UInt8} (h : E = [a, b]) : P ++ [a] ++ [b] ++ X ++ [34] = P ++ (E ++ X) ++ [34] := by rw [h]; simp
theorem esc_four {P E X : List UInt8} {x y a b : UInt8} (h : E = [x, y, a, b]) : P ++ [x, y] ++ [a] ++ [b] ++ X ++ [34] = P ++ (E ++ X) ++ [34] := by rw [h]; simp
theorem escs_cons (c : UInt8) (t : List UInt8) : (c :: t).flatMap escQ = escQ c ++ t.flatMap escQ := List.flatMap_cons
theorem retQ_s {a b : ByteArray} (h : a = b) : Ending.returned (.string b) = .returned (.string a) := by rw [h]
set_option maxRecDepth 20000 in
set_option maxHeartbeats 8000000 in
theorem quoteQl_any (l : List UInt8) (w : World) (hl : l.length ≤ 100000) :
    Calls Tryz.prog 17 #[.string (bsQ l)] w fun e w' => e = .returned (.string (bsQ (quoQ l))) ∧ Below w.heap.size w w' := by
  obtain ⟨RL, hRL⟩ : ∃ R, quoQ l = R := ⟨_, rfl⟩
  have hRlen : RL.length ≤ 400010 := by rw [← hRL, quoQ_eq, List.length_cons, List.length_append, List.length_singleton]; have := escs_len l; omega
  have HR := hide (show [34] ++ l.flatMap escQ ++ [34] = RL by rw [← hRL, quoQ_eq]; rfl)
  rw [hRL]
  clear hRL
  go_enter Tryz.func17, Tryz.ntmps17
  go_upto_region 2 with fail
  obtain ⟨W1, hW1⟩ : ∃ W1, w.alloc (.cells #[.pointer none, .slice none 0 0] 65) = W1 := ⟨_, rfl⟩
  rw [hW1]
  obtain ⟨b, hb⟩ : ∃ b, w.heap.size = b := ⟨_, rfl⟩
  have hs1 : W1.heap.size = b + 1 := by rw [← hW1, ← hb]; simp
  have hk1 : W1.heap[b]? = some (.cells #[.pointer none, .slice none 0 0] 65 (0, 0)) := by rw [← hW1, ← hb]; exact World.alloc_heap_new _ _
  have HX := hide (show BX W1 b (b + 1) [] from BX.fresh hk1 (by omega) (by omega))
  have HB := hide (show Below w.heap.size w W1 by rw [← hW1]; exact (Below.refl _ _).alloc (Nat.le_refl _) _)
  have Hb := hide (show w.heap.size ≤ b by omega)
  rw [hb]
  have WB := hide (fun (P : List UInt8) (c : UInt8) (W : World) (h : BX W b (b + 1) P) (hp : P.length ≤ 500000) => writeByteQ b (b + 1) P c W h (by omega))
  clear hk1 hs1 hW1 hb
  have w34 := fun (P : List UInt8) (W : World) (h : BX W b (b + 1) P) (hp : P.length ≤ 500000) => (show Calls Tryz.prog 48 #[.pointer (some ⟨b, 0, none⟩), .int .u8 34] W fun e w' => e = .returned .nilIface ∧ BX w' b (b + 1) (P ++ [34]) ∧ ButB b (b + 1) W w' from WB.out P 34 W h hp)
  have W34 := hide w34
  have w92 := fun (P : List UInt8) (W : World) (h : BX W b (b + 1) P) (hp : P.length ≤ 500000) => (show Calls Tryz.prog 48 #[.pointer (some ⟨b, 0, none⟩), .int .u8 92] W fun e w' => e = .returned .nilIface ∧ BX w' b (b + 1) (P ++ [92]) ∧ ButB b (b + 1) W w' from WB.out P 92 W h hp)
  have W92 := hide w92
  clear w34 w92
  go_wp2_with fail
  refine (W34.out [] _ HX.out (by simp)).mono ?_
  rintro e w1 ⟨rfl, hx, hbut⟩
  have HX1 := hide hx
  have HB1 := hide (HB.out.trans (hbut.1.mono Hb.out))
  clear hx hbut HX
  obtain ⟨W2, cap, hcv, hb2, htx⟩ := bytes_ofM w1 l
  have HX2 := hide (HX1.out.below hb2)
  have HB2 := hide (HB1.out.trans (hb2.mono HB1.out.size))
  obtain ⟨g, hg⟩ : ∃ g, w1.heap.size = g := ⟨_, rfl⟩
  have Hgb := hide (show g ≠ b by have := HX1.out.2.1; omega)
  rw [hg] at hcv htx
  have HT := hide htx
  have hz := bsQ_size l
  generalize bsQ l = s at *
  clear htx hb2 hg
  go_wp2_with fail
  go_loopw [10] (fun v wr => ∃ (i : Nat) (P : List UInt8), v = .int .i64 (i : Int) ∧ i ≤ l.length ∧ P ++ (l.drop i).flatMap escQ ++ [34] = RL ∧ BX wr b (b + 1) P ∧ TextM wr g l ∧ Below w.heap.size w wr) (fun v _ => l.length - (intOf v).toNat)
  case atStart => exact ⟨0, [34], rfl, by omega, HR.out, HX2.out, HT.out, HB2.out⟩
  case round =>
    obtain ⟨i, P, rfl, hi, hP, hx, htx, hb⟩ := hrel
    have HX := hide hx
    have Hb2 := hide hb
    have Htx := hide htx
    have HP := hide hP
    have HPl := hide (show P.length ≤ 400010 by have := congrArg List.length hP; rw [List.length_append, List.length_append] at this; omega)
    clear hP hx hb
    by_cases hlt : i < l.length
    · have hi' : (i : Int) < (l.length : Int) := by omega
      have hi0 : (0 : Int) ≤ (i : Int) := by omega
      have hwi : IntKind.i64.wrap ((i : Int) + 1) = (i : Int) + 1 := IntWalk.i64_in _ (by omega)
      have hdr : l.drop i = l[i] :: l.drop (i + 1) := List.drop_eq_getElem_cons hlt
      obtain ⟨c, hc⟩ : ∃ c, l[i] = c := ⟨_, rfl⟩
      have hcell : wr.cell? ⟨g, i, none⟩ = some (.int .u8 (l[i].toNat : Int)) := htx.2.2 i hlt
      rw [hc] at hdr hcell
      have HS := hide (show P ++ (escQ c ++ (l.drop (i + 1)).flatMap escQ) ++ [34] = RL by rw [← HP.out, hdr, escs_cons])
      clear hdr hc htx HP
      by_cases h1 : c = 34
      · subst h1
        go_wp2_with fail
        refine (W92.out P _ HX.out (by have := HPl.out; omega)).mono ?_
        rintro e w1 ⟨rfl, hx, hbut⟩
        have HX3 := hide hx
        have Htx3 := hide (hbut.textM Htx.out Hgb.out)
        have Hb3 := hide (Hb2.out.trans (hbut.1.mono Hb.out))
        clear hx hbut
        go_wp2_with fail
        refine (W34.out _ _ HX3.out (by have := HPl.out; simp; omega)).mono ?_
        rintro e w2 ⟨rfl, hx, hbut⟩
        have HX4 := hide hx
        have Htx4 := hide (hbut.textM Htx3.out Hgb.out)
        have Hb4 := hide (Hb3.out.trans (hbut.1.mono Hb.out))
        clear hx hbut
        go_wp2
        go_roundw
        case rel => exact ⟨i + 1, _, by go_num, by omega, (esc_two rfl).trans HS.out, HX4.out, Htx4.out, Hb4.out⟩
        case measure => simp [intOf]; omega
      have e34 : ((c.toNat : Int) == 34) = false := toNat_neQ (d := 34) h1
      by_cases h2 : c = 92
      · subst h2
        go_wp2_with fail
        refine (W92.out P _ HX.out (by have := HPl.out; omega)).mono ?_
        rintro e w1 ⟨rfl, hx, hbut⟩
        have HX3 := hide hx
        have Htx3 := hide (hbut.textM Htx.out Hgb.out)
        have Hb3 := hide (Hb2.out.trans (hbut.1.mono Hb.out))
        clear hx hbut
        go_wp2_with fail
        refine (W92.out _ _ HX3.out (by have := HPl.out; simp; omega)).mono ?_
        rintro e w2 ⟨rfl, hx, hbut⟩
        have HX4 := hide hx
        have Htx4 := hide (hbut.textM Htx3.out Hgb.out)
        have Hb4 := hide (Hb3.out.trans (hbut.1.mono Hb.out))
        clear hx hbut
        go_wp2
        go_roundw
        case rel => exact ⟨i + 1, _, by go_num, by omega, (esc_two rfl).trans HS.out, HX4.out, Htx4.out, Hb4.out⟩
        case measure => simp [intOf]; omega
      have e92 : ((c.toNat : Int) == 92) = false := toNat_neQ (d := 92) h2
      by_cases h3 : c.toNat < 32 ∨ 126 < c.toNat
      · have hesc : escQ c = [92, 120, figQ (c.toNat / 16), figQ (c.toNat % 16)] := by
          unfold escQ; rw [if_neg (by rintro (h | h); exact h1 h; exact h2 h), if_pos h3]
        have W120 := hide (fun (W : World) (h : BX W b (b + 1) P) => (show Calls Tryz.prog 49 #[.pointer (some ⟨b, 0, none⟩), .string ⟨#[92, 120]⟩] W fun e w' => (∃ v, e = .returned v) ∧ BX w' b (b + 1) (P ++ [92, 120]) ∧ ButB b (b + 1) W w' from writeStringQ b (b + 1) P [92, 120] W h (by have := HPl.out; simp; omega)))
        have h15 := and15 c
        have hc256 := c.toNat_lt
        have hm0 : ((c.toNat : Int) % 16).toNat = c.toNat % 16 := by omega
        have hm1 : (((c.toNat % 16 : Nat)) : Int) < 16 := by omega
        have Hesc := hide hesc
        clear h1 h2 hesc
        by_cases hlo : c.toNat < 32
        · have q2 : (c.toNat : Int) < 32 := by omega
          clear h3 hlo
          go_wp2_with fail
          refine (W120.out _ HX.out).mono ?_
          rintro e w1 ⟨⟨vv, rfl⟩, hx, hbut⟩
          have HX3 := hide hx
          have Htx3 := hide (hbut.textM Htx.out Hgb.out)
          have Hb3 := hide (Hb2.out.trans (hbut.1.mono Hb.out))
          clear hx hbut
          go_wp2_with fail
          rw [fig_get (c.toNat / 16) (by omega)]
          refine (WB.out _ _ _ HX3.out (by have := HPl.out; simp; omega)).mono ?_
          rintro e w2 ⟨rfl, hx, hbut⟩
          have HX4 := hide hx
          have Htx4 := hide (hbut.textM Htx3.out Hgb.out)
          have Hb4 := hide (Hb3.out.trans (hbut.1.mono Hb.out))
          clear hx hbut
          go_wp2_with fail
          rw [fig_get (c.toNat % 16) (by omega)]
          refine (WB.out _ _ _ HX4.out (by have := HPl.out; simp; omega)).mono ?_
          rintro e w3 ⟨rfl, hx, hbut⟩
          have HX5 := hide hx
          have Htx5 := hide (hbut.textM Htx4.out Hgb.out)
          have Hb5 := hide (Hb4.out.trans (hbut.1.mono Hb.out))
          clear hx hbut
          go_wp2
          go_roundw
          case rel => exact ⟨i + 1, _, by go_num, by omega, (esc_four Hesc.out).trans HS.out, HX5.out, Htx5.out, Hb5.out⟩
          case measure => simp [intOf]; omega
        · have q2 : ¬ (c.toNat : Int) < 32 := by omega
          have q3 : (126 : Int) < (c.toNat : Int) := by omega
          clear h3 hlo
          go_wp2_with fail
          refine (W120.out _ HX.out).mono ?_
          rintro e w1 ⟨⟨vv, rfl⟩, hx, hbut⟩
          have HX3 := hide hx
          have Htx3 := hide (hbut.textM Htx.out Hgb.out)
          have Hb3 := hide (Hb2.out.trans (hbut.1.mono Hb.out))
          clear hx hbut
          go_wp2_with fail
          rw [fig_get (c.toNat / 16) (by omega)]
          refine (WB.out _ _ _ HX3.out (by have := HPl.out; simp; omega)).mono ?_
          rintro e w2 ⟨rfl, hx, hbut⟩
          have HX4 := hide hx
          have Htx4 := hide (hbut.textM Htx3.out Hgb.out)
          have Hb4 := hide (Hb3.out.trans (hbut.1.mono Hb.out))
          clear hx hbut
          go_wp2_with fail
          rw [fig_get (c.toNat % 16) (by omega)]
          refine (WB.out _ _ _ HX4.out (by have := HPl.out; simp; omega)).mono ?_
          rintro e w3 ⟨rfl, hx, hbut⟩
          have HX5 := hide hx
          have Htx5 := hide (hbut.textM Htx4.out Hgb.out)
          have Hb5 := hide (Hb4.out.trans (hbut.1.mono Hb.out))
          clear hx hbut
          go_wp2
          go_roundw
          case rel => exact ⟨i + 1, _, by go_num, by omega, (esc_four Hesc.out).trans HS.out, HX5.out, Htx5.out, Hb5.out⟩
          case measure => simp [intOf]; omega
      · have hesc : escQ c = [c] := by unfold escQ; rw [if_neg (by rintro (h | h); exact h1 h; exact h2 h), if_neg h3]
        have q1 : ¬ (c.toNat : Int) < 32 := by omega
        have q2 : ¬ (126 : Int) < (c.toNat : Int) := by omega
        have HS2 := hide (show (P ++ [c]) ++ (l.drop (i + 1)).flatMap escQ ++ [34] = RL by rw [← HS.out, hesc, List.append_assoc P])
        clear h1 h2 h3 hesc
        go_wp2_with fail
        refine (WB.out P c _ HX.out (by have := HPl.out; omega)).mono ?_
        rintro e w1 ⟨rfl, hx, hbut⟩
        have HX3 := hide hx
        have Htx3 := hide (hbut.textM Htx.out Hgb.out)
        have Hb3 := hide (Hb2.out.trans (hbut.1.mono Hb.out))
        clear hx hbut
        go_wp2
        go_roundw
        case rel => exact ⟨i + 1, _, by go_num, by omega, HS2.out, HX3.out, Htx3.out, Hb3.out⟩
        case measure => simp [intOf]; omega
    · have hi' : ¬ (i : Int) < (l.length : Int) := by omega
      have HS := hide (show P ++ [34] = RL by rw [← HP.out, List.drop_eq_nil_of_le (by omega)]; simp)
      clear htx
      go_wp2_with fail
      refine (W34.out P _ HX.out (by have := HPl.out; omega)).mono ?_
      rintro e w1 ⟨rfl, hx, hbut⟩
      have Hb3 := hide (Hb2.out.trans (hbut.1.mono Hb.out))
      rw [HS.out] at hx
      have S := hide (stringQ b (b + 1) RL w1 hx)
      clear hx hbut
      go_wp2_with fail
      refine S.out.mono ?_
      rintro e wz ⟨rfl, hb3⟩
      go_wp2
      go_ret
      exact ⟨rfl, Hb3.out.trans (hb3.mono Hb.out)⟩
end Go.Proofs.YtjlpekjfmgcbdaaGreatDoor
