/- Contracts of Parse, both packages. -/
import Derived.Test.YtglfnbhcdblpiaaDoorTsG
set_option linter.unusedVariables false
namespace Go.Proofs.YtglfnbhcdblpiaaDoor
open Go.RowKit Go.Shelf Go.Sort

/-- the text of a scale without the blank -/
def compactS (s : Int) : ByteArray := decB (facS s) ++ uname (unitIx s)
theorem dec1 : decB 1 = ⟨#[49]⟩ := dec_small 1 (by decide)
theorem dec10 : decB 10 = ⟨#[49, 48]⟩ := by
  rw [show (10 : Int) = ((10 : Nat) : Int) from rfl, dec_big 10 (by decide), show ((10 / 10 : Nat) : Int) = 1 from rfl, dec1]; rfl
theorem dec100 : decB 100 = ⟨#[49, 48, 48]⟩ := by
  rw [show (100 : Int) = ((100 : Nat) : Int) from rfl, dec_big 100 (by decide), show ((100 / 10 : Nat) : Int) = 10 from rfl, dec10]; rfl
theorem fac_cases (s : Int) (h1 : -15 ≤ s) (h2 : s ≤ 2) : facS s = 1 ∨ facS s = 10 ∨ facS s = 100 := by
  obtain ⟨k1, k2⟩ := fac_lt s h1 h2
  unfold facS
  generalize (s + 3 * (unitIx s : Int)).toNat = n at k1
  have : n = 0 ∨ n = 1 ∨ n = 2 := by omega
  rcases this with rfl | rfl | rfl
  · exact .inl rfl
  · exact .inr (.inl (by decide))
  · exact .inr (.inr (by decide))
theorem repl_all (f : Int) (i : Nat) (hf : f = 1 ∨ f = 10 ∨ f = 100) (hi : i < 6) :
    (⟨(Lib.replace (decB f ++ ⟨#[32]⟩ ++ uname i).data.toList [32] [] 1).toArray⟩ : ByteArray) = decB f ++ uname i := by
  have : i = 0 ∨ i = 1 ∨ i = 2 ∨ i = 3 ∨ i = 4 ∨ i = 5 := by omega
  rcases hf with rfl | rfl | rfl
  · rw [dec1]; rcases this with rfl | rfl | rfl | rfl | rfl | rfl <;> decide +kernel
  · rw [dec10]; rcases this with rfl | rfl | rfl | rfl | rfl | rfl <;> decide +kernel
  · rw [dec100]; rcases this with rfl | rfl | rfl | rfl | rfl | rfl <;> decide +kernel
theorem format_eq (s : Int) (h1 : -15 ≤ s) (h2 : s ≤ 2) : formatS s = decB (facS s) ++ ⟨#[32]⟩ ++ uname (unitIx s) := by
  unfold formatS validB; rw [decide_eq_true ⟨h1, h2⟩, if_pos rfl]
theorem format_size (s : Int) (h1 : -15 ≤ s) (h2 : s ≤ 2) : (formatS s).size ≤ 24 := by
  obtain ⟨f1, f2⟩ := fac_le s h1 h2
  have z1 := decB_size (facS s) (by omega) (by omega)
  have z2 := uname_size (unitIx s)
  rw [format_eq s h1 h2, ByteArray.size_append, ByteArray.size_append]
  show _ + 1 + _ ≤ _
  omega
theorem replace_any (s : Int) (w : World) (h1 : -15 ≤ s) (h2 : s ≤ 2) (hg : Gl w) :
    Calls Tryd.prog 25 #[.string (formatS s), .string ⟨#[32]⟩, .string ⟨#[]⟩, .int .i64 1] w fun e w' => e = .returned (.string (compactS s)) ∧ Below w.heap.size w w' := by
  obtain ⟨m, hm⟩ := hg.maxLen
  have hz := format_size s h1 h2
  obtain ⟨u1, _, _, _⟩ := unitIx_spec s h1 h2
  refine (Tryd.strings_Replace (formatS s) ⟨#[32]⟩ ⟨#[]⟩ 1 m w (by omega) hm (by decide) (by show _ + _ * 0 ≤ _; omega)).mono ?_
  rintro e w' ⟨rfl, hb⟩
  refine ⟨?_, hb⟩
  have := repl_all (facS s) (unitIx s) (fac_cases s h1 h2) u1
  rw [format_eq s h1 h2]
  exact ret_s this.symm

theorem toList_ne {a b : ByteArray} (h : ¬ a = b) : ¬ a.toList = b.toList := fun e => h (Go.WideShapes.bytes_inj (by rw [← Lib.toList_data, ← Lib.toList_data, e]))
/-- whether a text is that of a scale -/
def hitB (text : ByteArray) (k : Nat) : Bool := decide (text = formatS ((k : Int) - 15)) || decide (text = compactS ((k : Int) - 15))
def parseS (text : ByteArray) : Int × Int := match (List.range 18).find? (hitB text) with | some k => ((k : Int) - 15, 0) | none => (0, 3)
theorem parse_hit {text : ByteArray} {k : Nat} (h : k < 18) (hk : hitB text k = true) (hn : ∀ j, j < k → hitB text j = false) : parseS text = ((k : Int) - 15, 0) := by
  have : (List.range 18).find? (hitB text) = some k := List.find?_range_eq_some.2 ⟨hk, by simpa using h, fun j hj => by rw [hn j hj]; rfl⟩
  unfold parseS; rw [this]
theorem parse_none {text : ByteArray} (hn : ∀ j, j < 18 → hitB text j = false) : parseS text = (0, 3) := by
  have : (List.range 18).find? (hitB text) = none := List.find?_eq_none.2 fun j hj => by rw [hn j (by simpa using hj)]; exact Bool.false_ne_true
  unfold parseS; rw [this]

set_option maxRecDepth 20000 in
set_option maxHeartbeats 2000000 in
theorem Parse_any (text : ByteArray) (w : World) (hg : Gl w) :
    Calls Tryd.prog 11 #[.string text] w fun e w' => e = .returned (.tuple #[.int .i64 (parseS text).1, .int .i64 (parseS text).2]) ∧ Below w.heap.size w w' := by
  have G := hide hg
  clear hg
  go_enter Tryd.func11, Tryd.ntmps11
  go_wp2
  go_loopw [4] (fun v wr => ∃ (c : Int) (k : Nat), v = .int .i64 c ∧ c = (k : Int) - 15 ∧ k ≤ 18 ∧ (∀ j, j < k → hitB text j = false) ∧ Below w.heap.size w wr) (fun v _ => (3 - intOf v).toNat)
  case atStart => exact ⟨-15, 0, rfl, by omega, Nat.zero_le _, fun j hj => absurd hj (Nat.not_lt_zero _), Below.refl _ _⟩
  case round =>
    obtain ⟨c, k, rfl, hc, hk, hno, hb⟩ := hrel
    have Hno := hide hno
    have HB := hide hb
    clear hno hb
    by_cases hlt : k < 18
    · have F := hide (fun (W : World) (h : Gl W) => Format_any c W h)
      have R := hide (fun (W : World) (h : Gl W) => replace_any c W (by omega) (by omega) h)
      have hh : hitB text k = (decide (text = formatS c) || decide (text = compactS c)) := by rw [hc]; rfl
      generalize formatS c = A at F R hh
      generalize compactS c = B at R hh
      have HH := hide hh
      have hc1 : -15 ≤ c := by omega
      have hc2 : c ≤ 2 := by omega
      have HC := hide hc
      have hlt' := hide hlt
      have hk' := hide hk
      clear hh hc hlt hk
      go_wp2_with fail
      refine (F.out _ (G.out.below HB.out)).mono ?_
      rintro e w1 ⟨rfl, hb1⟩
      have H1 := hide (HB.out.trans (hb1.mono HB.out.size))
      clear hb1
      by_cases h1 : text = A
      · have hp : parseS text = (c, 0) := HC.out ▸ parse_hit hlt'.out (by rw [HH.out, decide_eq_true h1]; rfl) Hno.out
        have HP := hide hp
        clear hp
        subst h1
        go_wp2
        go_ret2
        exact ⟨by rw [HP.out]; rfl, H1.out⟩
      · have e2 : decide (text = A) = false := decide_eq_false h1
        have n1 : (text.toList == A.toList) = false := beq_eq_false_iff_ne.2 (toList_ne h1)
        go_wp2_with fail
        refine (R.out _ (G.out.below H1.out)).mono ?_
        rintro e w2 ⟨rfl, hb2⟩
        have H2 := hide (H1.out.trans (hb2.mono H1.out.size))
        clear hb2
        by_cases h2 : text = B
        · have hp : parseS text = (c, 0) := HC.out ▸ parse_hit hlt'.out (by rw [HH.out, decide_eq_true h2, Bool.or_true]) Hno.out
          have HP := hide hp
          clear hp
          subst h2
          go_wp2
          go_ret2
          exact ⟨by rw [HP.out]; rfl, H2.out⟩
        · have e4 : decide (text = B) = false := decide_eq_false h2
          have n2 : (text.toList == B.toList) = false := beq_eq_false_iff_ne.2 (toList_ne h2)
          have hkn : hitB text k = false := by rw [HH.out, e2, e4]; rfl
          have HK := hide hkn
          clear hkn
          go_wp2
          go_roundw
          case rel =>
            refine ⟨c + 1, k + 1, by go_num, by have := HC.out; omega, by have := hlt'.out; omega, fun j hj => ?_, H2.out⟩
            rcases Nat.lt_or_ge j k with h | h
            · exact Hno.out j h
            · obtain rfl : j = k := by omega
              exact HK.out
          case measure => simp [intOf]; omega
    · obtain rfl : k = 18 := by omega
      obtain rfl : c = 3 := by omega
      have HP := hide (parse_none Hno.out)
      go_wp2
      go_ret2
      exact ⟨by rw [HP.out]; rfl, HB.out⟩
end Go.Proofs.YtglfnbhcdblpiaaDoor
