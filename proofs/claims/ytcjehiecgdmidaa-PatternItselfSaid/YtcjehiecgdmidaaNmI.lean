/- Contracts of the scanner's name and of name.Split. -/
import Derived.Test.YtcjehiecgdmidaaNmG
set_option linter.unusedVariables false
set_option linter.unusedSimpArgs false
namespace Go.Proofs.Ytcjehiecgdmidaa
open Go.RowKit Go.Shelf Go.Sort

theorem infoStr1 : (Try.prog.info? 9).map (fun i => (i.zero, i.size, i.bytes)) = some (some (.string ⟨#[]⟩), 1, 16) := by kernel_rfl
def strC (L : List (List UInt8)) : List Value := L.map fun l => Value.string (bstr l)
theorem strC_append (a b : List (List UInt8)) : strC (a ++ b) = strC a ++ strC b := List.map_append
theorem prefix_head (l : List UInt8) : Lib.hasPrefix l [92] = decide (l.head? = some 92) := by
  have h := takeS_one l 92
  have h2 := takeS_eq l [92]
  rw [h] at h2
  have h3 := congrArg Prod.fst h2
  simp only at h3
  rw [← h3]
  split
  · rename_i h; rw [decide_eq_true h]
  · rename_i h; rw [decide_eq_false h]
theorem ownsRow_keeps {w w' : World} {base b : Nat} {e : TypeId} {size : Nat} {v : Value} {n : Nat} {xs : List Value} (h : w.ownsRow base e size v n xs) (hk : Keeps (fun c => c = b) w w') (hb : b < base) : w'.ownsRow base e size v n xs :=
  World.ownsRow.kept (row := some b) h ⟨hk.os, hk.tape, hk.output, hk.size, fun k hz hne => hk.block k hz (fun e => hne (by rw [e]))⟩ (by
    cases ho : v.ownBlock with
    | none => simp
    | some g => have := (World.ownsRow.lt h g ho).1; simp; omega)
theorem ownsRow_cap {w : World} {base : Nat} {e : TypeId} {size : Nat} {A : Option Addr} {m cap n : Nat} {xs : List Value} (h : w.ownsRow base e size (.slice A m cap) n xs) : n ≤ cap := by
  rcases h.2 with ⟨h0, h1⟩ | ⟨g', cap', cur, hv, _, _, hle, _⟩
  · cases h0; simp_all
  · cases hv; exact hle
def spl (o : Option (List (List UInt8))) : List ByteArray × Int := match o with | some O => (O.map bstr, 0) | none => ([], 3)
def SplitPost (R : List ByteArray × Int) (B : Nat) (w : World) (e : Ending) (w' : World) : Prop :=
  ∃ A cap, e = .returned (.tuple #[.slice A R.1.length cap, .int .i64 R.2]) ∧ Sl Value.string w' A R.1 ∧ R.1.length ≤ cap ∧ Below B w w'
theorem cut_len (l sub : List UInt8) : (Lib.cut l sub).1.length ≤ l.length ∧ (Lib.cut l sub).2.1.length ≤ l.length := by
  unfold Lib.cut; split
  · constructor
    · simp only [List.length_take]; omega
    · simp only [List.length_drop]; omega
  · exact ⟨Nat.le_refl _, Nat.zero_le _⟩
theorem cutN_len (l : List UInt8) : (cutN l).1.length ≤ l.length ∧ (cutN l).2.1.length ≤ l.length := cut_len _ _

end Go.Proofs.Ytcjehiecgdmidaa
