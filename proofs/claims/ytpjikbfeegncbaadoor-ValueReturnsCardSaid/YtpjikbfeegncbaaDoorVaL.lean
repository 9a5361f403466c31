/- Contracts of value's kinds and of. -/
import Derived.Test.YtpjikbfeegncbaaDoorVaK
set_option linter.unusedVariables false
set_option linter.unusedSimpArgs false
namespace Go.Proofs.YtpjikbfeegncbaaDoor
open Go.RowKit Go.Shelf Go.Sort

/-- a function with nothing caught -/
def fnV (f : Nat) : Value := .func (.func f) #[] #[]
def sameV (p : Nat) : Value := .func (.func 38) #[] #[.pointer (some ⟨p, 0, none⟩)]
theorem same_any (s : ByteArray) (w : World) :
    Calls Tryd.prog 21 #[.string s] w fun e w' => e = .returned (sameV w.heap.size) ∧ w' = w.alloc (.cells #[.string s] 9) := by
  go_enter Tryd.func21, Tryd.ntmps21
  go_wp2
  go_ret
  exact ⟨rfl, rfl⟩
theorem sameCall_any (n : Int) (p : Nat) (s : ByteArray) (w : World) (h : w.cell? ⟨p, 0, none⟩ = some (.string s)) :
    Calls Tryd.prog 38 #[.int .i64 n, .pointer (some ⟨p, 0, none⟩)] w fun e w' => e = .returned (.string s) ∧ w' = w := by
  go_enter Tryd.func38, Tryd.ntmps38
  go_wp2
  go_ret
  exact ⟨rfl, rfl⟩
/-- the cells of a kind, by its number -/
def kindA (n : Nat) (p : Nat) : Array Value := match n with
  | 0 => #[.int .i64 1, .int .i64 128, fnV 14, fnV 15, fnV 17, fnV 18, .string ⟨#[98]⟩]
  | 1 => #[.int .i64 0, .int .i64 0, fnV 19, sameV p, fnV 22, fnV 24, .string ⟨#[114]⟩]
  | 2 => #[.int .i64 0, .int .i64 0, fnV 25, sameV p, fnV 26, fnV 28, .string ⟨#[115]⟩]
  | _ => #[.int .i64 0, .int .i64 0, fnV 29, sameV p, fnV 30, fnV 31, .string ⟨#[]⟩]
def kindsA (p1 p2 p3 : Nat) : Array Value := #[.int .i64 1, .int .i64 128, fnV 14, fnV 15, fnV 17, fnV 18, .string ⟨#[98]⟩, .int .i64 0, .int .i64 0, fnV 19, sameV p1, fnV 22, fnV 24, .string ⟨#[114]⟩, .int .i64 0, .int .i64 0, fnV 25, sameV p2, fnV 26, fnV 28, .string ⟨#[115]⟩, .int .i64 0, .int .i64 0, fnV 29, sameV p3, fnV 30, fnV 31, .string ⟨#[]⟩]
def kindS (n : Nat) : ByteArray := if n = 1 then ⟨#[48]⟩ else ⟨#[]⟩
set_option maxRecDepth 20000 in
set_option maxHeartbeats 4000000 in
theorem kinds_any (w : World) :
    Calls Tryd.prog 13 #[] w fun e w' => e = .returned (.slice (some ⟨w.heap.size + 3, 0, none⟩) 4 4) ∧ Row w' (w.heap.size + 3) 38 (kindsA w.heap.size (w.heap.size + 1) (w.heap.size + 2)) ∧
      Row w' w.heap.size 9 #[.string ⟨#[48]⟩] ∧ Row w' (w.heap.size + 1) 9 #[.string ⟨#[]⟩] ∧ Row w' (w.heap.size + 2) 9 #[.string ⟨#[]⟩] ∧ Below w.heap.size w w' := by
  have SM := hide (fun (s : ByteArray) (W : World) => same_any s W)
  go_enter Tryd.func13, Tryd.ntmps13
  go_wp2_with fail
  refine (SM.out _ _).mono ?_
  rintro e w1 ⟨rfl, rfl⟩
  unfold sameV
  go_wp2_with fail
  refine (SM.out _ _).mono ?_
  rintro e w2 ⟨rfl, rfl⟩
  unfold sameV
  go_wp2_with fail
  refine (SM.out _ _).mono ?_
  rintro e w3 ⟨rfl, rfl⟩
  unfold sameV
  have r1 := Row.new w 9 #[.string ⟨#[48]⟩]
  have r2 := Row.new (w.alloc (.cells #[.string ⟨#[48]⟩] 9)) 9 #[.string ⟨#[]⟩]
  have r3 := Row.new ((w.alloc (.cells #[.string ⟨#[48]⟩] 9)).alloc (.cells #[.string ⟨#[]⟩] 9)) 9 #[.string ⟨#[]⟩]
  have r4 := fun cs => Row.new (((w.alloc (.cells #[.string ⟨#[48]⟩] 9)).alloc (.cells #[.string ⟨#[]⟩] 9)).alloc (.cells #[.string ⟨#[]⟩] 9)) 38 cs
  simp only [World.size_alloc] at r2 r3 r4
  have HR := hide (And.intro r1 (And.intro r2 (And.intro r3 r4)))
  clear r1 r2 r3 r4
  go_wp2
  go_ret
  refine ⟨rfl, ?_, ?_, ?_, ?_, ?_⟩
  · have h := HR.out.2.2.2 (kindsA w.heap.size (w.heap.size + 1) (w.heap.size + 2))
    unfold kindsA fnV sameV at h ⊢
    exact h
  · exact ((HR.out.1.alloc _).alloc _).alloc _
  · exact (HR.out.2.1.alloc _).alloc _
  · exact HR.out.2.2.1.alloc _
  · exact ((((Below.refl _ _).alloc (Nat.le_refl _) _).alloc (by simp only [World.size_alloc]; omega) _).alloc (by simp only [World.size_alloc]; omega) _).alloc (by simp only [World.size_alloc]; omega) _
end Go.Proofs.YtpjikbfeegncbaaDoor
