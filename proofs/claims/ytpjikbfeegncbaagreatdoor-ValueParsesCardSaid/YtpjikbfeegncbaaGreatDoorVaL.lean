/- Contracts of value's kinds and of. -/
import Derived.Test.YtpjikbfeegncbaaGreatDoorVaK
set_option linter.unusedVariables false
set_option linter.unusedSimpArgs false
namespace Go.Proofs.YtpjikbfeegncbaaGreatDoor
open Go.RowKit Go.Shelf Go.Sort

/-- a function with nothing caught -/
def fnV (f : Nat) : Value := .func (.func f) #[] #[]
def sameV (p : Nat) : Value := .func (.func 112) #[] #[.pointer (some ⟨p, 0, none⟩)]
theorem same_any (s : ByteArray) (w : World) :
    Calls Tryz.prog 85 #[.string s] w fun e w' => e = .returned (sameV w.heap.size) ∧ w' = w.alloc (.cells #[.string s] 9) := by
  go_enter Tryz.func85, Tryz.ntmps85
  go_wp2
  go_ret
  exact ⟨rfl, rfl⟩
theorem sameCall_any (n : Int) (p : Nat) (s : ByteArray) (w : World) (h : w.cell? ⟨p, 0, none⟩ = some (.string s)) :
    Calls Tryz.prog 112 #[.int .i64 n, .pointer (some ⟨p, 0, none⟩)] w fun e w' => e = .returned (.string s) ∧ w' = w := by
  go_enter Tryz.func112, Tryz.ntmps112
  go_wp2
  go_ret
  exact ⟨rfl, rfl⟩
/-- the cells of a kind, by its number -/
def kindA (n : Nat) (p : Nat) : Array Value := match n with
  | 0 => #[.int .i64 1, .int .i64 128, fnV 78, fnV 79, fnV 81, fnV 82, .string ⟨#[98]⟩]
  | 1 => #[.int .i64 0, .int .i64 0, fnV 83, sameV p, fnV 86, fnV 88, .string ⟨#[114]⟩]
  | 2 => #[.int .i64 0, .int .i64 0, fnV 89, sameV p, fnV 90, fnV 92, .string ⟨#[115]⟩]
  | _ => #[.int .i64 0, .int .i64 0, fnV 93, sameV p, fnV 94, fnV 95, .string ⟨#[]⟩]
def kindsA (p1 p2 p3 : Nat) : Array Value := #[.int .i64 1, .int .i64 128, fnV 78, fnV 79, fnV 81, fnV 82, .string ⟨#[98]⟩, .int .i64 0, .int .i64 0, fnV 83, sameV p1, fnV 86, fnV 88, .string ⟨#[114]⟩, .int .i64 0, .int .i64 0, fnV 89, sameV p2, fnV 90, fnV 92, .string ⟨#[115]⟩, .int .i64 0, .int .i64 0, fnV 93, sameV p3, fnV 94, fnV 95, .string ⟨#[]⟩]
def kindS (n : Nat) : ByteArray := if n = 1 then ⟨#[48]⟩ else ⟨#[]⟩
set_option maxRecDepth 20000 in
set_option maxHeartbeats 4000000 in
theorem kinds_any (w : World) :
    Calls Tryz.prog 58 #[] w fun e w' => e = .returned (.slice (some ⟨w.heap.size + 3, 0, none⟩) 4 4) ∧ Row w' (w.heap.size + 3) 45 (kindsA w.heap.size (w.heap.size + 1) (w.heap.size + 2)) ∧
      Row w' w.heap.size 9 #[.string ⟨#[48]⟩] ∧ Row w' (w.heap.size + 1) 9 #[.string ⟨#[]⟩] ∧ Row w' (w.heap.size + 2) 9 #[.string ⟨#[]⟩] ∧ Below w.heap.size w w' := by
  have SM := hide (fun (s : ByteArray) (W : World) => same_any s W)
  go_enter Tryz.func58, Tryz.ntmps58
  go_wp2_with fail
  refine (SM.out _ _).mono ?_
  rintro e w1 ⟨rfl, rfl⟩
  unfold sameV
  go_wp2_with fail
  refine (SM.out _ _).mono ?_
  rintro e w2 ⟨rfl, rfl⟩
  unfold sameV
  go_wp2_with fail
  refine (SM.out _ _).mono ?_
  rintro e w3 ⟨rfl, rfl⟩
  unfold sameV
  have r1 := Row.new w 9 #[.string ⟨#[48]⟩]
  have r2 := Row.new (w.alloc (.cells #[.string ⟨#[48]⟩] 9)) 9 #[.string ⟨#[]⟩]
  have r3 := Row.new ((w.alloc (.cells #[.string ⟨#[48]⟩] 9)).alloc (.cells #[.string ⟨#[]⟩] 9)) 9 #[.string ⟨#[]⟩]
  have r4 := fun cs => Row.new (((w.alloc (.cells #[.string ⟨#[48]⟩] 9)).alloc (.cells #[.string ⟨#[]⟩] 9)).alloc (.cells #[.string ⟨#[]⟩] 9)) 45 cs
  simp only [World.size_alloc] at r2 r3 r4
  have HR := hide (And.intro r1 (And.intro r2 (And.intro r3 r4)))
  clear r1 r2 r3 r4
  go_wp2
  go_ret
  refine ⟨rfl, ?_, ?_, ?_, ?_, ?_⟩
  · have h := HR.out.2.2.2 (kindsA w.heap.size (w.heap.size + 1) (w.heap.size + 2))
    unfold kindsA fnV sameV at h ⊢
    exact h
  · exact ((HR.out.1.alloc _).alloc _).alloc _
  · exact (HR.out.2.1.alloc _).alloc _
  · exact HR.out.2.2.1.alloc _
  · exact ((((Below.refl _ _).alloc (Nat.le_refl _) _).alloc (by simp only [World.size_alloc]; omega) _).alloc (by simp only [World.size_alloc]; omega) _).alloc (by simp only [World.size_alloc]; omega) _
end Go.Proofs.YtpjikbfeegncbaaGreatDoor
