/- The walk of NameReferences. -/
import Derived.Test.YtiibjeiadcmenaaDoorNmK
import Derived.Test.YtiibjeiadcmenaaDoorFew
set_option linter.unusedVariables false
namespace Go.Proofs.YtiibjeiadcmenaaDoor.nameReferences
open Go.RowKit Go.Shelf Go.Sort

set_option maxRecDepth 20000 in
set_option maxHeartbeats 8000000 in
theorem walk (A : Option Addr) (len cap : Nat) (L : List ByteArray) (s : ByteArray) (rg : Bool) (m n : Int) (w : World) (hn : L.length = len) (hl : len ≤ maxLen) (hw : Sl Value.string w A L ∧ (∀ s ∈ L, s.size ≤ maxLen) ∧ len ≤ cap) (hz : s.size ≤ maxLen) (_ : (Lit.int .i64 m).wf = true) (_ : (Lit.int .i64 n).wf = true) (hg : Gl w) :
    Calls Tryd.prog 8 #[.slice A len cap, .string s, .bool rg, .int .i64 m, .int .i64 n] w fun e w' => e = .returned (.bool true) ∧ Below w.heap.size w w' := by
  have AW := hide (awake_any w hg)
  have G := hide hg
  clear hg
  subst hn
  obtain ⟨hsl, _, hcap⟩ := hw
  have Hsl := hide hsl
  unfold maxLen at hz
  have FW := hide (fun (W : World) (h : Sl Value.string W A L) => Few_any 5 60 A L.length cap L W rfl hl h)
  have B0 := hide (Below.refl w.heap.size w)
  cases hf : fewB 5 60 L with
  | false =>
    rw [hf] at FW
    clear hf hsl
    go_enter Tryd.func8, Tryd.ntmps8
    go_wp2_with fail
    refine (AW.out).mono ?_
    rintro e w1 ⟨rfl, hb⟩
    have B1 := hide (B0.out.trans (hb.mono B0.out.size))
    clear hb
    go_wp2_with fail
    refine (FW.out _ (Hsl.out.below B1.out)).mono ?_
    rintro e wx ⟨rfl, rfl⟩
    go_wp2
    go_ret
    exact ⟨rfl, B1.out⟩
  | true =>
    rw [hf] at FW
    obtain ⟨f1, f2⟩ := fewB_spec hf
    clear hf hsl
    by_cases hbig : 60 < s.size
    · have h60 : (60 : Int) < (s.size : Int) := by omega
      clear f2
      go_enter Tryd.func8, Tryd.ntmps8
      go_wp2_with fail
      refine (AW.out).mono ?_
      rintro e w1 ⟨rfl, hb⟩
      have B1 := hide (B0.out.trans (hb.mono B0.out.size))
      clear hb
      go_wp2_with fail
      refine (FW.out _ (Hsl.out.below B1.out)).mono ?_
      rintro e wx ⟨rfl, rfl⟩
      go_wp2
      go_ret
      exact ⟨rfl, B1.out⟩
    · have h60 : (s.size : Int) ≤ 60 := by omega
      have R := hide (fun (W : World) (h : Sl Value.string W A L) => Reference_any A L.length cap L W rfl (by omega) h (fun t ht => by have := f2 t ht; omega))
      have RR := hide (fun (W : World) (h : Sl Value.string W A L) => refReference_any A L.length cap L W rfl (by omega) h (fun t ht => by have := f2 t ht; omega))
      have F := hide (fun (W : World) (h : Gl W) => FormatReference_any s rg m n W (by omega) h)
      have RF := hide (fun (W : World) => refFormatReference_any s rg m n W (by omega))
      generalize refS L = r at R RR
      obtain ⟨r1, r2, r3, r4, r5⟩ := r
      generalize fmtRef s rg m n = f at F RF
      clear f2
      go_enter Tryd.func8, Tryd.ntmps8
      go_wp2_with fail
      refine (AW.out).mono ?_
      rintro e w1 ⟨rfl, hb⟩
      have B1 := hide (B0.out.trans (hb.mono B0.out.size))
      clear hb
      go_wp2_with fail
      refine (FW.out _ (Hsl.out.below B1.out)).mono ?_
      rintro e wx ⟨rfl, rfl⟩
      go_wp2_with fail
      refine (R.out _ (Hsl.out.below B1.out)).mono ?_
      rintro e w2 ⟨rfl, hb⟩
      have B2 := hide (B1.out.trans (hb.mono B1.out.size))
      clear hb
      go_wp2_with fail
      refine (RR.out _ (Hsl.out.below B2.out)).mono ?_
      rintro e w3 ⟨rfl, hb⟩
      have B3 := hide (B2.out.trans (hb.mono B2.out.size))
      clear hb
      go_wp2_with fail
      refine (F.out _ (G.out.below B3.out)).mono ?_
      rintro e w4 ⟨rfl, hb⟩
      have B4 := hide (B3.out.trans (hb.mono B3.out.size))
      clear hb
      go_wp2_with fail
      refine (RF.out _).mono ?_
      rintro e w5 ⟨rfl, hb⟩
      have B5 := hide (B4.out.trans (hb.mono B4.out.size))
      clear hb
      go_wp2
      go_ret
      exact ⟨rfl, B5.out⟩
end Go.Proofs.YtiibjeiadcmenaaDoor.nameReferences
