/- The walk of NamePaths. -/
import Derived.Test.YtiibjeiadcmenaaDoorNmK
import Derived.Test.YtiibjeiadcmenaaDoorNmM
import Derived.Test.YtiibjeiadcmenaaDoorFew
import Derived.Deep.DeepCutAuto
set_option linter.unusedVariables false
set_option linter.unusedSimpArgs false
namespace Go.Proofs.YtiibjeiadcmenaaDoor.namePaths
open Go.RowKit Go.Shelf Go.Sort

theorem r_len (path : ByteArray) (r : List ByteArray × Int) (hr : r = spl (splitF 9 path.data.toList)) : r.1.length ≤ 9 := by
  cases h : splitF 9 path.data.toList with
  | none => rw [h] at hr; subst hr; exact Nat.zero_le _
  | some O =>
    rw [h] at hr; subst hr
    obtain ⟨h1, h2, h3, h4⟩ := splitF_inv _ _ _ h
    show (O.map bstr).length ≤ 9
    rw [List.length_map]; exact h3

set_option maxRecDepth 20000 in
set_option maxHeartbeats 16000000 in
theorem walk (A : Option Addr) (len cap : Nat) (L : List ByteArray) (path : ByteArray) (w : World) (hn : L.length = len) (hl : len ≤ maxLen) (hw : Sl Value.string w A L ∧ (∀ s ∈ L, s.size ≤ maxLen) ∧ len ≤ cap) (hz : path.size ≤ maxLen) (hg : Gl w) :
    Calls Tryd.prog 6 #[.slice A len cap, .string path] w fun e w' => e = .returned (.bool true) ∧ Below w.heap.size w w' := by
  have AW := hide (awake_any w hg)
  have G := hide hg
  clear hg
  subst hn
  obtain ⟨hsl, _, hcap⟩ := hw
  have Hsl := hide hsl
  unfold maxLen at hz
  have FW := hide (fun (W : World) (h : Sl Value.string W A L) => Few_any 12 60 A L.length cap L W rfl hl h)
  have B0 := hide (Below.refl w.heap.size w)
  cases hf : fewB 12 60 L with
  | false =>
    rw [hf] at FW
    clear hf hsl
    go_enter Tryd.func6, Tryd.ntmps6
    go_wp2_with fail
    refine (AW.out).mono ?_
    rintro e w1 ⟨rfl, hb⟩
    have B1 := hide (B0.out.trans (hb.mono B0.out.size))
    clear hb
    go_wp2_with fail
    refine (FW.out _ (Hsl.out.below B1.out)).mono ?_
    rintro e wx ⟨rfl, rfl⟩
    go_wp2
    go_ret
    exact ⟨rfl, B1.out⟩
  | true =>
    rw [hf] at FW
    obtain ⟨f1, f2⟩ := fewB_spec hf
    clear hf hsl
    by_cases hbig : 400 < path.size
    · have h60 : (400 : Int) < (path.size : Int) := by omega
      clear f2
      go_enter Tryd.func6, Tryd.ntmps6
      go_wp2_with fail
      refine (AW.out).mono ?_
      rintro e w1 ⟨rfl, hb⟩
      have B1 := hide (B0.out.trans (hb.mono B0.out.size))
      clear hb
      go_wp2_with fail
      refine (FW.out _ (Hsl.out.below B1.out)).mono ?_
      rintro e wx ⟨rfl, rfl⟩
      go_wp2
      go_ret
      exact ⟨rfl, B1.out⟩
    · have h60 : (path.size : Int) ≤ 400 := by omega
      have P := hide (fun (W : World) (h : Sl Value.string W A L) => Path_any A L.length cap L W rfl (by omega) h (fun t ht => by have := f2 t ht; omega))
      have RP := hide (fun (W : World) (h : Sl Value.string W A L) => refPath_any A L.length cap L W rfl (by omega) h (fun t ht => by have := f2 t ht; omega))
      have S2 := hide (fun (W : World) (h : Gl W) => Split_any path W (by omega) h)
      have RS := hide (fun (W : World) => refSplit_any path W (by omega))
      have hr9 := r_len path _ rfl
      generalize spl (splitF 9 path.data.toList) = r at S2 RS hr9
      obtain ⟨l2, e2⟩ := r
      simp only at hr9
      generalize pathB L = pb at P RP
      clear f2
      go_enter Tryd.func6, Tryd.ntmps6
      go_wp2_with fail
      refine (AW.out).mono ?_
      rintro e w1 ⟨rfl, hb⟩
      have B1 := hide (B0.out.trans (hb.mono B0.out.size))
      clear hb
      go_wp2_with fail
      refine (FW.out _ (Hsl.out.below B1.out)).mono ?_
      rintro e wx ⟨rfl, rfl⟩
      go_wp2_with fail
      refine (S2.out _ (G.out.below B1.out)).mono ?_
      rintro e w5 ⟨A5, cap5, rfl, hsl5, hcap5, hb⟩
      have C5 := hide (B1.out.trans (hb.mono B1.out.size))
      have Hs5 := hide hsl5
      clear hb hsl5
      go_wp2_with fail
      refine (RS.out _).mono ?_
      rintro e w6 ⟨A6, cap6, rfl, hsl6, hcap6, hb⟩
      have C6 := hide (C5.out.trans (hb.mono C5.out.size))
      have Hs5' := hide (Hs5.out.below hb)
      have Hs6 := hide hsl6
      clear hb hsl6
      simp only at hcap5 hcap6 ⊢
      go_wp2_with fail
      refine (P.out _ (Hsl.out.below C6.out)).mono ?_
      rintro e w7 ⟨rfl, hb⟩
      have C7 := hide (C6.out.trans (hb.mono C6.out.size))
      have Hs57 := hide (Hs5'.out.below hb)
      have Hs67 := hide (Hs6.out.below hb)
      clear hb
      go_wp2_with fail
      refine (RP.out _ (Hsl.out.below C7.out)).mono ?_
      rintro e w8 ⟨rfl, rfl⟩
      go_wp2_with fail
      with_reducible refine (Texts_eq A5 A6 l2.length l2.length cap5 cap6 l2 _ rfl rfl (by omega) Hs57.out Hs67.out).mono ?_
      rintro e w9 ⟨rfl, hb⟩
      have C9 := hide (C7.out.trans (hb.mono C7.out.size))
      clear hb
      go_wp2
      go_ret
      exact ⟨rfl, C9.out⟩
end Go.Proofs.YtiibjeiadcmenaaDoor.namePaths
