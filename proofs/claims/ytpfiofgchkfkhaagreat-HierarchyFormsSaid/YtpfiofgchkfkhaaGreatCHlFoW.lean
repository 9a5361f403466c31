/- The walk of HierarchyForms. -/
import Derived.Test.YtpfiofgchkfkhaaGreatMgP
import Derived.Test.YtpfiofgchkfkhaaGreatMgL
import Derived.Test.YtpfiofgchkfkhaaGreatMgK
set_option linter.unusedVariables false
set_option linter.unusedSimpArgs false
namespace Go.Proofs.YtpfiofgchkfkhaaGreat
open Go.RowKit Go.Shelf Go.Maps
/-- what Order gives: its results hold the hierarchy, both here and in the reference -/
def OrdPost (scs : List Sc) (vs : List Va) (w : World) (n m : Nat) (oS : List Sc) (oL : List Va) (oF : List Int) (E : Int) (e : Ending) (w' : World) : Prop :=
  ∃ a1 n1 c1 a2 n2 c2 a3 n3 c3, e = .returned (.tuple #[.slice a1 n1 c1, .slice a2 n2 c2, .slice a3 n3 c3, .int .i64 E]) ∧ oS.length = n1 ∧ oL.length = n2 ∧ oF.length = n3 ∧ n1 ≤ 1000000 ∧ n2 ≤ 1000000 ∧ n3 ≤ 1000000 ∧ ScS w' a1 oS ∧ VaS w' a2 oL ∧ Sl intV w' a3 oF ∧ Below w.heap.size w w'
theorem orderF_len {scs : List Sc} {vs : List Va} (hg : Good scs vs) : (orderV scs vs).2.length ≤ vs.length := by
  rw [← allH_eq hg]
  have h1 := numF_len2 (allH (preH scs) vs (scs.length + 1)) []
  have h2 : (numF (allH (preH scs) vs (scs.length + 1)) []).1.length = vs.length := by rw [allH_eq hg]; exact orderV_len hg
  rw [numF_len] at h2
  simp at h1
  omega
def fS (scs : List Sc) (vs : List Va) : List Sc := if checkE scs vs = 0 then orderS scs else []
def fV (scs : List Sc) (vs : List Va) : List Va := if checkE scs vs = 0 then (orderV scs vs).1 else []
def fF (scs : List Sc) (vs : List Va) : List Int := if checkE scs vs = 0 then (orderV scs vs).2 else []
theorem Order_post (scs : List Sc) (vs : List Va) (A A' : Option Addr) (cap cap' : Nat) (w : World) (H : InH w scs vs A A' cap') :
    Calls Tryz.prog 7 #[.slice A scs.length cap, .slice A' vs.length cap'] w (OrdPost scs vs w scs.length vs.length (fS scs vs) (fV scs vs) (fF scs vs) (checkE scs vs)) := by
  by_cases hE : checkE scs vs = 0
  · have g := checkE_ok.1 hE
    unfold fS fV fF
    rw [if_pos hE, if_pos hE, if_pos hE, hE]
    refine (order_good scs vs A A' cap cap' w H.hs H.hv H.hl H.hl' H.ok H.ok' H.z H.z' H.a H.a' g).mono ?_
    rintro e w' ⟨a1, c1, a2, c2, v3, rfl, h1, h2, h3, h4, _⟩
    obtain ⟨A3, c3, rfl, h5, _⟩ := Sl_own h3 rfl
    exact ⟨a1, _, c1, a2, _, c2, A3, _, c3, rfl, orderS_len g.decl, orderV_len g, rfl, H.hl, H.hl', Nat.le_trans (orderF_len g) H.hl', h1, h2, h5, h4⟩
  · unfold fS fV fF
    rw [if_neg hE, if_neg hE, if_neg hE]
    refine (order_bad scs vs A A' cap cap' w H hE).mono ?_
    rintro e w' ⟨rfl, h4⟩
    exact ⟨none, 0, 0, none, 0, 0, none, 0, 0, rfl, rfl, rfl, rfl, by decide, by decide, by decide, fun h => absurd h (by simp), fun h => absurd h (by simp), Sl.nil _ _ _, h4⟩
theorem refOrder_post (scs : List Sc) (vs : List Va) (A A' : Option Addr) (cap cap' : Nat) (w : World) (H : InH w scs vs A A' cap') :
    Calls Tryz.prog 8 #[.slice A scs.length cap, .slice A' vs.length cap'] w (OrdPost scs vs w scs.length vs.length (fS scs vs) (fV scs vs) (fF scs vs) (checkE scs vs)) := by
  by_cases hE : checkE scs vs = 0
  · have g := checkE_ok.1 hE
    unfold fS fV fF
    rw [if_pos hE, if_pos hE, if_pos hE, hE]
    refine (refOrder_good scs vs A A' cap cap' w H g).mono ?_
    rintro e w' ⟨a1, c1, a2, c2, a3, c3, rfl, h1, h2, h3, h4⟩
    exact ⟨a1, _, c1, a2, _, c2, a3, _, c3, rfl, orderS_len g.decl, orderV_len g, rfl, H.hl, H.hl', Nat.le_trans (orderF_len g) H.hl', h1, h2, h3, h4⟩
  · unfold fS fV fF
    rw [if_neg hE, if_neg hE, if_neg hE]
    refine (refOrder_bad scs vs A A' cap cap' w H hE).mono ?_
    rintro e w' ⟨rfl, h4⟩
    exact ⟨none, 0, 0, none, 0, 0, none, 0, 0, rfl, rfl, rfl, rfl, by decide, by decide, by decide, fun h => absurd h (by simp), fun h => absurd h (by simp), Sl.nil _ _ _, h4⟩
set_option maxRecDepth 20000 in
set_option maxHeartbeats 16000000 in
theorem forms_walk (A : Option Addr) (n cap : Nat) (scs : List Sc) (A' : Option Addr) (m cap' : Nat) (vs : List Va) (w : World) (hn : scs.length = n) (hn0 : n ≤ maxLen) (hs : InScs w A scs) (hm : vs.length = m) (hm0 : m ≤ maxLen) (hv : InVas w A' cap' vs) (hg : Gm w) :
    Calls Tryz.prog 3 #[.slice A n cap, .slice A' m cap'] w fun e w' => e = .returned (.bool true) ∧ Below w.heap.size w w' := by
  subst hn; subst hm
  have AW := hide (awake_hi w hg)
  have FW := hide (fun W (hb : Below w.heap.size w W) => FewH_any cap cap' (sc_below hs.s hb) (va_below hv.s hb) hn0 hm0 (fun x hx => (hs.ok x hx).name) (fun v hv' => (hv.ok v hv').name))
  cases hf : fewHB scs vs with
  | false =>
    have FW' := FW.out
    rw [hf] at FW'
    have FW2 := hide FW'
    generalize scs.length = n at *
    generalize vs.length = m at *
    clear FW FW' hs hv hf
    go_enter Tryz.func3, Tryz.ntmps3
    go_wp2_with fail
    refine AW.out.mono ?_
    rintro e w1 ⟨rfl, hb⟩
    have HB1 := hide hb
    clear hb
    go_wp2_with fail
    refine (FW2.out w1 HB1.out).mono ?_
    rintro e w2 ⟨rfl, rfl⟩
    go_wp2
    go_ret
    exact ⟨rfl, HB1.out⟩
  | true =>
    have FW' := FW.out
    rw [hf] at FW'
    have FW2 := hide FW'
    have hI := in_few hs hv hf
    have OR1 := hide (fun W (hb : Below w.heap.size w W) => Order_post scs vs A A' cap cap' W (hI.below hb))
    have OR2 := hide (fun W (hb : Below w.heap.size w W) => refOrder_post scs vs A A' cap cap' W (hI.below hb))
    have VA1 := hide (fun W (hb : Below w.heap.size w W) => Valid_H scs vs A A' cap cap' W (hI.below hb))
    have VA2 := hide (fun W (hb : Below w.heap.size w W) => refValid21_any scs vs A A' cap cap' W (hI.below hb))
    generalize fS scs vs = oS at *
    generalize fV scs vs = oL at *
    generalize fF scs vs = oF at *
    generalize validH scs vs = vb at *
    generalize checkE scs vs = E at *
    generalize scs.length = n at *
    generalize vs.length = m at *
    clear FW FW' hs hv hf hI
    go_enter Tryz.func3, Tryz.ntmps3
    go_wp2_with fail
    refine AW.out.mono ?_
    rintro e w1 ⟨rfl, hb⟩
    have HB1 := hide hb
    clear hb
    go_wp2_with fail
    refine (FW2.out w1 HB1.out).mono ?_
    rintro e w2 ⟨rfl, rfl⟩
    go_wp2_with fail
    refine (OR1.out w1 HB1.out).mono ?_
    rintro e w2 ⟨a1, n1, c1, a2, n2, c2, a3, n3, c3, rfl, e1, e2, e3, l1, l2, l3, s1, s2, s3, hb⟩
    have HB2 := hide (HB1.out.trans (hb.mono HB1.out.size))
    have L1 := hide (And.intro e1 (And.intro e2 e3))
    have S1 := hide (fun W (hb : Below w2.heap.size w2 W) => And.intro (sc_below s1 hb) (And.intro (va_below s2 hb) (s3.below hb)))
    clear hb e1 e2 e3 s1 s2 s3
    go_wp2_with fail
    refine (OR2.out w2 HB2.out).mono ?_
    rintro e w3 ⟨b1, n1', d1, b2, n2', d2, b3, n3', d3, rfl, e1, e2, e3, _, _, _, s1, s2, s3, hb⟩
    obtain rfl : n1 = n1' := L1.out.1.symm.trans e1
    obtain rfl : n2 = n2' := L1.out.2.1.symm.trans e2
    obtain rfl : n3 = n3' := L1.out.2.2.symm.trans e3
    have HB3 := hide (HB2.out.trans (hb.mono HB2.out.size))
    have HB23 := hide hb
    have S2 := hide (fun W (hb : Below w3.heap.size w3 W) => And.intro (sc_below s1 hb) (And.intro (va_below s2 hb) (s3.below hb)))
    clear hb e1 e2 e3 s1 s2 s3
    have q1 : (vb == vb) = true := beq_self_eq_true _
    have q2 : (E == E) = true := beq_self_eq_true _
    go_wp2_with fail
    refine (VA1.out w3 HB3.out).mono ?_
    rintro e w4 ⟨rfl, hb⟩
    have HB4 := hide (HB3.out.trans (hb.mono HB3.out.size))
    have HB34 := hide hb
    clear hb
    go_wp2_with fail
    refine (VA2.out w4 HB4.out).mono ?_
    rintro e w5 ⟨rfl, hb⟩
    have HB5 := hide (HB4.out.trans (hb.mono HB4.out.size))
    have HB35 := hide (HB34.out.trans (hb.mono HB34.out.size))
    clear hb
    have HB25 := hide (HB23.out.trans (HB35.out.mono HB23.out.size))
    have SM := show Calls Tryz.prog 11 #[.slice a1 n1 c1, .slice b1 n1 d1, .slice a2 n2 c2, .slice b2 n2 d2] w5 fun e w' => e = .returned (.bool true) ∧ Below w5.heap.size w5 w' from by
      have t1 := S1.out w5 HB25.out
      have t2 := S2.out w5 HB35.out
      obtain ⟨e1, e2, _⟩ := L1.out
      subst e1 e2
      have h := Same_any c1 d1 c2 d2 t1.1 t2.1 t1.2.1 t2.2.1 l1 l1 l2 l2
      have e : sameB oS oS oL oL = true := by unfold sameB; simp
      rw [e] at h
      exact h
    have SM2 := hide SM
    clear SM
    go_wp2_with fail
    refine SM2.out.mono ?_
    rintro e w6 ⟨rfl, hb⟩
    have HB6 := hide (HB5.out.trans (hb.mono HB5.out.size))
    have HB36 := hide (HB35.out.trans (hb.mono HB35.out.size))
    clear hb
    have HB26 := hide (HB23.out.trans (HB36.out.mono HB23.out.size))
    have IN := show Calls Tryz.prog 12 #[.slice a3 n3 c3, .slice b3 n3 d3] w6 fun e w' => e = .returned (.bool true) ∧ Below w6.heap.size w6 w' from by
      have t1 := S1.out w6 HB26.out
      have t2 := S2.out w6 HB36.out
      obtain ⟨_, _, e3⟩ := L1.out
      subst e3
      have h := Ints_any a3 b3 c3 d3 oF oF w6 (Nat.le_trans l3 (by decide)) (Nat.le_trans l3 (by decide)) t1.2.2 t2.2.2
      rw [decide_eq_true rfl] at h
      exact h
    have IN2 := hide IN
    clear IN
    go_wp2_with fail
    refine IN2.out.mono ?_
    rintro e w7 ⟨rfl, hb⟩
    have HB7 := hide (HB6.out.trans (hb.mono HB6.out.size))
    clear hb
    go_wp2
    go_ret
    exact ⟨rfl, HB7.out⟩
end Go.Proofs.YtpfiofgchkfkhaaGreat
