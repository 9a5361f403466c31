/- MgH: the texts HiQ HiR HiS HiT in one. -/
import Derived.Test.YtpfiofgchkfkhaaMgG
import Derived.Lib.LazyBuf
/- Contract of the sort's symMerge. -/
set_option linter.unusedVariables false
set_option linter.unusedSimpArgs false
namespace Go.Proofs.Ytpfiofgchkfkhaa
open Go.RowKit Go.Shelf Go.Sort Go.Lib
theorem sym_split {L R : List Va} {i k : Nat} (hL : Asc L) (hR : Asc R) (hi : i ≤ L.length) (hk : k ≤ R.length) (h1 : ∀ (h0 : 0 < i) (h : k < R.length), ¬ R[k].scope < (L[i - 1]'(by omega)).scope) (h2 : ∀ (h0 : 0 < k) (h : i < L.length), (R[k - 1]'(by omega)).scope < L[i].scope) :
    (∀ x ∈ L.take i, ∀ y ∈ R.drop k, x.scope ≤ y.scope) ∧ (∀ y ∈ R.take k, ∀ x ∈ L.drop i, y.scope < x.scope) := by
  have hL' : Asc (L.take i ++ L.drop i) := by rw [List.take_append_drop]; exact hL
  have hR' : Asc (R.take k ++ R.drop k) := by rw [List.take_append_drop]; exact hR
  have ne : ∀ {l : List Va} {z : Va} {j : Nat}, z ∈ l.take j → 0 < j := by
    intro l z j hz
    rcases Nat.eq_zero_or_pos j with h | h
    · rw [h] at hz; cases hz
    · exact h
  have ne2 : ∀ {l : List Va} {z : Va} {j : Nat}, z ∈ l.drop j → j < l.length := by
    intro l z j hz
    rcases Nat.lt_or_ge j l.length with h | h
    · exact h
    · rw [List.drop_eq_nil_of_le h] at hz; cases hz
  constructor
  · intro x hx y hy
    have a1 := asc_last (asc_app.1 hL').1 (last_take (ne hx) hi) x hx
    have a2 := asc_head (asc_app.1 hR').2.1 (head_drop (ne2 hy)) y hy
    have := h1 (ne hx) (ne2 hy)
    omega
  · intro y hy x hx
    have a1 := asc_last (asc_app.1 hR').1 (last_take (ne hy) hk) y hy
    have a2 := asc_head (asc_app.1 hL').2.1 (head_drop (ne2 hx)) x hx
    have := h2 (ne hy) (ne2 hx)
    omega
theorem asc_or {a b : List Va} (ha : Asc a) (hb : Asc b) (h : a = [] ∨ b = []) : Asc (a ++ b) := by
  rcases h with rfl | rfl
  · exact hb
  · rw [List.append_nil]; exact ha
theorem Srt.len' {L R X : List Va} (h : Srt (L ++ R) X) : X.length = L.length + R.length := by rw [h.len, List.length_append]
section
variable {P : Program} {kk : Nat} {enc : Va → List Value}
set_option maxHeartbeats 8000000 in
set_option maxRecDepth 20000 in
theorem sym_any {w0 : World} {blk off : Nat} {l0 : List Va} (S : SLay P kk) (K : RowK enc kk w0 blk off l0.toArray) (eg : ∀ args w, (callFunc 30 args).run P w = .ok (.enter 30 args) w) (cap n : Nat) (hC : CmpLays P 30 #[] enc kk cmpV blk off n w0) (hn0 : n = l0.length) (hb : n ≤ 1000000) :
    ∀ (f : Nat) (A L R B : List Va) (W : World) (a m b : Nat), SWK enc kk w0 blk off (A ++ (L ++ (R ++ B))).toArray W → A.length + L.length + R.length + B.length = n → a = A.length → m = A.length + L.length → b = A.length + L.length + R.length → 0 < L.length → 0 < R.length → L.length + R.length ≤ f → Asc L → Asc R →
    Calls P 77 #[.slice (some ⟨blk, off, none⟩) n cap, .int .i64 a, .int .i64 m, .int .i64 b, .func (.func 30) #[] #[]] W fun e w' => e = .returned (.tuple #[]) ∧ ∃ X, Srt (L ++ R) X ∧ SWK enc kk w0 blk off (A ++ (X ++ B)).toArray w' := by
  intro f
  induction f with
  | zero => intro A L R B W a m b _ _ _ _ _ h1 h2 h3; omega
  | succ f ih =>
    intro A L R B W a m b h hn ha hm hb2 hL0 hR0 hf hL hR
    by_cases c1 : L.length = 1
    · obtain ⟨x, rfl⟩ := List.length_eq_one_iff.1 c1
      exact sym_one S K eg cap n a m b hC (by simpa using h) (by simpa using hn) hn0 hb ha (by simpa using hm) (by simpa using hb2) hR
    by_cases c2 : R.length = 1
    · obtain ⟨x, rfl⟩ := List.length_eq_one_iff.1 c2
      exact sym_two S K eg cap n a m b hC (by simpa using h) (by simpa using hn) hn0 hb ha hm (by simpa using hb2) hL c1
    have mixed := S.L.mixed
    have t0 : P.underlying 0 = some (TypeDesc.tuple #[]) := S.L.t0
    have a0 : ∀ w, (isAgg 0).run P w = .ok false w := S.L.a0
    have z0 : ∀ w, (Go.sizeOf 0).run P w = .ok 1 w := S.L.z0
    have t3 : P.underlying 3 = some (TypeDesc.int IntKind.i64) := S.L.t3
    have a3 : ∀ w, (isAgg 3).run P w = .ok false w := S.L.a3
    have z3 : ∀ w, (Go.sizeOf 3).run P w = .ok 1 w := S.L.z3
    have t4 : P.underlying 4 = some (TypeDesc.bool) := S.L.t4
    have a4 : ∀ w, (isAgg 4).run P w = .ok false w := S.L.a4
    have z4 : ∀ w, (Go.sizeOf 4).run P w = .ok 1 w := S.L.z4
    have t22 : P.underlying 23 = some (TypeDesc.slice 29) := S.L.t22
    have u22 := run_underlying t22
    have a22 : ∀ w, (isAgg 23).run P w = .ok false w := S.L.a22
    have z22 : ∀ w, (Go.sizeOf 23).run P w = .ok 1 w := S.L.z22
    have aE := S.aE
    have zE := S.zE
    have tu := S.tu
    have utu := run_underlying tu
    have e84 : ∀ args w, (callFunc 84 args).run P w = .ok (.enter 84 args) w := enters_of S.rot (by kernel_rfl) rfl
    have e77 : ∀ args w, (callFunc 77 args).run P w = .ok (.enter 77 args) w := enters_of S.sym (by kernel_rfl) rfl
    obtain ⟨d, hd⟩ : ∃ d, (A ++ (L ++ (R ++ B))).toArray = d := ⟨_, rfl⟩
    have hdz : d.size = n := by rw [← hd]; simp; omega
    have hdz0 : d.size = l0.toArray.size := by rw [hdz, hn0]; simp
    rw [hd] at h
    obtain ⟨mid, hmid⟩ : ∃ mid, (a + b) / 2 = mid := ⟨_, rfl⟩
    obtain ⟨q, hq⟩ : ∃ q, mid + m = q := ⟨_, rfl⟩
    obtain ⟨p, hp⟩ : ∃ p, q - 1 = p := ⟨_, rfl⟩
    have FIN := hide (fun (i e : Nat) (h1 : a ≤ i) (h2 : i ≤ m) (h3 : m ≤ e) (h4 : e ≤ b) (h5 : i + e = q) (hci : i = a ∨ e = b ∨ 0 ≤ cmpV d[e]! d[i - 1]!) (hcj : i = m ∨ e = m ∨ cmpV d[e - 1]! d[i]! < 0) =>
      show ∃ L1 L2 R1 R2, L = L1 ++ L2 ∧ R = R1 ++ R2 ∧ L1.length = i - a ∧ L2.length = m - i ∧ R1.length = e - m ∧ R2.length = b - e ∧ Asc L1 ∧ Asc R1 ∧ Asc L2 ∧ Asc R2 ∧
        ∀ X1 X2, Srt (L1 ++ R1) X1 → Srt (L2 ++ R2) X2 → Srt (L ++ R) (X1 ++ X2) from by
      have hs := sym_split (i := i - a) (k := e - m) hL hR (by omega) (by omega) (fun g0 g1 => by
        rcases hci with g | g | g
        · omega
        · omega
        · have k1 := get_seg (A := A) (R := L) (B := R ++ B) (k := i - 1) (i := i - a - 1) (by omega) (by omega)
          have k2 := get_seg (A := A ++ L) (R := R) (B := B) (k := e) (i := e - m) (by simp; omega) (by omega)
          rw [List.append_assoc] at k2
          rw [hd] at k1 k2
          rw [k1, k2] at g
          intro g2
          have := cmpV_lt.2 g2
          omega) (fun g0 g1 => by
        rcases hcj with g | g | g
        · omega
        · omega
        · have k1 := get_seg (A := A) (R := L) (B := R ++ B) (k := i) (i := i - a) (by omega) (by omega)
          have k2 := get_seg (A := A ++ L) (R := R) (B := B) (k := e - 1) (i := e - m - 1) (by simp; omega) (by omega)
          rw [List.append_assoc] at k2
          rw [hd] at k1 k2
          rw [k1, k2] at g
          exact cmpV_lt.1 g)
      have hL' : Asc (L.take (i - a) ++ L.drop (i - a)) := by rw [List.take_append_drop]; exact hL
      have hR' : Asc (R.take (e - m) ++ R.drop (e - m)) := by rw [List.take_append_drop]; exact hR
      refine ⟨L.take (i - a), L.drop (i - a), R.take (e - m), R.drop (e - m), (List.take_append_drop _ _).symm, (List.take_append_drop _ _).symm, by rw [List.length_take]; omega, by rw [List.length_drop]; omega, by rw [List.length_take]; omega, by rw [List.length_drop]; omega, (asc_app.1 hL').1, (asc_app.1 hR').1, (asc_app.1 hL').2.1, (asc_app.1 hR').2.1, fun X1 X2 g1 g2 => ?_⟩
      have := mergeG hL' hR' hs.1 hs.2 g1 g2
      rwa [List.take_append_drop, List.take_append_drop] at this)
    have Hd := hide hd
    have HC := hide hC
    have HK := hide K
    have H := hide h
    have HL0 := hide hn0
    have HNN := hide (And.intro hn (And.intro ha (And.intro hm (And.intro hb2 (And.intro hf (And.intro hmid (And.intro hq hp)))))))
    have IH := hide (fun (A L R B : List Va) (W : World) (a m b : Nat) h h1 h2 h3 h4 h5 h6 h7 h8 h9 => ih A L R B W a m b h h1 h2 h3 h4 h5 h6 h7 h8 h9)
    have ham : a + 2 ≤ m := by omega
    have hmb : m + 2 ≤ b := by omega
    have hbn : b ≤ n := by omega
    have hmid1 : a < mid := by omega
    have hmid2 : mid < b := by omega
    obtain ⟨c, hc⟩ : ∃ c : Nat, m - a = c := ⟨_, rfl⟩
    obtain ⟨c', hc'⟩ : ∃ c : Nat, b - m = c := ⟨_, rfl⟩
    have hc1 : ¬ (c : Int) = 1 := by omega
    have hc2 : ((c : Int) == 1) = false := beq_eq_false_iff_ne.2 hc1
    have hc3 : decide ((c : Int) = 1) = false := decide_eq_false hc1
    have hc4 : ¬ (c' : Int) = 1 := by omega
    have hc5 : ((c' : Int) == 1) = false := beq_eq_false_iff_ne.2 hc4
    have hc6 : decide ((c' : Int) = 1) = false := decide_eq_false hc4
    have hw1 : IntKind.i64.wrap ((m : Int) - (a : Int)) = (c : Int) := (IntWalk.i64_in _ (by omega)).trans (by omega)
    have hw2 : IntKind.i64.wrap ((b : Int) - (m : Int)) = (c' : Int) := (IntWalk.i64_in _ (by omega)).trans (by omega)
    have hw3 : ((a : Int) + (b : Int)) / 2 = (mid : Int) := by omega
    have hw4 : IntKind.i64.wrap ((mid : Int) + (m : Int)) = (q : Int) := (IntWalk.i64_in _ (by omega)).trans (by omega)
    have hw5 : IntKind.i64.wrap ((q : Int) - 1) = (p : Int) := (IntWalk.i64_in _ (by omega)).trans (by omega)
    have HALL : Hid (∃ lo r0 : Nat, lo ≤ r0 ∧ (lo = a ∨ q - lo = b) ∧ (r0 = m ∨ q - r0 = m) ∧ a ≤ lo ∧ r0 ≤ m ∧ m ≤ q - r0 ∧ q - lo ≤ b ∧ ((mid < m ∧ lo = q - b ∧ r0 = mid) ∨ (m ≤ mid ∧ lo = a ∧ r0 = m))) := hide (by
      by_cases g : mid < m
      · exact ⟨q - b, mid, by omega, .inr (by omega), .inr (by omega), by omega, by omega, by omega, by omega, .inl ⟨g, rfl, rfl⟩⟩
      · exact ⟨a, m, by omega, .inl rfl, .inl rfl, by omega, by omega, by omega, by omega, .inr ⟨by omega, rfl, rfl⟩⟩)
    obtain ⟨lo, r0, hlr, hlo, hr0, hlo2, hr2, hr3, hlo3, hcase⟩ := HALL.out
    have hqp1 : q ≤ p + 1 := by omega
    have hqp2 : p + 1 ≤ q := by omega
    have hqn : q ≤ 2 * n := by omega
    have HS0 := hide (show True from trivial)
    clear HALL hd hC K h hn hn0 ha hm hb2 hf hL hR ih hc hc' hmid hq hp hL0 hR0 c1 c2
    rcases hcase with ⟨g1, g2, g3⟩ | ⟨g1, g2, g3⟩
    · have g4 : (mid : Int) < (m : Int) := by omega
      have hw6 : IntKind.i64.wrap ((q : Int) - (b : Int)) = (lo : Int) := (IntWalk.i64_in _ (by omega)).trans (by omega)
      have HG2 := hide g2
      have HG3 := hide g3
      have gg : r0 ≤ mid := by omega
      have gg2 : mid ≤ r0 := by omega
      have gg3 : lo + b ≤ q := by omega
      have gg4 : q ≤ lo + b := by omega
      clear g2 g3
      go_enter S.sym, Try.ntmps77
      go_wp2_with fail
      go_loopw [20, 21] (fun x y wr => ∃ i j : Nat, x = .int .i64 (i : Int) ∧ y = .int .i64 (j : Int) ∧ lo ≤ i ∧ i ≤ j ∧ j ≤ r0 ∧ (i = lo ∨ 0 ≤ cmpV d[p + 1 - i]! d[i - 1]!) ∧ (j = r0 ∨ cmpV d[p - j]! d[j]! < 0) ∧ SWK enc kk w0 blk off d wr) (fun x y _ => (intOf y).toNat - (intOf x).toNat)
      case atStart => exact ⟨lo, r0, by first | rfl | (rw [HG2.out]), by first | rfl | (rw [HG3.out]), Nat.le_refl _, hlr, Nat.le_refl _, .inl rfl, .inl rfl, H.out⟩
      case round =>
        obtain ⟨i, j, rfl, rfl, hi0, hij, hjb, hci, hcj, hs⟩ := hrel
        by_cases hlt : i < j
        · have hlt' : (i : Int) < (j : Int) := by omega
          obtain ⟨c, hc⟩ : ∃ c, (i + j) / 2 = c := ⟨_, rfl⟩
          have hc1 : i ≤ c := by omega
          have hc2 : c < j := by omega
          have hcz : ((i : Int) + (j : Int)) / 2 = (c : Int) := by omega
          have hcn : (c : Int) < (n : Int) := by omega
          obtain ⟨pc, hpc⟩ : ∃ pc, p - c = pc := ⟨_, rfl⟩
          have hwpc : IntKind.i64.wrap ((p : Int) - (c : Int)) = (pc : Int) := (IntWalk.i64_in _ (by omega)).trans (by omega)
          have hpcn : (pc : Int) < (n : Int) := by omega
          have hwq : IntKind.i64.wrap ((c : Int) + 1) = (c : Int) + 1 := IntWalk.i64_in _ (by omega)
          have l1 := fun n' os' => hs.ld HK.out hdz0 P pc (by omega) n' os'
          have l2 := fun n' os' => hs.ld HK.out hdz0 P c (by omega) n' os'
          have hcg := fun n' os' => hs.cmp HC.out hdz d[pc]! d[c]! n' os'
          have CLS := hide (fun n' os' => hs.grown n' os')
          obtain ⟨y, hy⟩ : ∃ y, d[pc]! = y := ⟨_, rfl⟩
          obtain ⟨z, hz⟩ : ∃ z, d[c]! = z := ⟨_, rfl⟩
          rw [hy] at l1 hcg
          rw [hz] at l2 hcg
          have HY := hide hy
          have HZ := hide hz
          have HQ := hide hc
          have HPC := hide hpc
          have Hci := hide hci
          have Hcj := hide hcj
          clear hs hci hcj hy hz hc hpc
          by_cases hlv : cmpV y z < 0
          · have hld : decide (cmpV y z < 0) = true := decide_eq_true hlv
            go_wp2_with fail
            go_quiet_grown (first | (go_at_fn 30; refine Calls.grown_of (hcg _ _)))
            go_wp2
            go_roundw
            case rel => exact ⟨i, c, rfl, rfl, hi0, hc1, by omega, Hci.out, .inr (by rw [HPC.out, HY.out, HZ.out]; exact hlv), CLS.out _ _⟩
            case measure => simp [intOf]; omega
          · have hld : decide (cmpV y z < 0) = false := decide_eq_false hlv
            go_wp2_with fail
            go_quiet_grown (first | (go_at_fn 30; refine Calls.grown_of (hcg _ _)))
            go_wp2
            go_roundw
            case rel => exact ⟨c + 1, j, by go_num, rfl, by omega, by omega, hjb, .inr (by rw [show p + 1 - (c + 1) = p - c by omega, Nat.add_sub_cancel, HPC.out, HY.out, HZ.out]; omega), Hcj.out, CLS.out _ _⟩
            case measure => simp [intOf]; omega
        · obtain rfl : i = j := by omega
          have hlt' : ¬ (i : Int) < (i : Int) := by omega
          obtain ⟨e, he⟩ : ∃ e, p + 1 - i = e := ⟨_, rfl⟩
          have hwe : IntKind.i64.wrap ((q : Int) - (i : Int)) = (e : Int) := (IntWalk.i64_in _ (by omega)).trans (by omega)
          have HF := hide (FIN.out i e (by omega) (by omega) (by omega) (by omega) (by omega) (by
            rcases hci with h | h
            · rcases hlo with h2 | h2
              · left; omega
              · right; left; omega
            · right; right; rw [← he]; exact h) (by
            rcases hcj with h | h
            · rcases hr0 with h2 | h2
              · left; omega
              · right; left; omega
            · right; right; rw [← he, show p + 1 - i - 1 = p - i by omega]; exact h))
          have HE := hide he
          obtain ⟨L1, L2, R1, R2, hLL, hRR, n1, n2, n3, n4, HFF⟩ := HF.out
          have hs2 : SWK enc kk w0 blk off (A ++ (L1 ++ (L2 ++ (R1 ++ (R2 ++ B))))).toArray wr := by
            have e0 : (A ++ (L1 ++ (L2 ++ (R1 ++ (R2 ++ B))))).toArray = d := by
              rw [← Hd.out, hLL, hRR]; simp
            rw [e0]; exact hs
          have hnn := HNN.out
          have HR := hide (fun (h1 : 0 < L2.length) (h2 : 0 < R1.length) => rot_any (A := A ++ L1) (U := L2) (V := R1) (B := R2 ++ B) S HK.out cap n i m e (.func (.func 30) #[] #[]) (by have := hs2; simpa using this) (by simp; omega) HL0.out hb (by simp; omega) (by simp; omega) (by simp; omega) h1 h2)
          have M1 := hide (fun (W : World) (h1 : 0 < L1.length) (h2 : 0 < R1.length) (h : SWK enc kk w0 blk off (A ++ (L1 ++ (R1 ++ (L2 ++ (R2 ++ B))))).toArray W) => IH.out A L1 R1 (L2 ++ (R2 ++ B)) W a i mid h (by simp; omega) (by omega) (by omega) (by omega) h1 h2 (by omega) HFF.1 HFF.2.1)
          have M2 := hide (fun (X1 : List Va) (W : World) (hX : X1.length = L1.length + R1.length) (h1 : 0 < L2.length) (h2 : 0 < R2.length) (h : SWK enc kk w0 blk off ((A ++ X1) ++ (L2 ++ (R2 ++ B))).toArray W) => IH.out (A ++ X1) L2 R2 B W mid e b h (by simp; omega) (by simp; omega) (by simp; omega) (by simp; omega) h1 h2 (by omega) HFF.2.2.1 HFF.2.2.2.1)
          have HEND := hide HFF.2.2.2.2
          have HS2 := hide hs2
          have HLR := hide (And.intro HFF.1 (And.intro HFF.2.1 (And.intro HFF.2.2.1 HFF.2.2.2.1)))
          have f1 : i + e ≤ mid + m := by omega
          have f2 : mid + m ≤ i + e := by omega
          have f3 : m ≤ e := by omega
          have f4 : e ≤ b := by omega
          have f5 : a ≤ i := by omega
          have f6 : i ≤ m := by omega
          clear hs hs2 hci hcj HF HFF hLL hRR H he hnn
          by_cases r1 : i < m
          · have r1z : (i : Int) < (m : Int) := by omega
            by_cases r2 : m < e
            · have r2z : (m : Int) < (e : Int) := by omega
              have RR := hide (HR.out (by omega) (by omega))
              go_wp2_with fail
              refine RR.out.mono ?_
              rintro e1 w1 ⟨rfl, hs1⟩
              have K1 := hide (show SWK enc kk w0 blk off (A ++ (L1 ++ (R1 ++ (L2 ++ (R2 ++ B))))).toArray w1 from by simpa using hs1)
              clear hs1 RR
              by_cases s1 : a < i
              · have s1z : (a : Int) < (i : Int) := by omega
                by_cases s2 : i < mid
                · have s2z : (i : Int) < (mid : Int) := by omega
                  have MM := hide (M1.out _ (by omega) (by omega) K1.out)
                  go_wp2_with fail
                  refine MM.out.mono ?_
                  rintro e2 w2 ⟨rfl, X1, hX1, hs2⟩
                  have HX1 := hide hX1
                  have KX1 := hide hs2
                  clear hX1 hs2 MM
                  by_cases t1 : mid < e
                  · have t1z : (mid : Int) < (e : Int) := by omega
                    by_cases t2 : e < b
                    · have t2z : (e : Int) < (b : Int) := by omega
                      have MM := hide (M2.out _ _ (HX1.out).len' (by omega) (by omega) (by have := (KX1).out; simpa using this))
                      go_wp2_with fail
                      refine MM.out.mono ?_
                      rintro e3 w3 ⟨rfl, X2, hX2, hs3⟩
                      have HX2 := hide hX2
                      have HS3 := hide hs3
                      clear hX2 hs3
                      go_wp2
                      go_end0
                      exact ⟨rfl, _, HEND.out _ X2 (HX1.out) HX2.out, by have := HS3.out; simpa using this⟩
                    · have t2z : ¬ (e : Int) < (b : Int) := by omega
                      have HX2 := hide (show Srt (L2 ++ R2) (L2 ++ R2) from Srt.refl (asc_or HLR.out.2.2.1 HLR.out.2.2.2 (by first | (left; apply List.eq_nil_of_length_eq_zero; omega) | (right; apply List.eq_nil_of_length_eq_zero; omega))))
                      go_wp2
                      go_end0
                      exact ⟨rfl, _, HEND.out _ _ (HX1.out) HX2.out, by have := (KX1).out; simpa using this⟩
                  · have t1z : ¬ (mid : Int) < (e : Int) := by omega
                    have HX2 := hide (show Srt (L2 ++ R2) (L2 ++ R2) from Srt.refl (asc_or HLR.out.2.2.1 HLR.out.2.2.2 (by first | (left; apply List.eq_nil_of_length_eq_zero; omega) | (right; apply List.eq_nil_of_length_eq_zero; omega))))
                    go_wp2
                    go_end0
                    exact ⟨rfl, _, HEND.out _ _ (HX1.out) HX2.out, by have := (KX1).out; simpa using this⟩
                · have s2z : ¬ (i : Int) < (mid : Int) := by omega
                  have HX1 := hide (show Srt (L1 ++ R1) (L1 ++ R1) from Srt.refl (asc_or HLR.out.1 HLR.out.2.1 (by first | (left; apply List.eq_nil_of_length_eq_zero; omega) | (right; apply List.eq_nil_of_length_eq_zero; omega))))
                  have KX1 := hide (show SWK enc kk w0 blk off (A ++ ((L1 ++ R1) ++ (L2 ++ (R2 ++ B)))).toArray _ from by have := K1.out; simpa using this)
                  by_cases t1 : mid < e
                  · have t1z : (mid : Int) < (e : Int) := by omega
                    by_cases t2 : e < b
                    · have t2z : (e : Int) < (b : Int) := by omega
                      have MM := hide (M2.out _ _ (HX1.out).len' (by omega) (by omega) (by have := (KX1).out; simpa using this))
                      go_wp2_with fail
                      refine MM.out.mono ?_
                      rintro e3 w3 ⟨rfl, X2, hX2, hs3⟩
                      have HX2 := hide hX2
                      have HS3 := hide hs3
                      clear hX2 hs3
                      go_wp2
                      go_end0
                      exact ⟨rfl, _, HEND.out _ X2 (HX1.out) HX2.out, by have := HS3.out; simpa using this⟩
                    · have t2z : ¬ (e : Int) < (b : Int) := by omega
                      have HX2 := hide (show Srt (L2 ++ R2) (L2 ++ R2) from Srt.refl (asc_or HLR.out.2.2.1 HLR.out.2.2.2 (by first | (left; apply List.eq_nil_of_length_eq_zero; omega) | (right; apply List.eq_nil_of_length_eq_zero; omega))))
                      go_wp2
                      go_end0
                      exact ⟨rfl, _, HEND.out _ _ (HX1.out) HX2.out, by have := (KX1).out; simpa using this⟩
                  · have t1z : ¬ (mid : Int) < (e : Int) := by omega
                    have HX2 := hide (show Srt (L2 ++ R2) (L2 ++ R2) from Srt.refl (asc_or HLR.out.2.2.1 HLR.out.2.2.2 (by first | (left; apply List.eq_nil_of_length_eq_zero; omega) | (right; apply List.eq_nil_of_length_eq_zero; omega))))
                    go_wp2
                    go_end0
                    exact ⟨rfl, _, HEND.out _ _ (HX1.out) HX2.out, by have := (KX1).out; simpa using this⟩
              · have s1z : ¬ (a : Int) < (i : Int) := by omega
                have HX1 := hide (show Srt (L1 ++ R1) (L1 ++ R1) from Srt.refl (asc_or HLR.out.1 HLR.out.2.1 (by first | (left; apply List.eq_nil_of_length_eq_zero; omega) | (right; apply List.eq_nil_of_length_eq_zero; omega))))
                have KX1 := hide (show SWK enc kk w0 blk off (A ++ ((L1 ++ R1) ++ (L2 ++ (R2 ++ B)))).toArray _ from by have := K1.out; simpa using this)
                by_cases t1 : mid < e
                · have t1z : (mid : Int) < (e : Int) := by omega
                  by_cases t2 : e < b
                  · have t2z : (e : Int) < (b : Int) := by omega
                    have MM := hide (M2.out _ _ (HX1.out).len' (by omega) (by omega) (by have := (KX1).out; simpa using this))
                    go_wp2_with fail
                    refine MM.out.mono ?_
                    rintro e3 w3 ⟨rfl, X2, hX2, hs3⟩
                    have HX2 := hide hX2
                    have HS3 := hide hs3
                    clear hX2 hs3
                    go_wp2
                    go_end0
                    exact ⟨rfl, _, HEND.out _ X2 (HX1.out) HX2.out, by have := HS3.out; simpa using this⟩
                  · have t2z : ¬ (e : Int) < (b : Int) := by omega
                    have HX2 := hide (show Srt (L2 ++ R2) (L2 ++ R2) from Srt.refl (asc_or HLR.out.2.2.1 HLR.out.2.2.2 (by first | (left; apply List.eq_nil_of_length_eq_zero; omega) | (right; apply List.eq_nil_of_length_eq_zero; omega))))
                    go_wp2
                    go_end0
                    exact ⟨rfl, _, HEND.out _ _ (HX1.out) HX2.out, by have := (KX1).out; simpa using this⟩
                · have t1z : ¬ (mid : Int) < (e : Int) := by omega
                  have HX2 := hide (show Srt (L2 ++ R2) (L2 ++ R2) from Srt.refl (asc_or HLR.out.2.2.1 HLR.out.2.2.2 (by first | (left; apply List.eq_nil_of_length_eq_zero; omega) | (right; apply List.eq_nil_of_length_eq_zero; omega))))
                  go_wp2
                  go_end0
                  exact ⟨rfl, _, HEND.out _ _ (HX1.out) HX2.out, by have := (KX1).out; simpa using this⟩
            · have r2z : ¬ (m : Int) < (e : Int) := by omega
              have K1 := hide (show SWK enc kk w0 blk off (A ++ (L1 ++ (R1 ++ (L2 ++ (R2 ++ B))))).toArray wr from by
                have h := HS2.out
                rw [show R1 = [] from List.eq_nil_of_length_eq_zero (by omega)] at h ⊢
                simpa using h)
              by_cases s1 : a < i
              · have s1z : (a : Int) < (i : Int) := by omega
                by_cases s2 : i < mid
                · have s2z : (i : Int) < (mid : Int) := by omega
                  have MM := hide (M1.out _ (by omega) (by omega) K1.out)
                  go_wp2_with fail
                  refine MM.out.mono ?_
                  rintro e2 w2 ⟨rfl, X1, hX1, hs2⟩
                  have HX1 := hide hX1
                  have KX1 := hide hs2
                  clear hX1 hs2 MM
                  by_cases t1 : mid < e
                  · have t1z : (mid : Int) < (e : Int) := by omega
                    by_cases t2 : e < b
                    · have t2z : (e : Int) < (b : Int) := by omega
                      have MM := hide (M2.out _ _ (HX1.out).len' (by omega) (by omega) (by have := (KX1).out; simpa using this))
                      go_wp2_with fail
                      refine MM.out.mono ?_
                      rintro e3 w3 ⟨rfl, X2, hX2, hs3⟩
                      have HX2 := hide hX2
                      have HS3 := hide hs3
                      clear hX2 hs3
                      go_wp2
                      go_end0
                      exact ⟨rfl, _, HEND.out _ X2 (HX1.out) HX2.out, by have := HS3.out; simpa using this⟩
                    · have t2z : ¬ (e : Int) < (b : Int) := by omega
                      have HX2 := hide (show Srt (L2 ++ R2) (L2 ++ R2) from Srt.refl (asc_or HLR.out.2.2.1 HLR.out.2.2.2 (by first | (left; apply List.eq_nil_of_length_eq_zero; omega) | (right; apply List.eq_nil_of_length_eq_zero; omega))))
                      go_wp2
                      go_end0
                      exact ⟨rfl, _, HEND.out _ _ (HX1.out) HX2.out, by have := (KX1).out; simpa using this⟩
                  · have t1z : ¬ (mid : Int) < (e : Int) := by omega
                    have HX2 := hide (show Srt (L2 ++ R2) (L2 ++ R2) from Srt.refl (asc_or HLR.out.2.2.1 HLR.out.2.2.2 (by first | (left; apply List.eq_nil_of_length_eq_zero; omega) | (right; apply List.eq_nil_of_length_eq_zero; omega))))
                    go_wp2
                    go_end0
                    exact ⟨rfl, _, HEND.out _ _ (HX1.out) HX2.out, by have := (KX1).out; simpa using this⟩
                · have s2z : ¬ (i : Int) < (mid : Int) := by omega
                  have HX1 := hide (show Srt (L1 ++ R1) (L1 ++ R1) from Srt.refl (asc_or HLR.out.1 HLR.out.2.1 (by first | (left; apply List.eq_nil_of_length_eq_zero; omega) | (right; apply List.eq_nil_of_length_eq_zero; omega))))
                  have KX1 := hide (show SWK enc kk w0 blk off (A ++ ((L1 ++ R1) ++ (L2 ++ (R2 ++ B)))).toArray _ from by have := K1.out; simpa using this)
                  by_cases t1 : mid < e
                  · have t1z : (mid : Int) < (e : Int) := by omega
                    by_cases t2 : e < b
                    · have t2z : (e : Int) < (b : Int) := by omega
                      have MM := hide (M2.out _ _ (HX1.out).len' (by omega) (by omega) (by have := (KX1).out; simpa using this))
                      go_wp2_with fail
                      refine MM.out.mono ?_
                      rintro e3 w3 ⟨rfl, X2, hX2, hs3⟩
                      have HX2 := hide hX2
                      have HS3 := hide hs3
                      clear hX2 hs3
                      go_wp2
                      go_end0
                      exact ⟨rfl, _, HEND.out _ X2 (HX1.out) HX2.out, by have := HS3.out; simpa using this⟩
                    · have t2z : ¬ (e : Int) < (b : Int) := by omega
                      have HX2 := hide (show Srt (L2 ++ R2) (L2 ++ R2) from Srt.refl (asc_or HLR.out.2.2.1 HLR.out.2.2.2 (by first | (left; apply List.eq_nil_of_length_eq_zero; omega) | (right; apply List.eq_nil_of_length_eq_zero; omega))))
                      go_wp2
                      go_end0
                      exact ⟨rfl, _, HEND.out _ _ (HX1.out) HX2.out, by have := (KX1).out; simpa using this⟩
                  · have t1z : ¬ (mid : Int) < (e : Int) := by omega
                    have HX2 := hide (show Srt (L2 ++ R2) (L2 ++ R2) from Srt.refl (asc_or HLR.out.2.2.1 HLR.out.2.2.2 (by first | (left; apply List.eq_nil_of_length_eq_zero; omega) | (right; apply List.eq_nil_of_length_eq_zero; omega))))
                    go_wp2
                    go_end0
                    exact ⟨rfl, _, HEND.out _ _ (HX1.out) HX2.out, by have := (KX1).out; simpa using this⟩
              · have s1z : ¬ (a : Int) < (i : Int) := by omega
                have HX1 := hide (show Srt (L1 ++ R1) (L1 ++ R1) from Srt.refl (asc_or HLR.out.1 HLR.out.2.1 (by first | (left; apply List.eq_nil_of_length_eq_zero; omega) | (right; apply List.eq_nil_of_length_eq_zero; omega))))
                have KX1 := hide (show SWK enc kk w0 blk off (A ++ ((L1 ++ R1) ++ (L2 ++ (R2 ++ B)))).toArray _ from by have := K1.out; simpa using this)
                by_cases t1 : mid < e
                · have t1z : (mid : Int) < (e : Int) := by omega
                  by_cases t2 : e < b
                  · have t2z : (e : Int) < (b : Int) := by omega
                    have MM := hide (M2.out _ _ (HX1.out).len' (by omega) (by omega) (by have := (KX1).out; simpa using this))
                    go_wp2_with fail
                    refine MM.out.mono ?_
                    rintro e3 w3 ⟨rfl, X2, hX2, hs3⟩
                    have HX2 := hide hX2
                    have HS3 := hide hs3
                    clear hX2 hs3
                    go_wp2
                    go_end0
                    exact ⟨rfl, _, HEND.out _ X2 (HX1.out) HX2.out, by have := HS3.out; simpa using this⟩
                  · have t2z : ¬ (e : Int) < (b : Int) := by omega
                    have HX2 := hide (show Srt (L2 ++ R2) (L2 ++ R2) from Srt.refl (asc_or HLR.out.2.2.1 HLR.out.2.2.2 (by first | (left; apply List.eq_nil_of_length_eq_zero; omega) | (right; apply List.eq_nil_of_length_eq_zero; omega))))
                    go_wp2
                    go_end0
                    exact ⟨rfl, _, HEND.out _ _ (HX1.out) HX2.out, by have := (KX1).out; simpa using this⟩
                · have t1z : ¬ (mid : Int) < (e : Int) := by omega
                  have HX2 := hide (show Srt (L2 ++ R2) (L2 ++ R2) from Srt.refl (asc_or HLR.out.2.2.1 HLR.out.2.2.2 (by first | (left; apply List.eq_nil_of_length_eq_zero; omega) | (right; apply List.eq_nil_of_length_eq_zero; omega))))
                  go_wp2
                  go_end0
                  exact ⟨rfl, _, HEND.out _ _ (HX1.out) HX2.out, by have := (KX1).out; simpa using this⟩
          · have r1z : ¬ (i : Int) < (m : Int) := by omega
            have K1 := hide (show SWK enc kk w0 blk off (A ++ (L1 ++ (R1 ++ (L2 ++ (R2 ++ B))))).toArray wr from by
              have h := HS2.out
              rw [show L2 = [] from List.eq_nil_of_length_eq_zero (by omega)] at h ⊢
              simpa using h)
            by_cases s1 : a < i
            · have s1z : (a : Int) < (i : Int) := by omega
              by_cases s2 : i < mid
              · have s2z : (i : Int) < (mid : Int) := by omega
                have MM := hide (M1.out _ (by omega) (by omega) K1.out)
                go_wp2_with fail
                refine MM.out.mono ?_
                rintro e2 w2 ⟨rfl, X1, hX1, hs2⟩
                have HX1 := hide hX1
                have KX1 := hide hs2
                clear hX1 hs2 MM
                by_cases t1 : mid < e
                · have t1z : (mid : Int) < (e : Int) := by omega
                  by_cases t2 : e < b
                  · have t2z : (e : Int) < (b : Int) := by omega
                    have MM := hide (M2.out _ _ (HX1.out).len' (by omega) (by omega) (by have := (KX1).out; simpa using this))
                    go_wp2_with fail
                    refine MM.out.mono ?_
                    rintro e3 w3 ⟨rfl, X2, hX2, hs3⟩
                    have HX2 := hide hX2
                    have HS3 := hide hs3
                    clear hX2 hs3
                    go_wp2
                    go_end0
                    exact ⟨rfl, _, HEND.out _ X2 (HX1.out) HX2.out, by have := HS3.out; simpa using this⟩
                  · have t2z : ¬ (e : Int) < (b : Int) := by omega
                    have HX2 := hide (show Srt (L2 ++ R2) (L2 ++ R2) from Srt.refl (asc_or HLR.out.2.2.1 HLR.out.2.2.2 (by first | (left; apply List.eq_nil_of_length_eq_zero; omega) | (right; apply List.eq_nil_of_length_eq_zero; omega))))
                    go_wp2
                    go_end0
                    exact ⟨rfl, _, HEND.out _ _ (HX1.out) HX2.out, by have := (KX1).out; simpa using this⟩
                · have t1z : ¬ (mid : Int) < (e : Int) := by omega
                  have HX2 := hide (show Srt (L2 ++ R2) (L2 ++ R2) from Srt.refl (asc_or HLR.out.2.2.1 HLR.out.2.2.2 (by first | (left; apply List.eq_nil_of_length_eq_zero; omega) | (right; apply List.eq_nil_of_length_eq_zero; omega))))
                  go_wp2
                  go_end0
                  exact ⟨rfl, _, HEND.out _ _ (HX1.out) HX2.out, by have := (KX1).out; simpa using this⟩
              · have s2z : ¬ (i : Int) < (mid : Int) := by omega
                have HX1 := hide (show Srt (L1 ++ R1) (L1 ++ R1) from Srt.refl (asc_or HLR.out.1 HLR.out.2.1 (by first | (left; apply List.eq_nil_of_length_eq_zero; omega) | (right; apply List.eq_nil_of_length_eq_zero; omega))))
                have KX1 := hide (show SWK enc kk w0 blk off (A ++ ((L1 ++ R1) ++ (L2 ++ (R2 ++ B)))).toArray _ from by have := K1.out; simpa using this)
                by_cases t1 : mid < e
                · have t1z : (mid : Int) < (e : Int) := by omega
                  by_cases t2 : e < b
                  · have t2z : (e : Int) < (b : Int) := by omega
                    have MM := hide (M2.out _ _ (HX1.out).len' (by omega) (by omega) (by have := (KX1).out; simpa using this))
                    go_wp2_with fail
                    refine MM.out.mono ?_
                    rintro e3 w3 ⟨rfl, X2, hX2, hs3⟩
                    have HX2 := hide hX2
                    have HS3 := hide hs3
                    clear hX2 hs3
                    go_wp2
                    go_end0
                    exact ⟨rfl, _, HEND.out _ X2 (HX1.out) HX2.out, by have := HS3.out; simpa using this⟩
                  · have t2z : ¬ (e : Int) < (b : Int) := by omega
                    have HX2 := hide (show Srt (L2 ++ R2) (L2 ++ R2) from Srt.refl (asc_or HLR.out.2.2.1 HLR.out.2.2.2 (by first | (left; apply List.eq_nil_of_length_eq_zero; omega) | (right; apply List.eq_nil_of_length_eq_zero; omega))))
                    go_wp2
                    go_end0
                    exact ⟨rfl, _, HEND.out _ _ (HX1.out) HX2.out, by have := (KX1).out; simpa using this⟩
                · have t1z : ¬ (mid : Int) < (e : Int) := by omega
                  have HX2 := hide (show Srt (L2 ++ R2) (L2 ++ R2) from Srt.refl (asc_or HLR.out.2.2.1 HLR.out.2.2.2 (by first | (left; apply List.eq_nil_of_length_eq_zero; omega) | (right; apply List.eq_nil_of_length_eq_zero; omega))))
                  go_wp2
                  go_end0
                  exact ⟨rfl, _, HEND.out _ _ (HX1.out) HX2.out, by have := (KX1).out; simpa using this⟩
            · have s1z : ¬ (a : Int) < (i : Int) := by omega
              have HX1 := hide (show Srt (L1 ++ R1) (L1 ++ R1) from Srt.refl (asc_or HLR.out.1 HLR.out.2.1 (by first | (left; apply List.eq_nil_of_length_eq_zero; omega) | (right; apply List.eq_nil_of_length_eq_zero; omega))))
              have KX1 := hide (show SWK enc kk w0 blk off (A ++ ((L1 ++ R1) ++ (L2 ++ (R2 ++ B)))).toArray _ from by have := K1.out; simpa using this)
              by_cases t1 : mid < e
              · have t1z : (mid : Int) < (e : Int) := by omega
                by_cases t2 : e < b
                · have t2z : (e : Int) < (b : Int) := by omega
                  have MM := hide (M2.out _ _ (HX1.out).len' (by omega) (by omega) (by have := (KX1).out; simpa using this))
                  go_wp2_with fail
                  refine MM.out.mono ?_
                  rintro e3 w3 ⟨rfl, X2, hX2, hs3⟩
                  have HX2 := hide hX2
                  have HS3 := hide hs3
                  clear hX2 hs3
                  go_wp2
                  go_end0
                  exact ⟨rfl, _, HEND.out _ X2 (HX1.out) HX2.out, by have := HS3.out; simpa using this⟩
                · have t2z : ¬ (e : Int) < (b : Int) := by omega
                  have HX2 := hide (show Srt (L2 ++ R2) (L2 ++ R2) from Srt.refl (asc_or HLR.out.2.2.1 HLR.out.2.2.2 (by first | (left; apply List.eq_nil_of_length_eq_zero; omega) | (right; apply List.eq_nil_of_length_eq_zero; omega))))
                  go_wp2
                  go_end0
                  exact ⟨rfl, _, HEND.out _ _ (HX1.out) HX2.out, by have := (KX1).out; simpa using this⟩
              · have t1z : ¬ (mid : Int) < (e : Int) := by omega
                have HX2 := hide (show Srt (L2 ++ R2) (L2 ++ R2) from Srt.refl (asc_or HLR.out.2.2.1 HLR.out.2.2.2 (by first | (left; apply List.eq_nil_of_length_eq_zero; omega) | (right; apply List.eq_nil_of_length_eq_zero; omega))))
                go_wp2
                go_end0
                exact ⟨rfl, _, HEND.out _ _ (HX1.out) HX2.out, by have := (KX1).out; simpa using this⟩
    · have g4 : ¬ (mid : Int) < (m : Int) := by omega
      have HG2 := hide g2
      have HG3 := hide g3
      have gg : r0 ≤ m := by omega
      have gg2 : m ≤ r0 := by omega
      have gg3 : lo ≤ a := by omega
      clear g2 g3
      go_enter S.sym, Try.ntmps77
      go_wp2_with fail
      go_loopw [20, 21] (fun x y wr => ∃ i j : Nat, x = .int .i64 (i : Int) ∧ y = .int .i64 (j : Int) ∧ lo ≤ i ∧ i ≤ j ∧ j ≤ r0 ∧ (i = lo ∨ 0 ≤ cmpV d[p + 1 - i]! d[i - 1]!) ∧ (j = r0 ∨ cmpV d[p - j]! d[j]! < 0) ∧ SWK enc kk w0 blk off d wr) (fun x y _ => (intOf y).toNat - (intOf x).toNat)
      case atStart => exact ⟨lo, r0, by first | rfl | (rw [HG2.out]), by first | rfl | (rw [HG3.out]), Nat.le_refl _, hlr, Nat.le_refl _, .inl rfl, .inl rfl, H.out⟩
      case round =>
        obtain ⟨i, j, rfl, rfl, hi0, hij, hjb, hci, hcj, hs⟩ := hrel
        by_cases hlt : i < j
        · have hlt' : (i : Int) < (j : Int) := by omega
          obtain ⟨c, hc⟩ : ∃ c, (i + j) / 2 = c := ⟨_, rfl⟩
          have hc1 : i ≤ c := by omega
          have hc2 : c < j := by omega
          have hcz : ((i : Int) + (j : Int)) / 2 = (c : Int) := by omega
          have hcn : (c : Int) < (n : Int) := by omega
          obtain ⟨pc, hpc⟩ : ∃ pc, p - c = pc := ⟨_, rfl⟩
          have hwpc : IntKind.i64.wrap ((p : Int) - (c : Int)) = (pc : Int) := (IntWalk.i64_in _ (by omega)).trans (by omega)
          have hpcn : (pc : Int) < (n : Int) := by omega
          have hwq : IntKind.i64.wrap ((c : Int) + 1) = (c : Int) + 1 := IntWalk.i64_in _ (by omega)
          have l1 := fun n' os' => hs.ld HK.out hdz0 P pc (by omega) n' os'
          have l2 := fun n' os' => hs.ld HK.out hdz0 P c (by omega) n' os'
          have hcg := fun n' os' => hs.cmp HC.out hdz d[pc]! d[c]! n' os'
          have CLS := hide (fun n' os' => hs.grown n' os')
          obtain ⟨y, hy⟩ : ∃ y, d[pc]! = y := ⟨_, rfl⟩
          obtain ⟨z, hz⟩ : ∃ z, d[c]! = z := ⟨_, rfl⟩
          rw [hy] at l1 hcg
          rw [hz] at l2 hcg
          have HY := hide hy
          have HZ := hide hz
          have HQ := hide hc
          have HPC := hide hpc
          have Hci := hide hci
          have Hcj := hide hcj
          clear hs hci hcj hy hz hc hpc
          by_cases hlv : cmpV y z < 0
          · have hld : decide (cmpV y z < 0) = true := decide_eq_true hlv
            go_wp2_with fail
            go_quiet_grown (first | (go_at_fn 30; refine Calls.grown_of (hcg _ _)))
            go_wp2
            go_roundw
            case rel => exact ⟨i, c, rfl, rfl, hi0, hc1, by omega, Hci.out, .inr (by rw [HPC.out, HY.out, HZ.out]; exact hlv), CLS.out _ _⟩
            case measure => simp [intOf]; omega
          · have hld : decide (cmpV y z < 0) = false := decide_eq_false hlv
            go_wp2_with fail
            go_quiet_grown (first | (go_at_fn 30; refine Calls.grown_of (hcg _ _)))
            go_wp2
            go_roundw
            case rel => exact ⟨c + 1, j, by go_num, rfl, by omega, by omega, hjb, .inr (by rw [show p + 1 - (c + 1) = p - c by omega, Nat.add_sub_cancel, HPC.out, HY.out, HZ.out]; omega), Hcj.out, CLS.out _ _⟩
            case measure => simp [intOf]; omega
        · obtain rfl : i = j := by omega
          have hlt' : ¬ (i : Int) < (i : Int) := by omega
          obtain ⟨e, he⟩ : ∃ e, p + 1 - i = e := ⟨_, rfl⟩
          have hwe : IntKind.i64.wrap ((q : Int) - (i : Int)) = (e : Int) := (IntWalk.i64_in _ (by omega)).trans (by omega)
          have HF := hide (FIN.out i e (by omega) (by omega) (by omega) (by omega) (by omega) (by
            rcases hci with h | h
            · rcases hlo with h2 | h2
              · left; omega
              · right; left; omega
            · right; right; rw [← he]; exact h) (by
            rcases hcj with h | h
            · rcases hr0 with h2 | h2
              · left; omega
              · right; left; omega
            · right; right; rw [← he, show p + 1 - i - 1 = p - i by omega]; exact h))
          have HE := hide he
          obtain ⟨L1, L2, R1, R2, hLL, hRR, n1, n2, n3, n4, HFF⟩ := HF.out
          have hs2 : SWK enc kk w0 blk off (A ++ (L1 ++ (L2 ++ (R1 ++ (R2 ++ B))))).toArray wr := by
            have e0 : (A ++ (L1 ++ (L2 ++ (R1 ++ (R2 ++ B))))).toArray = d := by
              rw [← Hd.out, hLL, hRR]; simp
            rw [e0]; exact hs
          have hnn := HNN.out
          have HR := hide (fun (h1 : 0 < L2.length) (h2 : 0 < R1.length) => rot_any (A := A ++ L1) (U := L2) (V := R1) (B := R2 ++ B) S HK.out cap n i m e (.func (.func 30) #[] #[]) (by have := hs2; simpa using this) (by simp; omega) HL0.out hb (by simp; omega) (by simp; omega) (by simp; omega) h1 h2)
          have M1 := hide (fun (W : World) (h1 : 0 < L1.length) (h2 : 0 < R1.length) (h : SWK enc kk w0 blk off (A ++ (L1 ++ (R1 ++ (L2 ++ (R2 ++ B))))).toArray W) => IH.out A L1 R1 (L2 ++ (R2 ++ B)) W a i mid h (by simp; omega) (by omega) (by omega) (by omega) h1 h2 (by omega) HFF.1 HFF.2.1)
          have M2 := hide (fun (X1 : List Va) (W : World) (hX : X1.length = L1.length + R1.length) (h1 : 0 < L2.length) (h2 : 0 < R2.length) (h : SWK enc kk w0 blk off ((A ++ X1) ++ (L2 ++ (R2 ++ B))).toArray W) => IH.out (A ++ X1) L2 R2 B W mid e b h (by simp; omega) (by simp; omega) (by simp; omega) (by simp; omega) h1 h2 (by omega) HFF.2.2.1 HFF.2.2.2.1)
          have HEND := hide HFF.2.2.2.2
          have HS2 := hide hs2
          have HLR := hide (And.intro HFF.1 (And.intro HFF.2.1 (And.intro HFF.2.2.1 HFF.2.2.2.1)))
          have f1 : i + e ≤ mid + m := by omega
          have f2 : mid + m ≤ i + e := by omega
          have f3 : m ≤ e := by omega
          have f4 : e ≤ b := by omega
          have f5 : a ≤ i := by omega
          have f6 : i ≤ m := by omega
          clear hs hs2 hci hcj HF HFF hLL hRR H he hnn
          by_cases r1 : i < m
          · have r1z : (i : Int) < (m : Int) := by omega
            by_cases r2 : m < e
            · have r2z : (m : Int) < (e : Int) := by omega
              have RR := hide (HR.out (by omega) (by omega))
              go_wp2_with fail
              refine RR.out.mono ?_
              rintro e1 w1 ⟨rfl, hs1⟩
              have K1 := hide (show SWK enc kk w0 blk off (A ++ (L1 ++ (R1 ++ (L2 ++ (R2 ++ B))))).toArray w1 from by simpa using hs1)
              clear hs1 RR
              by_cases s1 : a < i
              · have s1z : (a : Int) < (i : Int) := by omega
                by_cases s2 : i < mid
                · have s2z : (i : Int) < (mid : Int) := by omega
                  have MM := hide (M1.out _ (by omega) (by omega) K1.out)
                  go_wp2_with fail
                  refine MM.out.mono ?_
                  rintro e2 w2 ⟨rfl, X1, hX1, hs2⟩
                  have HX1 := hide hX1
                  have KX1 := hide hs2
                  clear hX1 hs2 MM
                  by_cases t1 : mid < e
                  · have t1z : (mid : Int) < (e : Int) := by omega
                    by_cases t2 : e < b
                    · have t2z : (e : Int) < (b : Int) := by omega
                      have MM := hide (M2.out _ _ (HX1.out).len' (by omega) (by omega) (by have := (KX1).out; simpa using this))
                      go_wp2_with fail
                      refine MM.out.mono ?_
                      rintro e3 w3 ⟨rfl, X2, hX2, hs3⟩
                      have HX2 := hide hX2
                      have HS3 := hide hs3
                      clear hX2 hs3
                      go_wp2
                      go_end0
                      exact ⟨rfl, _, HEND.out _ X2 (HX1.out) HX2.out, by have := HS3.out; simpa using this⟩
                    · have t2z : ¬ (e : Int) < (b : Int) := by omega
                      have HX2 := hide (show Srt (L2 ++ R2) (L2 ++ R2) from Srt.refl (asc_or HLR.out.2.2.1 HLR.out.2.2.2 (by first | (left; apply List.eq_nil_of_length_eq_zero; omega) | (right; apply List.eq_nil_of_length_eq_zero; omega))))
                      go_wp2
                      go_end0
                      exact ⟨rfl, _, HEND.out _ _ (HX1.out) HX2.out, by have := (KX1).out; simpa using this⟩
                  · have t1z : ¬ (mid : Int) < (e : Int) := by omega
                    have HX2 := hide (show Srt (L2 ++ R2) (L2 ++ R2) from Srt.refl (asc_or HLR.out.2.2.1 HLR.out.2.2.2 (by first | (left; apply List.eq_nil_of_length_eq_zero; omega) | (right; apply List.eq_nil_of_length_eq_zero; omega))))
                    go_wp2
                    go_end0
                    exact ⟨rfl, _, HEND.out _ _ (HX1.out) HX2.out, by have := (KX1).out; simpa using this⟩
                · have s2z : ¬ (i : Int) < (mid : Int) := by omega
                  have HX1 := hide (show Srt (L1 ++ R1) (L1 ++ R1) from Srt.refl (asc_or HLR.out.1 HLR.out.2.1 (by first | (left; apply List.eq_nil_of_length_eq_zero; omega) | (right; apply List.eq_nil_of_length_eq_zero; omega))))
                  have KX1 := hide (show SWK enc kk w0 blk off (A ++ ((L1 ++ R1) ++ (L2 ++ (R2 ++ B)))).toArray _ from by have := K1.out; simpa using this)
                  by_cases t1 : mid < e
                  · have t1z : (mid : Int) < (e : Int) := by omega
                    by_cases t2 : e < b
                    · have t2z : (e : Int) < (b : Int) := by omega
                      have MM := hide (M2.out _ _ (HX1.out).len' (by omega) (by omega) (by have := (KX1).out; simpa using this))
                      go_wp2_with fail
                      refine MM.out.mono ?_
                      rintro e3 w3 ⟨rfl, X2, hX2, hs3⟩
                      have HX2 := hide hX2
                      have HS3 := hide hs3
                      clear hX2 hs3
                      go_wp2
                      go_end0
                      exact ⟨rfl, _, HEND.out _ X2 (HX1.out) HX2.out, by have := HS3.out; simpa using this⟩
                    · have t2z : ¬ (e : Int) < (b : Int) := by omega
                      have HX2 := hide (show Srt (L2 ++ R2) (L2 ++ R2) from Srt.refl (asc_or HLR.out.2.2.1 HLR.out.2.2.2 (by first | (left; apply List.eq_nil_of_length_eq_zero; omega) | (right; apply List.eq_nil_of_length_eq_zero; omega))))
                      go_wp2
                      go_end0
                      exact ⟨rfl, _, HEND.out _ _ (HX1.out) HX2.out, by have := (KX1).out; simpa using this⟩
                  · have t1z : ¬ (mid : Int) < (e : Int) := by omega
                    have HX2 := hide (show Srt (L2 ++ R2) (L2 ++ R2) from Srt.refl (asc_or HLR.out.2.2.1 HLR.out.2.2.2 (by first | (left; apply List.eq_nil_of_length_eq_zero; omega) | (right; apply List.eq_nil_of_length_eq_zero; omega))))
                    go_wp2
                    go_end0
                    exact ⟨rfl, _, HEND.out _ _ (HX1.out) HX2.out, by have := (KX1).out; simpa using this⟩
              · have s1z : ¬ (a : Int) < (i : Int) := by omega
                have HX1 := hide (show Srt (L1 ++ R1) (L1 ++ R1) from Srt.refl (asc_or HLR.out.1 HLR.out.2.1 (by first | (left; apply List.eq_nil_of_length_eq_zero; omega) | (right; apply List.eq_nil_of_length_eq_zero; omega))))
                have KX1 := hide (show SWK enc kk w0 blk off (A ++ ((L1 ++ R1) ++ (L2 ++ (R2 ++ B)))).toArray _ from by have := K1.out; simpa using this)
                by_cases t1 : mid < e
                · have t1z : (mid : Int) < (e : Int) := by omega
                  by_cases t2 : e < b
                  · have t2z : (e : Int) < (b : Int) := by omega
                    have MM := hide (M2.out _ _ (HX1.out).len' (by omega) (by omega) (by have := (KX1).out; simpa using this))
                    go_wp2_with fail
                    refine MM.out.mono ?_
                    rintro e3 w3 ⟨rfl, X2, hX2, hs3⟩
                    have HX2 := hide hX2
                    have HS3 := hide hs3
                    clear hX2 hs3
                    go_wp2
                    go_end0
                    exact ⟨rfl, _, HEND.out _ X2 (HX1.out) HX2.out, by have := HS3.out; simpa using this⟩
                  · have t2z : ¬ (e : Int) < (b : Int) := by omega
                    have HX2 := hide (show Srt (L2 ++ R2) (L2 ++ R2) from Srt.refl (asc_or HLR.out.2.2.1 HLR.out.2.2.2 (by first | (left; apply List.eq_nil_of_length_eq_zero; omega) | (right; apply List.eq_nil_of_length_eq_zero; omega))))
                    go_wp2
                    go_end0
                    exact ⟨rfl, _, HEND.out _ _ (HX1.out) HX2.out, by have := (KX1).out; simpa using this⟩
                · have t1z : ¬ (mid : Int) < (e : Int) := by omega
                  have HX2 := hide (show Srt (L2 ++ R2) (L2 ++ R2) from Srt.refl (asc_or HLR.out.2.2.1 HLR.out.2.2.2 (by first | (left; apply List.eq_nil_of_length_eq_zero; omega) | (right; apply List.eq_nil_of_length_eq_zero; omega))))
                  go_wp2
                  go_end0
                  exact ⟨rfl, _, HEND.out _ _ (HX1.out) HX2.out, by have := (KX1).out; simpa using this⟩
            · have r2z : ¬ (m : Int) < (e : Int) := by omega
              have K1 := hide (show SWK enc kk w0 blk off (A ++ (L1 ++ (R1 ++ (L2 ++ (R2 ++ B))))).toArray wr from by
                have h := HS2.out
                rw [show R1 = [] from List.eq_nil_of_length_eq_zero (by omega)] at h ⊢
                simpa using h)
              by_cases s1 : a < i
              · have s1z : (a : Int) < (i : Int) := by omega
                by_cases s2 : i < mid
                · have s2z : (i : Int) < (mid : Int) := by omega
                  have MM := hide (M1.out _ (by omega) (by omega) K1.out)
                  go_wp2_with fail
                  refine MM.out.mono ?_
                  rintro e2 w2 ⟨rfl, X1, hX1, hs2⟩
                  have HX1 := hide hX1
                  have KX1 := hide hs2
                  clear hX1 hs2 MM
                  by_cases t1 : mid < e
                  · have t1z : (mid : Int) < (e : Int) := by omega
                    by_cases t2 : e < b
                    · have t2z : (e : Int) < (b : Int) := by omega
                      have MM := hide (M2.out _ _ (HX1.out).len' (by omega) (by omega) (by have := (KX1).out; simpa using this))
                      go_wp2_with fail
                      refine MM.out.mono ?_
                      rintro e3 w3 ⟨rfl, X2, hX2, hs3⟩
                      have HX2 := hide hX2
                      have HS3 := hide hs3
                      clear hX2 hs3
                      go_wp2
                      go_end0
                      exact ⟨rfl, _, HEND.out _ X2 (HX1.out) HX2.out, by have := HS3.out; simpa using this⟩
                    · have t2z : ¬ (e : Int) < (b : Int) := by omega
                      have HX2 := hide (show Srt (L2 ++ R2) (L2 ++ R2) from Srt.refl (asc_or HLR.out.2.2.1 HLR.out.2.2.2 (by first | (left; apply List.eq_nil_of_length_eq_zero; omega) | (right; apply List.eq_nil_of_length_eq_zero; omega))))
                      go_wp2
                      go_end0
                      exact ⟨rfl, _, HEND.out _ _ (HX1.out) HX2.out, by have := (KX1).out; simpa using this⟩
                  · have t1z : ¬ (mid : Int) < (e : Int) := by omega
                    have HX2 := hide (show Srt (L2 ++ R2) (L2 ++ R2) from Srt.refl (asc_or HLR.out.2.2.1 HLR.out.2.2.2 (by first | (left; apply List.eq_nil_of_length_eq_zero; omega) | (right; apply List.eq_nil_of_length_eq_zero; omega))))
                    go_wp2
                    go_end0
                    exact ⟨rfl, _, HEND.out _ _ (HX1.out) HX2.out, by have := (KX1).out; simpa using this⟩
                · have s2z : ¬ (i : Int) < (mid : Int) := by omega
                  have HX1 := hide (show Srt (L1 ++ R1) (L1 ++ R1) from Srt.refl (asc_or HLR.out.1 HLR.out.2.1 (by first | (left; apply List.eq_nil_of_length_eq_zero; omega) | (right; apply List.eq_nil_of_length_eq_zero; omega))))
                  have KX1 := hide (show SWK enc kk w0 blk off (A ++ ((L1 ++ R1) ++ (L2 ++ (R2 ++ B)))).toArray _ from by have := K1.out; simpa using this)
                  by_cases t1 : mid < e
                  · have t1z : (mid : Int) < (e : Int) := by omega
                    by_cases t2 : e < b
                    · have t2z : (e : Int) < (b : Int) := by omega
                      have MM := hide (M2.out _ _ (HX1.out).len' (by omega) (by omega) (by have := (KX1).out; simpa using this))
                      go_wp2_with fail
                      refine MM.out.mono ?_
                      rintro e3 w3 ⟨rfl, X2, hX2, hs3⟩
                      have HX2 := hide hX2
                      have HS3 := hide hs3
                      clear hX2 hs3
                      go_wp2
                      go_end0
                      exact ⟨rfl, _, HEND.out _ X2 (HX1.out) HX2.out, by have := HS3.out; simpa using this⟩
                    · have t2z : ¬ (e : Int) < (b : Int) := by omega
                      have HX2 := hide (show Srt (L2 ++ R2) (L2 ++ R2) from Srt.refl (asc_or HLR.out.2.2.1 HLR.out.2.2.2 (by first | (left; apply List.eq_nil_of_length_eq_zero; omega) | (right; apply List.eq_nil_of_length_eq_zero; omega))))
                      go_wp2
                      go_end0
                      exact ⟨rfl, _, HEND.out _ _ (HX1.out) HX2.out, by have := (KX1).out; simpa using this⟩
                  · have t1z : ¬ (mid : Int) < (e : Int) := by omega
                    have HX2 := hide (show Srt (L2 ++ R2) (L2 ++ R2) from Srt.refl (asc_or HLR.out.2.2.1 HLR.out.2.2.2 (by first | (left; apply List.eq_nil_of_length_eq_zero; omega) | (right; apply List.eq_nil_of_length_eq_zero; omega))))
                    go_wp2
                    go_end0
                    exact ⟨rfl, _, HEND.out _ _ (HX1.out) HX2.out, by have := (KX1).out; simpa using this⟩
              · have s1z : ¬ (a : Int) < (i : Int) := by omega
                have HX1 := hide (show Srt (L1 ++ R1) (L1 ++ R1) from Srt.refl (asc_or HLR.out.1 HLR.out.2.1 (by first | (left; apply List.eq_nil_of_length_eq_zero; omega) | (right; apply List.eq_nil_of_length_eq_zero; omega))))
                have KX1 := hide (show SWK enc kk w0 blk off (A ++ ((L1 ++ R1) ++ (L2 ++ (R2 ++ B)))).toArray _ from by have := K1.out; simpa using this)
                by_cases t1 : mid < e
                · have t1z : (mid : Int) < (e : Int) := by omega
                  by_cases t2 : e < b
                  · have t2z : (e : Int) < (b : Int) := by omega
                    have MM := hide (M2.out _ _ (HX1.out).len' (by omega) (by omega) (by have := (KX1).out; simpa using this))
                    go_wp2_with fail
                    refine MM.out.mono ?_
                    rintro e3 w3 ⟨rfl, X2, hX2, hs3⟩
                    have HX2 := hide hX2
                    have HS3 := hide hs3
                    clear hX2 hs3
                    go_wp2
                    go_end0
                    exact ⟨rfl, _, HEND.out _ X2 (HX1.out) HX2.out, by have := HS3.out; simpa using this⟩
                  · have t2z : ¬ (e : Int) < (b : Int) := by omega
                    have HX2 := hide (show Srt (L2 ++ R2) (L2 ++ R2) from Srt.refl (asc_or HLR.out.2.2.1 HLR.out.2.2.2 (by first | (left; apply List.eq_nil_of_length_eq_zero; omega) | (right; apply List.eq_nil_of_length_eq_zero; omega))))
                    go_wp2
                    go_end0
                    exact ⟨rfl, _, HEND.out _ _ (HX1.out) HX2.out, by have := (KX1).out; simpa using this⟩
                · have t1z : ¬ (mid : Int) < (e : Int) := by omega
                  have HX2 := hide (show Srt (L2 ++ R2) (L2 ++ R2) from Srt.refl (asc_or HLR.out.2.2.1 HLR.out.2.2.2 (by first | (left; apply List.eq_nil_of_length_eq_zero; omega) | (right; apply List.eq_nil_of_length_eq_zero; omega))))
                  go_wp2
                  go_end0
                  exact ⟨rfl, _, HEND.out _ _ (HX1.out) HX2.out, by have := (KX1).out; simpa using this⟩
          · have r1z : ¬ (i : Int) < (m : Int) := by omega
            have K1 := hide (show SWK enc kk w0 blk off (A ++ (L1 ++ (R1 ++ (L2 ++ (R2 ++ B))))).toArray wr from by
              have h := HS2.out
              rw [show L2 = [] from List.eq_nil_of_length_eq_zero (by omega)] at h ⊢
              simpa using h)
            by_cases s1 : a < i
            · have s1z : (a : Int) < (i : Int) := by omega
              by_cases s2 : i < mid
              · have s2z : (i : Int) < (mid : Int) := by omega
                have MM := hide (M1.out _ (by omega) (by omega) K1.out)
                go_wp2_with fail
                refine MM.out.mono ?_
                rintro e2 w2 ⟨rfl, X1, hX1, hs2⟩
                have HX1 := hide hX1
                have KX1 := hide hs2
                clear hX1 hs2 MM
                by_cases t1 : mid < e
                · have t1z : (mid : Int) < (e : Int) := by omega
                  by_cases t2 : e < b
                  · have t2z : (e : Int) < (b : Int) := by omega
                    have MM := hide (M2.out _ _ (HX1.out).len' (by omega) (by omega) (by have := (KX1).out; simpa using this))
                    go_wp2_with fail
                    refine MM.out.mono ?_
                    rintro e3 w3 ⟨rfl, X2, hX2, hs3⟩
                    have HX2 := hide hX2
                    have HS3 := hide hs3
                    clear hX2 hs3
                    go_wp2
                    go_end0
                    exact ⟨rfl, _, HEND.out _ X2 (HX1.out) HX2.out, by have := HS3.out; simpa using this⟩
                  · have t2z : ¬ (e : Int) < (b : Int) := by omega
                    have HX2 := hide (show Srt (L2 ++ R2) (L2 ++ R2) from Srt.refl (asc_or HLR.out.2.2.1 HLR.out.2.2.2 (by first | (left; apply List.eq_nil_of_length_eq_zero; omega) | (right; apply List.eq_nil_of_length_eq_zero; omega))))
                    go_wp2
                    go_end0
                    exact ⟨rfl, _, HEND.out _ _ (HX1.out) HX2.out, by have := (KX1).out; simpa using this⟩
                · have t1z : ¬ (mid : Int) < (e : Int) := by omega
                  have HX2 := hide (show Srt (L2 ++ R2) (L2 ++ R2) from Srt.refl (asc_or HLR.out.2.2.1 HLR.out.2.2.2 (by first | (left; apply List.eq_nil_of_length_eq_zero; omega) | (right; apply List.eq_nil_of_length_eq_zero; omega))))
                  go_wp2
                  go_end0
                  exact ⟨rfl, _, HEND.out _ _ (HX1.out) HX2.out, by have := (KX1).out; simpa using this⟩
              · have s2z : ¬ (i : Int) < (mid : Int) := by omega
                have HX1 := hide (show Srt (L1 ++ R1) (L1 ++ R1) from Srt.refl (asc_or HLR.out.1 HLR.out.2.1 (by first | (left; apply List.eq_nil_of_length_eq_zero; omega) | (right; apply List.eq_nil_of_length_eq_zero; omega))))
                have KX1 := hide (show SWK enc kk w0 blk off (A ++ ((L1 ++ R1) ++ (L2 ++ (R2 ++ B)))).toArray _ from by have := K1.out; simpa using this)
                by_cases t1 : mid < e
                · have t1z : (mid : Int) < (e : Int) := by omega
                  by_cases t2 : e < b
                  · have t2z : (e : Int) < (b : Int) := by omega
                    have MM := hide (M2.out _ _ (HX1.out).len' (by omega) (by omega) (by have := (KX1).out; simpa using this))
                    go_wp2_with fail
                    refine MM.out.mono ?_
                    rintro e3 w3 ⟨rfl, X2, hX2, hs3⟩
                    have HX2 := hide hX2
                    have HS3 := hide hs3
                    clear hX2 hs3
                    go_wp2
                    go_end0
                    exact ⟨rfl, _, HEND.out _ X2 (HX1.out) HX2.out, by have := HS3.out; simpa using this⟩
                  · have t2z : ¬ (e : Int) < (b : Int) := by omega
                    have HX2 := hide (show Srt (L2 ++ R2) (L2 ++ R2) from Srt.refl (asc_or HLR.out.2.2.1 HLR.out.2.2.2 (by first | (left; apply List.eq_nil_of_length_eq_zero; omega) | (right; apply List.eq_nil_of_length_eq_zero; omega))))
                    go_wp2
                    go_end0
                    exact ⟨rfl, _, HEND.out _ _ (HX1.out) HX2.out, by have := (KX1).out; simpa using this⟩
                · have t1z : ¬ (mid : Int) < (e : Int) := by omega
                  have HX2 := hide (show Srt (L2 ++ R2) (L2 ++ R2) from Srt.refl (asc_or HLR.out.2.2.1 HLR.out.2.2.2 (by first | (left; apply List.eq_nil_of_length_eq_zero; omega) | (right; apply List.eq_nil_of_length_eq_zero; omega))))
                  go_wp2
                  go_end0
                  exact ⟨rfl, _, HEND.out _ _ (HX1.out) HX2.out, by have := (KX1).out; simpa using this⟩
            · have s1z : ¬ (a : Int) < (i : Int) := by omega
              have HX1 := hide (show Srt (L1 ++ R1) (L1 ++ R1) from Srt.refl (asc_or HLR.out.1 HLR.out.2.1 (by first | (left; apply List.eq_nil_of_length_eq_zero; omega) | (right; apply List.eq_nil_of_length_eq_zero; omega))))
              have KX1 := hide (show SWK enc kk w0 blk off (A ++ ((L1 ++ R1) ++ (L2 ++ (R2 ++ B)))).toArray _ from by have := K1.out; simpa using this)
              by_cases t1 : mid < e
              · have t1z : (mid : Int) < (e : Int) := by omega
                by_cases t2 : e < b
                · have t2z : (e : Int) < (b : Int) := by omega
                  have MM := hide (M2.out _ _ (HX1.out).len' (by omega) (by omega) (by have := (KX1).out; simpa using this))
                  go_wp2_with fail
                  refine MM.out.mono ?_
                  rintro e3 w3 ⟨rfl, X2, hX2, hs3⟩
                  have HX2 := hide hX2
                  have HS3 := hide hs3
                  clear hX2 hs3
                  go_wp2
                  go_end0
                  exact ⟨rfl, _, HEND.out _ X2 (HX1.out) HX2.out, by have := HS3.out; simpa using this⟩
                · have t2z : ¬ (e : Int) < (b : Int) := by omega
                  have HX2 := hide (show Srt (L2 ++ R2) (L2 ++ R2) from Srt.refl (asc_or HLR.out.2.2.1 HLR.out.2.2.2 (by first | (left; apply List.eq_nil_of_length_eq_zero; omega) | (right; apply List.eq_nil_of_length_eq_zero; omega))))
                  go_wp2
                  go_end0
                  exact ⟨rfl, _, HEND.out _ _ (HX1.out) HX2.out, by have := (KX1).out; simpa using this⟩
              · have t1z : ¬ (mid : Int) < (e : Int) := by omega
                have HX2 := hide (show Srt (L2 ++ R2) (L2 ++ R2) from Srt.refl (asc_or HLR.out.2.2.1 HLR.out.2.2.2 (by first | (left; apply List.eq_nil_of_length_eq_zero; omega) | (right; apply List.eq_nil_of_length_eq_zero; omega))))
                go_wp2
                go_end0
                exact ⟨rfl, _, HEND.out _ _ (HX1.out) HX2.out, by have := (KX1).out; simpa using this⟩
end
end Go.Proofs.Ytpfiofgchkfkhaa

/- Plain: blocks; contract of the stable sort. -/
set_option linter.unusedVariables false
set_option linter.unusedSimpArgs false
namespace Go.Proofs.Ytpfiofgchkfkhaa
open Go.RowKit Go.Shelf Go.Sort Go.Lib
/-- X is X0 with the parts of k elements sorted (at least) -/
structure Blk (k : Nat) (X0 X : List Va) : Prop where
  len : X.length = X0.length
  fil : ∀ c, fil c X = fil c X0
  asc : ∀ t, Asc ((X.drop (t * k)).take k)
theorem Blk.nil (k : Nat) : Blk k [] [] := ⟨rfl, fun _ => rfl, fun t => by simp [Asc]⟩
theorem Blk.trans {k k' : Nat} {a b c : List Va} (h : Blk k a b) (g : Blk k' b c) : Blk k' a c := ⟨g.len.trans h.len, fun x => (g.fil x).trans (h.fil x), g.asc⟩
theorem Blk.snoc {k t : Nat} {X0 X Y0 Y : List Va} (h : Blk k X0 X) (hl : X.length = t * k) (g : Srt Y0 Y) (hY : Y.length ≤ k) : Blk k (X0 ++ Y0) (X ++ Y) := by
  refine ⟨by simp [h.len, g.len], fun c => by rw [fil_app, fil_app, h.fil, g.fil], fun s => ?_⟩
  rcases Nat.lt_or_ge s t with hst | hst
  · have h1 : s * k + k ≤ X.length := by
      rw [hl]
      have := Nat.mul_le_mul_right k (show s + 1 ≤ t from hst)
      rw [Nat.add_mul, Nat.one_mul] at this; omega
    rw [List.drop_append_of_le_length (by omega), List.take_append_of_le_length (by rw [List.length_drop]; omega)]
    exact h.asc s
  · have h1 : X.length ≤ s * k := by rw [hl]; exact Nat.mul_le_mul_right k hst
    rw [List.drop_append, List.drop_eq_nil_of_le h1, List.nil_append]
    unfold Asc
    exact (g.asc.sublist (List.drop_sublist _ _)).sublist (List.take_sublist _ _)
theorem Blk.whole {k : Nat} {X0 X : List Va} (h : Blk k X0 X) (hk : X.length ≤ k) : Srt X0 X := ⟨h.len, by
  have := h.asc 0
  rw [Nat.zero_mul, List.drop_zero, List.take_of_length_le hk] at this
  exact this, h.fil⟩
theorem Blk.part {k t : Nat} {X0 X Y : List Va} (h : Blk k X0 (X ++ Y)) (hl : X.length = t * k) : ∀ s, Asc ((Y.drop (s * k)).take k) := by
  intro s
  have := h.asc (t + s)
  rw [List.drop_append, List.drop_eq_nil_of_le (by rw [hl]; exact Nat.mul_le_mul_right k (Nat.le_add_right t s)), List.nil_append, hl, Nat.add_mul, Nat.add_sub_cancel_left] at this
  exact this
end Go.Proofs.Ytpfiofgchkfkhaa

/- Contract of slices.SortStableFunc at the variables. -/
set_option linter.unusedVariables false
set_option linter.unusedSimpArgs false
namespace Go.Proofs.Ytpfiofgchkfkhaa
open Go.RowKit Go.Shelf Go.Sort Go.Lib
set_option maxHeartbeats 8000000 in
set_option maxRecDepth 20000 in
theorem stable_any {w0 W : World} {blk off : Nat} {l : List Va} (R : RV w0 blk off l) (cap n : Nat) (h : SV w0 blk off l W) (hn : l.length = n) (hb : n ≤ 1000000) :
    Calls Try.prog 65 #[.slice (some ⟨blk, off, none⟩) n cap, .int .i64 n, (.func (.func 30) #[] #[])] W fun e w' => e = .returned (.tuple #[]) ∧ ∃ X, Srt l X ∧ SV w0 blk off X w' := by
  have INS := hide (fun (A X B : List Va) (W : World) (a b : Nat) (h : SV w0 blk off (A ++ (X ++ B)) W) (h1 : n = A.length + (X.length + B.length)) (h2 : a = A.length) (h3 : b = A.length + X.length) => ins_any R cap n a b h h1 hn.symm hb h2 h3)
  have SYM := hide (fun (A L R' B : List Va) (W : World) (a m b : Nat) (h : SV w0 blk off (A ++ (L ++ (R' ++ B))) W) h1 h2 h3 h4 h5 h6 h7 h8 => sym_any slay R entersO cap n (cmpLays _ _ _ _) hn.symm hb (L.length + R'.length) A L R' B W a m b h h1 h2 h3 h4 h5 h6 (Nat.le_refl _) h7 h8)
  have Hn := hide hn
  have H := hide h
  clear h hn R
  go_enter Try.func65, Try.ntmps65
  go_wp2_with fail
  go_loopw [7, 8] (fun v u wr => ∃ t a b : Nat, v = .int .i64 (a : Int) ∧ u = .int .i64 (b : Int) ∧ Hid (a = t * 20) ∧ b ≤ a + 20 ∧ a + 20 ≤ b ∧ a ≤ n ∧ Hid (∃ X0 X Y, l = X0 ++ Y ∧ X.length = a ∧ Blk 20 X0 X ∧ SV w0 blk off (X ++ Y) wr)) (fun v _ _ => n - (intOf v).toNat)
  case atStart => exact ⟨0, 0, 20, rfl, rfl, hide rfl, by omega, by omega, by omega, hide ⟨[], [], l, rfl, rfl, Blk.nil _, by have := H.out; simpa using this⟩⟩
  case round =>
    obtain ⟨t, a, b, rfl, rfl, Ht, hb1, hb2, han, HI⟩ := hrel
    by_cases hlt : b ≤ n
    · have hlt' : (b : Int) ≤ (n : Int) := by omega
      have hwb : IntKind.i64.wrap ((b : Int) + 20) = (b : Int) + 20 := IntWalk.i64_in _ (by omega)
      obtain ⟨X0, X, Y, hl, hX, hB, hs⟩ := HI.out
      have hlen : X.length + Y.length = n := by have h1 := Hn.out; have h2 := hB.len; rw [hl, List.length_append] at h1; omega
      have hs' : SV w0 blk off (X ++ (Y.take 20 ++ Y.drop 20)) wr := by rw [List.take_append_drop]; exact hs
      have C := hide (INS.out X (Y.take 20) (Y.drop 20) wr a b hs' (by rw [List.length_take, List.length_drop]; omega) hX.symm (by rw [List.length_take]; omega))
      have NEXT := hide (fun (Z : List Va) (W' : World) (hz : Srt (Y.take 20) Z) (h : SV w0 blk off (X ++ (Z ++ Y.drop 20)) W') => show ∃ X0 X Y, l = X0 ++ Y ∧ X.length = b ∧ Blk 20 X0 X ∧ SV w0 blk off (X ++ Y) W' from
        ⟨X0 ++ Y.take 20, X ++ Z, Y.drop 20, by rw [List.append_assoc, List.take_append_drop]; exact hl, by rw [List.length_append, hz.len, List.length_take]; omega, hB.snoc (by rw [hX]; exact Ht.out) hz (by rw [hz.len, List.length_take]; omega), by simpa using h⟩)
      clear hl hX hB hs hs' hlen
      go_wp2_with fail
      refine C.out.mono ?_
      rintro e w1 ⟨rfl, Z, hZ, hs1⟩
      have HN := hide (NEXT.out Z w1 hZ hs1)
      clear hZ hs1
      go_wp2
      go_roundw
      case rel => exact ⟨t + 1, b, b + 20, rfl, by go_num, hide (by have := Ht.out; omega), by omega, by omega, by omega, HN⟩
      case measure => simp [intOf]; omega
    · have hlt' : ¬ (b : Int) ≤ (n : Int) := by omega
      obtain ⟨X0, X, Y, hl, hX, hB, hs⟩ := HI.out
      have hlen : X.length + Y.length = n := by have h1 := Hn.out; have h2 := hB.len; rw [hl, List.length_append] at h1; omega
      have C := hide (INS.out X Y [] wr a n (by rw [List.append_nil]; exact hs) (by simp; omega) hX.symm (by omega))
      have NEXT := hide (fun (Z : List Va) (W' : World) (hz : Srt Y Z) (h : SV w0 blk off (X ++ (Z ++ [])) W') => show ∃ Xs, Xs.length = n ∧ Blk 20 l Xs ∧ SV w0 blk off Xs W' from
        ⟨X ++ Z, by rw [List.length_append, hz.len]; omega, by rw [hl]; exact hB.snoc (by rw [hX]; exact Ht.out) hz (by rw [hz.len]; omega), by simpa using h⟩)
      clear hl hX hB hs hlen
      go_wp2_with fail
      refine C.out.mono ?_
      rintro e w1 ⟨rfl, Z, hZ, hs1⟩
      have HN := hide (NEXT.out Z w1 hZ hs1)
      clear hZ hs1 NEXT C HI
      go_wp2_with fail
      go_loopw [6] (fun v wr => ∃ k : Nat, v = .int .i64 (k : Int) ∧ 20 ≤ k ∧ k ≤ 4000000 ∧ Hid (∃ Xs, Xs.length = n ∧ Blk k l Xs ∧ SV w0 blk off Xs wr)) (fun v _ => n - (intOf v).toNat)
      case atStart => exact ⟨20, rfl, by omega, by omega, HN⟩
      case round =>
        obtain ⟨k, rfl, hk1, hk2, HX⟩ := hrel
        by_cases hkn : k < n
        · have hkn' : (k : Int) < (n : Int) := by omega
          obtain ⟨K, hK⟩ : ∃ K, 2 * k = K := ⟨_, rfl⟩
          have hwK : IntKind.i64.wrap (2 * (k : Int)) = (K : Int) := (IntWalk.i64_in _ (by omega)).trans (by omega)
          have hwK2 : IntKind.i64.wrap ((k : Int) * 2) = (K : Int) := (IntWalk.i64_in _ (by omega)).trans (by omega)
          have hK1 : 2 * k ≤ K := by omega
          have hK2 : K ≤ 2 * k := by omega
          have HK := hide hK
          clear hK
          obtain ⟨Xs, hXs, hBk, hs⟩ := HX.out
          have HXs := hide hXs
          have HBk := hide hBk
          have Hs := hide hs
          clear hXs hBk hs HX
          go_wp2_with fail
          go_loopw [7, 8] (fun v u wr => ∃ t a b : Nat, v = .int .i64 (a : Int) ∧ u = .int .i64 (b : Int) ∧ Hid (a = t * K) ∧ b ≤ a + K ∧ a + K ≤ b ∧ a ≤ n ∧ Hid (∃ X0 X Y, Xs = X0 ++ Y ∧ X.length = a ∧ Blk K X0 X ∧ SV w0 blk off (X ++ Y) wr)) (fun v _ _ => n - (intOf v).toNat)
          case atStart => exact ⟨0, 0, K, rfl, rfl, hide (by omega), by omega, by omega, by omega, hide ⟨[], [], Xs, rfl, rfl, Blk.nil _, by have := Hs.out; simpa using this⟩⟩
          case round =>
            obtain ⟨t2, a2, b2, rfl, rfl, Ht2, hb3, hb4, han2, HI2⟩ := hrel
            obtain ⟨m2, hm2⟩ : ∃ m : Nat, a2 + k = m := ⟨_, rfl⟩
            have hwm : IntKind.i64.wrap ((a2 : Int) + (k : Int)) = (m2 : Int) := (IntWalk.i64_in _ (by omega)).trans (by omega)
            have hm21 : a2 + k ≤ m2 := by omega
            have hm22 : m2 ≤ a2 + k := by omega
            have HM2 := hide hm2
            clear hm2
            obtain ⟨X0, X, Y, hl, hX, hB, hs⟩ := HI2.out
            have hlen : X.length + Y.length = n := by have h1 := HXs.out; have h2 := hB.len; rw [hl, List.length_append] at h1; omega
            have hpart := Blk.part (k := k) (t := 2 * t2) (X0 := l) (X := X0) (Y := Y) (by rw [← hl]; exact HBk.out) (by rw [← hB.len, hX, Ht2.out, ← HK.out, Nat.mul_comm 2 t2, Nat.mul_assoc])
            have hp0 : Asc (Y.take k) := by have := hpart 0; rwa [Nat.zero_mul, List.drop_zero] at this
            have hp1 : Asc ((Y.drop k).take k) := by have := hpart 1; rwa [Nat.one_mul] at this
            have hkk : k + k = K := by have := HK.out; omega
            by_cases hlt2 : b2 ≤ n
            · have hlt2' : (b2 : Int) ≤ (n : Int) := by omega
              have hwb2 : IntKind.i64.wrap ((b2 : Int) + (K : Int)) = (b2 : Int) + (K : Int) := IntWalk.i64_in _ (by omega)
              have hwb3 : IntKind.i64.wrap ((b2 : Int) + 2 * (k : Int)) = (b2 : Int) + (K : Int) := (IntWalk.i64_in _ (by omega)).trans (by omega)
              have hY : Y = Y.take k ++ ((Y.drop k).take k ++ Y.drop K) := by
                rw [← hkk, ← List.drop_drop, List.take_append_drop, List.take_append_drop]
              have hXsY : Xs = (X0 ++ (Y.take k ++ (Y.drop k).take k)) ++ Y.drop K := by
                rw [hl, List.append_assoc, List.append_assoc, ← hY]
              have C := hide (SYM.out X (Y.take k) ((Y.drop k).take k) (Y.drop K) wr a2 m2 b2 (by rw [← hY]; exact hs) (by simp only [List.length_take, List.length_drop]; omega) hX.symm (by rw [List.length_take]; omega) (by simp only [List.length_take, List.length_drop]; omega) (by rw [List.length_take]; omega) (by simp only [List.length_take, List.length_drop]; omega) hp0 hp1)
              have NEXT := hide (fun (Z : List Va) (W' : World) (hz : Srt (Y.take k ++ (Y.drop k).take k) Z) (h : SV w0 blk off (X ++ (Z ++ Y.drop K)) W') => show ∃ X0 X Y, Xs = X0 ++ Y ∧ X.length = b2 ∧ Blk K X0 X ∧ SV w0 blk off (X ++ Y) W' from
                ⟨X0 ++ (Y.take k ++ (Y.drop k).take k), X ++ Z, Y.drop K, hXsY, by rw [List.length_append, hz.len]; simp only [List.length_append, List.length_take, List.length_drop]; omega, hB.snoc (by rw [hX]; exact Ht2.out) hz (by rw [hz.len]; simp only [List.length_append, List.length_take, List.length_drop]; omega), by simpa using h⟩)
              clear hl hX hB hs hlen hpart hp0 hp1 hY hkk hXsY
              go_wp2_with fail
              refine C.out.mono ?_
              rintro e2 w2 ⟨rfl, Z2, hZ2, hs2⟩
              have HN2 := hide (NEXT.out Z2 w2 hZ2 hs2)
              clear hZ2 hs2
              go_wp2
              go_roundw
              case rel => exact ⟨t2 + 1, b2, b2 + K, rfl, by go_num, hide (by have := Ht2.out; rw [Nat.add_mul, Nat.one_mul]; omega), by omega, by omega, by omega, HN2⟩
              case measure => simp [intOf]; omega
            · have hlt2' : ¬ (b2 : Int) ≤ (n : Int) := by omega
              by_cases hmn : m2 < n
              · have hmn' : (m2 : Int) < (n : Int) := by omega
                have hp1' : Asc (Y.drop k) := by
                  rw [List.take_of_length_le (by rw [List.length_drop]; omega)] at hp1
                  exact hp1
                have C := hide (SYM.out X (Y.take k) (Y.drop k) [] wr a2 m2 n (by rw [List.append_nil, List.take_append_drop]; exact hs) (by simp only [List.length_take, List.length_drop, List.length_nil]; omega) hX.symm (by rw [List.length_take]; omega) (by simp only [List.length_take, List.length_drop]; omega) (by rw [List.length_take]; omega) (by simp only [List.length_drop]; omega) hp0 hp1')
                have NEXT := hide (fun (Z : List Va) (W' : World) (hz : Srt (Y.take k ++ Y.drop k) Z) (h : SV w0 blk off (X ++ (Z ++ [])) W') => show ∃ Xs, Xs.length = n ∧ Blk K l Xs ∧ SV w0 blk off Xs W' from
                  ⟨X ++ Z, by rw [List.length_append, hz.len, List.take_append_drop]; omega, HBk.out.trans (by rw [hl]; rw [List.take_append_drop] at hz; exact hB.snoc (by rw [hX]; exact Ht2.out) hz (by rw [hz.len]; omega)), by simpa using h⟩)
                clear hl hX hB hs hlen hpart hp0 hp1 hp1' hkk
                go_wp2_with fail
                refine C.out.mono ?_
                rintro e2 w2 ⟨rfl, Z2, hZ2, hs2⟩
                have HN2 := hide (NEXT.out Z2 w2 hZ2 hs2)
                clear hZ2 hs2
                go_wp2
                go_roundw
                case rel => exact ⟨K, rfl, by omega, by omega, HN2⟩
                case measure => simp [intOf]; omega
              · have hmn' : ¬ (m2 : Int) < (n : Int) := by omega
                have HN2 := hide (show ∃ Xs, Xs.length = n ∧ Blk K l Xs ∧ SV w0 blk off Xs wr from
                  ⟨X ++ Y, by rw [List.length_append]; omega, HBk.out.trans (by rw [hl]; exact hB.snoc (by rw [hX]; exact Ht2.out) (Srt.refl (by rw [List.take_of_length_le (by omega)] at hp0; exact hp0)) (by omega)), hs⟩)
                clear hl hX hB hs hlen hpart hp0 hp1 hkk
                go_wp2
                go_roundw
                case rel => exact ⟨K, rfl, by omega, by omega, HN2⟩
                case measure => simp [intOf]; omega
        · have hkn' : ¬ (k : Int) < (n : Int) := by omega
          have HE := hide (show ∃ X, Srt l X ∧ SV w0 blk off X wr from by
            obtain ⟨Xs, h1, h2, h3⟩ := HX.out
            exact ⟨Xs, h2.whole (by omega), h3⟩)
          go_wp2
          go_end0
          exact ⟨rfl, HE.out⟩
end Go.Proofs.Ytpfiofgchkfkhaa

/- Rows of variables that are written; Clone; the stable sort of a row. -/
set_option linter.unusedVariables false
set_option linter.unusedSimpArgs false
namespace Go.Proofs.Ytpfiofgchkfkhaa
open Go.RowKit Go.Shelf Go.Sort Go.Lib
/-- block g holds the variables l, and its cells can be written -/
def RowV (W : World) (g : Nat) (l : List Va) : Prop := ∀ i (h : i < l.length) j, j < 7 → W.cell? ⟨g, i * 7 + j, none⟩ = (vaE l[i])[j]? ∧ W.frozen? ⟨g, i * 7 + j, none⟩ = false
theorem RowV.vas {W : World} {g : Nat} {l : List Va} (h : RowV W g l) : VaS W (some ⟨g, 0, none⟩) l := fun _ => ⟨g, 0, rfl, fun i hi j hj => by rw [Nat.zero_add]; exact (h i hi j hj).1⟩
theorem RowV.own {W : World} {base g n cap : Nat} {l : List Va} (h : W.ownsRow base 29 7 (.slice (some ⟨g, 0, none⟩) n cap) n (l.flatMap vaE)) (hn : n = l.length) : RowV W g l := by
  intro i hi j hj
  have hlt : i * 7 + j < n * 7 := by omega
  refine ⟨by rw [World.ownsRow.cellAt h _ hlt, flat_get vaE_len l i hi j hj], ?_⟩
  rcases h.2 with ⟨h', _⟩ | ⟨g', cap', cur, h', _, hg, _⟩
  · simp at h'
  · simp only [Value.slice.injEq, Option.some.injEq, Addr.mk.injEq, and_true, true_and] at h'
    obtain ⟨rfl, rfl⟩ := h'
    simp [World.frozen?, hg]
theorem RowV.holds {W : World} {g : Nat} {l : List Va} (h : RowV W g l) : HoldsK vaE 7 W g 0 l.toArray := by
  intro t ht
  rw [size_flatK] at ht
  have hs : l.toArray.size = l.length := by simp
  have hi : t / 7 < l.length := by rw [hs] at ht; omega
  have hd : l.toArray[t / 7]! = l[t / 7] := by simp [hi]
  obtain ⟨h1, h2⟩ := h (t / 7) hi (t % 7) (Nat.mod_lt _ (by decide))
  have e : t / 7 * 7 + t % 7 = t := by omega
  rw [e] at h1 h2
  refine ⟨?_, by rw [Nat.zero_add]; exact h2⟩
  rw [Nat.zero_add, h1, get_flatK _ _ _ _ ht, hd]
  have hlt : t % 7 < (vaE l[t / 7]).length := by rw [vaE_len]; exact Nat.mod_lt _ (by decide)
  rw [List.getElem?_eq_getElem hlt, getElem!_pos (vaE l[t / 7]) _ hlt]
  rfl
theorem RowV.of_holds {W : World} {g : Nat} {l : List Va} (h : HoldsK vaE 7 W g 0 l.toArray) : RowV W g l := by
  intro i hi j hj
  have hd : l.toArray[i]! = l[i] := by simp [hi]
  obtain ⟨h1, h2⟩ := h.cell (i := i) (c := j) (by simpa using hi) hj
  rw [Nat.zero_add] at h1 h2
  rw [hd] at h1
  have hlt : j < (vaE l[i]).length := by rw [vaE_len]; exact hj
  exact ⟨by rw [h1, List.getElem?_eq_getElem hlt, getElem!_pos (vaE l[i]) _ hlt], h2⟩
theorem RowV.lt {W : World} {g : Nat} {l : List Va} (h : RowV W g l) (h0 : 0 < l.length) : g < W.heap.size := by
  have h1 := (h 0 h0 0 (by decide)).1
  exact World.block_lt_of_cell? W _ h1
theorem RowV.same {W W' : World} {g : Nat} {l : List Va} (h : RowV W g l) (hb : W'.heap[g]? = W.heap[g]?) : RowV W' g l := fun i hi j hj =>
  ⟨(World.cell?_of_block (a := ⟨g, i * 7 + j, none⟩) hb).trans (h i hi j hj).1, (World.frozen?_of_block (a := ⟨g, i * 7 + j, none⟩) hb).trans (h i hi j hj).2⟩
/-- one field of one variable is stored -/
theorem RowV.set {W : World} {g : Nat} {l : List Va} (h : RowV W g l) {i c : Nat} (hi : i < l.length) (hc : c < 7) {u : Value} {x : Va} (hx : vaE x = (vaE l[i]).set c u) : RowV (W.setCell ⟨g, i * 7 + c, none⟩ u) g (l.set i x) := by
  intro k hk j hj
  have hk' : k < l.length := by simpa using hk
  obtain ⟨h1, h2⟩ := h k hk' j hj
  refine ⟨?_, by rw [World.frozen?_setCell]; exact h2⟩
  by_cases hki : k = i
  · subst hki
    rw [List.getElem_set_self, hx]
    by_cases hjc : j = c
    · subst hjc
      rw [World.cell?_setCell_same' _ _ _ (by rw [h1, List.getElem?_eq_getElem (by rw [vaE_len]; exact hj)]; rfl), List.getElem?_set_self (by rw [vaE_len]; exact hj)]
    · rw [List.getElem?_set_ne (by omega), ← h1]
      exact World.cell?_setCell_other _ _ _ _ (by intro e; have := congrArg Addr.off e; simp only at this; omega)
  · rw [List.getElem_set_ne (by omega), ← h1]
    exact World.cell?_setCell_other _ _ _ _ (by intro e; have := congrArg Addr.off e; simp only at this; omega)
theorem SWK.keeps {α : Type} [Inhabited α] {enc : α → List Value} {k : Nat} {w0 W : World} {blk off : Nat} {dk : Array α} (h : SWK enc k w0 blk off dk W) : Keeps (fun b => b = blk) w0 W := by
  obtain ⟨n, os, rfl⟩ := h
  unfold sortWorldK
  refine ⟨rfl, rfl, rfl, by rw [size_grow, size_putRowK]; exact Nat.le_add_right _ _, fun b hb hn => ?_⟩
  have hz : (putRowK enc k (Sort.ahead w0 n) blk off dk).heap.size = w0.heap.size := by rw [size_putRowK]; rfl
  show ((putRowK enc k (Sort.ahead w0 n) blk off dk).heap ++ os)[b]? = _
  rw [Array.getElem?_append_left (by rw [hz]; exact hb)]
  unfold putRowK putRow mapBlock
  simp only [Sort.ahead]
  first
    | (simp [Array.getElem?_modify, Ne.symm hn]; done)
    | (rw [Array.getElem?_modify]; simp; intro h; exact absurd h.symm hn)
    | (simp; done)
set_option maxHeartbeats 4000000 in
set_option maxRecDepth 20000 in
theorem clone_any (A : Option Addr) (cap : Nat) (xs : List Va) (w : World) (hs : VaS w A xs) (hl : xs.length ≤ 100000) (hA : A = none → cap = 0 ∧ xs = []) :
    Calls Try.prog 28 #[.slice A xs.length cap] w fun e w' => ∃ v, e = .returned v ∧ w'.ownsRow w.heap.size 29 7 v xs.length (xs.flatMap vaE) ∧ Below w.heap.size w w' := by
  cases A with
  | none =>
    obtain ⟨rfl, rfl⟩ := hA rfl
    clear hs hl hA
    have heq := fun (w : World) => run_eql_slice_nil (P := Try.prog) w 23 29 none 0 0 Try.underlying23
    simp only [Option.isNone_none] at heq
    simp only [List.length_nil]
    go_enter Try.func28, Try.ntmps28
    go_wp2
    go_ret
    exact ⟨_, rfl, World.ownsRow_nil _ _ _ _, Below.refl _ _⟩
  | some ad =>
    obtain ⟨n, hn⟩ : ∃ n, xs.length = n := ⟨_, rfl⟩
    have heq := fun (w : World) => run_eql_slice_nil (P := Try.prog) w 23 29 (some ad) n cap Try.underlying23
    simp only [Option.isNone_some] at heq
    obtain ⟨iV, hiV, hz0', hz1', hz2'⟩ := info_parts infoVa
    have hown0 : (w.alloc (.cells #[] 29)).ownsRow w.heap.size 29 7 (.slice (some ⟨w.heap.size, 0, none⟩) 0 0) 0 [] := World.ownsRow_made w #[] 0 (Nat.le_refl _) (by unfold maxLen; omega) rfl
    have hcells : ∀ j u, (xs.flatMap vaE)[j]? = some u → w.cell? (ad.add j) = some u := by
      intro j u hu
      have hj : j < (xs.flatMap vaE).length := (List.getElem?_eq_some_iff.1 hu).1
      rw [flat_len vaE_len] at hj
      obtain ⟨b, off, he, hat⟩ := hs (by omega)
      cases he
      have h1 := hat (j / 7) (by omega) (j % 7) (Nat.mod_lt _ (by decide))
      rw [Addr.add_lit]
      have e : off + j / 7 * 7 + j % 7 = off + j := by omega
      rw [e] at h1
      rw [h1, ← flat_get vaE_len xs (j / 7) (by omega) (j % 7) (Nat.mod_lt _ (by decide)), show j / 7 * 7 + j % 7 = j by omega]
      exact hu
    have hlt : ∀ j u, (xs.flatMap vaE)[j]? = some u → (w.alloc (.cells #[] 29)).cell? (ad.add j) = some u := by
      intro j u hu
      have h1 := hcells j u hu
      have hb : (ad.add j).block < w.heap.size := World.block_lt_of_cell? w _ h1
      rw [((Below.refl w.heap.size w).alloc (Nat.le_refl _) _).cell hb]; exact h1
    have HO0 := hide hown0
    have HLT := hide hlt
    have HLEN := hide (show (xs.flatMap vaE).length = n * 7 by rw [flat_len vaE_len, hn])
    have H1 := hide (show ∀ u ∈ xs.flatMap vaE, u.oneCell' = true by intro u hu; obtain ⟨x, hx, hu⟩ := List.mem_flatMap.1 hu; exact vaE_one x u hu)
    have HI := hide hiV
    have HZ0 := hide hz0'
    have HZ1 := hide hz1'
    have HZ2 := hide hz2'
    rw [hn] at hl ⊢
    generalize xs.flatMap vaE = news at *
    clear hs hA hn hcells hlt hown0 hiV hz0' hz1' hz2'
    go_enter Try.func28, Try.ntmps28
    go_wp2_with (refine wpList_append_own _ rfl (.tmp 5) (.tmp 6) 23 rfl w.heap.size 29 iV _ 7 64 Try.underlying23 HI.out HZ0.out HZ1.out HZ2.out rfl (by decide) _ 0 [] rfl HO0.out ad n cap news rfl HLEN.out HLT.out H1.out (by unfold maxLen; omega) (by omega) (by rw [World.size_alloc]; omega) ?_; intro v1 w1 ho1 hg1 _)
    have HB := hide (show Below w.heap.size w w1 from ((Below.refl w.heap.size w).alloc (Nat.le_refl _) _).trans ⟨hg1.os, hg1.tape, hg1.output, hg1.size, fun b hb => hg1.block b (by rw [World.size_alloc]; omega) (fun e => by have e2 : some b = some w.heap.size := e; have := Option.some.inj e2; omega)⟩)
    rw [List.nil_append, Nat.zero_add] at ho1
    have HO := hide ho1
    clear ho1 hg1
    go_wp2
    go_ret
    exact ⟨_, rfl, HO.out, HB.out⟩
set_option maxHeartbeats 4000000 in
set_option maxRecDepth 20000 in
theorem sort_any {W : World} {g : Nat} {l : List Va} (cap n : Nat) (h : RowV W g l) (hn : l.length = n) (hb : n ≤ 1000000) (hg : g < W.heap.size) :
    Calls Try.prog 29 #[.slice (some ⟨g, 0, none⟩) n cap, (.func (.func 30) #[] #[])] W fun e w' => e = .returned (.tuple #[]) ∧ ∃ X, Srt l X ∧ RowV w' g X ∧ Keeps (fun b => b = g) W w' := by
  have HS := hide (stable_any (w0 := W) (W := W) (blk := g) (off := 0) (l := l) ⟨fun _ => rfl, vaE_one, h.holds, hg⟩ cap n (SWK.start h.holds) hn hb)
  have HK := hide (fun (X : List Va) (w' : World) (hs : Srt l X) (hsv : SV W g 0 X w') => show RowV w' g X ∧ Keeps (fun b => b = g) W w' from ⟨RowV.of_holds (hsv.holds hg h.holds (by simp [hs.len])), SWK.keeps hsv⟩)
  clear h hn
  go_enter Try.func29, Try.ntmps29
  go_wp2_with fail
  refine HS.out.mono ?_
  rintro e w1 ⟨rfl, X, hX, hsv⟩
  have HX := hide hX
  have HE := hide (HK.out X w1 hX hsv)
  clear hX hsv
  go_wp2
  go_end0
  exact ⟨rfl, X, HX.out, HE.out.1, HE.out.2⟩
set_option maxHeartbeats 4000000 in
set_option maxRecDepth 20000 in
theorem ins_none (A : Option Addr) (cap : Nat) (cf : Value) (W : World) :
    Calls Try.prog 76 #[.slice A 0 cap, .int .i64 0, .int .i64 0, cf] W fun e w' => e = .returned (.tuple #[]) ∧ W = w' := by
  go_enter Try.func76, Try.ntmps76
  go_wp2
  go_loopw [8] (fun v wr => v = .int .i64 1 ∧ W = wr) (fun v _ => 0)
  case atStart => exact ⟨rfl, rfl⟩
  case round =>
    obtain ⟨rfl, rfl⟩ := hrel
    go_wp2
    go_end0
    exact ⟨rfl, rfl⟩
set_option maxHeartbeats 4000000 in
set_option maxRecDepth 20000 in
theorem stable_none (A : Option Addr) (cap : Nat) (cf : Value) (W : World) :
    Calls Try.prog 65 #[.slice A 0 cap, .int .i64 0, cf] W fun e w' => e = .returned (.tuple #[]) ∧ W = w' := by
  have IN := hide (ins_none A cap cf)
  go_enter Try.func65, Try.ntmps65
  go_wp2
  go_loopw [7, 8] (fun v u wr => v = .int .i64 0 ∧ u = .int .i64 20 ∧ W = wr) (fun v _ _ => 0)
  case atStart => exact ⟨rfl, rfl, rfl⟩
  case round =>
    obtain ⟨rfl, rfl, rfl⟩ := hrel
    go_wp2_with (go_at_call 76; refine (IN.out _).mono ?_; rintro e w' ⟨rfl, rfl⟩)
    go_loopw [6] (fun v wr => v = .int .i64 20 ∧ W = wr) (fun v _ => 0)
    case atStart => exact ⟨rfl, rfl⟩
    case round =>
      obtain ⟨rfl, rfl⟩ := hrel
      go_wp2
      go_end0
      exact ⟨rfl, rfl⟩
theorem sort_none (A : Option Addr) (cap : Nat) (cf : Value) (W : World) :
    Calls Try.prog 29 #[.slice A 0 cap, cf] W fun e w' => e = .returned (.tuple #[]) ∧ W = w' := by
  have IN := hide (stable_none A cap cf)
  go_enter Try.func29, Try.ntmps29
  go_wp2_with (go_at_call 65; refine (IN.out _).mono ?_; rintro e w' ⟨rfl, rfl⟩)
  go_end0
  exact ⟨rfl, rfl⟩
end Go.Proofs.Ytpfiofgchkfkhaa
