/- Contract of a wild part's fixed. -/
import Derived.Test.YtcjehiecgdmidaaPtR
set_option linter.unusedVariables false
set_option linter.unusedSimpArgs false
namespace Go
open Go.RowKit Go.Lib
/-- a row of bytes made a string -/
theorem run_string_ownP {P : Program} {W : World} {base : Nat} {e : TypeId} {v : Value} {n : Nat} {bs : List UInt8} {src dst : TypeId} (hs : P.underlying src = some (.slice e)) (he : P.underlying e = some (.int .u8)) (hd : P.underlying dst = some .string)
    (hown : W.ownsRow base e 1 v n (bs.map fun b => Value.int .u8 b.toNat)) : (convert src dst v).run P W = .ok (.string ⟨bs.toArray⟩) W := by
  have hl : bs.length = n := by have := hown.1; simpa using this
  rcases Nat.eq_zero_or_pos n with h0 | h0
  · subst h0
    obtain rfl : bs = [] := List.eq_nil_of_length_eq_zero hl
    rcases hown.2 with ⟨rfl, _⟩ | ⟨g, cap, cur, rfl, _⟩
    · rw [run_convert_bytes_string W src dst e none 0 0 hs he hd]
      simp [Conv.bytesToString, Sem.run_pure]
      rfl
    · exact run_convert_bytes_back W src dst e ⟨g, 0, none⟩ cap [] hs he hd (fun j hj => absurd hj (by simp))
  · obtain ⟨g, cap, rfl, _⟩ := World.ownsRow.form hown h0
    rw [← hl]
    refine run_convert_bytes_back W src dst e ⟨g, 0, none⟩ cap bs hs he hd (fun j hj => ?_)
    rw [show (⟨g, 0, none⟩ : Addr).add j = ⟨g, j, none⟩ by unfold Addr.add; split <;> simp_all, World.ownsRow.cellAt hown j (by omega), List.getElem?_map, List.getElem?_eq_getElem hj]; rfl
end Go
namespace Go.Proofs.Ytcjehiecgdmidaa
open Go.RowKit Go.Shelf

def bytesP (l : List UInt8) : List Value := l.map fun b => Value.int .u8 b.toNat
theorem bytesP_snoc (l : List UInt8) (b : UInt8) : bytesP l ++ [Value.int .u8 (b.toNat : Int)] = bytesP (l ++ [b]) := by
  unfold bytesP; rw [List.map_append]; rfl
theorem infoU8P : (Try.prog.info? 5).map (fun i => (i.zero, i.size, i.bytes)) = some (some (.int .u8 0), 1, 1) := by kernel_rfl
def FixPost (R : Option (List UInt8)) (w : World) (e : Ending) (w' : World) : Prop :=
  (match R with | none => e = .returned (.tuple #[.string ⟨#[]⟩, .bool false]) | some n => e = .returned (.tuple #[.string (bsP n), .bool true])) ∧ Below w.heap.size w w'

set_option maxRecDepth 100000 in
set_option maxHeartbeats 8000000 in
theorem wildFixed_any (g cap : Nat) (O : List It) (w : World) (hI : WIt w g O) (hg : g < w.heap.size) (hO : O.length ≤ 1000) :
    Calls Try.prog 69 #[.slice (some ⟨g, 0, none⟩) O.length cap] w (FixPost ((Pt.wild O).fixed) w) := by
  have HI := hide hI
  clear hI
  have hz := zero_it
  obtain ⟨Z, hZ⟩ : ∃ Z, itL noIt = Z := ⟨_, rfl⟩
  rw [hZ] at hz
  have HL := hide (show Z.length = 259 by rw [← hZ]; exact itL_len _)
  have Hz := hide hz
  clear hZ
  have hfx : (Pt.wild O).fixed = if O.all It.isPlain then some (O.map It.self) else none := rfl
  obtain ⟨R, hR⟩ : ∃ R, (Pt.wild O).fixed = R := ⟨_, rfl⟩
  rw [hR]
  rw [hR] at hfx
  have HR := hide hfx
  clear hR hfx
  go_enter Try.func69, Try.ntmps69
  go_upto_region 3 with fail
  go_loopw [4, 9] (fun v4 v9 wr => ∃ i : Nat, v9 = .int .i64 (i : Int) ∧ i ≤ O.length ∧ (O.take i).all It.isPlain = true ∧ wr.ownsRow w.heap.size 5 1 v4 i (bytesP ((O.take i).map It.self)) ∧ Below w.heap.size w wr) (fun _ v _ => O.length - (intOf v).toNat)
  case atStart => exact ⟨0, rfl, Nat.zero_le _, rfl, World.ownsRow_nil _ _ _ _, Below.refl _ _⟩
  case round =>
    obtain ⟨i, rfl, hi, hal, hown, hb⟩ := hrel
    have Hown := hide hown
    have Hb := hide hb
    have Hal := hide hal
    clear hown hb hal
    by_cases hlt : i < O.length
    · have hi' : (i : Int) < (O.length : Int) := by omega
      have hwi : IntKind.i64.wrap ((i : Int) + 1) = (i : Int) + 1 := IntWalk.i64_in _ (by omega)
      have htk : O.take (i + 1) = O.take i ++ [O[i]] := by rw [List.take_add_one, List.getElem?_eq_getElem hlt]; rfl
      have HW := hide (show WIt wr g O from HI.out.below Hb.out hg)
      obtain ⟨x, hx⟩ : ∃ x, O[i] = x := ⟨_, rfl⟩
      obtain ⟨Zx, hZx⟩ : ∃ Zx, itL x = Zx := ⟨_, rfl⟩
      have hxl : Zx.length = 259 := by rw [← hZx]; exact itL_len _
      have Hone := hide (show Zx.toArray.all (·.oneCell') = true by rw [← hZx]; exact itL_one _)
      have HIn := hide (show (Try.prog.info? 67).map (·.size) = some Zx.length by rw [hxl]; kernel_rfl)
      have HI2 := hide (show (Try.prog.info? 67).map (·.size) = some Zx.toArray.size by rw [List.size_toArray]; exact HIn.out)
      have HRg := hide (show wr.rangeAt g (i * 259) Zx from fun j v hv => HW.out i hlt j v (by rw [hx, hZx]; exact hv))
      have r1 : Row (wr.alloc (.cells Z.toArray 67)) wr.heap.size 67 Z.toArray := Row.new _ _ _
      have t0 : (wr.alloc (.cells Z.toArray 67)).there wr.heap.size 0 Zx.length := fun j hj => by
        rw [Nat.zero_add]
        refine ⟨?_, r1.frozen j⟩
        rw [r1.cell j]
        have := HL.out
        simp; omega
      have T0 := hide (show (wr.alloc (.cells Z.toArray 67)).there wr.heap.size 0 Zx.toArray.size by rw [List.size_toArray]; exact t0)
      have hr2 := World.rangeAt_setCells_same (wr.alloc (.cells Z.toArray 67)) wr.heap.size 0 Zx t0
      have hb2 : Below wr.heap.size wr ((wr.alloc (.cells Z.toArray 67)).setCells wr.heap.size 0 Zx) := ((Below.refl _ _).alloc (Nat.le_refl _) _).trans (Below.setCells_ge wr.heap.size wr.heap.size (Nat.le_refl _) Zx 0 _)
      have HB2 := hide (Hb.out.trans (hb2.mono Hb.out.size))
      have HOwn2 := hide (ownsRow_below Hown.out hb2)
      have hp1 : Zx[257]? = some (.bool x.plain) := by rw [← hZx, itL_get]; rfl
      have hp2 : Zx[258]? = some (.int .u8 (x.self.toNat : Int)) := by rw [← hZx, itL_get]; rfl
      have HRg2 := hide hr2
      have HTk := hide htk
      rw [hx] at HTk
      clear hr2 hb2 r1 t0 hZx htk
      go_upto_region 4 with fail
      go_step
      go_step
      go_step
      go_step
      refine wpList_load_mid rfl 67 (.tmp 11) rfl g (i * 259) rfl Zx _ HRg.out Try.underlying67 rfl HIn.out ?_
      go_step
      go_step
      go_step
      refine wpList_store_mid rfl 67 (.tmp 6) (.tmp 12) rfl wr.heap.size 0 Zx.toArray rfl rfl T0.out HI2.out Hone.out ?_
      obtain ⟨W4, hW4⟩ : ∃ W4, (wr.alloc (.cells Z.toArray 67)).setCells wr.heap.size 0 Zx.toArray.toList = W4 := ⟨_, rfl⟩
      have c1 : W4.cell? ⟨wr.heap.size, 257, none⟩ = some (.bool x.plain) := by rw [← hW4]; have := HRg2.out 257 _ hp1; rwa [Nat.zero_add] at this
      have c2 : W4.cell? ⟨wr.heap.size, 258, none⟩ = some (.int .u8 (x.self.toNat : Int)) := by rw [← hW4]; have := HRg2.out 258 _ hp2; rwa [Nat.zero_add] at this
      have HB4 := hide (show Below w.heap.size w W4 by rw [← hW4]; exact HB2.out)
      have HOwn4 := hide (show W4.ownsRow w.heap.size 5 1 u4 i (bytesP ((O.take i).map It.self)) by rw [← hW4]; exact HOwn2.out)
      rw [hW4]
      generalize wr.heap.size = b6 at *
      have HO := hide hO
      have Hlt := hide (And.intro hlt hx)
      clear hW4 HRg2 HB2 HOwn2 hp1 hp2 T0 HI2 Hone HIn HRg hz hxl hx hO
      cases hp : x.plain with
      | false =>
        rw [hp] at c1
        have hRn : R = none := by
          rw [HR.out, if_neg]
          rw [List.all_eq_true]
          intro h
          have := h _ (List.getElem_mem Hlt.out.1)
          rw [Hlt.out.2] at this
          have e : It.isPlain x = x.plain := rfl
          rw [e, hp] at this; cases this
        have HRn := hide hRn
        clear hRn hp
        go_wp2
        go_ret2
        rw [HRn.out]
        exact ⟨rfl, HB4.out⟩
      | true =>
        rw [hp] at c1
        have hal2 : (O.take (i + 1)).all It.isPlain = true := by
          rw [HTk.out, List.all_append, Hal.out]
          show ((x.plain && true) : Bool) = true
          rw [hp]; rfl
        have HAl2 := hide hal2
        have HSn := hide (show bytesP ((O.take (i + 1)).map It.self) = bytesP ((O.take i).map It.self) ++ [Value.int .u8 (x.self.toNat : Int)] by rw [HTk.out, List.map_append, bytesP_snoc]; rfl)
        clear hal2 hp
        go_wp2_with (at_builtin; have hown9 := HOwn4.out.alloc (.cells #[.int .u8 (x.self.toNat : Int)] 5); refine wpList_append_at _ rfl _ _ 33 rfl w.heap.size 5 infoU8P Try.underlying33 rfl (by decide) _ i (bytesP ((O.take i).map It.self)) rfl hown9 ⟨W4.heap.size, 0, none⟩ 1 1 [.int .u8 (x.self.toNat : Int)] rfl rfl (cells_new _ _ rfl) (by intro u hu; simp only [List.mem_cons, List.not_mem_nil, or_false] at hu; rcases hu with rfl; rfl) (by unfold maxLen; have := HO.out; have := Hlt.out.1; omega) (by have := HO.out; have := Hlt.out.1; omega) (by rw [World.size_alloc]; have := HB4.out.size; omega) ?_; intro v' w5 hown5 hgrow5 _ _)
        have Hown5 := hide (show w5.ownsRow w.heap.size 5 1 v' (i + 1) (bytesP ((O.take (i + 1)).map It.self)) by rw [HSn.out]; exact hown5)
        have HB5 := hide ((HB4.out.alloc HB4.out.size (.cells #[.int .u8 (x.self.toNat : Int)] 5)).grown hgrow5 (by rw [World.size_alloc]; have := HB4.out.size; omega) (fun j hj => (World.ownsRow.lt hown9 j hj).1))
        clear hown5 hgrow5 hown9 c1 c2
        go_wp2
        go_roundw
        case rel => exact ⟨i + 1, by go_num, Hlt.out.1, HAl2.out, Hown5.out, HB5.out⟩
        case measure => have := Hlt.out.1; simp [intOf]; omega
    · obtain rfl : i = O.length := by omega
      have hall : O.all It.isPlain = true := by have := Hal.out; rwa [List.take_length] at this
      have hRs : R = some (O.map It.self) := by rw [HR.out, if_pos hall]
      have hcv := run_string_ownP (bs := O.map It.self) (src := 33) (dst := 9) Try.underlying33 Try.underlying5 Try.underlying9 (by have := Hown.out; rw [List.take_length] at this; exact this)
      have hni : ¬ (O.length : Int) < (O.length : Int) := by omega
      have HRs := hide hRs
      clear hall hRs hlt hi
      go_wp2
      go_ret2
      rw [HRs.out]
      exact ⟨rfl, Hb.out⟩
end Go.Proofs.Ytcjehiecgdmidaa
