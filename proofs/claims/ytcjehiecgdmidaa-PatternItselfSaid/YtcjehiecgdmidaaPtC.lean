/- Contracts of pattern's next and set (under way). -/
import Derived.Test.YtcjehiecgdmidaaPtB
import Derived.Deep.DeepCutAuto
import Derived.Deep.CutBlock
import Derived.Deep.MidRow
set_option linter.unusedVariables false
set_option linter.unusedSimpArgs false
namespace Go.Proofs.Ytcjehiecgdmidaa
open Go.RowKit Go.Shelf

def itL (x : It) : List Value := .bool x.star :: ((List.range 256).map fun k => .bool (x.set (UInt8.ofNat k))) ++ [.bool x.plain, .int .u8 (x.self.toNat : Int)]
theorem zero_of {P : Program} {t : TypeId} {z : Value} (h : (P.info? t).map (·.zero) = some (some z)) (W : World) : (zeroValue t).run P W = .ok z W := by
  cases hq : P.info? t with
  | none => rw [hq] at h; cases h
  | some i =>
    rw [hq] at h
    have hz : i.zero = some z := by simpa using h
    simp [zeroValue, typeInfo, hq, hz]
theorem zero_it (W : World) : (zeroValue 67).run Try.prog W = .ok (.agg (itL noIt).toArray) W :=
  zero_of (by kernel_rfl) W
theorem Below.setCells_ge (B b : Nat) (hb : B ≤ b) : ∀ (cs : List Value) (o : Nat) (w : World), Below B w (w.setCells b o cs)
  | [], o, w => Below.refl _ _
  | v :: r, o, w => by
    rw [World.setCells]
    exact ((Below.refl B w).setCell (p := ⟨b, o, none⟩) hb v).trans (Below.setCells_ge B b hb r (o + 1) _)
theorem results_mid2 {P : Program} {fn : Func} {p u v : Tmp} {ty : TypeId} (h : fn.results = #[.cell p ty, .tmp u, .tmp v]) (tmps : Array Value) (w : World) (g : Nat) (cs : List Value) (d : TypeDesc)
    (a b : Value) (ha : tmps.getD u undef = a) (hb : tmps.getD v undef = b) (hp : tmps.getD p undef = .pointer (some ⟨g, 0, none⟩)) (hc : w.rangeAt g 0 cs)
    (hu : P.underlying ty = some d) (hd : d.isRow = true) (hi : (P.info? ty).map (·.size) = some cs.length) :
    (results fn tmps).run P w = .ok (.tuple #[.agg cs.toArray, a, b]) w := by
  subst ha
  subst hb
  have hl := run_loadVar_mid w g 0 ty cs d hc hu hd hi
  have hp' : tmps[p]?.getD undef = .pointer (some ⟨g, 0, none⟩) := by simpa using hp
  have e : (results fn tmps).run P w = ((asAddr (tmps.getD p undef)).run P w).andThen fun a w₁ => ((loadVar ty a).run P w₁).andThen fun v2 w₂ => .ok (.tuple #[v2, tmps.getD u undef, tmps.getD v undef]) w₂ := by
    simp only [results, h]
    simp [Sem.run_bind, Result.andThen]
  rw [e]
  simp [hp', asAddr, Result.andThen, hl]
set_option maxRecDepth 100000 in
set_option maxHeartbeats 8000000 in
theorem next_low (c : UInt8) (s : ByteArray) (w : World) (h : 0 < s.size) (hc : s[0]'h = c) (h1 : c.toNat < 33) :
    Calls Try.prog 36 #[.string s] w fun e w' => e = .returned (.tuple #[.agg (itL noIt).toArray, .string ⟨#[]⟩, .bool false]) ∧ Below w.heap.size w w' := by
  have h0 : (0 : Int) < (s.size : Int) := by omega
  have h1' : (c.toNat : Int) < 33 := by omega
  have hz := zero_it
  have hlen : (itL noIt).length = 259 := by simp [itL]
  have hone : (itL noIt).toArray.all (·.oneCell') = true := by kernel_rfl
  obtain ⟨Z, hZ⟩ : ∃ Z, itL noIt = Z := ⟨_, rfl⟩
  rw [hZ] at hz hlen hone ⊢
  clear hZ
  go_enter Try.func36, Try.ntmps36
  go_upto_region 5 with fail
  obtain ⟨W2, hW2⟩ : ∃ W2, (w.alloc (.cells Z.toArray 67)).alloc (.cells Z.toArray 67) = W2 := ⟨_, rfl⟩
  have hB : Below w.heap.size w W2 := by
    rw [← hW2]
    exact ((Below.refl _ _).alloc (Nat.le_refl _) _).alloc (by rw [World.size_alloc]; omega) _
  have r0 : Row W2 w.heap.size 67 Z.toArray := by rw [← hW2]; exact (Row.new _ _ _).alloc _
  have r1 : Row W2 (w.heap.size + 1) 67 Z.toArray := by
    rw [← hW2]
    have := Row.new (w.alloc (.cells Z.toArray 67)) 67 Z.toArray
    rwa [World.size_alloc] at this
  have g1 : W2.rangeAt (w.heap.size + 1) 0 Z := fun j v hv => by rw [Nat.zero_add, r1.cell j]; simpa using hv
  have t0 : W2.there w.heap.size 0 Z.length := fun j hj => by
    rw [Nat.zero_add]
    refine ⟨?_, r0.frozen j⟩
    rw [r0.cell j]
    simp [hj]
  have hi : (Try.prog.info? 67).map (·.size) = some Z.length := by rw [hlen]; kernel_rfl
  have hr := World.rangeAt_setCells_same W2 w.heap.size 0 Z t0
  have HB := hide (show Below w.heap.size w (W2.setCells w.heap.size 0 Z) from hB.trans (Below.setCells_ge w.heap.size w.heap.size (Nat.le_refl _) Z 0 W2))
  have HR := hide hr
  have HI := hide hi
  have HI2 := hide (show (Try.prog.info? 67).map (·.size) = some Z.toArray.size by simpa using hi)
  have G1 := hide g1
  have T0 := hide (show W2.there w.heap.size 0 Z.toArray.size by simpa using t0)
  have HO := hide hone
  rw [hW2]
  clear hW2 hB hr hi r0 r1 g1 t0 hz hone hlen
  go_wp2_with (first | (refine wpList_load_mid rfl 67 (.tmp 5) rfl (w.heap.size + 1) 0 rfl Z _ G1.out Try.underlying67 rfl HI.out ?_) | (refine wpList_store_mid rfl 67 (.tmp 2) (.tmp 35) rfl w.heap.size 0 Z.toArray rfl rfl T0.out HI2.out HO.out ?_))
  exact bodyPost_ret (v := .tuple #[.agg Z.toArray, .string ⟨#[]⟩, .bool false]) (results_mid2 rfl _ _ w.heap.size Z _ _ _ rfl rfl rfl HR.out Try.underlying67 rfl HI.out) rfl ⟨rfl, HB.out⟩
set_option maxRecDepth 100000 in
set_option maxHeartbeats 8000000 in
theorem next_high (c : UInt8) (s : ByteArray) (w : World) (h : 0 < s.size) (hc : s[0]'h = c) (h1 : 126 < c.toNat) :
    Calls Try.prog 36 #[.string s] w fun e w' => e = .returned (.tuple #[.agg (itL noIt).toArray, .string ⟨#[]⟩, .bool false]) ∧ Below w.heap.size w w' := by
  have h0 : (0 : Int) < (s.size : Int) := by omega
  have h1' : ¬ (c.toNat : Int) < 33 := by omega
  have h2' : (126 : Int) < (c.toNat : Int) := by omega
  have hz := zero_it
  have hlen : (itL noIt).length = 259 := by simp [itL]
  have hone : (itL noIt).toArray.all (·.oneCell') = true := by kernel_rfl
  obtain ⟨Z, hZ⟩ : ∃ Z, itL noIt = Z := ⟨_, rfl⟩
  rw [hZ] at hz hlen hone ⊢
  clear hZ
  go_enter Try.func36, Try.ntmps36
  go_upto_region 5 with fail
  obtain ⟨W2, hW2⟩ : ∃ W2, (w.alloc (.cells Z.toArray 67)).alloc (.cells Z.toArray 67) = W2 := ⟨_, rfl⟩
  have hB : Below w.heap.size w W2 := by
    rw [← hW2]
    exact ((Below.refl _ _).alloc (Nat.le_refl _) _).alloc (by rw [World.size_alloc]; omega) _
  have r0 : Row W2 w.heap.size 67 Z.toArray := by rw [← hW2]; exact (Row.new _ _ _).alloc _
  have r1 : Row W2 (w.heap.size + 1) 67 Z.toArray := by
    rw [← hW2]
    have := Row.new (w.alloc (.cells Z.toArray 67)) 67 Z.toArray
    rwa [World.size_alloc] at this
  have g1 : W2.rangeAt (w.heap.size + 1) 0 Z := fun j v hv => by rw [Nat.zero_add, r1.cell j]; simpa using hv
  have t0 : W2.there w.heap.size 0 Z.length := fun j hj => by
    rw [Nat.zero_add]
    refine ⟨?_, r0.frozen j⟩
    rw [r0.cell j]
    simp [hj]
  have hi : (Try.prog.info? 67).map (·.size) = some Z.length := by rw [hlen]; kernel_rfl
  have hr := World.rangeAt_setCells_same W2 w.heap.size 0 Z t0
  have HB := hide (show Below w.heap.size w (W2.setCells w.heap.size 0 Z) from hB.trans (Below.setCells_ge w.heap.size w.heap.size (Nat.le_refl _) Z 0 W2))
  have HR := hide hr
  have HI := hide hi
  have HI2 := hide (show (Try.prog.info? 67).map (·.size) = some Z.toArray.size by simpa using hi)
  have G1 := hide g1
  have T0 := hide (show W2.there w.heap.size 0 Z.toArray.size by simpa using t0)
  have HO := hide hone
  rw [hW2]
  clear hW2 hB hr hi r0 r1 g1 t0 hz hone hlen
  go_wp2_with (first | (refine wpList_load_mid rfl 67 (.tmp 5) rfl (w.heap.size + 1) 0 rfl Z _ G1.out Try.underlying67 rfl HI.out ?_) | (refine wpList_store_mid rfl 67 (.tmp 2) (.tmp 35) rfl w.heap.size 0 Z.toArray rfl rfl T0.out HI2.out HO.out ?_))
  exact bodyPost_ret (v := .tuple #[.agg Z.toArray, .string ⟨#[]⟩, .bool false]) (results_mid2 rfl _ _ w.heap.size Z _ _ _ rfl rfl rfl HR.out Try.underlying67 rfl HI.out) rfl ⟨rfl, HB.out⟩
set_option maxRecDepth 100000 in
set_option maxHeartbeats 8000000 in
theorem next_46 (c : UInt8) (s : ByteArray) (w : World) (h : 0 < s.size) (hc : s[0]'h = c) (h1 : c = 46) :
    Calls Try.prog 36 #[.string s] w fun e w' => e = .returned (.tuple #[.agg (itL noIt).toArray, .string ⟨#[]⟩, .bool false]) ∧ Below w.heap.size w w' := by
  have h0 : (0 : Int) < (s.size : Int) := by omega
  subst h1
  have hz := zero_it
  have hlen : (itL noIt).length = 259 := by simp [itL]
  have hone : (itL noIt).toArray.all (·.oneCell') = true := by kernel_rfl
  obtain ⟨Z, hZ⟩ : ∃ Z, itL noIt = Z := ⟨_, rfl⟩
  rw [hZ] at hz hlen hone ⊢
  clear hZ
  go_enter Try.func36, Try.ntmps36
  go_upto_region 5 with fail
  obtain ⟨W2, hW2⟩ : ∃ W2, (w.alloc (.cells Z.toArray 67)).alloc (.cells Z.toArray 67) = W2 := ⟨_, rfl⟩
  have hB : Below w.heap.size w W2 := by
    rw [← hW2]
    exact ((Below.refl _ _).alloc (Nat.le_refl _) _).alloc (by rw [World.size_alloc]; omega) _
  have r0 : Row W2 w.heap.size 67 Z.toArray := by rw [← hW2]; exact (Row.new _ _ _).alloc _
  have r1 : Row W2 (w.heap.size + 1) 67 Z.toArray := by
    rw [← hW2]
    have := Row.new (w.alloc (.cells Z.toArray 67)) 67 Z.toArray
    rwa [World.size_alloc] at this
  have g1 : W2.rangeAt (w.heap.size + 1) 0 Z := fun j v hv => by rw [Nat.zero_add, r1.cell j]; simpa using hv
  have t0 : W2.there w.heap.size 0 Z.length := fun j hj => by
    rw [Nat.zero_add]
    refine ⟨?_, r0.frozen j⟩
    rw [r0.cell j]
    simp [hj]
  have hi : (Try.prog.info? 67).map (·.size) = some Z.length := by rw [hlen]; kernel_rfl
  have hr := World.rangeAt_setCells_same W2 w.heap.size 0 Z t0
  have HB := hide (show Below w.heap.size w (W2.setCells w.heap.size 0 Z) from hB.trans (Below.setCells_ge w.heap.size w.heap.size (Nat.le_refl _) Z 0 W2))
  have HR := hide hr
  have HI := hide hi
  have HI2 := hide (show (Try.prog.info? 67).map (·.size) = some Z.toArray.size by simpa using hi)
  have G1 := hide g1
  have T0 := hide (show W2.there w.heap.size 0 Z.toArray.size by simpa using t0)
  have HO := hide hone
  rw [hW2]
  clear hW2 hB hr hi r0 r1 g1 t0 hz hone hlen
  go_wp2_with (first | (refine wpList_load_mid rfl 67 (.tmp 5) rfl (w.heap.size + 1) 0 rfl Z _ G1.out Try.underlying67 rfl HI.out ?_) | (refine wpList_store_mid rfl 67 (.tmp 2) (.tmp 35) rfl w.heap.size 0 Z.toArray rfl rfl T0.out HI2.out HO.out ?_))
  exact bodyPost_ret (v := .tuple #[.agg Z.toArray, .string ⟨#[]⟩, .bool false]) (results_mid2 rfl _ _ w.heap.size Z _ _ _ rfl rfl rfl HR.out Try.underlying67 rfl HI.out) rfl ⟨rfl, HB.out⟩
set_option maxRecDepth 100000 in
set_option maxHeartbeats 8000000 in
theorem next_92 (c : UInt8) (s : ByteArray) (w : World) (h : 0 < s.size) (hc : s[0]'h = c) (h1 : c = 92) :
    Calls Try.prog 36 #[.string s] w fun e w' => e = .returned (.tuple #[.agg (itL noIt).toArray, .string ⟨#[]⟩, .bool false]) ∧ Below w.heap.size w w' := by
  have h0 : (0 : Int) < (s.size : Int) := by omega
  subst h1
  have hz := zero_it
  have hlen : (itL noIt).length = 259 := by simp [itL]
  have hone : (itL noIt).toArray.all (·.oneCell') = true := by kernel_rfl
  obtain ⟨Z, hZ⟩ : ∃ Z, itL noIt = Z := ⟨_, rfl⟩
  rw [hZ] at hz hlen hone ⊢
  clear hZ
  go_enter Try.func36, Try.ntmps36
  go_upto_region 5 with fail
  obtain ⟨W2, hW2⟩ : ∃ W2, (w.alloc (.cells Z.toArray 67)).alloc (.cells Z.toArray 67) = W2 := ⟨_, rfl⟩
  have hB : Below w.heap.size w W2 := by
    rw [← hW2]
    exact ((Below.refl _ _).alloc (Nat.le_refl _) _).alloc (by rw [World.size_alloc]; omega) _
  have r0 : Row W2 w.heap.size 67 Z.toArray := by rw [← hW2]; exact (Row.new _ _ _).alloc _
  have r1 : Row W2 (w.heap.size + 1) 67 Z.toArray := by
    rw [← hW2]
    have := Row.new (w.alloc (.cells Z.toArray 67)) 67 Z.toArray
    rwa [World.size_alloc] at this
  have g1 : W2.rangeAt (w.heap.size + 1) 0 Z := fun j v hv => by rw [Nat.zero_add, r1.cell j]; simpa using hv
  have t0 : W2.there w.heap.size 0 Z.length := fun j hj => by
    rw [Nat.zero_add]
    refine ⟨?_, r0.frozen j⟩
    rw [r0.cell j]
    simp [hj]
  have hi : (Try.prog.info? 67).map (·.size) = some Z.length := by rw [hlen]; kernel_rfl
  have hr := World.rangeAt_setCells_same W2 w.heap.size 0 Z t0
  have HB := hide (show Below w.heap.size w (W2.setCells w.heap.size 0 Z) from hB.trans (Below.setCells_ge w.heap.size w.heap.size (Nat.le_refl _) Z 0 W2))
  have HR := hide hr
  have HI := hide hi
  have HI2 := hide (show (Try.prog.info? 67).map (·.size) = some Z.toArray.size by simpa using hi)
  have G1 := hide g1
  have T0 := hide (show W2.there w.heap.size 0 Z.toArray.size by simpa using t0)
  have HO := hide hone
  rw [hW2]
  clear hW2 hB hr hi r0 r1 g1 t0 hz hone hlen
  go_wp2_with (first | (refine wpList_load_mid rfl 67 (.tmp 5) rfl (w.heap.size + 1) 0 rfl Z _ G1.out Try.underlying67 rfl HI.out ?_) | (refine wpList_store_mid rfl 67 (.tmp 2) (.tmp 35) rfl w.heap.size 0 Z.toArray rfl rfl T0.out HI2.out HO.out ?_))
  exact bodyPost_ret (v := .tuple #[.agg Z.toArray, .string ⟨#[]⟩, .bool false]) (results_mid2 rfl _ _ w.heap.size Z _ _ _ rfl rfl rfl HR.out Try.underlying67 rfl HI.out) rfl ⟨rfl, HB.out⟩
set_option maxRecDepth 100000 in
set_option maxHeartbeats 8000000 in
theorem next_93 (c : UInt8) (s : ByteArray) (w : World) (h : 0 < s.size) (hc : s[0]'h = c) (h1 : c = 93) :
    Calls Try.prog 36 #[.string s] w fun e w' => e = .returned (.tuple #[.agg (itL noIt).toArray, .string ⟨#[]⟩, .bool false]) ∧ Below w.heap.size w w' := by
  have h0 : (0 : Int) < (s.size : Int) := by omega
  subst h1
  have hz := zero_it
  have hlen : (itL noIt).length = 259 := by simp [itL]
  have hone : (itL noIt).toArray.all (·.oneCell') = true := by kernel_rfl
  obtain ⟨Z, hZ⟩ : ∃ Z, itL noIt = Z := ⟨_, rfl⟩
  rw [hZ] at hz hlen hone ⊢
  clear hZ
  go_enter Try.func36, Try.ntmps36
  go_upto_region 5 with fail
  obtain ⟨W2, hW2⟩ : ∃ W2, (w.alloc (.cells Z.toArray 67)).alloc (.cells Z.toArray 67) = W2 := ⟨_, rfl⟩
  have hB : Below w.heap.size w W2 := by
    rw [← hW2]
    exact ((Below.refl _ _).alloc (Nat.le_refl _) _).alloc (by rw [World.size_alloc]; omega) _
  have r0 : Row W2 w.heap.size 67 Z.toArray := by rw [← hW2]; exact (Row.new _ _ _).alloc _
  have r1 : Row W2 (w.heap.size + 1) 67 Z.toArray := by
    rw [← hW2]
    have := Row.new (w.alloc (.cells Z.toArray 67)) 67 Z.toArray
    rwa [World.size_alloc] at this
  have g1 : W2.rangeAt (w.heap.size + 1) 0 Z := fun j v hv => by rw [Nat.zero_add, r1.cell j]; simpa using hv
  have t0 : W2.there w.heap.size 0 Z.length := fun j hj => by
    rw [Nat.zero_add]
    refine ⟨?_, r0.frozen j⟩
    rw [r0.cell j]
    simp [hj]
  have hi : (Try.prog.info? 67).map (·.size) = some Z.length := by rw [hlen]; kernel_rfl
  have hr := World.rangeAt_setCells_same W2 w.heap.size 0 Z t0
  have HB := hide (show Below w.heap.size w (W2.setCells w.heap.size 0 Z) from hB.trans (Below.setCells_ge w.heap.size w.heap.size (Nat.le_refl _) Z 0 W2))
  have HR := hide hr
  have HI := hide hi
  have HI2 := hide (show (Try.prog.info? 67).map (·.size) = some Z.toArray.size by simpa using hi)
  have G1 := hide g1
  have T0 := hide (show W2.there w.heap.size 0 Z.toArray.size by simpa using t0)
  have HO := hide hone
  rw [hW2]
  clear hW2 hB hr hi r0 r1 g1 t0 hz hone hlen
  go_wp2_with (first | (refine wpList_load_mid rfl 67 (.tmp 5) rfl (w.heap.size + 1) 0 rfl Z _ G1.out Try.underlying67 rfl HI.out ?_) | (refine wpList_store_mid rfl 67 (.tmp 2) (.tmp 35) rfl w.heap.size 0 Z.toArray rfl rfl T0.out HI2.out HO.out ?_))
  exact bodyPost_ret (v := .tuple #[.agg Z.toArray, .string ⟨#[]⟩, .bool false]) (results_mid2 rfl _ _ w.heap.size Z _ _ _ rfl rfl rfl HR.out Try.underlying67 rfl HI.out) rfl ⟨rfl, HB.out⟩
theorem next_bad (c : UInt8) (s : ByteArray) (w : World) (h : 0 < s.size) (hc : s[0]'h = c) (hb : c.toNat < 33 ∨ 126 < c.toNat ∨ c = 46 ∨ c = 92 ∨ c = 93) :
    Calls Try.prog 36 #[.string s] w fun e w' => e = .returned (.tuple #[.agg (itL noIt).toArray, .string ⟨#[]⟩, .bool false]) ∧ Below w.heap.size w w' := by
  rcases hb with hb | hb | hb | hb | hb
  · exact next_low c s w h hc hb
  · exact next_high c s w h hc hb
  · exact next_46 c s w h hc hb
  · exact next_92 c s w h hc hb
  · exact next_93 c s w h hc hb
end Go.Proofs.Ytcjehiecgdmidaa
