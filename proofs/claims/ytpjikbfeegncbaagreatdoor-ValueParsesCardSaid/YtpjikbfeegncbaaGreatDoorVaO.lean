/- Contracts of value's exported functions. -/
import Derived.Test.YtpjikbfeegncbaaGreatDoorVaN
set_option linter.unusedVariables false
set_option linter.unusedSimpArgs false
namespace Go.Proofs.YtpjikbfeegncbaaGreatDoor
open Go.RowKit Go.Shelf Go.Sort

/-- is there a kind with that number and that width -/
def inK (n wd : Int) : Bool := decide (0 ≤ n ∧ n < 4) && okW n.toNat wd
theorem inK_nat (k : Nat) (wd : Int) (h : k < 4) : inK (k : Int) wd = okW k wd := by
  unfold inK
  rw [decide_eq_true (by omega), Bool.true_and, Int.toNat_natCast]
theorem inK_out {n : Int} (wd : Int) (h : n < 0 ∨ 4 ≤ n) : inK n wd = false := by
  unfold inK
  rw [decide_eq_false (by omega), Bool.false_and]
def validN (n wd : Int) (l : List UInt8) : Bool := inK n wd && validK n.toNat wd l
def initN (n wd : Int) : ByteArray := if inK n wd then initK n.toNat wd else ⟨#[]⟩
def parseN (n wd : Int) (l : List UInt8) : ByteArray × Int := if inK n wd then parseK n.toNat wd l else (⟨#[]⟩, 7)
def formatN (n wd : Int) (l : List UInt8) : List UInt8 := if validN n wd l then formatK n.toNat l else []

set_option maxRecDepth 20000 in
set_option maxHeartbeats 4000000 in
theorem ValidType_any (n wd : Int) (w : World) :
    Calls Tryz.prog 10 #[.int .i64 n, .int .i64 wd] w fun e w' => e = .returned (.bool (inK n wd)) ∧ Below w.heap.size w w' := by
  have OF := hide (of_kind n wd w)
  go_enter Tryz.func10, Tryz.ntmps10
  go_wp2_with fail
  refine OF.out.mono ?_
  rintro e w1 ⟨hb, ⟨k, p, rfl, hk, rfl, hr, hp⟩ | ⟨hn, rfl⟩⟩
  · have HI := hide (inK_nat k wd hk)
    have Hb := hide (fun o => hb.alloc hb.size o)
    clear hb hr hp
    generalize okW k wd = b at *
    go_wp2
    go_ret
    exact ⟨ret_b HI.out, Hb.out _⟩
  · have HI := hide (inK_out wd hn)
    have Hb := hide (fun o => hb.alloc hb.size o)
    clear hb hn
    go_wp2
    go_ret
    exact ⟨ret_b HI.out, Hb.out _⟩

set_option maxRecDepth 20000 in
set_option maxHeartbeats 4000000 in
theorem Valid_any (n wd : Int) (l : List UInt8) (w : World) (hz : l.length ≤ 1000000) (hg : Gl w) :
    Calls Tryz.prog 12 #[.int .i64 n, .int .i64 wd, .string (bsV l)] w fun e w' => e = .returned (.bool (validN n wd l)) ∧ Below w.heap.size w w' := by
  have OF := hide (of_kind n wd w)
  have hcv := fun (k : Nat) (args : Array Value) (W : World) => validF_run k args W
  have VK := hide (fun (k : Nat) (W : World) (h : Gl W) => validK_any k wd l W hz h)
  have G := hide hg
  clear hg
  go_enter Tryz.func12, Tryz.ntmps12
  go_wp2_with fail
  refine OF.out.mono ?_
  rintro e w1 ⟨hb, ⟨k, p, rfl, hk, rfl, hr, hp⟩ | ⟨hn, rfl⟩⟩
  · have G1 := hide (fun o => G.out.below (hb.alloc hb.size o))
    have Hb := hide (fun o => hb.alloc hb.size o)
    clear hb hr hp
    cases ho : okW k wd with
    | false =>
      have HV := hide (show validN (k : Int) wd l = false by unfold validN; rw [inK_nat k wd hk, ho]; rfl)
      clear ho
      go_wp2
      go_ret
      exact ⟨ret_b HV.out, Hb.out _⟩
    | true =>
      have HV := hide (show validN (k : Int) wd l = validK k wd l by unfold validN; rw [inK_nat k wd hk, ho, Int.toNat_natCast]; rfl)
      clear ho
      go_wp2_with fail
      refine (VK.out k _ (G1.out _)).mono ?_
      rintro e w2 ⟨rfl, hb⟩
      have Hb2 := hide ((Hb.out _).trans (hb.mono (Hb.out _).size))
      clear hb
      go_wp2
      go_ret
      exact ⟨ret_b HV.out, Hb2.out⟩
  · have HV := hide (show validN n wd l = false by unfold validN; rw [inK_out wd hn]; rfl)
    have Hb := hide (fun o => hb.alloc hb.size o)
    clear hb hn
    go_wp2
    go_ret
    exact ⟨ret_b HV.out, Hb.out _⟩

set_option maxRecDepth 20000 in
set_option maxHeartbeats 4000000 in
theorem Initial_any (n wd : Int) (w : World) :
    Calls Tryz.prog 14 #[.int .i64 n, .int .i64 wd] w fun e w' => e = .returned (.string (initN n wd)) ∧ Below w.heap.size w w' := by
  have OF := hide (of_kind n wd w)
  have hci := fun (k : Nat) (args : Array Value) (W : World) => initF_run k args W
  have IK := hide (fun (k p : Nat) (W : World) (h : Row W p 9 #[.string (kindS k)]) => initK_any k p wd W h)
  go_enter Tryz.func14, Tryz.ntmps14
  go_wp2_with fail
  refine OF.out.mono ?_
  rintro e w1 ⟨hb, ⟨k, p, rfl, hk, rfl, hr, hp⟩ | ⟨hn, rfl⟩⟩
  · have HR := hide (fun o => hr.alloc o)
    have Hb := hide (fun o => hb.alloc hb.size o)
    clear hb hr hp
    cases ho : okW k wd with
    | false =>
      have HV := hide (show initN (k : Int) wd = ⟨#[]⟩ by unfold initN; rw [inK_nat k wd hk, ho]; rfl)
      clear ho
      go_wp2
      go_ret
      exact ⟨congrArg (fun b => Ending.returned (.string b)) HV.out.symm, Hb.out _⟩
    | true =>
      have HV := hide (show initN (k : Int) wd = initK k wd by unfold initN; rw [inK_nat k wd hk, ho, Int.toNat_natCast]; rfl)
      clear ho
      go_wp2_with fail
      refine (IK.out k p _ (HR.out _)).mono ?_
      rintro e w2 ⟨rfl, hb⟩
      have Hb2 := hide ((Hb.out _).trans (hb.mono (Hb.out _).size))
      clear hb
      go_wp2
      go_ret
      exact ⟨congrArg (fun b => Ending.returned (.string b)) HV.out.symm, Hb2.out⟩
  · have HV := hide (show initN n wd = ⟨#[]⟩ by unfold initN; rw [inK_out wd hn]; rfl)
    have Hb := hide (fun o => hb.alloc hb.size o)
    clear hb hn
    go_wp2
    go_ret
    exact ⟨congrArg (fun b => Ending.returned (.string b)) HV.out.symm, Hb.out _⟩

set_option maxRecDepth 20000 in
set_option maxHeartbeats 4000000 in
theorem Parse_any (n wd : Int) (l : List UInt8) (w : World) (hz : l.length ≤ 1000000) (hg : Gl w) :
    Calls Tryz.prog 16 #[.int .i64 n, .int .i64 wd, .string (bsV l)] w fun e w' => e = .returned (.tuple #[.string (parseN n wd l).1, .int .i64 (parseN n wd l).2]) ∧ Below w.heap.size w w' := by
  have OF := hide (of_kind n wd w)
  have hcp := fun (k : Nat) (args : Array Value) (W : World) => parseF_run k args W
  have PK := hide (fun (k : Nat) (W : World) (h : Gl W) (ho : okW k wd = true) => parseK_any k wd l W hz h ho)
  have G := hide hg
  clear hg
  go_enter Tryz.func16, Tryz.ntmps16
  go_wp2_with fail
  refine OF.out.mono ?_
  rintro e w1 ⟨hb, ⟨k, p, rfl, hk, rfl, hr, hp⟩ | ⟨hn, rfl⟩⟩
  · have G1 := hide (fun o => G.out.below (hb.alloc hb.size o))
    have Hb := hide (fun o => hb.alloc hb.size o)
    clear hb hr hp
    cases ho : okW k wd with
    | false =>
      have HV := hide (show parseN (k : Int) wd l = (⟨#[]⟩, 7) by unfold parseN; rw [inK_nat k wd hk, ho]; rfl)
      clear ho
      go_wp2
      go_ret2
      exact ⟨ret_pair (congrArg Prod.fst HV.out).symm (congrArg Prod.snd HV.out).symm, Hb.out _⟩
    | true =>
      have HV := hide (show parseN (k : Int) wd l = parseK k wd l by unfold parseN; rw [inK_nat k wd hk, ho, Int.toNat_natCast]; rfl)
      have HO := hide ho
      clear ho
      go_wp2_with fail
      refine (PK.out k _ (G1.out _) HO.out).mono ?_
      rintro e w2 ⟨rfl, hb⟩
      have Hb2 := hide ((Hb.out _).trans (hb.mono (Hb.out _).size))
      clear hb
      go_wp2
      go_ret2
      exact ⟨ret_pair (congrArg Prod.fst HV.out).symm (congrArg Prod.snd HV.out).symm, Hb2.out⟩
  · have HV := hide (show parseN n wd l = (⟨#[]⟩, 7) by unfold parseN; rw [inK_out wd hn]; rfl)
    have Hb := hide (fun o => hb.alloc hb.size o)
    clear hb hn
    go_wp2
    go_ret2
    exact ⟨ret_pair (congrArg Prod.fst HV.out).symm (congrArg Prod.snd HV.out).symm, Hb.out _⟩

set_option maxRecDepth 20000 in
set_option maxHeartbeats 4000000 in
theorem Format_any (n wd : Int) (l : List UInt8) (w : World) (hz : l.length ≤ 1000000) (hg : Gl w) :
    Calls Tryz.prog 18 #[.int .i64 n, .int .i64 wd, .string (bsV l)] w fun e w' => e = .returned (.string (bsV (formatN n wd l))) ∧ Below w.heap.size w w' := by
  have OF := hide (of_kind n wd w)
  have hcv := fun (k : Nat) (args : Array Value) (W : World) => validF_run k args W
  have VK := hide (fun (k : Nat) (W : World) (h : Gl W) => validK_any k wd l W hz h)
  have hcf := fun (k : Nat) (args : Array Value) (W : World) => formatF_run k args W
  have FK := hide (fun (k : Nat) (W : World) => formatK_any k l W hz)
  have G := hide hg
  clear hg
  go_enter Tryz.func18, Tryz.ntmps18
  go_wp2_with fail
  refine OF.out.mono ?_
  rintro e w1 ⟨hb, ⟨k, p, rfl, hk, rfl, hr, hp⟩ | ⟨hn, rfl⟩⟩
  · have G1 := hide (fun o => G.out.below (hb.alloc hb.size o))
    have Hb := hide (fun o => hb.alloc hb.size o)
    clear hb hr hp
    cases ho : okW k wd with
    | false =>
      have HV := hide (show formatN (k : Int) wd l = [] by unfold formatN validN; rw [inK_nat k wd hk, ho]; rfl)
      clear ho
      go_wp2
      go_ret
      exact ⟨congrArg (fun b => Ending.returned (.string (bsV b))) HV.out.symm, Hb.out _⟩
    | true =>
      have HV := hide (show formatN (k : Int) wd l = if validK k wd l then formatK k l else [] by unfold formatN validN; rw [inK_nat k wd hk, ho, Int.toNat_natCast]; rfl)
      clear ho
      go_wp2_with fail
      refine (VK.out k _ (G1.out _)).mono ?_
      rintro e w2 ⟨rfl, hb⟩
      have Hb2 := hide ((Hb.out _).trans (hb.mono (Hb.out _).size))
      have hrow := (Row.new w1 45 _).below hb (by rw [World.size_alloc]; omega)
      have c5 : w2.cell? ⟨w1.heap.size, 5, none⟩ = some (.func (.func (formatF k)) #[] #[]) := hrow.cell 5
      clear hb hrow
      cases hv : validK k wd l with
      | false =>
        rw [hv] at HV
        clear hv
        go_wp2
        go_ret
        exact ⟨congrArg (fun b => Ending.returned (.string (bsV b))) HV.out.symm, Hb2.out⟩
      | true =>
        rw [hv] at HV
        clear hv
        go_wp2_with fail
        refine (FK.out k _).mono ?_
        rintro e w3 ⟨rfl, hb⟩
        have Hb3 := hide (Hb2.out.trans (hb.mono Hb2.out.size))
        clear hb
        go_wp2
        go_ret
        exact ⟨congrArg (fun b => Ending.returned (.string (bsV b))) HV.out.symm, Hb3.out⟩
  · have HV := hide (show formatN n wd l = [] by unfold formatN validN; rw [inK_out wd hn]; rfl)
    have Hb := hide (fun o => hb.alloc hb.size o)
    clear hb hn
    go_wp2
    go_ret
    exact ⟨congrArg (fun b => Ending.returned (.string (bsV b))) HV.out.symm, Hb.out _⟩
end Go.Proofs.YtpjikbfeegncbaaGreatDoor
