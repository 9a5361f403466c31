/- The walk of the law LexerJoins. -/
import Derived.Test.YtbhmgooohhgpaaaLexT
import Derived.Test.YtbhmgooohhgpaaaLexR
import Derived.Test.YtbhmgooohhgpaaaLexJoP
import Derived.Test.YtbhmgooohhgpaaaSl
namespace Go.Proofs.Ytbhmgooohhgpaaa.lexerJoins
open Go.RowKit Go.Shelf
set_option linter.unusedVariables false

/-- the white space ahead of a word, by its number -/
def spaceL (n : Int) : List UInt8 := Lib.repeatL [([32, 9, 10, 11, 12, 13] : List UInt8).getD (n.toNat % 6) 0] (1 + n.toNat / 6 % 3)
def pairAt (ws : List ByteArray) (ns : List Int) (i : Nat) : List UInt8 × List UInt8 := (spaceL (ns.getD i 0), (ws.getD i ⟨#[]⟩).data.toList)
def pairs (ws : List ByteArray) (ns : List Int) (k : Nat) : List (List UInt8 × List UInt8) := (List.range k).map (pairAt ws ns)
def txt (ws : List ByteArray) (ns : List Int) (k : Nat) : ByteArray := ⟨(textOf (pairs ws ns k)).toArray⟩

def spc (n : Int) : UInt8 := ([32, 9, 10, 11, 12, 13] : List UInt8).getD (n.toNat % 6) 0
theorem spc_sel (n : Int) (h : 0 ≤ n) : ([Value.string ⟨#[32]⟩, Value.string ⟨#[9]⟩, Value.string ⟨#[10]⟩, Value.string ⟨#[11]⟩, Value.string ⟨#[12]⟩, Value.string ⟨#[13]⟩] : List Value)[(n % 6).toNat]? = some (.string ⟨#[spc n]⟩) := by
  have e : (n % 6).toNat = n.toNat % 6 := by omega
  rw [e]
  unfold spc
  have : n.toNat % 6 < 6 := Nat.mod_lt _ (by decide)
  generalize n.toNat % 6 = q at this
  have : q = 0 ∨ q = 1 ∨ q = 2 ∨ q = 3 ∨ q = 4 ∨ q = 5 := by omega
  rcases this with rfl | rfl | rfl | rfl | rfl | rfl <;> rfl
def spB (n : Int) : ByteArray := ⟨(spaceL n).toArray⟩
theorem spc_white (n : Int) : whiteB (spc n).toNat = true := by
  unfold spc
  have : n.toNat % 6 < 6 := Nat.mod_lt _ (by decide)
  generalize n.toNat % 6 = q at this
  have : q = 0 ∨ q = 1 ∨ q = 2 ∨ q = 3 ∨ q = 4 ∨ q = 5 := by omega
  rcases this with rfl | rfl | rfl | rfl | rfl | rfl <;> rfl
theorem repeatL_mem (c : UInt8) (m : Nat) : ∀ x ∈ Lib.repeatL [c] m, x = c := by
  induction m with
  | zero => intro x hx; cases hx
  | succ m ih =>
    intro x hx
    rcases List.mem_append.1 (show x ∈ [c] ++ Lib.repeatL [c] m from hx) with h | h
    · simpa using h
    · exact ih x h
theorem spaceL_white (n : Int) : ∀ c ∈ spaceL n, whiteB c.toNat = true := fun c hc => by
  have := repeatL_mem _ _ c hc
  subst this; exact spc_white n
theorem spaceL_len (n : Int) : (spaceL n).length = 1 + n.toNat / 6 % 3 := by unfold spaceL; rw [Lib.repeatL_length]; simp
theorem spaceL_ne (n : Int) : spaceL n ≠ [] := fun e => by have := spaceL_len n; rw [e] at this; simp at this; omega
theorem spB_size (n : Int) : (spB n).size ≤ 3 := by
  show (spaceL n).toArray.size ≤ 3
  rw [List.size_toArray, spaceL_len]; omega
theorem rep_any (n : Int) (w : World) (h0 : 0 ≤ n) (h1 : n ≤ 255) :
    Calls Try.prog 22 #[.string ⟨#[spc n]⟩, .int .i64 (1 + n / 6 % 3)] w fun e w' => e = .returned (.string (spB n)) ∧ Below w.heap.size w w' := by
  rw [show (1 + n / 6 % 3 : Int) = ((1 + n.toNat / 6 % 3 : Nat) : Int) by omega]
  exact Try.strings_Repeat ⟨#[spc n]⟩ _ w (by omega) (by show 1 * _ ≤ _; omega)
theorem pairs_succ (ws : List ByteArray) (ns : List Int) (k : Nat) : pairs ws ns (k + 1) = pairs ws ns k ++ [pairAt ws ns k] := by
  unfold pairs; rw [List.range_succ, List.map_append]; rfl
theorem txt_succ (ws : List ByteArray) (ns : List Int) (k : Nat) : txt ws ns (k + 1) = txt ws ns k ++ (spB (ns.getD k 0) ++ ws.getD k ⟨#[]⟩) := by
  apply lexerParts.extract_ext
  show (textOf (pairs ws ns (k + 1))).toArray.toList = _
  rw [pairs_succ, textOf_snoc]
  simp [txt, spB, pairAt, ByteArray.data_append]
theorem noneWhite (l : List UInt8) (h : Lib.containsAny l [32, 9, 10, 11, 12, 13] = false) : ∀ c ∈ l, whiteB c.toNat = false := by
  induction l with
  | nil => intro c hc; cases hc
  | cons b l ih =>
    have hg := Lib.indexAny_ge [32, 9, 10, 11, 12, 13] l
    have h' : ¬ 0 ≤ Lib.indexAny (b :: l) [32, 9, 10, 11, 12, 13] := of_decide_eq_false h
    unfold Lib.indexAny at h'
    split at h'
    · exact absurd (Int.le_refl 0) h'
    · rename_i hb
      have hl : Lib.containsAny l [32, 9, 10, 11, 12, 13] = false := by
        apply decide_eq_false
        intro h0
        apply h'
        split
        · rename_i e; rw [beq_iff_eq] at e; omega
        · omega
      intro c hc
      rcases List.mem_cons.1 hc with rfl | hc
      · simp only [List.contains_eq_mem, List.mem_cons, List.not_mem_nil, or_false, decide_eq_true_eq, not_or] at hb
        unfold whiteB
        apply decide_eq_false
        intro hw
        obtain ⟨h1, h2, h3, h4, h5, h6⟩ := hb
        have k1 : c.toNat ≠ 32 := fun e => h1 (UInt8.toNat_inj.1 e)
        have k2 : c.toNat ≠ 9 := fun e => h2 (UInt8.toNat_inj.1 e)
        have k3 : c.toNat ≠ 10 := fun e => h3 (UInt8.toNat_inj.1 e)
        have k4 : c.toNat ≠ 11 := fun e => h4 (UInt8.toNat_inj.1 e)
        have k5 : c.toNat ≠ 12 := fun e => h5 (UInt8.toNat_inj.1 e)
        have k6 : c.toNat ≠ 13 := fun e => h6 (UInt8.toNat_inj.1 e)
        omega
      · exact ih hl c hc
theorem words_txt (ws : List ByteArray) (ns : List Int) (h : ∀ p ∈ pairs ws ns ws.length, Fine p) : (wordsOf (txt ws ns ws.length)).map (fun p => (txt ws ns ws.length).extract p.1 p.2) = ws := by
  have e := words_textOf _ h
  have e2 : (pairs ws ns ws.length).map (·.2) = ws.map (fun s => s.data.toList) := by
    unfold pairs
    rw [List.map_map]
    apply List.ext_getElem
    · simp
    · intro i h1 h2
      simp at h1
      simp [pairAt, List.getD_eq_getElem?_getD, List.getElem?_eq_getElem h1]
  rw [e2] at e
  have key : ((wordsOf (txt ws ns ws.length)).map (fun p => (txt ws ns ws.length).extract p.1 p.2)).map (fun s => s.data.toList) = ws.map (fun s => s.data.toList) := by
    rw [← e, List.map_map]
    have hw : wordsOf (txt ws ns ws.length) = (scanAll (textOf (pairs ws ns ws.length))).1 := by
      unfold wordsOf scanAll txt
      simp only [Lib.size_eq]
    rw [hw]
    apply List.map_congr_left
    intro p _
    show ((txt ws ns ws.length).extract p.1 p.2).data.toList = _
    rw [Lib.extract_data]
    rfl
  have inj : ∀ a b : List ByteArray, a.map (fun s => s.data.toList) = b.map (fun s => s.data.toList) → a = b := by
    intro a
    induction a with
    | nil => intro b hb; cases b with
      | nil => rfl
      | cons y b => cases hb
    | cons x a ih => intro b hb; cases b with
      | nil => cases hb
      | cons y b =>
        simp only [List.map_cons, List.cons.injEq] at hb
        rw [lexerParts.extract_ext x y hb.1, ih b hb.2]
  exact inj _ _ key
theorem ascii_ws : Ascii ⟨#[32, 9, 10, 11, 12, 13]⟩ := by
  intro j b h
  have : b ∈ ([32, 9, 10, 11, 12, 13] : List UInt8) := List.mem_of_getElem? h
  simp only [List.mem_cons, List.not_mem_nil, or_false] at this
  rcases this with rfl | rfl | rfl | rfl | rfl | rfl <;> decide
set_option maxHeartbeats 4000000 in
theorem walk_in (A A' : Option Addr) (cap cap' : Nat) (ws : List ByteArray) (ns : List Int) (w : World) (hw : Sl Value.string w A ws) (hn : Sl (Value.int .u8) w A' ns) (hl : ws.length ≤ 60) (hu : ∀ n ∈ ns, 0 ≤ n ∧ n ≤ 255) (hln : ns.length ≤ maxLen) :
    Calls Try.prog 8 #[.slice A ws.length cap, .slice A' ns.length cap'] w fun e w' => e = .returned (.bool true) ∧ Below w.heap.size w w' := by
  unfold maxLen at hln
  have h1 : ¬ (60 : Int) < (ws.length : Int) := by omega
  have Hw := hide hw
  have Hn := hide hn
  have Hu := hide hu
  clear hw hn hu
  go_enter Try.func8, Try.ntmps8
  go_wp2_with fail
  refine (awake_any _).mono ?_
  rintro e w1 ⟨rfl, hb1⟩
  have Hb1 := hide hb1
  clear hb1
  go_wp2
  go_loopw [5, 6, 22] (fun t o i wr => ∃ k : Nat, i = .int .i64 k ∧ k ≤ ws.length ∧ t = .string (txt ws ns k) ∧ wr.ownsRow w.heap.size 9 1 o k ((ws.take k).map Value.string) ∧ Below w.heap.size w wr ∧ (∀ p ∈ pairs ws ns k, Fine p) ∧ (txt ws ns k).size ≤ 63 * k) (fun _ _ i _ => ws.length - (intOf i).toNat)
  case atStart => exact ⟨0, rfl, Nat.zero_le _, rfl, ownsRow_mono (World.ownsRow_made (size := 1) w1 #[] 0 (Nat.le_refl _) (Nat.zero_le _) rfl) Hb1.out.size, Hb1.out.alloc Hb1.out.size _, (by intro p hp; cases hp), Nat.zero_le _⟩
  case round =>
    obtain ⟨k, rfl, hk, rfl, hown, hbr, hfine, htz⟩ := hrel
    have Htz := hide htz
    clear htz
    have Hown := hide hown
    have Hbr := hide hbr
    have Hfine := hide hfine
    clear hown hbr hfine
    by_cases hlt : k < ws.length
    · obtain ⟨b, off, rfl, hbz, hat⟩ := Hw.out.at hlt
      have hcell := hat wr Hbr.out
      clear hat
      have hsx : ws.take (k + 1) = ws.take k ++ [ws[k]'hlt] := List.take_succ_eq_append_getElem hlt
      have hgx : ws.getD k ⟨#[]⟩ = ws[k]'hlt := by rw [List.getD_eq_getElem?_getD, List.getElem?_eq_getElem hlt]; rfl
      generalize ws[k]'hlt = s at hcell hsx hgx
      have Hsx := hide hsx
      have Hgx := hide hgx
      clear hsx hgx
      by_cases hbig : (60 : Int) < (s.size : Int)
      · go_wp2
        go_ret
        exact ⟨rfl, Hbr.out⟩
      by_cases hz : s.size = 0
      · obtain rfl : s = ⟨#[]⟩ := ByteArray.ext (Array.eq_empty_of_size_eq_zero hz)
        go_wp2
        go_ret
        exact ⟨rfl, Hbr.out⟩
      have hs1 : ¬ s.toList = [] := by
        rw [Lib.toList_data]; intro e; apply hz; rw [Lib.size_eq, e]; rfl
      have hs3 : s.toList.isEmpty = false := by
        rw [Lib.toList_data] at hs1 ⊢
        cases h : s.data.toList with
        | nil => exact absurd h hs1
        | cons => rfl
      have hsz : s.size ≤ 60 := by omega
      go_wp2_with fail
      refine (containsAny_any _ _ _ (by decide) (by decide) (by omega) ascii_ws).mono ?_
      rintro e w2 ⟨rfl, hb2⟩
      have Hb2 := hide hb2
      clear hb2
      cases hca : Lib.containsAny s.data.toList [32, 9, 10, 11, 12, 13] with
      | true =>
        have hca2 : Lib.containsAny s.data.toList (⟨#[32, 9, 10, 11, 12, 13]⟩ : ByteArray).data.toList = true := hca
        clear hca
        go_wp2
        go_ret
        exact ⟨rfl, Hbr.out.trans (Hb2.out.mono Hbr.out.size)⟩
      | false =>
        have hca2 : Lib.containsAny s.data.toList (⟨#[32, 9, 10, 11, 12, 13]⟩ : ByteArray).data.toList = false := hca
        by_cases hsp : k < ns.length
        · obtain ⟨b', off', rfl, hbz', hat'⟩ := Hn.out.at hsp
          have hcell' := hat' w2 (Hbr.out.trans (Hb2.out.mono Hbr.out.size))
          clear hat'
          have hgn : ns.getD k 0 = ns[k]'hsp := by rw [List.getD_eq_getElem?_getD, List.getElem?_eq_getElem hsp]; rfl
          obtain ⟨n0, n1⟩ := Hu.out _ (List.getElem_mem hsp)
          generalize ns[k]'hsp = n at hcell' hgn n0 n1
          have Hgn := hide hgn
          clear hgn
          have hsel : ([Value.string ⟨#[32]⟩, Value.string ⟨#[9]⟩, Value.string ⟨#[10]⟩, Value.string ⟨#[11]⟩, Value.string ⟨#[12]⟩, Value.string ⟨#[13]⟩] : List Value)[(n % 6).toNat]? = some (.string ⟨#[spc n]⟩) := spc_sel n n0
          go_wp2_with fail
          refine (rep_any n _ n0 n1).mono ?_
          rintro e w3 ⟨rfl, hb3⟩
          have Hb3 := hide hb3
          clear hb3
          have htx := txt_succ ws ns k
          rw [Hgx.out, Hgn.out] at htx
          have hts : (txt ws ns (k + 1)).size ≤ 63 * (k + 1) := by
            rw [htx, ByteArray.size_append, ByteArray.size_append]
            have := spB_size n
            have := Htz.out
            omega
          have hq1 : ∀ W : World, (Op.stringOp .add (spB n) s).run Try.prog W = .ok (.string (spB n ++ s)) W := fun W => by
            rw [run_string_add_sum W _ _ (by have := spB_size n; omega)]
          have hq2 : ∀ W : World, (Op.stringOp .add (txt ws ns k) (spB n ++ s)).run Try.prog W = .ok (.string (txt ws ns (k + 1))) W := fun W => by
            rw [run_string_add_sum W _ _ (by have := spB_size n; have := Htz.out; rw [ByteArray.size_append]; omega), htx]
          have HTS := hide hts
          clear hts htx
          have hb23 : Below wr.heap.size wr w3 := (Hb2.out.alloc Hb2.out.size _).trans (Hb3.out.mono (by rw [World.size_alloc]; exact Nat.le_succ_of_le Hb2.out.size))
          have hown3 := ownsRow_below Hown.out hb23
          have Hb23 := hide hb23
          have Hown3 := hide hown3
          have hz3 : w.heap.size ≤ w3.heap.size := Nat.le_trans Hbr.out.size hb23.size
          have Hz3 := hide hz3
          clear hb23 hown3 hz3
          go_wp2_with (at_builtin; have hown9 := Hown3.out.alloc (.cells #[.string s] 9); refine wpList_append_at _ rfl _ _ 40 rfl w.heap.size 9 infoStr Try.underlying40 rfl (by decide) u6 k ((ws.take k).map Value.string) rfl hown9 ⟨w3.heap.size, 0, none⟩ 1 1 [.string s] rfl rfl (cells_new _ _ rfl) (by intro u hu; simp only [List.mem_cons, List.not_mem_nil, or_false] at hu; rcases hu with rfl; rfl) (by unfold maxLen; omega) (by omega) (by rw [World.size_alloc]; exact Nat.le_succ_of_le Hz3.out) ?_; intro v' w4 hown4 hgrow4 _ _)
          have HG4 := hide hgrow4
          have HO4 := hide hown4
          have HO9 := hide hown9
          clear hgrow4 hown4 hown9
          go_roundw
          case rel =>
            refine ⟨k + 1, by go_num, by omega, rfl, ?_, ?_, ?_, HTS.out⟩
            · rw [Hsx.out, List.map_append]; exact HO4.out
            · exact ((Hbr.out.trans (Hb23.out.mono Hbr.out.size)).alloc Hz3.out _).grown HG4.out (by rw [World.size_alloc]; exact Nat.le_succ_of_le Hz3.out) (fun j hj => (HO9.out.lt j hj).1)
            · rw [pairs_succ]
              intro p hp
              rcases List.mem_append.1 hp with h | h
              · exact Hfine.out p h
              · simp only [List.mem_cons, List.not_mem_nil, or_false] at h
                subst h
                unfold pairAt
                rw [Hgx.out]
                exact ⟨spaceL_ne _, spaceL_white _ , fun e => hs1 (by rw [Lib.toList_data]; exact e), noneWhite _ hca⟩
          case measure => simp [intOf]; omega
        · have hgn : ns.getD k 0 = 0 := by rw [List.getD_eq_getElem?_getD, List.getElem?_eq_none (Nat.le_of_not_lt hsp)]; rfl
          have Hgn := hide hgn
          clear hgn
          go_wp2_with fail
          refine (rep_any 0 _ (by decide) (by decide)).mono ?_
          rintro e w3 ⟨rfl, hb3⟩
          have Hb3 := hide hb3
          clear hb3
          have htx := txt_succ ws ns k
          rw [Hgx.out, Hgn.out] at htx
          have hts : (txt ws ns (k + 1)).size ≤ 63 * (k + 1) := by
            rw [htx, ByteArray.size_append, ByteArray.size_append]
            have := spB_size 0
            have := Htz.out
            omega
          have hq1 : ∀ W : World, (Op.stringOp .add (spB 0) s).run Try.prog W = .ok (.string (spB 0 ++ s)) W := fun W => by
            rw [run_string_add_sum W _ _ (by have := spB_size 0; omega)]
          have hq2 : ∀ W : World, (Op.stringOp .add (txt ws ns k) (spB 0 ++ s)).run Try.prog W = .ok (.string (txt ws ns (k + 1))) W := fun W => by
            rw [run_string_add_sum W _ _ (by have := spB_size 0; have := Htz.out; rw [ByteArray.size_append]; omega), htx]
          have HTS := hide hts
          clear hts htx
          have hb23 : Below wr.heap.size wr w3 := (Hb2.out.alloc Hb2.out.size _).trans (Hb3.out.mono (by rw [World.size_alloc]; exact Nat.le_succ_of_le Hb2.out.size))
          have hown3 := ownsRow_below Hown.out hb23
          have Hb23 := hide hb23
          have Hown3 := hide hown3
          have hz3 : w.heap.size ≤ w3.heap.size := Nat.le_trans Hbr.out.size hb23.size
          have Hz3 := hide hz3
          clear hb23 hown3 hz3
          go_wp2_with (at_builtin; have hown9 := Hown3.out.alloc (.cells #[.string s] 9); refine wpList_append_at _ rfl _ _ 40 rfl w.heap.size 9 infoStr Try.underlying40 rfl (by decide) u6 k ((ws.take k).map Value.string) rfl hown9 ⟨w3.heap.size, 0, none⟩ 1 1 [.string s] rfl rfl (cells_new _ _ rfl) (by intro u hu; simp only [List.mem_cons, List.not_mem_nil, or_false] at hu; rcases hu with rfl; rfl) (by unfold maxLen; omega) (by omega) (by rw [World.size_alloc]; exact Nat.le_succ_of_le Hz3.out) ?_; intro v' w4 hown4 hgrow4 _ _)
          have HG4 := hide hgrow4
          have HO4 := hide hown4
          have HO9 := hide hown9
          clear hgrow4 hown4 hown9
          go_roundw
          case rel =>
            refine ⟨k + 1, by go_num, by omega, rfl, ?_, ?_, ?_, HTS.out⟩
            · rw [Hsx.out, List.map_append]; exact HO4.out
            · exact ((Hbr.out.trans (Hb23.out.mono Hbr.out.size)).alloc Hz3.out _).grown HG4.out (by rw [World.size_alloc]; exact Nat.le_succ_of_le Hz3.out) (fun j hj => (HO9.out.lt j hj).1)
            · rw [pairs_succ]
              intro p hp
              rcases List.mem_append.1 hp with h | h
              · exact Hfine.out p h
              · simp only [List.mem_cons, List.not_mem_nil, or_false] at h
                subst h
                unfold pairAt
                rw [Hgx.out]
                exact ⟨spaceL_ne _, spaceL_white _ , fun e => hs1 (by rw [Lib.toList_data]; exact e), noneWhite _ hca⟩
          case measure => simp [intOf]; omega
    · obtain rfl : k = ws.length := Nat.le_antisymm hk (Nat.le_of_not_lt hlt)
      have hw0 := words_txt ws ns Hfine.out
      have htz2 := Htz.out
      generalize txt ws ns ws.length = t at hw0 htz2
      have HW := hide hw0
      have HTZ := hide htz2
      clear hw0 htz2 Htz Hfine
      go_wp2_with fail
      refine (Scan_any t (by have := HTZ.out; omega) _).mono ?_
      rintro e w2 ⟨v2, rfl, hown2, hb2⟩
      obtain ⟨A2, cap2, rfl, hws⟩ := WSl_own hown2
      have hA2 : ∀ x, A2 = some x → x.block < w2.heap.size := fun x e => (hown2.lt _ (by subst e; rfl)).2
      have hln2 : (wordsOf t).length = ws.length := by have := congrArg List.length HW.out; simpa using this
      have htx : textsOf ((wordsOf t).map (wd t)) = ws.map Value.string := by
        have := congrArg (List.map Value.string) HW.out
        rw [← this]; unfold textsOf; simp [wd]
      obtain ⟨X, hX⟩ : ∃ X, (wordsOf t).map (wd t) = X := ⟨_, rfl⟩
      rw [hX] at hws htx
      have hXn : X.length = ws.length := by rw [← hX]; simpa using hln2
      obtain ⟨A6, cap6, rfl, hsl6, hlt6⟩ := Sl_own (xs := ws) (f := Value.string) (by have := Hown.out; rwa [List.take_length] at this) rfl
      have Hws := hide hws
      have HA2 := hide hA2
      have HXn := hide hXn
      have Htx := hide htx
      have Hb2 := hide hb2
      have Hsl6 := hide hsl6
      have hlx : ((List.map (wd t) (wordsOf t)).length : Int) = (ws.length : Int) := by rw [hX, hXn]
      have hly : (List.map (wd t) (wordsOf t)).length = ws.length := by rw [hX, hXn]
      have hlz : (wordsOf t).length = ws.length := hln2
      have HLY := hide hly
      have HLZ := hide hlz
      clear hws hA2 hln2 htx hX hXn hsl6 hlt6 hown2 hb2 hlx hly hlz
      try rw [HLY.out]
      try rw [HLZ.out]
      go_wp2_with fail
      refine (texts_any A2 cap2 _ X _ HXn.out.symm (by rw [HXn.out]; omega) Hws.out HA2.out).mono ?_
      rintro e w3 ⟨v3, rfl, hown3, hb3⟩
      rw [Htx.out, HXn.out] at hown3
      obtain ⟨A7, cap7, rfl, hsl7, hlt7⟩ := Sl_own (xs := ws) (f := Value.string) hown3 rfl
      have hsl63 := (Hsl6.out.below Hb2.out).below (hb3.mono (Nat.le_refl _))
      have Hsl63 := hide hsl63
      have Hsl7 := hide hsl7
      have Hend := hide ((Hbr.out.trans (Hb2.out.mono Hbr.out.size)).trans (hb3.mono (Nat.le_trans Hbr.out.size Hb2.out.size)))
      clear hown3 hsl7 hsl63 hlt7 hb3
      go_wp2
      go_loop [83] (fun i => ∃ k : Nat, i = .int .i64 k ∧ k ≤ ws.length) (fun i => ws.length - (intOf i).toNat)
      case atStart => exact ⟨0, rfl, Nat.zero_le _⟩
      case round =>
        obtain ⟨k, rfl, hk⟩ := hrel
        by_cases hlt : k < ws.length
        · obtain ⟨b6, o6, rfl, hat6⟩ := Hsl63.out (by omega)
          obtain ⟨b7, o7, rfl, hat7⟩ := Hsl7.out (by omega)
          have c6 := hat6 k hlt
          have c7 := hat7 k hlt
          clear hat6 hat7
          generalize ws[k]'hlt = s at c6 c7
          go_wp2
          go_round
          case rel => exact ⟨k + 1, by go_num, by omega⟩
          case measure => simp [intOf]; omega
        · obtain rfl : k = ws.length := Nat.le_antisymm hk (Nat.le_of_not_lt hlt)
          go_wp2
          go_ret
          exact ⟨rfl, Hend.out⟩
end Go.Proofs.Ytbhmgooohhgpaaa.lexerJoins
namespace Go.Proofs.Ytbhmgooohhgpaaa.lexerJoins
open Go.RowKit Go.Shelf
set_option linter.unusedVariables false
set_option maxHeartbeats 1000000 in
theorem walk (A : Option Addr) (len cap : Nat) (ws : List ByteArray) (A' : Option Addr) (len' cap' : Nat) (ns : List Int) (w : World) (hl : ws.length = len) (hm : len ≤ maxLen) (hw : Sl Value.string w A ws ∧ ∀ s ∈ ws, s.size ≤ maxLen)
    (hl' : ns.length = len') (hm' : len' ≤ maxLen) (hw' : Sl (Value.int .u8) w A' ns ∧ ∀ n ∈ ns, 0 ≤ n ∧ n ≤ 255) :
    Calls Try.prog 8 #[.slice A len cap, .slice A' len' cap'] w fun e w' => e = .returned (.bool true) ∧ Below w.heap.size w w' := by
  subst hl hl'
  by_cases h : ws.length ≤ 60
  · exact walk_in A A' cap cap' ws ns w hw.1 hw'.1 h hw'.2 hm'
  · have h1 : (60 : Int) < (ws.length : Int) := by omega
    clear hw hw'
    unfold maxLen at hm hm'
    go_enter Try.func8, Try.ntmps8
    go_wp2_with fail
    refine (awake_any _).mono ?_
    rintro e w1 ⟨rfl, hb1⟩
    go_wp2
    go_ret
    exact ⟨rfl, hb1⟩
end Go.Proofs.Ytbhmgooohhgpaaa.lexerJoins
