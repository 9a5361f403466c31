/- Packed by program: a part of the proof; the last file says what is proved. -/
import Derived.Test.YtddoehnkgcbboaaGreatDoorPrK
import Derived.Maps.RangeRun
import Derived.Deep.DeepCutAuto
import Derived.Deep.CutBlock
set_option maxHeartbeats 16000000
set_option maxRecDepth 100000
set_option linter.unusedVariables false
set_option linter.unusedSimpArgs false
namespace Go.Proofs.YtddoehnkgcbboaaGreatDoor
open Go.RowKit Go.Shelf
theorem pH {L:List Lx} {k:Nat} (h:k<L.length) (q:Int):bT L k q=(decide (L[k].kind=q)&&(decide (q≠0)|| !decide (L[k].text∈kC))):=by
 unfold bT;rw [List.getElem?_eq_getElem h]
theorem BD {L:List Lx} {k:Nat} (h:L.length≤k) (q:Int):bT L k q=false:=by
 unfold bT;rw [List.getElem?_eq_none h]
theorem uj (p:PS) (k:Nat) (q:Int) (w:World) (h:bc p w k):
 Calls Tryz.prog 142 #[.pointer (some ⟨p.b,0,none⟩),.int .i64 q] w fun e w'=>e=.returned (.bool (bT p.L k q))∧Below w.heap.size w w':=by
 obtain ⟨c0,c1,c2,c3,_⟩:=h.cells
 have hle:=h.le
 have hsm:=h.small
 by_cases hk:k<p.L.length
 ·obtain ⟨bl,off,hA,hne,hz,l0,l1,l2⟩:=h.lex hk
  have HV:=pH hk q
  have hk2:(k:Int)<(p.L.length:Int):=by omega
  have hk0:(0:Int)≤(k:Int):=by omega
  rw [hA] at c0
  generalize p.L[k]=x at*
  generalize bT p.L k q=R at*
  generalize p.L.length=n at*
  have RS:=aa (fun W:World=>lr x.text W)
  clear hle h
  by_cases hq:x.kind=q
  ·have e1:(x.kind==q)=true:=beq_iff_eq.2 hq
   by_cases h0:q=0
   ·subst h0
    rw [decide_eq_true hq,Bool.true_and,decide_eq_false (by decide),Bool.false_or] at HV
    have IY:=aa HV
    clear HV
    go_enter Tryz.func142,Tryz.ntmps142
    go_wp2_with fail
    go_region_held3 (fun w'=>w'.cell? ⟨p.b,0,none⟩=some (.slice (some ⟨bl,off,none⟩) n p.cap)∧w'.cell? ⟨p.b,1,none⟩=some (.int .i64 (k:Int))∧w'.cell? ⟨bl,off+k*3,none⟩=some (.int .i64 x.kind)∧w'.cell? ⟨bl,off+k*3+1,none⟩=some (.string (ae x.text))) (go_keep) ((go_at_call 140;refine (RS.out w.drew).mono ?_;rintro e w5 ⟨rfl,kF⟩;have hb5:Below w.heap.size w w5:=⟨kF.os,kF.tape,kF.output,kF.size,kF.block⟩;clear kF;have hs0:w5.cell? ⟨p.b,0,none⟩=some (.slice (some ⟨bl,off,none⟩) n p.cap):=(hb5.cell (p:=⟨p.b,0,none⟩) (World.block_lt_of_cell? w _ c0)).trans c0;have hs1:w5.cell? ⟨p.b,1,none⟩=some (.int .i64 (k:Int)):=(hb5.cell (p:=⟨p.b,1,none⟩) (World.block_lt_of_cell? w _ c1)).trans c1;have hs2:w5.cell? ⟨bl,off+k*3,none⟩=some (.int .i64 x.kind):=(hb5.cell (p:=⟨bl,off+k*3,none⟩) (World.block_lt_of_cell? w _ l0)).trans l0;have hs3:w5.cell? ⟨bl,off+k*3+1,none⟩=some (.string (ae x.text)):=(hb5.cell (p:=⟨bl,off+k*3+1,none⟩) (World.block_lt_of_cell? w _ l1)).trans l1;have iA:=aa hb5;clear hb5))
    go_wp2
    go_ret
    exact ⟨bD (by rw [IY.out]),iA.out⟩
   ·have e0:(q !=0)=true:=by rw [bne,beq_eq_false_iff_ne.2 h0];rfl
    have IY:=aa (show R=true by rw [HV,decide_eq_true hq,decide_eq_true h0];rfl)
    clear HV
    go_enter Tryz.func142,Tryz.ntmps142
    go_wp2_with fail
    go_quiet (fail)
    go_wp2
    go_ret
    exact ⟨bD IY.out,aq (Below.refl _ _) _⟩
  ·have e1:(x.kind==q)=false:=beq_eq_false_iff_ne.2 hq
   have IY:=aa (show R=false by rw [HV,decide_eq_false hq];rfl)
   clear HV
   go_enter Tryz.func142,Tryz.ntmps142
   go_wp2_with fail
   go_quiet (fail)
   go_wp2
   go_ret
   exact ⟨bD IY.out,aq (Below.refl _ _) _⟩
 ·have HV:=aa (BD (L:=p.L) (by omega:p.L.length≤k) q)
  have fo:¬(k:Int)<(p.L.length:Int):=by omega
  generalize p.L.length=n at*
  clear hle h
  go_enter Tryz.func142,Tryz.ntmps142
  go_wp2_with fail
  go_quiet (fail)
  go_wp2
  go_ret
  exact ⟨bD HV.out,aq (Below.refl _ _) _⟩
theorem _root_.Go.af.over {C:Nat→Prop} {W1 W2 W3:World} (h:af C W1 W2) (k:Below W1.heap.size W2 W3):af C W1 W3:=
 ⟨k.os.trans h.os,k.tape.trans h.tape,k.output.trans h.output,Nat.le_trans h.size k.size,fun b hb hn=>(k.block b hb).trans (h.block b hb hn)⟩
def XK (_:World) (x:Lx) (v:Value):Prop:=v=.agg #[.int .i64 x.kind,.string (ae x.text),.int .i64 (x.aJ:Int)]
def nK (L:List Lx) (en:Int) (k:Nat) (q:Int):PR Lx:=if bT L k q then (match L[k]? with|some x=>.ok x (k+1)|none=>fj L en k) else fj L en k
theorem dc {L:List Lx} {k:Nat} {q:Int} (h:bT L k q=true):k<L.length:=by
 rcases Nat.lt_or_ge k L.length with h1|h1
 ·exact h1
 ·rw [BD h1] at h;cases h
theorem ia {L:List Lx} {en q:Int} {k:Nat} (h:bT L k q=true):nK L en k q=.ok (L[k]'(dc h)) (k+1):=by
 unfold nK;rw [if_pos h,List.getElem?_eq_getElem (dc h)]
theorem pI {L:List Lx} {en q:Int} {k:Nat} (h:bT L k q=false):nK L en k q=.err (dy L en k) 3:=by
 unfold nK;rw [if_neg (by rw [h];decide)];rfl
theorem mz (p:PS) (k:Nat) (q:Int) (w:World) (h:bc p w k):
 Calls Tryz.prog 138 #[.pointer (some ⟨p.b,0,none⟩),.int .i64 q] w (bO p w XK (nK p.L p.en k q)):=by
 have KD:=aa (fun (W:World) (h:bc p W k)=>uj p k q W h)
 have H:=aa h
 have hsm:=h.small
 have aN:=h.row.lt
 obtain ⟨W0,hW0⟩:∃W0,W0=w.alloc (.cells #[.int .i64 0,.string {data:=#[]},.int .i64 0] 66):=⟨_,rfl⟩
 have r0:Row W0 w.heap.size 66 #[.int .i64 0,.string {data:=#[]},.int .i64 0]:=by rw [hW0];exact Row.new _ _ _
 have hb0:Below w.heap.size w W0:=by rw [hW0];exact (Below.refl _ _).alloc (Nat.le_refl _) _
 have R0:=aa r0
 have ke:=aa hb0
 have H0:=aa (H.out.below hb0)
 have HW0:=aa hW0
 clear r0 hb0 hW0
 cases hR:bT p.L k q with
 |false=>
  have FL:=aa (fun (W:World) (h:bc p W k)=>my p k W h)
  rw [pI hR]
  rw [hR] at KD
  clear hR h
  generalize dy p.L p.en k=pl at*
  go_enter Tryz.func138,Tryz.ntmps138
  go_wp2_with fail
  rw [←HW0.out]
  refine (KD.out _ H0.out).mono ?_
  rintro e w1 ⟨rfl,hb1⟩
  have FL2:=aa (FL.out w1 (H0.out.below hb1))
  have fu:=aa (ke.out.trans (hb1.mono ke.out.size))
  clear hb1
  go_wp2_with fail
  refine FL2.out.mono ?_
  rintro e w3 ⟨rfl,hb⟩
  go_wp2
  exact ⟨rfl,rfl,af.of_below (fu.out.trans (hb.mono fu.out.size)) (Nat.le_refl _)⟩
 |true=>
  have hk:=dc hR
  rw [ia hR]
  rw [hR] at KD
  obtain ⟨bl,off,hA,hne,hz,_⟩:=h.lex hk
  have LX:=aa (fun (W:World) (h:bc p W (k+1))=>show W.cell? ⟨bl,off+k*3,none⟩=some (.int .i64 p.L[k].kind)∧W.cell? ⟨bl,off+k*3+1,none⟩=some (.string (ae p.L[k].text))∧W.cell? ⟨bl,off+k*3+2,none⟩=some (.int .i64 (p.L[k].aJ:Int)) from by
   obtain ⟨bl',SI,OL,hat⟩:=h.lx (by omega)
   rw [hA] at OL
   cases OL
   exact hat k hk)
  generalize p.L[k]=x at*
  clear hR h
  go_enter Tryz.func138,Tryz.ntmps138
  go_wp2_with fail
  rw [←HW0.out]
  refine (KD.out _ H0.out).mono ?_
  rintro e w1 ⟨rfl,hb1⟩
  have hr1:=R0.out.below hb1 R0.out.lt
  have h1:=H0.out.below hb1
  have hb2:=ke.out.trans (hb1.mono ke.out.size)
  obtain ⟨_,c1,_,_,f1⟩:=h1.cells
  have hw1:IntKind.i64.wrap ((k:Int)+1)=(k:Int)+1:=IntWalk.i64_in _ (by omega)
  have hw2:IntKind.i64.wrap ((k:Int)+1-1)=(k:Int):=by rw [show (k:Int)+1-1=(k:Int) by omega];exact IntWalk.i64_in _ (by omega)
  have hlk:(k:Int)<(p.L.length:Int):=by omega
  have hk0:(0:Int)≤(k:Int):=by omega
  obtain ⟨W2,hW2⟩:∃W2,W2=w1.setCell ⟨p.b,1,none⟩ (.int .i64 ((k:Int)+1)):=⟨_,rfl⟩
  have h2:bc p W2 (k+1):=by rw [hW2];exact h1.next' hk
  have hr2:Row W2 w.heap.size 66 #[.int .i64 0,.string {data:=#[]},.int .i64 0]:=by
   rw [hW2];exact hr1.VQ (p:=⟨p.b,1,none⟩) (by show w.heap.size≠p.b;omega) _
  have hk2:af (fun c=>c=p.b) w W2:=by rw [hW2];exact (af.of_below (C:=fun c=>c=p.b) hb2 (Nat.le_refl _)).set (.inl rfl) 1 _
  clear hr1 h1 hb1 hb2
  go_wp2_with fail
  generalize hWX:World.setCell w1 _ _=WX at hW2⊢
  subst hW2
  have hz2:w.heap.size<W2.heap.size:=hr2.lt
  obtain ⟨l0,l1,l2⟩:=LX.out W2 h2
  obtain ⟨c0,Vj,_⟩:=h2.cells
  have c1:W2.cell? ⟨p.b,1,none⟩=some (.int .i64 ((k:Int)+1)):=by rw [Vj];congr 2
  rw [hA] at c0
  clear Vj
  have R3:=aa (((hr2.bg 0 (.int .i64 x.kind)).bg 1 (.string (ae x.text))).bg 2 (.int .i64 (x.aJ:Int)))
  have B3:=aa ((((Below.refl w.heap.size W2).setCell (p:=⟨w.heap.size,0,none⟩) (Nat.le_refl _) (.int .i64 x.kind)).setCell (p:=⟨w.heap.size,1,none⟩) (Nat.le_refl _) (.string (ae x.text))).setCell (p:=⟨w.heap.size,2,none⟩) (Nat.le_refl _) (.int .i64 (x.aJ:Int)))
  have KP:=aa hk2
  have H2:=aa h2
  have e0:W2.cell? ⟨w.heap.size,0,none⟩=some (.int .i64 0):=hr2.cell 0
  have e1:W2.cell? ⟨w.heap.size,1,none⟩=some (.string {data:=#[]}):=hr2.cell 1
  have e2:W2.cell? ⟨w.heap.size,2,none⟩=some (.int .i64 0):=hr2.cell 2
  have j0:=hr2.frozen 0
  have j1:=hr2.frozen 1
  have j2:=hr2.frozen 2
  clear hk2 h2 hr2 hWX
  go_region
  go_wp2_with fail
  refine bodyPost_ret (v:=.agg #[.int .i64 x.kind,.string (ae x.text),.int .i64 (x.aJ:Int)]) (ag rfl _ _ w.heap.size 66 _ _ _ rfl R3.out Tryz.underlying66 rfl (by kernel_rfl)) rfl ?_
  exact ⟨⟨_,rfl,rfl⟩,H.out.above H2.out B3.out.drew,KP.out.over B3.out.drew⟩
theorem IZ (L:List Lx) (en:Int) (k:Nat) (most:Int):eC L en k most=(nK L en k 1).bind fun x k'=>if most<(dv x.text:Int) then .err (x.aJ:Int) 2 else .ok (dv x.text:Int) k':=by
 unfold eC
 cases h:bT L k 1 with
 |false=>rw [pI h];rfl
 |true=>
  rw [ia h,if_pos rfl]
  show (if most<(dv (fX L k):Int) then _ else _)=if most<(dv (L[k]'_).text:Int) then _ else _
  have hk:=dc h
  unfold fX
  rw [List.getElem?_eq_getElem hk,yX hk]
theorem L9 (l:List UInt8) (hd:∀c∈l,aZ c=true) (h1:1≤l.length) (h2:l.length≤15) (w:World):
 Calls Tryz.prog 139 #[.string (ae l)] w fun e w'=>e=.returned (.tuple #[.int .i64 (dv l:Int),.nilIface])∧Below w.heap.size w w':=by
 refine (Tryz.strconv_Atoi (ae l) (dv l:Int) (by rw [aD];omega) ?_ w).mono ?_
 ·rw [cy]
  have:=FT l l.length (fun j h _=>LN _ (hd _ (List.getElem_mem h))) (Nat.le_refl _) h1
  rwa [List.take_length] at this
 ·rintro e w' ⟨rfl,t,rfl⟩
  exact ⟨rfl,rfl,rfl,rfl,by rw [Lib.bytesWorld_size];omega,fun k hk=>Lib.bytesWorld_at_old w _ _ k hk⟩
theorem I0 {L:List Lx} {en q:Int} {k k':Nat} {x:Lx} (h:nK L en k q=.ok x k'):x∈L∧x.kind=q∧k'=k+1∧k<L.length:=by
 unfold nK fj at h
 split at h
 ·rename_i hk
  have hl:=dc hk
  rw [List.getElem?_eq_getElem hl] at h
  cases h
  rw [pH hl,Bool.and_eq_true,decide_eq_true_eq] at hk
  exact ⟨List.getElem_mem hl,hk.1,rfl,hl⟩
 ·cases h
theorem oq (p:PS) (k:Nat) (most:Int) (w:World) (h:bc p w k):
 Calls Tryz.prog 99 #[.pointer (some ⟨p.b,0,none⟩),.int .i64 most] w (bO p w L8 (eC p.L p.en k most)):=by
 have TK:=aa (mz p k 1 w h)
 have H:=aa h
 rw [IZ]
 cases hR:nK p.L p.en k 1 with
 |err a er=>
  rw [hR] at TK
  show Calls _ _ _ _ (bO p w L8 (.err a er))
  clear hR h
  go_enter Tryz.func99,Tryz.ntmps99
  go_wp2_with fail
  refine TK.out.mono ?_
  rintro e w1 ⟨rfl,hk⟩
  go_wp2
  exact ⟨rfl,rfl,hk⟩
 |ok x k'=>
  rw [hR] at TK
  obtain ⟨hm,hx1,rfl,hlt⟩:=I0 hR
  obtain ⟨d1,d2,d3⟩:=(h.good x hm).num hx1
  have AT:=aa (fun W:World=>L9 x.text d1 d2 d3 W)
  show Calls _ _ _ _ (bO p w L8 (if most<(dv x.text:Int) then .err (x.aJ:Int) 2 else .ok (dv x.text:Int) (k+1)))
  generalize (dv x.text:Int)=N at*
  clear hR h hm d1 d2 d3
  by_cases hN:most<N
  ·rw [if_pos hN]
   have hN':N>most:=hN
   go_enter Tryz.func99,Tryz.ntmps99
   go_wp2_with fail
   refine TK.out.mono ?_
   rintro e w1 ⟨⟨v,rfl,rfl⟩,h1,hk⟩
   go_wp2_with fail
   refine (AT.out _).mono ?_
   rintro e w2 ⟨rfl,hb2⟩
   have hr2:=(Row.new w1 66 #[.int .i64 1,.string (ae x.text),.int .i64 (x.aJ:Int)]).below hb2 (by simp)
   have hb3:Below w1.heap.size w1 w2:=((Below.refl _ w1).alloc (Nat.le_refl _) _).trans (hb2.mono (by simp))
   have g2:w2.cell? ⟨w1.heap.size,2,none⟩=some (.int .i64 (x.aJ:Int)):=hr2.cell 2
   clear hb2 hr2
   go_wp2
   exact ⟨rfl,rfl,hk.trans (af.of_below hb3 (Nat.le_refl _))⟩
  ·rw [if_neg hN]
   have hN':¬N>most:=hN
   go_enter Tryz.func99,Tryz.ntmps99
   go_wp2_with fail
   refine TK.out.mono ?_
   rintro e w1 ⟨⟨v,rfl,rfl⟩,h1,hk⟩
   go_wp2_with fail
   refine (AT.out _).mono ?_
   rintro e w2 ⟨rfl,hb2⟩
   have hr2:=(Row.new w1 66 #[.int .i64 1,.string (ae x.text),.int .i64 (x.aJ:Int)]).below hb2 (by simp)
   have hb3:Below w1.heap.size w1 w2:=((Below.refl _ w1).alloc (Nat.le_refl _) _).trans (hb2.mono (by simp))
   have g2:w2.cell? ⟨w1.heap.size,2,none⟩=some (.int .i64 (x.aJ:Int)):=hr2.cell 2
   clear hb2 hr2
   go_wp2
   go_ret
   exact ⟨⟨_,rfl,rfl⟩,h1.below hb3,hk.trans (af.of_below hb3 (Nat.le_refl _))⟩
end Go.Proofs.YtddoehnkgcbboaaGreatDoor
namespace Go.Proofs.YtddoehnkgcbboaaGreatDoor
open Go.RowKit Go.Shelf
open Go.ChangeMaps (setBlock)
def iU (W:World) (bm:Nat) (ops:List (List UInt8×Int)):Prop:=
 ∃es clock,W.heap[bm]? =some (.map es clock)∧(es.toList.map fun e=>(e.key,e.val))=ops.map (fun o=>(Value.string (ae o.1),Value.int .i64 o.2))∧(∀e∈es.toList,e.born<clock)∧(es.toList.map (·.born)).Nodup
def cD (ops:List (List UInt8×Int)):Prop:=∀a∈ops,∀b∈ops,a.1=b.1→a.2=b.2
theorem L_ {L:List Lx} {k:Nat} {a b:List UInt8} (ha:bH L k a=true) (hb:bH L k b=true):a=b:=by
 have hk:=sO ha
 rw [L6 hk,Bool.and_eq_true,decide_eq_true_eq] at ha hb
 rw [←ha.2,hb.2]
theorem L' {L:List Lx} {ops:List (List UInt8×Int)} {k:Nat} (hu:cD ops) {o:List UInt8×Int} (ho:o∈ops) (h:bH L k o.1=true):iO L ops k=some o.2:=by
 unfold iO
 cases hf:ops.find? (fun p=>bH L k p.1) with
 |none=>exact absurd h (List.find?_eq_none.1 hf o ho)
 |some x=>
  have hx:=List.find?_some hf
  have hm:=List.mem_of_find?_eq_some hf
  show some x.2=some o.2
  rw [hu x hm o ho (L_ hx h)]
theorem Ma {L:List Lx} {ops:List (List UInt8×Int)} {k:Nat} (h:∀o∈ops,bH L k o.1=false):iO L ops k=none:=by
 unfold iO
 rw [List.find?_eq_none.2 (fun o ho=>by rw [h o ho];decide)];rfl
def rL (L:List Lx) (en:Int) (ops:List (List UInt8×Int)) (k:Nat):Ending:=match iO L ops k with
 |some q=>.returned (.tuple #[.int .i64 q,.int .i64 (dy L en k)])
 |none=>.returned (.tuple #[.int .i64 0,.int .i64 0])
def rM (L:List Lx) (ops:List (List UInt8×Int)) (k:Nat):Nat:=match iO L ops k with|some _=>k+1|none=>k
theorem fL {w w1:World} {r:Nat} {o o':Obj} (hr:w.heap[r]? =some o) (hw:w1=w∨w1=w.drew):(setBlock w1 r o').heap[r]? =some o'∧(∀b,b≠r→(setBlock w1 r o').heap[b]? =w.heap[b]?)∧(setBlock w1 r o').heap.size=w.heap.size∧(setBlock w1 r o').tape=w.tape∧(setBlock w1 r o').os=w.os∧(setBlock w1 r o').output=w.output:=by
 have hlt:r<w.heap.size:=(Array.getElem?_eq_some_iff.1 hr).1
 have hh:w1.heap=w.heap:=by rcases hw with rfl|rfl<;>rfl
 refine ⟨?_,fun b hb=>?_,?_,?_,?_,?_⟩
 ·show (w1.heap.setIfInBounds r o')[r]? =some o'
  rw [hh];simp [hlt]
 ·show (w1.heap.setIfInBounds r o')[b]? =_
  rw [hh,Array.getElem?_setIfInBounds_ne (fun e=>hb e.symm)]
 ·show (w1.heap.setIfInBounds r o').size=_
  rw [hh];simp
 ·rcases hw with rfl|rfl<;>rfl
 ·rcases hw with rfl|rfl<;>rfl
 ·rcases hw with rfl|rfl<;>rfl
structure EH (p:PS) (w:World) (k bm:Nat) (es:Array MapEntry) (clock:Nat) (W:World) (seen:Array Nat) (c0:Nat):Prop where
 at_:bc p W k
 keeps:af (fun c=>c=p.b) w W
 it:W.heap[w.heap.size]? =some (.mapIter (some bm) clock seen c0)
 since:clock≤c0
theorem EH.map {p:PS} {w W:World} {k bm clock c0:Nat} {es:Array MapEntry} {seen:Array Nat} (h:EH p w k bm es clock W seen c0) (hm:w.heap[bm]? =some (.map es clock)) (hb:bm≠p.b):W.heap[bm]? =some (.map es clock):=
 (h.keeps.block bm ((Array.getElem?_eq_some_iff.1 hm).1) hb).trans hm
theorem fZ (p:PS) (k bm:Nat) (ops:List (List UInt8×Int)) (w:World) (h:bc p w k) (hm:iU w bm ops) (hb:bm≠p.b) (hu:cD ops):
 Calls Tryz.prog 49 #[.pointer (some ⟨p.b,0,none⟩),.map (some bm)] w fun e w'=>e=rL p.L p.en ops k∧bc p w' (rM p.L ops k)∧af (fun c=>c=p.b) w w':=by
 obtain ⟨es,clock,hes,kX,rN,aB⟩:=hm
 have aN:p.b<w.heap.size:=h.row.lt
 have QM:bm<w.heap.size:=(Array.getElem?_eq_some_iff.1 hes).1
 have hrg:=run_range_map (P:=Tryz.prog) w 63 9 3 bm es clock Tryz.underlying63 hes
 have KV:=aa (fun (e:MapEntry) (he:e∈es.toList)=>show ∃o∈ops,e.key=.string (ae o.1)∧e.val=.int .i64 o.2 from by
  have h1:(e.key,e.val)∈es.toList.map fun e=>(e.key,e.val):=List.mem_map.2 ⟨e,he,rfl⟩
  rw [kX] at h1
  obtain ⟨o,ho,yK⟩:=List.mem_map.1 h1
  exact ⟨o,ho,(congrArg Prod.fst yK).symm,(congrArg Prod.snd yK).symm⟩)
 have VK:=aa (fun (o:List UInt8×Int) (ho:o∈ops)=>show ∃e∈es.toList,e.key=.string (ae o.1) from by
  have h1:(Value.string (ae o.1),Value.int .i64 o.2)∈ops.map (fun o=>(Value.string (ae o.1),Value.int .i64 o.2)):=List.mem_map.2 ⟨o,ho,rfl⟩
  rw [←kX] at h1
  obtain ⟨e,he,yK⟩:=List.mem_map.1 h1
  exact ⟨e,he,congrArg Prod.fst yK⟩)
 have HS:=aa (fun q (hq:iO p.L ops k=some q)=>show rL p.L p.en ops k=.returned (.tuple #[.int .i64 q,.int .i64 (dy p.L p.en k)])∧rM p.L ops k=k+1 from by unfold rL rM;rw [hq];exact ⟨rfl,rfl⟩)
 have HN:=aa (fun (hq:iO p.L ops k=none)=>show rL p.L p.en ops k=.returned (.tuple #[.int .i64 0,.int .i64 0])∧rM p.L ops k=k from by unfold rL rM;rw [hq];exact ⟨rfl,rfl⟩)
 have PL:=aa (fun (W:World) (h:bc p W k)=>dZ p k W h)
 have AC:=aa (fun (wd:List UInt8) (W:World) (h:bc p W k)=>cR p k wd W h)
 have HU:=aa hu
 have H:=aa h
 have XL:=aa rN
 have cN:=aa aB
 have TC:=aa hes
 have HA:=aa (show EH p w k bm es clock (w.alloc (.mapIter (some bm) clock #[] clock)) #[] clock from
  ⟨h.below ((Below.refl _ w).alloc (Nat.le_refl _) _),af.of_below ((Below.refl _ w).alloc (Nat.le_refl _) _) (Nat.le_refl _),heap_alloc_new w _,Nat.le_refl _⟩)
 generalize rL p.L p.en ops k=EE at*
 generalize rM p.L ops k=kk at*
 clear kX rN aB hes hu h
 go_enter Tryz.func49,Tryz.ntmps49
 go_wp2_with fail
 clear hrg
 go_loopw [] (fun W=>∃(seen:Array Nat) (c0:Nat),EH p w k bm es clock W seen c0∧∀e∈es.toList,e.born∈seen→∀wd,e.key=.string (ae wd)→bH p.L k wd=false) (fun W=>(leftOf es (W.iterSeen w.heap.size)).size)
 case atStart=>exact ⟨#[],clock,HA.out,fun e _ he=>absurd he (by simp)⟩
 case round=>
  obtain ⟨seen,c0,hat,hno⟩:=hrel
  have law:=run_next_at (P:=Tryz.prog) wr 0 w.heap.size bm clock c0 seen es clock hat.it (hat.map TC.out hb) XL.out hat.since
  rcases law with ⟨h0,hrun⟩|⟨e,he,w1,hw1,hrun⟩
  ·have qf:∀ty,(Instr.next (.pointer (some ⟨w.heap.size,0,none⟩)) false ty).run Tryz.prog wr=_:=fun _=>hrun
   have hall:∀e∈es.toList,e.born∈seen:=fun e he=>by
    by_cases hc:e.born∈seen
    ·exact hc
    ·exfalso
     have:e∈leftOf es seen:=by
      unfold leftOf
      rw [Array.mem_filter]
      exact ⟨by simpa using he,by simpa using hc⟩
     have h1:=Array.size_pos_of_mem this
     omega
   have hnone:iO p.L ops k=none:=Ma fun o ho=>by
    obtain ⟨e,he,hk⟩:=VK.out o ho
    exact hno e he (hall e he) o.1 hk
   obtain ⟨hE,hK⟩:=HN.out hnone
   have HF:=aa (show EE=_∧bc p wr kk∧af (fun c=>c=p.b) w wr from ⟨hE,by rw [hK];exact hat.at_,hat.keeps⟩)
   clear hno hall hnone hE hK hat hrun
   go_wp2
   go_ret2
   exact ⟨HF.out.1.symm,HF.out.2⟩
  ·obtain ⟨o,ho,hkey,hval⟩:=KV.out e (mem_left he).1
   rw [hkey,hval] at hrun
   obtain ⟨b1,b2,b3,b4,b5,b6⟩:=fL (o':=.mapIter (some bm) clock (seen.push e.born) clock) hat.it hw1
   obtain ⟨W2,hW2⟩:∃W2,W2=setBlock w1 w.heap.size (.mapIter (some bm) clock (seen.push e.born) clock):=⟨_,rfl⟩
   rw [←hW2] at hrun b1 b2 b3 b4 b5 b6
   have hB:Below w.heap.size wr W2:=⟨b5,b4,b6,Nat.le_of_eq b3.symm,fun b hb=>b2 b (by omega)⟩
   have BG:EH p w k bm es clock W2 (seen.push e.born) clock:=⟨H.out.above hat.at_ hB,hat.keeps.over hB,b1,Nat.le_refl _⟩
   have qf:∀ty,(Instr.next (.pointer (some ⟨w.heap.size,0,none⟩)) false ty).run Tryz.prog wr=_:=fun _=>hrun
   have hen:=run_entry_at (P:=Tryz.prog) W2 w.heap.size bm clock seen es clock e b1 (BG.map TC.out hb) (mem_left he).1 cN.out
   rw [hkey,hval] at hen
   have HE:=aa he
   have ZG:=aa hkey
   have yZ:=aa BG
   have vr:=aa hno
   have Ka:=aa hat.it
   clear b1 b2 b3 b4 b5 b6 hW2 hB he hkey hval hno hrun hat hw1 BG
   go_wp2_with fail
   refine (PL.out W2 yZ.out.at_).mono ?_
   rintro e3 W3 ⟨rfl,hb3⟩
   have y9:EH p w k bm es clock W3 (seen.push e.born) clock:=⟨yZ.out.at_.below hb3,yZ.out.keeps.trans (af.of_below hb3 (Nat.le_refl _)),(hb3.block _ (Array.getElem?_eq_some_iff.1 yZ.out.it).1).trans yZ.out.it,Nat.le_refl _⟩
   have y_:=aa y9
   have O_:=aa (AC.out o.1 W3 y9.at_)
   clear hb3 y9 qf hen
   cases hI:bH p.L k o.1 with
   |true=>
    rw [hI] at O_
    obtain ⟨hE,hK⟩:=HS.out o.2 (L' HU.out ho hI)
    have HF:=aa (And.intro hE hK)
    clear hI hE hK
    go_wp2_with fail
    refine O_.out.mono ?_
    rintro e4 W4 ⟨rfl,h4,hk4⟩
    go_wp2
    go_ret2
    exact ⟨HF.out.1.symm,by rw [HF.out.2];exact h4,y_.out.keeps.trans hk4⟩
   |false=>
    rw [hI] at O_
    have HI:=aa hI
    clear hI
    go_wp2_with fail
    refine O_.out.mono ?_
    rintro e4 W4 ⟨rfl,h4,hk4⟩
    have hne:w.heap.size≠p.b:=by omega
    have XM:W4.heap[w.heap.size]? =some (.mapIter (some bm) clock (seen.push e.born) clock):=(hk4.block _ (Array.getElem?_eq_some_iff.1 y_.out.it).1 hne).trans y_.out.it
    have Mb:=aa (show EH p w k bm es clock W4 (seen.push e.born) clock from ⟨h4,y_.out.keeps.trans hk4,XM,Nat.le_refl _⟩)
    clear h4 hk4 XM
    go_wp2
    go_roundw
    case rel=>exact ⟨seen.push e.born,clock,Mb.out,fun e' he' hs wd hk=>by
     rcases Array.mem_push.1 hs with h1|h1
     ·exact vr.out e' he' h1 wd hk
     ·have:e'=e:=by
       have h2:=find_born e es.toList cN.out (mem_left HE.out).1
       have h3:=find_born e' es.toList cN.out he'
       rw [h1] at h3
       exact Option.some.inj (h3.symm.trans h2)
      subst this
      have h5:=ZG.out.symm.trans hk
      injection h5 with h5
      rw [←BC h5];exact HI.out⟩
    case measure=>
     have e1:W4.iterSeen w.heap.size=seen.push e.born:=by unfold World.iterSeen;rw [Mb.out.it]
     have e2:wr.iterSeen w.heap.size=seen:=by unfold World.iterSeen;rw [Ka.out]
     rw [e1,e2]
     exact left_shrinks es seen e HE.out
end Go.Proofs.YtddoehnkgcbboaaGreatDoor
namespace Go.Proofs.YtddoehnkgcbboaaGreatDoor
open Go.RowKit Go.Shelf
theorem ai {α β:Type} {r:PR α} {f:α→Nat→PR β} {y:β} {k':Nat} (h:r.bind f=.ok y k'):∃x k,r=.ok x k∧f x k=.ok y k':=by
 cases r with
 |ok x k=>exact ⟨x,k,rfl,h⟩
 |err a e=>cases h
def Prog {α:Type} (f:Nat→PR α):Prop:=∀k x k',f k=.ok x k'→k≤k'
section
variable {L : List Lx} {en : Int} {rd : List UInt8 → Int × Int}
theorem EI {k:Nat} {w:List UInt8} (h:bH L k w=true):k<L.length:=by
 unfold bH at h
 rcases Nat.lt_or_ge k L.length with h1|h1
 ·exact h1
 ·rw [List.getElem?_eq_none h1] at h;cases h
theorem TD {ops:List (List UInt8×Int)} {k:Nat} {q:Int} (h:iO L ops k=some q):k<L.length:=by
 unfold iO at h
 cases hf:ops.find? (fun p=>bH L k p.1) with
 |none=>rw [hf] at h;cases h
 |some p=>exact EI (w:=p.1) (List.find?_some (p:=fun p:List UInt8×Int=>bH L k p.1) hf)
theorem Gk {ops:List (List UInt8×Int)} {k:Nat} (h:L.length≤k):iO L ops k=none:=by
 cases ho:iO L ops k with
 |none=>rfl
 |some q=>have:=TD ho;omega
theorem aF {k k':Nat} {w:List UInt8} {x:Unit} (h:ah L en k w=.ok x k'):k'=k+1∧bH L k w=true:=by
 unfold ah at h
 split at h
 ·rename_i hi;cases h;exact ⟨rfl,hi⟩
 ·cases h
theorem iV {k k':Nat} {most x:Int} (h:eC L en k most=.ok x k'):k'=k+1:=by
 unfold eC at h
 split at h
 ·split at h
  ·cases h
  ·cases h;rfl
 ·cases h
theorem ic {k k':Nat} {x:Int} (h:aP L en rd k=.ok x k'):k'=k+1:=by
 unfold aP at h
 split at h
 ·split at h
  ·cases h;rfl
  ·cases h
 ·exact iV h
theorem uk {ops:List (List UInt8×Int)} {f:Nat→PR Nd} (hf:Prog f):∀(m:Nat) (n:Nd) (k:Nat) (x:Nd) (k':Nat),eI L en ops f m n k=.ok x k'→k≤k'
 |0,n,k,x,k',h=>by cases h;exact Nat.le_refl _
 |m+1,n,k,x,k',h=>by
  unfold eI at h
  split at h
  ·cases h;exact Nat.le_refl _
  ·obtain ⟨y,k1,h1,h2⟩:=ai h
   have a:=hf _ _ _ h1
   have b:=uk hf m _ _ _ _ h2
   omega
theorem bb {ops:List (List UInt8×Int)} {f:Nat→PR Nd} (hf:Prog f):Prog (cA L en ops f):=fun k x k' h=>by
 obtain ⟨y,k1,h1,h2⟩:=ai h
 have a:=hf _ _ _ h1
 have b:=uk hf _ _ _ _ _ h2
 omega
theorem xk {ng cmp:Nat→PR Nd} (h1:Prog ng) (h2:Prog cmp):Prog (ui L en ng cmp):=fun k x k' h=>by
 unfold ui at h
 split at h
 ·obtain ⟨y,k1,h3,h4⟩:=ai h
  cases h4
  have:=h1 _ _ _ h3;omega
 ·exact h2 _ _ _ h
theorem qL {dm:Nat→PR Nd} (h1:Prog dm):Prog (vQ L en dm):=fun k x k' h=>by
 obtain ⟨y,k1,h2,h3⟩:=ai h
 have a:=h1 _ _ _ h2
 split at h3
 ·cases h3;exact a
 ·obtain ⟨z,k2,h4,h5⟩:=ai h3
  cases h5
  have:=h1 _ _ _ h4;omega
theorem BH {n:Nd}:Prog (mn L en n):=fun k x k' h=>by
 obtain ⟨a,k1,h1,h2⟩:=ai h
 have e1:=iV h1
 split at h2
 ·obtain ⟨b,k2,h3,h4⟩:=ai h2
  obtain ⟨_,k3,h5,h6⟩:=ai h4
  cases h6
  have e2:=iV h3
  have e3:=(aF h5).1
  omega
 ·obtain ⟨_,k3,h5,h6⟩:=ai h2
  cases h6
  have e3:=(aF h5).1
  omega
theorem BI {un qK:Nat→PR Nd} (h1:Prog un) (h2:Prog qK):Prog (Gj L en un qK):=fun k x k' h=>by
 unfold Gj at h
 split at h
 ·obtain ⟨y,k1,h3,h4⟩:=ai h
  cases h4
  have:=h1 _ _ _ h3;omega
 ·split at h
  ·split at h
   ·cases h;omega
   ·cases h
  ·obtain ⟨y,k1,h3,h4⟩:=ai h
   have a:=h2 _ _ _ h3
   split at h4
   ·have:=BH _ _ _ h4;omega
   ·cases h4;exact a
theorem um {dm:Nat→PR Nd} (hb:Prog dm):∀(m:Nat) (l:List Nd) (k:Nat) (x:List Nd) (k':Nat),h_ L dm m l k=.ok x k'→k≤k'
 |0,l,k,x,k',h=>by cases h;exact Nat.le_refl _
 |m+1,l,k,x,k',h=>by
  unfold h_ at h
  split at h
  ·obtain ⟨y,k1,h1,h2⟩:=ai h
   have a:=hb _ _ _ h1
   have b:=um hb m _ _ _ _ h2
   omega
  ·cases h;exact Nat.le_refl _
theorem sP {k k':Nat} {f:Int→Int→Nat→PR Nd} {x:Nd} (h:fE L en rd k f=.ok x k'):∃a b,f a b (k+3)=.ok x k':=by
 obtain ⟨a,k1,h1,h2⟩:=ai h
 obtain ⟨_,k2,h3,h4⟩:=ai h2
 obtain ⟨b,k3,h5,h6⟩:=ai h4
 have e1:=ic h1
 have e2:=(aF h3).1
 have e3:=ic h5
 subst e1 e2 e3
 exact ⟨a,b,h6⟩
theorem EJ {cond:Nat→PR Nd} (hc:Prog cond) (q aJ:Int):Prog (jn L en rd cond q aJ):=fun k x k' h=>by
 obtain ⟨_,k1,h1,h2⟩:=ai h
 obtain ⟨y,k2,h3,h4⟩:=ai h2
 obtain ⟨_,k3,h5,h6⟩:=ai h4
 have e1:=(aF h1).1
 have e2:=hc _ _ _ h3
 have e3:=(aF h5).1
 split at h6
 ·obtain ⟨z,k4,h7,h8⟩:=ai h6
  obtain ⟨_,k5,h9,h10⟩:=ai h8
  obtain ⟨a,b,h11⟩:=sP h10
  obtain ⟨_,k6,Ab,za⟩:=ai h11
  cases za
  have e4:=hc _ _ _ h7
  have e5:=(aF h9).1
  have e6:=(aF Ab).1
  omega
 ·obtain ⟨a,b,h11⟩:=sP h6
  obtain ⟨_,k6,Ab,za⟩:=ai h11
  cases za
  have e6:=(aF Ab).1
  omega
theorem ot {cond dm:Nat→PR Nd} (hc:Prog cond) (hb:Prog dm):Prog (gA L en rd cond dm):=fun k x k' h=>by
 unfold gA at h
 split at h
 ·cases h;omega
 ·split at h
  ·cases h;omega
  ·split at h
   ·cases h;omega
   ·split at h
    ·obtain ⟨y,k1,h1,h2⟩:=ai h
     obtain ⟨_,k2,h3,h4⟩:=ai h2
     cases h4
     have:=hc _ _ _ h1
     have:=(aF h3).1
     omega
    ·split at h
     ·obtain ⟨y,k1,h1,h2⟩:=ai h
      obtain ⟨l,k2,h3,h4⟩:=ai h2
      obtain ⟨_,k3,h5,h6⟩:=ai h4
      cases h6
      have:=hb _ _ _ h1
      have:=um hb _ _ _ _ _ h3
      have:=(aF h5).1
      omega
     ·split at h
      ·obtain ⟨_,k1,h1,h2⟩:=ai h
       obtain ⟨y,k2,h3,h4⟩:=ai h2
       obtain ⟨_,k3,h5,h6⟩:=ai h4
       cases h6
       have:=(aF h1).1
       have:=hc _ _ _ h3
       have:=(aF h5).1
       omega
      ·split at h
       ·have:=EJ hc _ _ _ _ _ h;omega
       ·cases h
theorem I1 {un:Nat→PR Nd} (h:Prog un):Prog (Tx L en un):=bb (bb (bb (bb h)))
structure O' (F:Fns):Prop where
 cond:Prog F.cond
 ng:Prog F.ng
 dm:Prog F.dm
 un:Prog F.un
theorem cE:∀F,O' (cV L en rd F)
 |0=>⟨fun k x k' h=>(by cases h),fun k x k' h=>(by cases h),fun k x k' h=>(by cases h),fun k x k' h=>(by cases h)⟩
 |F+1=>by
  have ih:=cE F
  have XN:Prog (Gj L en (cV L en rd F).un (gA L en rd (cV L en rd F).cond (cV L en rd F).dm)):=BI ih.un (ot ih.cond ih.dm)
  have Mc:=I1 (L:=L) (en:=en) XN
  have mA:=xk (L:=L) (en:=en) ih.ng (qL (L:=L) (en:=en) Mc)
  exact ⟨bb (bb mA),mA,Mc,XN⟩
theorem uo {ops:List (List UInt8×Int)} {f:Nat→PR Nd} (hf:Prog f):∀(m m':Nat) (n:Nd) (k:Nat),L.length<m+k→L.length<m'+k→eI L en ops f m n k=eI L en ops f m' n k
 |0,0,n,k,_,_=>rfl
 |0,m'+1,n,k,h,_=>by unfold eI;rw [Gk (by omega)]
 |m+1,0,n,k,_,h=>by
  conv=>lhs;unfold eI
  rw [Gk (by omega)];rfl
 |m+1,m'+1,n,k,h,h'=>by
  unfold eI
  cases ho:iO L ops k with
  |none=>rfl
  |some q=>
   simp only
   cases hx:f (k+1) with
   |err a e=>rfl
   |ok x k1=>
    have:=hf _ _ _ hx
    exact uo hf m m' _ _ (by omega) (by omega)
def rO (L:List Lx) (en:Int) (ops:List (List UInt8×Int)) (f:Nat→PR Nd) (n:Nd) (k:Nat):PR Nd:=eI L en ops f (L.length+1) n k
theorem uq {ops:List (List UInt8×Int)} {f:Nat→PR Nd} {n:Nd} {k:Nat} (h:iO L ops k=none):rO L en ops f n k=.ok n k:=by
 unfold rO eI;rw [h]
theorem ur {ops:List (List UInt8×Int)} {f:Nat→PR Nd} (hf:Prog f) {n x:Nd} {k k':Nat} {q:Int} (h:iO L ops k=some q) (hx:f (k+1)=.ok x k'):rO L en ops f n k=rO L en ops f (.mk q (dy L en k) [] [] 0 0 0 0 [n,x]) k':=by
 have:=hf _ _ _ hx
 conv=>lhs;unfold rO eI
 rw [h]
 simp only [hx,PR.bind]
 exact uo hf _ _ _ _ (by omega) (by omega)
theorem Gm {ops:List (List UInt8×Int)} {f:Nat→PR Nd} {n:Nd} {k k':Nat} (h:f k=.ok n k'):cA L en ops f k=rO L en ops f n k':=by
 unfold cA;rw [h];rfl
end
def nh (B:Nat) (W:World) (n:Nd) (v:Value):Prop:=∃cs:List Value,v=.agg cs.toArray∧cG (fun b=>b<B) W n cs
def bQ (p:PS) (f:FuncId) (r:Nat→PR Nd) (F:Nat):Prop:=
 ∀k W,p.L.length<F+k→bc p W k→Calls Tryz.prog f #[.pointer (some ⟨p.b,0,none⟩)] W (bO p W (nh W.heap.size) (r k))
def bJ:Array Value:=#[.int .i64 0,.int .i64 0,.string {data:=#[]},.string {data:=#[]},.int .i64 0,.int .i64 0,.int .i64 0,.int .i64 0,.slice none 0 0]
def placeOf (p:PS) (W:World):Nat:=(intOf ((W.cell? ⟨p.b,1,none⟩).getD undef)).toNat
theorem bU {p:PS} {W:World} {k:Nat} (h:bc p W k):placeOf p W=k:=by
 unfold placeOf
 rw [h.cells.2.1]
 simp [intOf]
theorem cG.ge {C:Nat→Prop} {W W':World} {n:Nd} {cs:List Value} (h:cG C W n cs) (hb:Below W.heap.size W W'):cG (fun b=>C b∨W.heap.size≤b) W' n cs:=by
 induction h with
 |mk kind aJ name value a b c d ks A cap bF hl _ hr cI ih=>
  refine .mk _ _ _ _ _ _ _ _ _ _ _ bF hl ih ?_ cI
  intro hp
  obtain ⟨b,off,rfl,Xk,hz,hat⟩:=hr hp
  exact ⟨b,off,rfl,fun e=>e.elim Xk (fun e=>by omega),Nat.lt_of_lt_of_le hz hb.size,fun i hi j hj=>(hb.cell (p:=⟨b,_,none⟩) hz).trans (hat i hi j hj)⟩
structure bR (p:PS) (w:World) (g7:Nat) (W:World) (n:Nd) (cs:List Value) (k:Nat):Prop where
 at_:bc p W k
 keeps:af (fun c=>c=p.b) w W
 res:Row W w.heap.size 25 bJ
 row:Row W g7 25 cs.toArray
 nd:cG (fun b=>b≤w.heap.size∨b=g7) W n cs
abbrev iP (W:World) (g:Nat) (a0 a1 a2 a3 a4 a5 a6 a7 a8:Value):World:=(((((((((W.setCell ⟨g,0,none⟩ a0).setCell ⟨g,1,none⟩ a1).setCell ⟨g,2,none⟩ a2).setCell ⟨g,3,none⟩ a3).setCell ⟨g,4,none⟩ a4).setCell ⟨g,5,none⟩ a5).setCell ⟨g,6,none⟩ a6).setCell ⟨g,7,none⟩ a7).setCell ⟨g,8,none⟩ a8)
theorem av {W:World} {g:Nat} {t:TypeId} {x0 x1 x2 x3 x4 x5 x6 x7 x8:Value} (h:Row W g t #[x0,x1,x2,x3,x4,x5,x6,x7,x8]) (a0 a1 a2 a3 a4 a5 a6 a7 a8:Value):Row (iP W g a0 a1 a2 a3 a4 a5 a6 a7 a8) g t #[a0,a1,a2,a3,a4,a5,a6,a7,a8]:=by
 have h0:Row (W.setCell ⟨g,0,none⟩ a0) g t #[a0,x1,x2,x3,x4,x5,x6,x7,x8]:=h.bg 0 a0
 have h1:Row ((W.setCell ⟨g,0,none⟩ a0).setCell ⟨g,1,none⟩ a1) g t #[a0,a1,x2,x3,x4,x5,x6,x7,x8]:=h0.bg 1 a1
 have h2:Row (((W.setCell ⟨g,0,none⟩ a0).setCell ⟨g,1,none⟩ a1).setCell ⟨g,2,none⟩ a2) g t #[a0,a1,a2,x3,x4,x5,x6,x7,x8]:=h1.bg 2 a2
 have h3:Row ((((W.setCell ⟨g,0,none⟩ a0).setCell ⟨g,1,none⟩ a1).setCell ⟨g,2,none⟩ a2).setCell ⟨g,3,none⟩ a3) g t #[a0,a1,a2,a3,x4,x5,x6,x7,x8]:=h2.bg 3 a3
 have h4:Row (((((W.setCell ⟨g,0,none⟩ a0).setCell ⟨g,1,none⟩ a1).setCell ⟨g,2,none⟩ a2).setCell ⟨g,3,none⟩ a3).setCell ⟨g,4,none⟩ a4) g t #[a0,a1,a2,a3,a4,x5,x6,x7,x8]:=h3.bg 4 a4
 have h5:Row ((((((W.setCell ⟨g,0,none⟩ a0).setCell ⟨g,1,none⟩ a1).setCell ⟨g,2,none⟩ a2).setCell ⟨g,3,none⟩ a3).setCell ⟨g,4,none⟩ a4).setCell ⟨g,5,none⟩ a5) g t #[a0,a1,a2,a3,a4,a5,x6,x7,x8]:=h4.bg 5 a5
 have h6:Row (((((((W.setCell ⟨g,0,none⟩ a0).setCell ⟨g,1,none⟩ a1).setCell ⟨g,2,none⟩ a2).setCell ⟨g,3,none⟩ a3).setCell ⟨g,4,none⟩ a4).setCell ⟨g,5,none⟩ a5).setCell ⟨g,6,none⟩ a6) g t #[a0,a1,a2,a3,a4,a5,a6,x7,x8]:=h5.bg 6 a6
 have h7:Row ((((((((W.setCell ⟨g,0,none⟩ a0).setCell ⟨g,1,none⟩ a1).setCell ⟨g,2,none⟩ a2).setCell ⟨g,3,none⟩ a3).setCell ⟨g,4,none⟩ a4).setCell ⟨g,5,none⟩ a5).setCell ⟨g,6,none⟩ a6).setCell ⟨g,7,none⟩ a7) g t #[a0,a1,a2,a3,a4,a5,a6,a7,x8]:=h6.bg 7 a7
 have h8:Row (((((((((W.setCell ⟨g,0,none⟩ a0).setCell ⟨g,1,none⟩ a1).setCell ⟨g,2,none⟩ a2).setCell ⟨g,3,none⟩ a3).setCell ⟨g,4,none⟩ a4).setCell ⟨g,5,none⟩ a5).setCell ⟨g,6,none⟩ a6).setCell ⟨g,7,none⟩ a7).setCell ⟨g,8,none⟩ a8) g t #[a0,a1,a2,a3,a4,a5,a6,a7,a8]:=h7.bg 8 a8
 exact h8
theorem ak {W:World} {g B:Nat} (hg:B≤g) (a0 a1 a2 a3 a4 a5 a6 a7 a8:Value):Below B W (iP W g a0 a1 a2 a3 a4 a5 a6 a7 a8):=
 ((((((((((Below.refl B W).setCell (p:=⟨g,0,none⟩) hg a0).setCell (p:=⟨g,1,none⟩) hg a1).setCell (p:=⟨g,2,none⟩) hg a2).setCell (p:=⟨g,3,none⟩) hg a3).setCell (p:=⟨g,4,none⟩) hg a4).setCell (p:=⟨g,5,none⟩) hg a5).setCell (p:=⟨g,6,none⟩) hg a6).setCell (p:=⟨g,7,none⟩) hg a7).setCell (p:=⟨g,8,none⟩) hg a8)
theorem ax {C:Nat→Prop} {W:World} {g:Nat} (hg:C g) (a0 a1 a2 a3 a4 a5 a6 a7 a8:Value):af C W (iP W g a0 a1 a2 a3 a4 a5 a6 a7 a8):=
 ((((((((((af.refl C W).set (.inl hg) 0 a0).set (.inl hg) 1 a1).set (.inl hg) 2 a2).set (.inl hg) 3 a3).set (.inl hg) 4 a4).set (.inl hg) 5 a5).set (.inl hg) 6 a6).set (.inl hg) 7 a7).set (.inl hg) 8 a8)
theorem bR.keep {p:PS} {w W W':World} {g7:Nat} {n:Nd} {cs:List Value} {k k':Nat} (h:bR p w g7 W n cs k) (hb:p.b<w.heap.size) (hg:w.heap.size<g7) (ha:bc p W' k') (hk:af (fun c=>c=p.b) W W'):bR p w g7 W' n cs k':=
 ⟨ha,h.keeps.trans hk,h.res.keep hk (by show¬w.heap.size=p.b;omega),h.row.keep hk (by show¬g7=p.b;omega),h.nd.keeps (hk.mono (fun b hb'=>.inl (by show b≤_;have:b=p.b:=hb';omega)))⟩
theorem iU.keep {p:PS} {W W':World} {bm:Nat} {ops:List (List UInt8×Int)} (h:iU W bm ops) (hk:af (fun c=>c=p.b) W W') (hb:bm≠p.b):iU W' bm ops:=by
 obtain ⟨es,clock,hes,h1⟩:=h
 exact ⟨es,clock,(hk.block bm ((Array.getElem?_eq_some_iff.1 hes).1) hb).trans hes,h1⟩
theorem pJ {L:List Lx} {ops:List (List UInt8×Int)} {k:Nat} {q:Int} (h:iO L ops k=some q):(∃o∈ops,o.2=q)∧k<L.length:=by
 unfold iO at h
 obtain ⟨o,ho,rfl⟩:=Option.map_eq_some_iff.1 h
 have h1:=List.find?_some ho
 exact ⟨⟨o,List.mem_of_find?_eq_some ho,rfl⟩,sO h1⟩
theorem uu:∀(bF:List (List Value)) (i j:Nat) (h9:∀c∈bF,c.length=9) (hi:i<bF.length),j<9→bF.flatten[i*9+j]? =(bF[i])[j]?
 |[],i,j,_,hi,_=>absurd hi (Nat.not_lt_zero _)
 |c::bF,0,j,h9,_,hj=>by
  have h:=h9 c List.mem_cons_self
  rw [List.flatten_cons,List.getElem?_append_left (by omega),Nat.zero_mul,Nat.zero_add];rfl
 |c::bF,i+1,j,h9,hi,hj=>by
  have h:=h9 c List.mem_cons_self
  rw [List.flatten_cons,List.getElem?_append_right (by omega),show (i+1)*9+j-c.length=i*9+j by omega]
  exact uu bF i j (fun d hd=>h9 d (List.mem_cons_of_mem _ hd)) (by simpa using hi) hj
theorem zb {C:Nat→Prop} {W:World} {b:Nat} {t:TypeId} {bF:List (List Value)} (hr:Row W b t bF.flatten.toArray) (h9:∀c∈bF,c.length=9) (hc:¬C b):mv C W (some ⟨b,0,none⟩) bF:=fun _=>
 ⟨b,0,rfl,hc,hr.lt,fun i hi j hj=>by
  rw [hr.cell,Nat.zero_add]
  have:=uu bF i j h9 hi hj
  simpa using this⟩
theorem bR.step {p:PS} {w W3 w5:World} {g7 k k2 k3:Nat} {n x:Nd} {cs ou:List Value} {q pl:Int} (H:bc p w k) (aN:p.b<w.heap.size) (hB1:w.heap.size<g7) (h:bR p w g7 W3 n cs k2) (h5:bc p w5 k3) (hk5:af (fun c=>c=p.b) W3 w5)
 (hx:cG (fun b=>b<W3.heap.size) w5 x ou) (W6:World) (kf:W6=w5.alloc (.cells [cs,ou].flatten.toArray 25)):
 bR p w g7 (iP W6 g7 (.int .i64 q) (.int .i64 pl) (.string {data:=#[]}) (.string {data:=#[]}) (.int .i64 0) (.int .i64 0) (.int .i64 0) (.int .i64 0) (.slice (some ⟨w5.heap.size,0,none⟩) 2 2))
  (.mk q pl [] [] 0 0 0 0 [n,x]) (aw q pl [] [] 0 0 0 0 (.slice (some ⟨w5.heap.size,0,none⟩) 2 2)) k3:=by
 have hg3:g7<W3.heap.size:=h.row.lt
 have jz:g7<w5.heap.size:=Nat.lt_of_lt_of_le hg3 hk5.size
 have bA:Below w5.heap.size w5 (w5.alloc (.cells [cs,ou].flatten.toArray 25)):=(Below.refl _ _).alloc (Nat.le_refl _) _
 have hnew:Row (w5.alloc (.cells [cs,ou].flatten.toArray 25)) w5.heap.size 25 [cs,ou].flatten.toArray:=Row.new _ _ _
 have lV:Row w5 g7 25 cs.toArray:=h.row.keep hk5 (by show¬g7=p.b;omega)
 have kG:Row w5 w.heap.size 25 bJ:=h.res.keep hk5 (by show¬w.heap.size=p.b;omega)
 have lA:=lV.alloc (.cells [cs,ou].flatten.toArray 25)
 have Gn:=kG.alloc (.cells [cs,ou].flatten.toArray 25)
 rw [←kf] at bA hnew lA Gn
 clear kf
 have hn9:=h.nd.len
 have Md:=hx.len
 have Rj:=ak (W:=W6) (Nat.le_of_lt hB1) (.int .i64 q) (.int .i64 pl) (.string {data:=#[]}) (.string {data:=#[]}) (.int .i64 0) (.int .i64 0) (.int .i64 0) (.int .i64 0) (.slice (some ⟨w5.heap.size,0,none⟩) 2 2)
 have XO:=ak (W:=W6) (Nat.le_refl g7) (.int .i64 q) (.int .i64 pl) (.string {data:=#[]}) (.string {data:=#[]}) (.int .i64 0) (.int .i64 0) (.int .i64 0) (.int .i64 0) (.slice (some ⟨w5.heap.size,0,none⟩) 2 2)
 have Pa:=ax (C:=fun b=>b≤w.heap.size∨b=g7) (W:=W6) (.inr rfl) (.int .i64 q) (.int .i64 pl) (.string {data:=#[]}) (.string {data:=#[]}) (.int .i64 0) (.int .i64 0) (.int .i64 0) (.int .i64 0) (.slice (some ⟨w5.heap.size,0,none⟩) 2 2)
 have aaR:af (fun b=>b≤w.heap.size∨b=g7) W3 w5:=hk5.mono (fun b hb=>.inl (by show b≤_;have:b=p.b:=hb;omega))
 have XP:af (fun b=>b≤w.heap.size∨b=g7) w5 (iP W6 g7 (.int .i64 q) (.int .i64 pl) (.string {data:=#[]}) (.string {data:=#[]}) (.int .i64 0) (.int .i64 0) (.int .i64 0) (.int .i64 0) (.slice (some ⟨w5.heap.size,0,none⟩) 2 2)):=(af.of_below bA (Nat.le_refl _)).trans Pa
 refine ⟨H.above (h5.below bA) Rj,((h.keeps.trans hk5).trans (af.of_below bA (Nat.le_refl _))).over Rj,Gn.below XO hB1,?_,?_⟩
 ·have aB:=h.nd
  cases aB
  exact av lA _ _ _ _ _ _ _ _ _
 ·refine .mk q pl [] [] 0 0 0 0 [n,x] _ 2 [cs,ou] rfl (fun i hi hi'=>?_) ?_ (Nat.le_refl _)
  ·match i,hi,hi' with
   |0,_,_=>exact (h.nd.keeps aaR).keeps XP
   |1,_,_=>exact (hx.mono (fun b hb=>by rcases hb with hb|rfl;exact Nat.lt_of_le_of_lt hb (by omega);exact hg3)).keeps XP
   |i+2,hi,_=>exact absurd hi (by simp)
  ·refine zb (t:=25) ?_ (fun c hc=>by
    rcases List.mem_cons.1 hc with rfl|hc
    ·exact hn9
    ·rw [List.mem_singleton.1 hc];exact Md) (by rintro (h1|h1)<;>omega)
   refine hnew.keep Pa (by rintro (h1|h1)<;>omega)
theorem jq (p:PS) (F:Nat) (NZ:FuncId) (f:Nat→PR Nd) (ops:List (List UInt8×Int)) (bm k:Nat) (w:World) (h:bc p w k) (hF:p.L.length<F+k) (hm:iU w bm ops) (hb:bm≠p.b) (hu:cD ops) (h0:∀o∈ops,o.2≠0)
 (hc:bQ p NZ f F) (FF:∀W,(callFunc NZ #[.pointer (some ⟨p.b,0,none⟩)]).run Tryz.prog W=.ok (.enter NZ #[.pointer (some ⟨p.b,0,none⟩)]) W) (hp:Prog f):
 Calls Tryz.prog 34 #[.pointer (some ⟨p.b,0,none⟩),.map (some bm),.func (.func NZ) #[] #[]] w (bO p w (nh w.heap.size) (cA p.L p.en ops f k)):=by
 have aN:p.b<w.heap.size:=h.row.lt
 have QM:bm<w.heap.size:=by obtain ⟨es,clock,hes,_⟩:=hm;exact (Array.getElem?_eq_some_iff.1 hes).1
 have H:=aa h
 have fO:Row (w.alloc (.cells bJ 25)) w.heap.size 25 bJ:=Row.new _ _ _
 have hb0:Below w.heap.size w (w.alloc (.cells bJ 25)):=(Below.refl _ _).alloc (Nat.le_refl _) _
 have C0:=aa (hc k _ hF (h.below hb0))
 have lN:=aa fO
 have ke:=aa hb0
 have HC:=aa hc
 have HM:=aa hm
 have HU:=aa hu
 have HZ:=aa h0
 have HP:=aa hp
 unfold cA
 cases hR:f k with
 |err a er=>
  rw [hR] at C0
  show Calls _ _ _ _ (bO p w (nh w.heap.size) (.err a er))
  clear hR h hm hu h0 hc hp fO hb0 HC HM HU HZ HP lN
  go_enter Tryz.func34,Tryz.ntmps34
  go_wp2_with fail
  refine C0.out.mono ?_
  rintro e w1 ⟨rfl,hk⟩
  go_wp2
  exact ⟨rfl,rfl,(af.of_below ke.out (Nat.le_refl _)).trans hk⟩
 |ok n1 k1=>
  rw [hR] at C0
  have fo:=hp _ _ _ hR
  show Calls _ _ _ _ (bO p w (nh w.heap.size) (eI p.L p.en ops f (p.L.length+1) n1 k1))
  have HLF:=aa (show eI p.L p.en ops f (p.L.length+1) n1 k1=eI p.L p.en ops f (p.L.length+1) n1 k1 from rfl)
  generalize jC:eI p.L p.en ops f (p.L.length+1) n1 k1=RR
  have ze:=aa jC
  clear HLF hR h hm hu h0 hc hp fO hb0 jC
  go_enter Tryz.func34,Tryz.ntmps34
  go_wp2_with fail
  refine C0.out.mono ?_
  rintro e w1 ⟨⟨v,rfl,cs,rfl,aB⟩,h1,hk⟩
  have hr1:Row w1 w.heap.size 25 bJ:=lN.out.keep hk (by show¬w.heap.size=p.b;omega)
  have hB1:w.heap.size<w1.heap.size:=hr1.lt
  have Iq:bR p w w1.heap.size (w1.alloc (.cells cs.toArray 25)) n1 cs k1:=
   ⟨h1.below ((Below.refl _ w1).alloc (Nat.le_refl _) _),((af.of_below ke.out (Nat.le_refl _)).trans hk).trans (af.of_below ((Below.refl _ w1).alloc (Nat.le_refl _) _) (Nat.le_refl _)),hr1.alloc _,Row.new w1 _ _,
    (aB.ge ((Below.refl _ w1).alloc (Nat.le_refl _) _)).mono (fun b hb=>by
     rcases hb with hb|rfl
     ·exact .inl (by rw [World.size_alloc];omega)
     ·exact .inr (Nat.le_refl _))⟩
  have I4:=aa Iq
  cases aB with
  |mk kd a0 nm vl xa xb xc xd ks A cap bF hl iG hr=>
   clear hl iG hr Iq hr1 hk h1
   unfold aw
   go_wp2_with fail
   go_loopw [] (fun W=>∃n cs k2 m,bR p w w1.heap.size W n cs k2∧eI p.L p.en ops f m n k2=RR∧p.L.length<m+k2∧k≤k2) (fun W=>p.L.length+1-placeOf p W)
   case atStart=>exact ⟨_,_,_,_,I4.out,ze.out,by omega,fo⟩
   case round=>
    obtain ⟨n,cs,k2,m,hat,XQ,hmk,gM⟩:=hrel
    obtain ⟨m',rfl⟩:∃m',m=m'+1:=⟨m-1,by have:=hat.at_.le;omega⟩
    have OP:=aa (fZ p k2 bm ops wr hat.at_ (HM.out.keep hat.keeps hb) hb HU.out)
    have Pb:=aa hat
    have Vk:=aa XQ
    have hk2:=hat.at_.le
    clear hat XQ
    cases hO:iO p.L ops k2 with
    |none=>
     have hE:rL p.L p.en ops k2=.returned (.tuple #[.int .i64 0,.int .i64 0]):=by unfold rL;rw [hO]
     have hN:rM p.L ops k2=k2:=by unfold rM;rw [hO]
     have jC:RR=.ok n k2:=by rw [←Vk.out];unfold eI;rw [hO]
     have TE:=aa jC
     rw [hE,hN] at OP
     clear hE hN hO jC
     go_wp2_with fail
     refine OP.out.mono ?_
     rintro e W3 ⟨rfl,h3,hk3⟩
     have hl3:=Pb.out.keep aN hB1 h3 hk3
     have c0:=hl3.row.cell 0
     obtain ⟨h3,bS,hres,hrow,aB⟩:=hl3
     have cN:=aa aB
     cases aB with
     |mk kd a0 nm vl xa xb xc xd ks A cap bF hl iG hr=>
      obtain ⟨d0,d1,d2,d3,d4,d5,d6,d7,d8⟩:=aj hrow
      obtain ⟨e0,e1,e2,e3,e4,e5,e6,e7,e8⟩:=aj hres
      obtain ⟨f0,f1,f2,f3,f4,f5,f6,f7,f8⟩:=aA hres
      clear hl iG hr hrow c0
      go_wp2_with fail
      refine bodyPost_ret (v:=.agg #[.int .i64 kd,.int .i64 a0,.string (ae nm),.string (ae vl),.int .i64 xa,.int .i64 xb,.int .i64 xc,.int .i64 xd,.slice A ks.length cap]) (ag rfl _ _ w.heap.size 25 _ _ _ rfl (av hres _ _ _ _ _ _ _ _ _) Tryz.underlying25 rfl (by kernel_rfl)) rfl ?_
      rw [TE.out]
      have hbl:Below w.heap.size W3 (iP W3 w.heap.size (.int .i64 kd) (.int .i64 a0) (.string (ae nm)) (.string (ae vl)) (.int .i64 xa) (.int .i64 xb) (.int .i64 xc) (.int .i64 xd) (.slice A ks.length cap)):=ak (Nat.le_refl _) _ _ _ _ _ _ _ _ _
      exact ⟨⟨_,rfl,_,rfl,(cN.out.keeps (ax (.inl (Nat.le_refl _)) _ _ _ _ _ _ _ _ _)).mono (fun b hb'=>.inl (Nat.le_of_lt hb'))⟩,H.out.above h3 hbl,bS.over hbl⟩
    |some q=>
     obtain ⟨⟨o,ho,Gp⟩,hlt⟩:=pJ hO
     have zZ:(q==0)=false:=beq_eq_false_iff_ne.2 (by rw [←Gp];exact HZ.out o ho)
     have hE:rL p.L p.en ops k2=.returned (.tuple #[.int .i64 q,.int .i64 (dy p.L p.en k2)]):=by unfold rL;rw [hO]
     have hN:rM p.L ops k2=k2+1:=by unfold rM;rw [hO]
     rw [hE,hN] at OP
     clear hE hN ho Gp
     cases hx:f (k2+1) with
     |err a er=>
      have TE:=aa (show RR=.err a er by rw [←Vk.out];unfold eI;rw [hO,hx];rfl)
      have TF:=aa (fun (W:World) (h:bc p W (k2+1))=>show Calls _ _ _ _ (bO p W (nh W.heap.size) (.err a er)) from by rw [←hx];exact HC.out (k2+1) W (by omega) h)
      clear hx hO
      generalize dy p.L p.en k2=pl at*
      go_wp2_with fail
      refine OP.out.mono ?_
      rintro e W3 ⟨rfl,h3,hk3⟩
      have hl3:=Pb.out.keep aN hB1 h3 hk3
      obtain ⟨h3,bS,hres,hrow,aB⟩:=hl3
      cases aB with
      |mk kd a0 nm vl xa xb xc xd ks A cap bF hl iG hr=>
       obtain ⟨d0,d1,d2,d3,d4,d5,d6,d7,d8⟩:=aj hrow
       have CX:=aa (TF.out W3.drew (h3.below ((Below.refl _ W3).drew)))
       clear hl iG hr hrow hres
       go_wp2_with fail
       have sQ:=aa (fun (W:World) (hk:af (fun c=>c=p.b) W3.drew W)=>show bO p w (nh w.heap.size) RR (.panicked [{v:=kE a er,recovered:=false}]) W from by
        rw [TE.out];exact ⟨rfl,(bS.drew).trans hk⟩)
       refine wp_region_any (by kernel_rfl) ?_
       change wpAny _ _ _ _ _ _ _ (World.drew _)
       refine wpAny_take (i:=0) (v:=?_) rfl (by kernel_rfl) (by kernel_rfl) (by kernel_rfl) (fun _ _ _ h=>h) (Or.inl ⟨by rfl,?_⟩) ?_
       rotate_left
       ·intro w;go_simp;with_reducible rfl
       refine wpAny_take (i:=1) (v:=?_) rfl (by kernel_rfl) (by kernel_rfl) (by kernel_rfl) (fun _ _ _ h=>h) (Or.inl ⟨by rfl,?_⟩) ?_
       rotate_left
       ·intro w;go_simp;with_reducible rfl
       refine wpAny_take (i:=3) (v:=?_) rfl (by kernel_rfl) (by kernel_rfl) (by kernel_rfl) (fun _ _ _ h=>h) (Or.inl ⟨by rfl,?_⟩) ?_
       rotate_left
       ·intro w;go_simp;with_reducible rfl
       refine wpAny_take (i:=4) (v:=?_) rfl (by kernel_rfl) (by kernel_rfl) (by kernel_rfl) (fun _ _ _ h=>h) (Or.inl ⟨by rfl,?_⟩) ?_
       rotate_left
       ·intro w;go_simp;with_reducible rfl
       refine wpAny_ready (rs:=[2,5]) (by kernel_rfl) (by simp) ?_
       refine AllReady.cons rfl (fun K hK=>?_) (AllReady.cons rfl (fun K hK=>?_) AllReady.nil)
       ·go_simp
        refine hK _ _ ?_
        clear hK K
        refine wpAny_ready (rs:=[5]) (by kernel_rfl) (by simp) ?_
        refine AllReady.cons rfl (fun K hK=>?_) AllReady.nil
        go_simp
        refine CX.out.mono ?_
        rintro e w5 ⟨rfl,hk5⟩
        exact ⟨rfl,sQ.out _ hk5⟩
       ·go_simp
        refine CX.out.mono ?_
        rintro e w5 ⟨rfl,hk5⟩
        exact ⟨rfl,sQ.out _ hk5⟩
     |ok x k3=>
      have hk3:=HP.out _ _ _ hx
      have XR:=aa (show eI p.L p.en ops f m' (.mk q (dy p.L p.en k2) [] [] 0 0 0 0 [n,x]) k3=RR by rw [←Vk.out];(conv=>rhs;unfold eI);rw [hO,hx];rfl)
      have TF:=aa (fun (W:World) (h:bc p W (k2+1))=>show Calls _ _ _ _ (bO p W (nh W.heap.size) (.ok x k3)) from by rw [←hx];exact HC.out (k2+1) W (by omega) h)
      clear hx hO
      generalize dy p.L p.en k2=pl at*
      go_wp2_with fail
      refine OP.out.mono ?_
      rintro e W3 ⟨rfl,h3,La⟩
      have hl3:=Pb.out.keep aN hB1 h3 La
      have zf:=aa hl3
      obtain ⟨h3,bS,hres,hrow,aB⟩:=hl3
      cases aB with
      |mk kd a0 nm vl xa xb xc xd ks A cap bF hl iG hr=>
       obtain ⟨d0,d1,d2,d3,d4,d5,d6,d7,d8⟩:=aj hrow
       have CX:=aa (TF.out W3.drew (h3.below ((Below.refl _ W3).drew)))
       have Rk:¬(w1.heap.size=p.b):=by omega
       have I5:=aa hres
       have sk:=aa hrow
       clear hl iG hr hrow hres
       go_wp2_with fail
       refine wp_region_any (by kernel_rfl) ?_
       change wpAny _ _ _ _ _ _ _ (World.drew _)
       refine wpAny_take (i:=0) (v:=?_) rfl (by kernel_rfl) (by kernel_rfl) (by kernel_rfl) (fun _ _ _ h=>h) (Or.inl ⟨by rfl,?_⟩) ?_
       rotate_left
       ·intro w;go_simp;with_reducible rfl
       refine wpAny_take (i:=1) (v:=?_) rfl (by kernel_rfl) (by kernel_rfl) (by kernel_rfl) (fun _ _ _ h=>h) (Or.inl ⟨by rfl,?_⟩) ?_
       rotate_left
       ·intro w;go_simp;with_reducible rfl
       refine wpAny_take (i:=3) (v:=?_) rfl (by kernel_rfl) (by kernel_rfl) (by kernel_rfl) (fun _ _ _ h=>h) (Or.inl ⟨by rfl,?_⟩) ?_
       rotate_left
       ·intro w;go_simp;with_reducible rfl
       refine wpAny_take (i:=4) (v:=?_) rfl (by kernel_rfl) (by kernel_rfl) (by kernel_rfl) (fun _ _ _ h=>h) (Or.inl ⟨by rfl,?_⟩) ?_
       rotate_left
       ·intro w;go_simp;with_reducible rfl
       refine wpAny_ready (rs:=[2,5]) (by kernel_rfl) (by simp) ?_
       refine AllReady.cons rfl (fun K hK=>?_) (AllReady.cons rfl (fun K hK=>?_) AllReady.nil)
       ·go_simp
        refine hK _ _ ?_
        clear hK K
        refine wpAny_ready (rs:=[5]) (by kernel_rfl) (by simp) ?_
        refine AllReady.cons rfl (fun K hK=>?_) AllReady.nil
        go_simp
        refine CX.out.mono ?_
        rintro e w5 ⟨⟨v,rfl,ou,rfl,gO⟩,h5,hk5⟩
        refine hK _ _ ?_
        clear hK K
        have cO:af (fun c=>c=p.b) W3 w5:=⟨hk5.os,hk5.tape,hk5.output,hk5.size,hk5.block⟩
        have lV:=sk.out.keep cO Rk
        have Me:=aa gO
        have H5:=aa h5
        have uw:=aa cO
        cases gO with
        |mk yk y0 yn yv ya yb yc yd yks yA dp TG TH TI TJ=>
         unfold aw
         clear h5 hk5 cO TH TI TJ
         refine wpAny_ready (rs:=[6]) (by kernel_rfl) (by simp) ?_
         refine AllReady.cons rfl (fun K hK=>?_) AllReady.nil
         go_simp
         refine hK _ _ ?_
         clear hK K
         generalize kf:World.alloc w5 _=W6
         have lA:Row W6 w1.heap.size 25 (aw kd a0 nm vl xa xb xc xd (.slice A ks.length cap)).toArray:=by rw [←kf];exact lV.alloc _
         have Pc:=aa (bR.step (q:=q) (pl:=pl) H.out aN hB1 zf.out H5.out uw.out Me.out W6 kf.symm)
         obtain ⟨d0,d1,d2,d3,d4,d5,d6,d7,d8⟩:=aj lA
         obtain ⟨f0,f1,f2,f3,f4,f5,f6,f7,f8⟩:=aA lA
         clear lV lA kf
         refine wpAny_ready (rs:=[7]) (by kernel_rfl) (by simp) ?_
         refine AllReady.cons rfl (fun K hK=>?_) AllReady.nil
         go_simp
         refine hK _ _ ?_
         clear hK K
         refine wpAny_ready (rs:=[8]) (by kernel_rfl) (by simp) ?_
         refine AllReady.cons rfl (fun K hK=>?_) AllReady.nil
         go_simp
         refine hK _ _ ?_
         clear hK K
         refine wpAny_done (by kernel_rfl) ?_ _
         go_wp2
         go_roundw
         case rel=>exact ⟨_,_,k3,m',Pc.out,XR.out,by omega,by omega⟩
         case measure=>rw [bU Pc.out.at_,bU Pb.out.at_];omega
       ·go_simp
        refine CX.out.mono ?_
        rintro e w5 ⟨⟨v,rfl,ou,rfl,gO⟩,h5,hk5⟩
        refine hK _ _ ?_
        clear hK K
        have cO:af (fun c=>c=p.b) W3 w5:=⟨hk5.os,hk5.tape,hk5.output,hk5.size,hk5.block⟩
        have lV:=sk.out.keep cO Rk
        have Me:=aa gO
        have H5:=aa h5
        have uw:=aa cO
        cases gO with
        |mk yk y0 yn yv ya yb yc yd yks yA dp TG TH TI TJ=>
         unfold aw
         clear h5 hk5 cO TH TI TJ
         obtain ⟨c0,c1,c2,c3,c4,c5,c6,c7,c8⟩:=aj lV
         refine wpAny_ready (rs:=[2]) (by kernel_rfl) (by simp) ?_
         refine AllReady.cons rfl (fun K hK=>?_) AllReady.nil
         go_simp
         refine hK _ _ ?_
         clear hK K
         refine wpAny_ready (rs:=[6]) (by kernel_rfl) (by simp) ?_
         refine AllReady.cons rfl (fun K hK=>?_) AllReady.nil
         go_simp
         refine hK _ _ ?_
         clear hK K
         generalize kf:World.alloc w5 _=W6
         have lA:Row W6 w1.heap.size 25 (aw kd a0 nm vl xa xb xc xd (.slice A ks.length cap)).toArray:=by rw [←kf];exact lV.alloc _
         have Pc:=aa (bR.step (q:=q) (pl:=pl) H.out aN hB1 zf.out H5.out uw.out Me.out W6 kf.symm)
         obtain ⟨d0,d1,d2,d3,d4,d5,d6,d7,d8⟩:=aj lA
         obtain ⟨f0,f1,f2,f3,f4,f5,f6,f7,f8⟩:=aA lA
         clear lV lA kf
         refine wpAny_ready (rs:=[7]) (by kernel_rfl) (by simp) ?_
         refine AllReady.cons rfl (fun K hK=>?_) AllReady.nil
         go_simp
         refine hK _ _ ?_
         clear hK K
         refine wpAny_ready (rs:=[8]) (by kernel_rfl) (by simp) ?_
         refine AllReady.cons rfl (fun K hK=>?_) AllReady.nil
         go_simp
         refine hK _ _ ?_
         clear hK K
         refine wpAny_done (by kernel_rfl) ?_ _
         go_wp2
         go_roundw
         case rel=>exact ⟨_,_,k3,m',Pc.out,XR.out,by omega,by omega⟩
         case measure=>rw [bU Pc.out.at_,bU Pb.out.at_];omega
end Go.Proofs.YtddoehnkgcbboaaGreatDoor
