/- A part of the proof that the last file tells. -/
import Derived.Test.YtddoehnkgcbboaaGreatDoorAgK
import Derived.Maps.RangeRun
set_option maxHeartbeats 16000000
set_option maxRecDepth 100000
set_option linter.unusedVariables false
set_option linter.unusedSimpArgs false
namespace Go.Proofs.YtddoehnkgcbboaaGreatDoor
open Go.RowKit Go.Shelf
theorem _root_.Go.ah.over {C:Nat→Prop} {W1 W2 W3:World} (h:ah C W1 W2) (k:Below W1.heap.size W2 W3):ah C W1 W3:=
 ⟨k.os.trans h.os,k.tape.trans h.tape,k.output.trans h.output,br h.size k.size,fun b hb hn=>(k.block b hb).trans (h.block b hb hn)⟩
def aa9 (_:World) (x:Lx) (v:Value):Prop:=v=.agg #[.int .i64 x.kind,.string (ag x.text),.int .i64 (x.az:Int)]
def qO (L:List Lx) (en:Int) (k:Nat) (q:Int):PR Lx:=if cW L k q then (match L[k]? with|some x=>.ok x (k+1)|none=>ik L en k) else ik L en k
theorem fp {L:List Lx} {k:Nat} {q:Int} (h:cW L k q=true):k<L.length:=by
 rcases Nat.lt_or_ge k L.length with h1|h1
 ·exact h1
 ·rw [EY h1] at h;cases h
theorem jW {L:List Lx} {en q:Int} {k:Nat} (h:cW L k q=true):qO L en k q=.ok (L[k]'(fp h)) (k+1):=by
 unfold qO;rw [if_pos h,List.getElem?_eq_getElem (fp h)]
theorem tO {L:List Lx} {en q:Int} {k:Nat} (h:cW L k q=false):qO L en k q=.err (eO L en k) 3:=by
 unfold qO;rw [if_neg (by rw [h];decide)];rfl
theorem pC (p:PS) (k:Nat) (q:Int) (w:World) (h:bQ p w k):
 Calls Tryz.prog 138 #[.pointer (some ⟨p.b,0,none⟩),.int .i64 q] w (cQ p w aa9 (qO p.L p.en k q)):=by
 have KD:=hide (fun (W:World) (h:bQ p W k)=>yG p k q W h);have H:=hide h;have hsm:=h.small;have hbz:=h.row.lt
 obtain ⟨W0,hW0⟩:∃W0,W0=w.alloc (.cells #[.int .i64 0,.string {data:=#[]},.int .i64 0] 66):=⟨_,rfl⟩
 have r0:Row W0 w.heap.size 66 #[.int .i64 0,.string {data:=#[]},.int .i64 0]:=by rw [hW0];exact Row.new _ _ _
 have hb0:Below w.heap.size w W0:=by rw [hW0];exact (af _ _).alloc (aa _) _
 have R0:=hide r0;have mi:=hide hb0;have H0:=hide (H.o.below hb0);have HW0:=hide hW0;clear r0 hb0 hW0
 cases hR:cW p.L k q with
 |false=>
  have FL:=hide (fun (W:World) (h:bQ p W k)=>pB p k W h);rw [tO hR];rw [hR] at KD;clear hR h;generalize eO p.L p.en k=pl at*;go_enter Tryz.func138,Tryz.ntmps138;go_wp2_with fail;rw [←HW0.o];refine (KD.o _ H0.o).mono ?_;rintro e w1 ⟨rfl,hb1⟩;have FL2:=hide (FL.o w1 (H0.o.below hb1));have dX:=hide (mi.o.trans (hb1.mono mi.o.size));clear hb1;go_wp2_with fail;refine FL2.o.mono ?_;rintro e w3 ⟨rfl,hb⟩;go_wp2;exact ⟨rfl,rfl,ah.of_below (dX.o.trans (hb.mono dX.o.size)) (aa _)⟩
 |true=>
  have hk:=fp hR;rw [jW hR];rw [hR] at KD;obtain ⟨bl,off,hA,hne,hz,_⟩:=h.lex hk
  have LX:=hide (fun (W:World) (h:bQ p W (k+1))=>show W.cell? ⟨bl,off+k*3,none⟩=some (.int .i64 p.L[k].kind)∧W.cell? ⟨bl,off+k*3+1,none⟩=some (.string (ag p.L[k].text))∧W.cell? ⟨bl,off+k*3+2,none⟩=some (.int .i64 (p.L[k].az:Int)) from by
   obtain ⟨bl',off',hA',hat⟩:=h.lx (by omega);rw [hA] at hA';cases hA'
   exact hat k hk)
  generalize p.L[k]=x at*;clear hR h;go_enter Tryz.func138,Tryz.ntmps138;go_wp2_with fail;rw [←HW0.o];refine (KD.o _ H0.o).mono ?_;rintro e w1 ⟨rfl,hb1⟩;have hr1:=R0.o.below hb1 R0.o.lt;have h1:=H0.o.below hb1;have hb2:=mi.o.trans (hb1.mono mi.o.size);obtain ⟨_,c1,_,_,f1⟩:=h1.cells;have hw1:IntKind.i64.wrap ((k:Int)+1)=(k:Int)+1:=bI _ (by omega)
  have hw2:IntKind.i64.wrap ((k:Int)+1-1)=(k:Int):=by rw [show (k:Int)+1-1=(k:Int) by omega];exact bI _ (by omega)
  have hlk:(k:Int)<(p.L.length:Int):=by omega
  have uQ:(0:Int)≤(k:Int):=by omega
  obtain ⟨W2,hW2⟩:∃W2,W2=w1.setCell ⟨p.b,1,none⟩ (.int .i64 ((k:Int)+1)):=⟨_,rfl⟩
  have h2:bQ p W2 (k+1):=by rw [hW2];exact h1.next' hk
  have hr2:Row W2 w.heap.size 66 #[.int .i64 0,.string {data:=#[]},.int .i64 0]:=by
   rw [hW2];exact hr1.far (p:=⟨p.b,1,none⟩) (by show w.heap.size≠p.b;omega) _
  have hk2:ah (fun c=>c=p.b) w W2:=by rw [hW2];exact (ah.of_below (C:=fun c=>c=p.b) hb2 (aa _)).set (.inl rfl) 1 _
  clear hr1 h1 hb1 hb2;go_wp2_with fail;generalize hWX:World.setCell w1 _ _=WX at hW2⊢;subst hW2;have hz2:w.heap.size<W2.heap.size:=hr2.lt;obtain ⟨l0,l1,l2⟩:=LX.o W2 h2;obtain ⟨c0,c1',_⟩:=h2.cells
  have c1:W2.cell? ⟨p.b,1,none⟩=some (.int .i64 ((k:Int)+1)):=by rw [c1'];congr 2
  rw [hA] at c0;clear c1';have R3:=hide (((hr2.bU 0 (.int .i64 x.kind)).bU 1 (.string (ag x.text))).bU 2 (.int .i64 (x.az:Int)));have B3:=hide ((((af w.heap.size W2).setCell (p:=⟨w.heap.size,0,none⟩) (aa _) (.int .i64 x.kind)).setCell (p:=⟨w.heap.size,1,none⟩) (aa _) (.string (ag x.text))).setCell (p:=⟨w.heap.size,2,none⟩) (aa _) (.int .i64 (x.az:Int)));have KP:=hide hk2;have H2:=hide h2;have e0:W2.cell? ⟨w.heap.size,0,none⟩=some (.int .i64 0):=hr2.cell 0;have e1:W2.cell? ⟨w.heap.size,1,none⟩=some (.string {data:=#[]}):=hr2.cell 1;have e2:W2.cell? ⟨w.heap.size,2,none⟩=some (.int .i64 0):=hr2.cell 2;have j0:=hr2.frozen 0;have j1:=hr2.frozen 1;have j2:=hr2.frozen 2;clear hk2 h2 hr2 hWX
  go_region
  go_wp2_with fail;refine bodyPost_ret (v:=.agg #[.int .i64 x.kind,.string (ag x.text),.int .i64 (x.az:Int)]) (ai rfl _ _ w.heap.size 66 _ _ _ rfl R3.o Tryz.underlying66 rfl (by kernel_rfl)) rfl ?_;exact ⟨⟨_,rfl,rfl⟩,H.o.above H2.o B3.o.drew,KP.o.over B3.o.drew⟩
theorem MB (L:List Lx) (en:Int) (k:Nat) (most:Int):gN L en k most=(qO L en k 1).bind fun x k'=>if most<(dv x.text:Int) then .err (x.az:Int) 2 else .ok (dv x.text:Int) k':=by
 unfold gN
 cases h:cW L k 1 with
 |false=>rw [tO h];rfl
 |true=>
  rw [jW h,if_pos rfl]
  show (if most<(dv (kx L k):Int) then _ else _)=if most<(dv (L[k]'_).text:Int) then _ else _
  have hk:=fp h;unfold kx;rw [List.getElem?_eq_getElem hk,CE hk]
theorem Ql (l:List UInt8) (hd:∀c∈l,bg c=true) (h1:1≤l.length) (h2:l.length≤15) (w:World):
 Calls Tryz.prog 139 #[.string (ag l)] w fun e w'=>e=.returned (.tuple #[.int .i64 (dv l:Int),.nilIface])∧Below w.heap.size w w':=by
 refine (Tryz.strconv_Atoi (ag l) (dv l:Int) (by rw [aO];omega) ?_ w).mono ?_
 ·rw [dD];have:=JY l l.length (fun j h _=>P_ _ (hd _ (cI h))) (aa _) h1;rwa [List.take_length] at this
 ·rintro e w' ⟨rfl,t,rfl⟩;exact ⟨rfl,rfl,rfl,rfl,by rw [Lib.bytesWorld_size];omega,fun k hk=>Lib.bytesWorld_at_old w _ _ k hk⟩
theorem MC {L:List Lx} {en q:Int} {k k':Nat} {x:Lx} (h:qO L en k q=.ok x k'):x∈L∧x.kind=q∧k'=k+1∧k<L.length:=by
 unfold qO ik at h
 split at h
 ·rename_i hk;have hl:=fp hk;rw [List.getElem?_eq_getElem hl] at h;cases h;rw [tN hl,cS,decide_eq_true_eq] at hk;exact ⟨cI hl,hk.1,rfl,hl⟩
 ·cases h
theorem rN (p:PS) (k:Nat) (most:Int) (w:World) (h:bQ p w k):
 Calls Tryz.prog 99 #[.pointer (some ⟨p.b,0,none⟩),.int .i64 most] w (cQ p w Qk (gN p.L p.en k most)):=by
 have TK:=hide (pC p k 1 w h);have H:=hide h;rw [MB]
 cases hR:qO p.L p.en k 1 with
 |err a er=>
  rw [hR] at TK;show Calls _ _ _ _ (cQ p w Qk (.err a er));clear hR h;go_enter Tryz.func99,Tryz.ntmps99;go_wp2_with fail;refine TK.o.mono ?_;rintro e w1 ⟨rfl,hk⟩;go_wp2;exact ⟨rfl,rfl,hk⟩
 |ok x k'=>
  rw [hR] at TK;obtain ⟨hm,hx1,rfl,hlt⟩:=MC hR;obtain ⟨d1,d2,d3⟩:=(h.good x hm).num hx1;have AT:=hide (fun W:World=>Ql x.text d1 d2 d3 W);show Calls _ _ _ _ (cQ p w Qk (if most<(dv x.text:Int) then .err (x.az:Int) 2 else .ok (dv x.text:Int) (k+1)));generalize (dv x.text:Int)=N at*;clear hR h hm d1 d2 d3;by_cases hN:most<N
  ·rw [if_pos hN];have hN':N>most:=hN;go_enter Tryz.func99,Tryz.ntmps99;go_wp2_with fail;refine TK.o.mono ?_;rintro e w1 ⟨⟨v,rfl,rfl⟩,h1,hk⟩;go_wp2_with fail;refine (AT.o _).mono ?_;rintro e w2 ⟨rfl,hb2⟩;have hr2:=(Row.new w1 66 #[.int .i64 1,.string (ag x.text),.int .i64 (x.az:Int)]).below hb2 (by simp);have hb3:Below w1.heap.size w1 w2:=((af _ w1).alloc (aa _) _).trans (hb2.mono (by simp));have g2:w2.cell? ⟨w1.heap.size,2,none⟩=some (.int .i64 (x.az:Int)):=hr2.cell 2;clear hb2 hr2;go_wp2;exact ⟨rfl,rfl,hk.trans (ah.of_below hb3 (aa _))⟩
  ·rw [if_neg hN];have hN':¬N>most:=hN;go_enter Tryz.func99,Tryz.ntmps99;go_wp2_with fail;refine TK.o.mono ?_;rintro e w1 ⟨⟨v,rfl,rfl⟩,h1,hk⟩;go_wp2_with fail;refine (AT.o _).mono ?_;rintro e w2 ⟨rfl,hb2⟩;have hr2:=(Row.new w1 66 #[.int .i64 1,.string (ag x.text),.int .i64 (x.az:Int)]).below hb2 (by simp);have hb3:Below w1.heap.size w1 w2:=((af _ w1).alloc (aa _) _).trans (hb2.mono (by simp));have g2:w2.cell? ⟨w1.heap.size,2,none⟩=some (.int .i64 (x.az:Int)):=hr2.cell 2;clear hb2 hr2;go_wp2;go_ret;exact ⟨⟨_,rfl,rfl⟩,h1.below hb3,hk.trans (ah.of_below hb3 (aa _))⟩
end Go.Proofs.YtddoehnkgcbboaaGreatDoor
namespace Go.Proofs.YtddoehnkgcbboaaGreatDoor
open Go.RowKit Go.Shelf
open Go.ChangeMaps (setBlock)
def nR (W:World) (bm:Nat) (ops:List (List UInt8×Int)):Prop:=
 ∃es clock,W.heap[bm]? =some (.map es clock)∧(es.toList.map fun e=>(e.key,e.val))=ops.map (fun o=>(Value.string (ag o.1),Value.int .i64 o.2))∧(∀e∈es.toList,e.born<clock)∧(es.toList.map (·.born)).Nodup
def dQ (ops:List (List UInt8×Int)):Prop:=∀a∈ops,∀b∈ops,a.1=b.1→a.2=b.2
theorem Qm {L:List Lx} {k:Nat} {a b:List UInt8} (ha:b_ L k a=true) (hb:b_ L k b=true):a=b:=by
 have hk:=xj ha;rw [Qj hk,cS,decide_eq_true_eq] at ha hb;rw [←ha.2,hb.2]
theorem Qn {L:List Lx} {ops:List (List UInt8×Int)} {k:Nat} (hu:dQ ops) {o:List UInt8×Int} (ho:o∈ops) (h:b_ L k o.1=true):kj L ops k=some o.2:=by
 unfold kj
 cases hf:ops.find? (fun p=>b_ L k p.1) with
 |none=>exact absurd h (List.find?_eq_none.1 hf o ho)
 |some x=>
  have hx:=List.find?_some hf;have hm:=List.mem_of_find?_eq_some hf;show some x.2=some o.2;rw [hu x hm o ho (Qm hx h)]
theorem Qo {L:List Lx} {ops:List (List UInt8×Int)} {k:Nat} (h:∀o∈ops,b_ L k o.1=false):kj L ops k=none:=by
 unfold kj;rw [List.find?_eq_none.2 (fun o ho=>by rw [h o ho];decide)];rfl
def vQ (L:List Lx) (en:Int) (ops:List (List UInt8×Int)) (k:Nat):Ending:=match kj L ops k with
 |some q=>.returned (.tuple #[.int .i64 q,.int .i64 (eO L en k)])
 |none=>.returned (.tuple #[.int .i64 0,.int .i64 0])
def vR (L:List Lx) (ops:List (List UInt8×Int)) (k:Nat):Nat:=match kj L ops k with|some _=>k+1|none=>k
theorem jX {w w1:World} {r:Nat} {o o':Obj} (hr:w.heap[r]? =some o) (hw:w1=w∨w1=w.drew):(setBlock w1 r o').heap[r]? =some o'∧(∀b,b≠r→(setBlock w1 r o').heap[b]? =w.heap[b]?)∧(setBlock w1 r o').heap.size=w.heap.size∧(setBlock w1 r o').tape=w.tape∧(setBlock w1 r o').os=w.os∧(setBlock w1 r o').output=w.output:=by
 have hlt:r<w.heap.size:=(Array.getElem?_eq_some_iff.1 hr).1
 have hh:w1.heap=w.heap:=by rcases hw with rfl|rfl<;>rfl
 refine ⟨?_,fun b hb=>?_,?_,?_,?_,?_⟩
 ·show (w1.heap.setIfInBounds r o')[r]? =some o';rw [hh];simp [hlt]
 ·show (w1.heap.setIfInBounds r o')[b]? =_;rw [hh,Array.getElem?_setIfInBounds_ne (fun e=>hb e.symm)]
 ·show (w1.heap.setIfInBounds r o').size=_;rw [hh];simp
 ·rcases hw with rfl|rfl<;>rfl
 ·rcases hw with rfl|rfl<;>rfl
 ·rcases hw with rfl|rfl<;>rfl
structure IB (p:PS) (w:World) (k bm:Nat) (es:Array MapEntry) (clock:Nat) (W:World) (seen:Array Nat) (c0:Nat):Prop where
 at_:bQ p W k
 keeps:ah (fun c=>c=p.b) w W
 it:W.heap[w.heap.size]? =some (.mapIter (some bm) clock seen c0)
 since:clock≤c0
theorem IB.map {p:PS} {w W:World} {k bm clock c0:Nat} {es:Array MapEntry} {seen:Array Nat} (h:IB p w k bm es clock W seen c0) (hm:w.heap[bm]? =some (.map es clock)) (hb:bm≠p.b):W.heap[bm]? =some (.map es clock):=
 (h.keeps.block bm ((Array.getElem?_eq_some_iff.1 hm).1) hb).trans hm
theorem jg (p:PS) (k bm:Nat) (ops:List (List UInt8×Int)) (w:World) (h:bQ p w k) (hm:nR w bm ops) (hb:bm≠p.b) (hu:dQ ops):
 Calls Tryz.prog 49 #[.pointer (some ⟨p.b,0,none⟩),.map (some bm)] w fun e w'=>e=vQ p.L p.en ops k∧bQ p w' (vR p.L ops k)∧ah (fun c=>c=p.b) w w':=by
 obtain ⟨es,clock,hes,km,vS,hnd⟩:=hm;have hbz:p.b<w.heap.size:=h.row.lt;have Wv:bm<w.heap.size:=(Array.getElem?_eq_some_iff.1 hes).1;have hrg:=run_range_map (P:=Tryz.prog) w 63 9 3 bm es clock Tryz.underlying63 hes
 have KV:=hide (fun (e:MapEntry) (he:e∈es.toList)=>show ∃o∈ops,e.key=.string (ag o.1)∧e.val=.int .i64 o.2 from by
  have h1:(e.key,e.val)∈es.toList.map fun e=>(e.key,e.val):=List.mem_map.2 ⟨e,he,rfl⟩;rw [km] at h1;obtain ⟨o,ho,Ae⟩:=List.mem_map.1 h1
  exact ⟨o,ho,(congrArg Prod.fst Ae).symm,(congrArg Prod.snd Ae).symm⟩)
 have VK:=hide (fun (o:List UInt8×Int) (ho:o∈ops)=>show ∃e∈es.toList,e.key=.string (ag o.1) from by
  have h1:(Value.string (ag o.1),Value.int .i64 o.2)∈ops.map (fun o=>(Value.string (ag o.1),Value.int .i64 o.2)):=List.mem_map.2 ⟨o,ho,rfl⟩;rw [←km] at h1;obtain ⟨e,he,Ae⟩:=List.mem_map.1 h1
  exact ⟨e,he,congrArg Prod.fst Ae⟩)
 have HS:=hide (fun q (hq:kj p.L ops k=some q)=>show vQ p.L p.en ops k=.returned (.tuple #[.int .i64 q,.int .i64 (eO p.L p.en k)])∧vR p.L ops k=k+1 from by unfold vQ vR;rw [hq];exact ⟨rfl,rfl⟩);have HN:=hide (fun (hq:kj p.L ops k=none)=>show vQ p.L p.en ops k=.returned (.tuple #[.int .i64 0,.int .i64 0])∧vR p.L ops k=k from by unfold vQ vR;rw [hq];exact ⟨rfl,rfl⟩);have PL:=hide (fun (W:World) (h:bQ p W k)=>gD p k W h);have AC:=hide (fun (wd:List UInt8) (W:World) (h:bQ p W k)=>eW p k wd W h);have HU:=hide hu;have H:=hide h;have HBN:=hide vS;have fR:=hide hnd;have YE:=hide hes
 have HA:=hide (show IB p w k bm es clock (w.alloc (.mapIter (some bm) clock #[] clock)) #[] clock from
  ⟨h.below ((af _ w).alloc (aa _) _),ah.of_below ((af _ w).alloc (aa _) _) (aa _),heap_alloc_new w _,aa _⟩)
 generalize vQ p.L p.en ops k=EE at*;generalize vR p.L ops k=kk at*;clear km vS hnd hes hu h;go_enter Tryz.func49,Tryz.ntmps49;go_wp2_with fail;clear hrg
 go_loopw [] (fun W=>∃(seen:Array Nat) (c0:Nat),IB p w k bm es clock W seen c0∧∀e∈es.toList,e.born∈seen→∀wd,e.key=.string (ag wd)→b_ p.L k wd=false) (fun W=>(leftOf es (W.iterSeen w.heap.size)).size)
 case atStart=>exact ⟨#[],clock,HA.o,fun e _ he=>absurd he (by simp)⟩
 case round=>
  obtain ⟨seen,c0,hat,hno⟩:=hrel;have law:=run_next_at (P:=Tryz.prog) wr 0 w.heap.size bm clock c0 seen es clock hat.it (hat.map YE.o hb) HBN.o hat.since
  rcases law with ⟨h0,hrun⟩|⟨e,he,w1,hw1,hrun⟩
  ·have hnx:∀ty,(Instr.next (.pointer (some ⟨w.heap.size,0,none⟩)) false ty).run Tryz.prog wr=_:=fun _=>hrun
   have hall:∀e∈es.toList,e.born∈seen:=fun e he=>by
    by_cases hc:e.born∈seen
    ·exact hc
    ·exfalso
     have:e∈leftOf es seen:=by
      unfold leftOf;rw [Array.mem_filter];exact ⟨by simpa using he,by simpa using hc⟩
     have h1:=Array.size_pos_of_mem this;omega
   have hnone:kj p.L ops k=none:=Qo fun o ho=>by
    obtain ⟨e,he,hk⟩:=VK.o o ho;exact hno e he (hall e he) o.1 hk
   obtain ⟨hE,hK⟩:=HN.o hnone;have HF:=ae (EE=_∧bQ p wr kk∧ah (fun c=>c=p.b) w wr) (⟨hE,by rw [hK];exact hat.at_,hat.keeps⟩);clear hno hall hnone hE hK hat hrun;go_wp2
   go_ret2
   exact ⟨HF.o.1.symm,HF.o.2⟩
  ·obtain ⟨o,ho,hkey,hval⟩:=KV.o e (mem_left he).1;rw [hkey,hval] at hrun;obtain ⟨b1,b2,b3,b4,b5,b6⟩:=jX (o':=.mapIter (some bm) clock (seen.push e.born) clock) hat.it hw1
   obtain ⟨W2,hW2⟩:∃W2,W2=setBlock w1 w.heap.size (.mapIter (some bm) clock (seen.push e.born) clock):=⟨_,rfl⟩
   rw [←hW2] at hrun b1 b2 b3 b4 b5 b6
   have hB:Below w.heap.size wr W2:=⟨b5,b4,b6,Nat.le_of_eq b3.symm,fun b hb=>b2 b (by omega)⟩
   have tP:IB p w k bm es clock W2 (seen.push e.born) clock:=⟨H.o.above hat.at_ hB,hat.keeps.over hB,b1,aa _⟩
   have hnx:∀ty,(Instr.next (.pointer (some ⟨w.heap.size,0,none⟩)) false ty).run Tryz.prog wr=_:=fun _=>hrun;have hen:=run_entry_at (P:=Tryz.prog) W2 w.heap.size bm clock seen es clock e b1 (tP.map YE.o hb) (mem_left he).1 fR.o;rw [hkey,hval] at hen;have HE:=hide he;have HKE:=hide hkey;have CG:=hide tP;have Ti:=hide hno;have HIT:=hide hat.it;clear b1 b2 b3 b4 b5 b6 hW2 hB he hkey hval hno hrun hat hw1 tP;go_wp2_with fail;refine (PL.o W2 CG.o.at_).mono ?_;rintro e3 W3 ⟨rfl,hb3⟩
   have CH:IB p w k bm es clock W3 (seen.push e.born) clock:=⟨CG.o.at_.below hb3,CG.o.keeps.trans (ah.of_below hb3 (aa _)),(hb3.block _ (Array.getElem?_eq_some_iff.1 CG.o.it).1).trans CG.o.it,aa _⟩
   have CI:=hide CH;have UK:=hide (AC.o o.1 W3 CH.at_);clear hb3 CH hnx hen
   cases hI:b_ p.L k o.1 with
   |true=>
    rw [hI] at UK;obtain ⟨hE,hK⟩:=HS.o o.2 (Qn HU.o ho hI);have HF:=hide (And.intro hE hK);clear hI hE hK;go_wp2_with fail;refine UK.o.mono ?_;rintro e4 W4 ⟨rfl,h4,hk4⟩;go_wp2
    go_ret2
    exact ⟨HF.o.1.symm,by rw [HF.o.2];exact h4,CI.o.keeps.trans hk4⟩
   |false=>
    rw [hI] at UK;have HI:=hide hI;clear hI;go_wp2_with fail;refine UK.o.mono ?_;rintro e4 W4 ⟨rfl,h4,hk4⟩
    have hne:w.heap.size≠p.b:=by omega
    have aa_:W4.heap[w.heap.size]? =some (.mapIter (some bm) clock (seen.push e.born) clock):=(hk4.block _ (Array.getElem?_eq_some_iff.1 CI.o.it).1 hne).trans CI.o.it;have Qp:=ae (IB p w k bm es clock W4 (seen.push e.born) clock) (⟨h4,CI.o.keeps.trans hk4,aa_,aa _⟩);clear h4 hk4 aa_;go_wp2;go_roundw
    case rel=>exact ⟨seen.push e.born,clock,Qp.o,fun e' he' hs wd hk=>by
     rcases Array.mem_push.1 hs with h1|h1
     ·exact Ti.o e' he' h1 wd hk
     ·have:e'=e:=by
       have h2:=find_born e es.toList fR.o (mem_left HE.o).1;have h3:=find_born e' es.toList fR.o he';rw [h1] at h3;exact au (h3.symm.trans h2)
      subst this;have h5:=HKE.o.symm.trans hk;injection h5 with h5
      rw [←EW h5];exact HI.o⟩
    case measure=>
     have e1:W4.iterSeen w.heap.size=seen.push e.born:=by unfold World.iterSeen;rw [Qp.o.it]
     have e2:wr.iterSeen w.heap.size=seen:=by unfold World.iterSeen;rw [HIT.o]
     rw [e1,e2];exact left_shrinks es seen e HE.o
end Go.Proofs.YtddoehnkgcbboaaGreatDoor
namespace Go.Proofs.YtddoehnkgcbboaaGreatDoor
open Go.RowKit Go.Shelf
theorem bind_ok {α β:Type} {r:PR α} {f:α→Nat→PR β} {y:β} {k':Nat} (h:r.bind f=.ok y k'):∃x k,r=.ok x k∧f x k=.ok y k':=by
 cases r with
 |ok x k=>exact ⟨x,k,rfl,h⟩
 |err a e=>cases h
def Prog {α:Type} (f:Nat→PR α):Prop:=∀k x k',f k=.ok x k'→k≤k'
section
variable {L : List Lx} {en : Int} {rd : List UInt8 → Int × Int}
theorem IC {k:Nat} {w:List UInt8} (h:b_ L k w=true):k<L.length:=by
 unfold b_ at h
 rcases Nat.lt_or_ge k L.length with h1|h1
 ·exact h1
 ·rw [List.getElem?_eq_none h1] at h;cases h
theorem YF {ops:List (List UInt8×Int)} {k:Nat} {q:Int} (h:kj L ops k=some q):k<L.length:=by
 unfold kj at h
 cases hf:ops.find? (fun p=>b_ L k p.1) with
 |none=>rw [hf] at h;cases h
 |some p=>exact IC (w:=p.1) (List.find?_some (p:=fun p:List UInt8×Int=>b_ L k p.1) hf)
theorem Km {ops:List (List UInt8×Int)} {k:Nat} (h:L.length≤k):kj L ops k=none:=by
 cases ho:kj L ops k with
 |none=>rfl
 |some q=>have:=YF ho;omega
theorem aS {k k':Nat} {w:List UInt8} {x:Unit} (h:av L en k w=.ok x k'):k'=k+1∧b_ L k w=true:=by
 unfold av at h
 split at h
 ·rename_i hi;cases h;exact ⟨rfl,hi⟩
 ·cases h
theorem kK {k k':Nat} {most x:Int} (h:gN L en k most=.ok x k'):k'=k+1:=by
 unfold gN at h
 split at h
 ·split at h
  ·cases h
  ·cases h;rfl
 ·cases h
theorem jY {k k':Nat} {x:Int} (h:dE L en rd k=.ok x k'):k'=k+1:=by
 unfold dE at h
 split at h
 ·split at h
  ·cases h;rfl
  ·cases h
 ·exact kK h
theorem yH {ops:List (List UInt8×Int)} {f:Nat→PR Nd} (hf:Prog f):∀(m:Nat) (n:Nd) (k:Nat) (x:Nd) (k':Nat),g_ L en ops f m n k=.ok x k'→k≤k'
 |0,n,k,x,k',h=>by cases h;exact aa _
 |m+1,n,k,x,k',h=>by
  unfold g_ at h
  split at h
  ·cases h;exact aa _
  ·obtain ⟨y,k1,h1,h2⟩:=bind_ok h;have a:=hf _ _ _ h1;have b:=yH hf m _ _ _ _ h2;omega
theorem bP {ops:List (List UInt8×Int)} {f:Nat→PR Nd} (hf:Prog f):Prog (dN L en ops f):=fun k x k' h=>by
 obtain ⟨y,k1,h1,h2⟩:=bind_ok h;have a:=hf _ _ _ h1;have b:=yH hf _ _ _ _ _ h2;omega
theorem Bb {ng cmp:Nat→PR Nd} (h1:Prog ng) (h2:Prog cmp):Prog (yE L en ng cmp):=fun k x k' h=>by
 unfold yE at h
 split at h
 ·obtain ⟨y,k1,h3,h4⟩:=bind_ok h;cases h4;have:=h1 _ _ _ h3;omega
 ·exact h2 _ _ _ h
theorem uY {fo:Nat→PR Nd} (h1:Prog fo):Prog (Aj L en fo):=fun k x k' h=>by
 obtain ⟨y,k1,h2,h3⟩:=bind_ok h;have a:=h1 _ _ _ h2
 split at h3
 ·cases h3;exact a
 ·obtain ⟨z,k2,h4,h5⟩:=bind_ok h3;cases h5;have:=h1 _ _ _ h4;omega
theorem EZ {n:Nd}:Prog (ky L en n):=fun k x k' h=>by
 obtain ⟨a,k1,h1,h2⟩:=bind_ok h;have e1:=kK h1
 split at h2
 ·obtain ⟨b,k2,h3,h4⟩:=bind_ok h2;obtain ⟨_,k3,h5,h6⟩:=bind_ok h4;cases h6;have e2:=kK h3;have e3:=(aS h5).1;omega
 ·obtain ⟨_,k3,h5,h6⟩:=bind_ok h2;cases h6;have e3:=(aS h5).1;omega
theorem E0 {un uW:Nat→PR Nd} (h1:Prog un) (h2:Prog uW):Prog (zP L en un uW):=fun k x k' h=>by
 unfold zP at h
 split at h
 ·obtain ⟨y,k1,h3,h4⟩:=bind_ok h;cases h4;have:=h1 _ _ _ h3;omega
 ·split at h
  ·split at h
   ·cases h;omega
   ·cases h
  ·obtain ⟨y,k1,h3,h4⟩:=bind_ok h;have a:=h2 _ _ _ h3
   split at h4
   ·have:=EZ _ _ _ h4;omega
   ·cases h4;exact a
theorem yI {fo:Nat→PR Nd} (hb:Prog fo):∀(m:Nat) (l:List Nd) (k:Nat) (x:List Nd) (k':Nat),il L fo m l k=.ok x k'→k≤k'
 |0,l,k,x,k',h=>by cases h;exact aa _
 |m+1,l,k,x,k',h=>by
  unfold il at h
  split at h
  ·obtain ⟨y,k1,h1,h2⟩:=bind_ok h;have a:=hb _ _ _ h1;have b:=yI hb m _ _ _ _ h2;omega
  ·cases h;exact aa _
theorem xk {k k':Nat} {f:Int→Int→Nat→PR Nd} {x:Nd} (h:nQ L en rd k f=.ok x k'):∃a b,f a b (k+3)=.ok x k':=by
 obtain ⟨a,k1,h1,h2⟩:=bind_ok h;obtain ⟨_,k2,h3,h4⟩:=bind_ok h2;obtain ⟨b,k3,h5,h6⟩:=bind_ok h4;have e1:=jY h1;have e2:=(aS h3).1;have e3:=jY h5;subst e1 e2 e3;exact ⟨a,b,h6⟩
theorem ID {cond:Nat→PR Nd} (hc:Prog cond) (q az:Int):Prog (jU L en rd cond q az):=fun k x k' h=>by
 obtain ⟨_,k1,h1,h2⟩:=bind_ok h;obtain ⟨y,k2,h3,h4⟩:=bind_ok h2;obtain ⟨_,k3,h5,h6⟩:=bind_ok h4;have e1:=(aS h1).1;have e2:=hc _ _ _ h3;have e3:=(aS h5).1
 split at h6
 ·obtain ⟨z,k4,h7,h8⟩:=bind_ok h6;obtain ⟨_,k5,h9,h10⟩:=bind_ok h8;obtain ⟨a,b,h11⟩:=xk h10;obtain ⟨_,k6,h12,tQ⟩:=bind_ok h11;cases tQ;have e4:=hc _ _ _ h7;have e5:=(aS h9).1;have e6:=(aS h12).1;omega
 ·obtain ⟨a,b,h11⟩:=xk h6;obtain ⟨_,k6,h12,tQ⟩:=bind_ok h11;cases tQ;have e6:=(aS h12).1;omega
theorem rO {cond fo:Nat→PR Nd} (hc:Prog cond) (hb:Prog fo):Prog (eJ L en rd cond fo):=fun k x k' h=>by
 unfold eJ at h
 split at h
 ·cases h;omega
 ·split at h
  ·cases h;omega
  ·split at h
   ·cases h;omega
   ·split at h
    ·obtain ⟨y,k1,h1,h2⟩:=bind_ok h;obtain ⟨_,k2,h3,h4⟩:=bind_ok h2;cases h4;have:=hc _ _ _ h1;have:=(aS h3).1;omega
    ·split at h
     ·obtain ⟨y,k1,h1,h2⟩:=bind_ok h;obtain ⟨l,k2,h3,h4⟩:=bind_ok h2;obtain ⟨_,k3,h5,h6⟩:=bind_ok h4;cases h6;have:=hb _ _ _ h1;have:=yI hb _ _ _ _ _ h3;have:=(aS h5).1;omega
     ·split at h
      ·obtain ⟨_,k1,h1,h2⟩:=bind_ok h;obtain ⟨y,k2,h3,h4⟩:=bind_ok h2;obtain ⟨_,k3,h5,h6⟩:=bind_ok h4;cases h6;have:=(aS h1).1;have:=hc _ _ _ h3;have:=(aS h5).1;omega
      ·split at h
       ·have:=ID hc _ _ _ _ _ h;omega
       ·cases h
theorem MD {un:Nat→PR Nd} (h:Prog un):Prog (YB L en un):=bP (bP (bP (bP h)))
structure UL (F:Fns):Prop where
 cond:Prog F.cond
 ng:Prog F.ng
 fo:Prog F.fo
 un:Prog F.un
theorem dR:∀F,UL (cF L en rd F)
 |0=>⟨fun k x k' h=>(by cases h),fun k x k' h=>(by cases h),fun k x k' h=>(by cases h),fun k x k' h=>(by cases h)⟩
 |F+1=>by
  have ih:=dR F;have hun:Prog (zP L en (cF L en rd F).un (eJ L en rd (cF L en rd F).cond (cF L en rd F).fo)):=E0 ih.un (rO ih.cond ih.fo);have Qq:=MD (L:=L) (en:=en) hun;have ko:=Bb (L:=L) (en:=en) ih.ng (uY (L:=L) (en:=en) Qq);exact ⟨bP (bP ko),ko,Qq,hun⟩
theorem yJ {ops:List (List UInt8×Int)} {f:Nat→PR Nd} (hf:Prog f):∀(m m':Nat) (n:Nd) (k:Nat),L.length<m+k→L.length<m'+k→g_ L en ops f m n k=g_ L en ops f m' n k
 |0,0,n,k,_,_=>rfl
 |0,m'+1,n,k,h,_=>by unfold g_;rw [Km (by omega)]
 |m+1,0,n,k,_,h=>by
  conv=>lhs;unfold g_
  rw [Km (by omega)];rfl
 |m+1,m'+1,n,k,h,h'=>by
  unfold g_
  cases ho:kj L ops k with
  |none=>rfl
  |some q=>
   simp only
   cases hx:f (k+1) with
   |err a e=>rfl
   |ok x k1=>
    have:=hf _ _ _ hx;exact yJ hf m m' _ _ (by omega) (by omega)
def vT (L:List Lx) (en:Int) (ops:List (List UInt8×Int)) (f:Nat→PR Nd) (n:Nd) (k:Nat):PR Nd:=g_ L en ops f (L.length+1) n k
theorem yK {ops:List (List UInt8×Int)} {f:Nat→PR Nd} {n:Nd} {k:Nat} (h:kj L ops k=none):vT L en ops f n k=.ok n k:=by
 unfold vT g_;rw [h]
theorem yL {ops:List (List UInt8×Int)} {f:Nat→PR Nd} (hf:Prog f) {n x:Nd} {k k':Nat} {q:Int} (h:kj L ops k=some q) (hx:f (k+1)=.ok x k'):vT L en ops f n k=vT L en ops f (.mk q (eO L en k) [] [] 0 0 0 0 [n,x]) k':=by
 have:=hf _ _ _ hx
 conv=>lhs;unfold vT g_
 rw [h];simp only [hx,PR.bind];exact yJ hf _ _ _ _ (by omega) (by omega)
theorem Kn {ops:List (List UInt8×Int)} {f:Nat→PR Nd} {n:Nd} {k k':Nat} (h:f k=.ok n k'):dN L en ops f k=vT L en ops f n k':=by
 unfold dN;rw [h];rfl
end
def qI (B:Nat) (W:World) (n:Nd) (v:Value):Prop:=∃cs:List Value,v=.agg cs.toArray∧cK (fun b=>b<B) W n cs
def cY (p:PS) (f:FuncId) (r:Nat→PR Nd) (F:Nat):Prop:=
 ∀k W,p.L.length<F+k→bQ p W k→Calls Tryz.prog f #[.pointer (some ⟨p.b,0,none⟩)] W (cQ p W (qI W.heap.size) (r k))
def cG:Array Value:=#[.int .i64 0,.int .i64 0,.string {data:=#[]},.string {data:=#[]},.int .i64 0,.int .i64 0,.int .i64 0,.int .i64 0,.slice none 0 0]
def placeOf (p:PS) (W:World):Nat:=(intOf ((W.cell? ⟨p.b,1,none⟩).getD undef)).toNat
theorem di {p:PS} {W:World} {k:Nat} (h:bQ p W k):placeOf p W=k:=by
 unfold placeOf;rw [h.cells.2.1];simp [intOf]
theorem cK.ge {C:Nat→Prop} {W W':World} {n:Nd} {cs:List Value} (h:cK C W n cs) (hb:Below W.heap.size W W'):cK (fun b=>C b∨W.heap.size≤b) W' n cs:=by
 induction h with
 |mk kind az name value a b c d ks A cap bH hl _ hr hcap ih=>
  refine .mk _ _ _ _ _ _ _ _ _ _ _ bH hl ih ?_ hcap;intro hp;obtain ⟨b,off,rfl,hnb,hz,hat⟩:=hr hp;exact ⟨b,off,rfl,fun e=>e.elim hnb (fun e=>by omega),cJ hz hb.size,fun i hi j hj=>(hb.cell (p:=⟨b,_,none⟩) hz).trans (hat i hi j hj)⟩
structure cU (p:PS) (w:World) (g7:Nat) (W:World) (n:Nd) (cs:List Value) (k:Nat):Prop where
 at_:bQ p W k
 keeps:ah (fun c=>c=p.b) w W
 res:Row W w.heap.size 25 cG
 row:Row W g7 25 cs.toArray
 nd:cK (fun b=>b≤w.heap.size∨b=g7) W n cs
abbrev kH (W:World) (g:Nat) (a0 a1 a2 a3 a4 a5 a6 a7 a8:Value):World:=(((((((((W.setCell ⟨g,0,none⟩ a0).setCell ⟨g,1,none⟩ a1).setCell ⟨g,2,none⟩ a2).setCell ⟨g,3,none⟩ a3).setCell ⟨g,4,none⟩ a4).setCell ⟨g,5,none⟩ a5).setCell ⟨g,6,none⟩ a6).setCell ⟨g,7,none⟩ a7).setCell ⟨g,8,none⟩ a8)
theorem aJ {W:World} {g:Nat} {t:TypeId} {x0 x1 x2 x3 x4 x5 x6 x7 x8:Value} (h:Row W g t #[x0,x1,x2,x3,x4,x5,x6,x7,x8]) (a0 a1 a2 a3 a4 a5 a6 a7 a8:Value):Row (kH W g a0 a1 a2 a3 a4 a5 a6 a7 a8) g t #[a0,a1,a2,a3,a4,a5,a6,a7,a8]:=by
 have h0:Row (W.setCell ⟨g,0,none⟩ a0) g t #[a0,x1,x2,x3,x4,x5,x6,x7,x8]:=h.bU 0 a0;have h1:Row ((W.setCell ⟨g,0,none⟩ a0).setCell ⟨g,1,none⟩ a1) g t #[a0,a1,x2,x3,x4,x5,x6,x7,x8]:=h0.bU 1 a1;have h2:Row (((W.setCell ⟨g,0,none⟩ a0).setCell ⟨g,1,none⟩ a1).setCell ⟨g,2,none⟩ a2) g t #[a0,a1,a2,x3,x4,x5,x6,x7,x8]:=h1.bU 2 a2;have h3:Row ((((W.setCell ⟨g,0,none⟩ a0).setCell ⟨g,1,none⟩ a1).setCell ⟨g,2,none⟩ a2).setCell ⟨g,3,none⟩ a3) g t #[a0,a1,a2,a3,x4,x5,x6,x7,x8]:=h2.bU 3 a3;have h4:Row (((((W.setCell ⟨g,0,none⟩ a0).setCell ⟨g,1,none⟩ a1).setCell ⟨g,2,none⟩ a2).setCell ⟨g,3,none⟩ a3).setCell ⟨g,4,none⟩ a4) g t #[a0,a1,a2,a3,a4,x5,x6,x7,x8]:=h3.bU 4 a4;have h5:Row ((((((W.setCell ⟨g,0,none⟩ a0).setCell ⟨g,1,none⟩ a1).setCell ⟨g,2,none⟩ a2).setCell ⟨g,3,none⟩ a3).setCell ⟨g,4,none⟩ a4).setCell ⟨g,5,none⟩ a5) g t #[a0,a1,a2,a3,a4,a5,x6,x7,x8]:=h4.bU 5 a5;have h6:Row (((((((W.setCell ⟨g,0,none⟩ a0).setCell ⟨g,1,none⟩ a1).setCell ⟨g,2,none⟩ a2).setCell ⟨g,3,none⟩ a3).setCell ⟨g,4,none⟩ a4).setCell ⟨g,5,none⟩ a5).setCell ⟨g,6,none⟩ a6) g t #[a0,a1,a2,a3,a4,a5,a6,x7,x8]:=h5.bU 6 a6;have h7:Row ((((((((W.setCell ⟨g,0,none⟩ a0).setCell ⟨g,1,none⟩ a1).setCell ⟨g,2,none⟩ a2).setCell ⟨g,3,none⟩ a3).setCell ⟨g,4,none⟩ a4).setCell ⟨g,5,none⟩ a5).setCell ⟨g,6,none⟩ a6).setCell ⟨g,7,none⟩ a7) g t #[a0,a1,a2,a3,a4,a5,a6,a7,x8]:=h6.bU 7 a7;have h8:Row (((((((((W.setCell ⟨g,0,none⟩ a0).setCell ⟨g,1,none⟩ a1).setCell ⟨g,2,none⟩ a2).setCell ⟨g,3,none⟩ a3).setCell ⟨g,4,none⟩ a4).setCell ⟨g,5,none⟩ a5).setCell ⟨g,6,none⟩ a6).setCell ⟨g,7,none⟩ a7).setCell ⟨g,8,none⟩ a8) g t #[a0,a1,a2,a3,a4,a5,a6,a7,a8]:=h7.bU 8 a8;exact h8
theorem ay {W:World} {g B:Nat} (hg:B≤g) (a0 a1 a2 a3 a4 a5 a6 a7 a8:Value):Below B W (kH W g a0 a1 a2 a3 a4 a5 a6 a7 a8):=
 ((((((((((af B W).setCell (p:=⟨g,0,none⟩) hg a0).setCell (p:=⟨g,1,none⟩) hg a1).setCell (p:=⟨g,2,none⟩) hg a2).setCell (p:=⟨g,3,none⟩) hg a3).setCell (p:=⟨g,4,none⟩) hg a4).setCell (p:=⟨g,5,none⟩) hg a5).setCell (p:=⟨g,6,none⟩) hg a6).setCell (p:=⟨g,7,none⟩) hg a7).setCell (p:=⟨g,8,none⟩) hg a8)
theorem aN {C:Nat→Prop} {W:World} {g:Nat} (hg:C g) (a0 a1 a2 a3 a4 a5 a6 a7 a8:Value):ah C W (kH W g a0 a1 a2 a3 a4 a5 a6 a7 a8):=
 ((((((((((ah.refl C W).set (.inl hg) 0 a0).set (.inl hg) 1 a1).set (.inl hg) 2 a2).set (.inl hg) 3 a3).set (.inl hg) 4 a4).set (.inl hg) 5 a5).set (.inl hg) 6 a6).set (.inl hg) 7 a7).set (.inl hg) 8 a8)
theorem cU.keep {p:PS} {w W W':World} {g7:Nat} {n:Nd} {cs:List Value} {k k':Nat} (h:cU p w g7 W n cs k) (hb:p.b<w.heap.size) (hg:w.heap.size<g7) (ha:bQ p W' k') (hk:ah (fun c=>c=p.b) W W'):cU p w g7 W' n cs k':=
 ⟨ha,h.keeps.trans hk,h.res.keep hk (by show¬w.heap.size=p.b;omega),h.row.keep hk (by show¬g7=p.b;omega),h.nd.keeps (hk.mono (fun b hb'=>.inl (by show b≤_;have:b=p.b:=hb';omega)))⟩
theorem nR.keep {p:PS} {W W':World} {bm:Nat} {ops:List (List UInt8×Int)} (h:nR W bm ops) (hk:ah (fun c=>c=p.b) W W') (hb:bm≠p.b):nR W' bm ops:=by
 obtain ⟨es,clock,hes,h1⟩:=h;exact ⟨es,clock,(hk.block bm ((Array.getElem?_eq_some_iff.1 hes).1) hb).trans hes,h1⟩
theorem tR {L:List Lx} {ops:List (List UInt8×Int)} {k:Nat} {q:Int} (h:kj L ops k=some q):(∃o∈ops,o.2=q)∧k<L.length:=by
 unfold kj at h;obtain ⟨o,ho,rfl⟩:=Option.map_eq_some_iff.1 h;have h1:=List.find?_some ho;exact ⟨⟨o,List.mem_of_find?_eq_some ho,rfl⟩,xj h1⟩
theorem yM:∀(bH:List (List Value)) (i j:Nat) (h9:∀c∈bH,c.length=9) (hi:i<bH.length),j<9→bH.flatten[i*9+j]? =(bH[i])[j]?
 |[],i,j,_,hi,_=>absurd hi (GI _)
 |c::bH,0,j,h9,_,hj=>by
  have h:=h9 c bX;rw [List.flatten_cons,List.getElem?_append_left (by omega),Nat.zero_mul,Nat.zero_add];rfl
 |c::bH,i+1,j,h9,hi,hj=>by
  have h:=h9 c bX;rw [List.flatten_cons,List.getElem?_append_right (by omega),show (i+1)*9+j-c.length=i*9+j by omega];exact yM bH i j (fun d hd=>h9 d (cL _ hd)) (by simpa using hi) hj
theorem CJ {C:Nat→Prop} {W:World} {b:Nat} {t:TypeId} {bH:List (List Value)} (hr:Row W b t bH.flatten.toArray) (h9:∀c∈bH,c.length=9) (hc:¬C b):mK C W (some ⟨b,0,none⟩) bH:=fun _=>
 ⟨b,0,rfl,hc,hr.lt,fun i hi j hj=>by
  rw [hr.cell,Nat.zero_add];have:=yM bH i j h9 hi hj
  simpa using this⟩
theorem cU.step {p:PS} {w W3 w5:World} {g7 k k2 k3:Nat} {n x:Nd} {cs rP:List Value} {q pl:Int} (H:bQ p w k) (hbz:p.b<w.heap.size) (mz:w.heap.size<g7) (h:cU p w g7 W3 n cs k2) (h5:bQ p w5 k3) (cC:ah (fun c=>c=p.b) W3 w5)
 (hx:cK (fun b=>b<W3.heap.size) w5 x rP) (W6:World) (mj:W6=w5.alloc (.cells [cs,rP].flatten.toArray 25)):
 cU p w g7 (kH W6 g7 (.int .i64 q) (.int .i64 pl) (.string {data:=#[]}) (.string {data:=#[]}) (.int .i64 0) (.int .i64 0) (.int .i64 0) (.int .i64 0) (.slice (some ⟨w5.heap.size,0,none⟩) 2 2))
  (.mk q pl [] [] 0 0 0 0 [n,x]) (aB q pl [] [] 0 0 0 0 (.slice (some ⟨w5.heap.size,0,none⟩) 2 2)) k3:=by
 have hg3:g7<W3.heap.size:=h.row.lt;have lI:g7<w5.heap.size:=cJ hg3 cC.size;have fV:Below w5.heap.size w5 (w5.alloc (.cells [cs,rP].flatten.toArray 25)):=(af _ _).alloc (aa _) _;have hnew:Row (w5.alloc (.cells [cs,rP].flatten.toArray 25)) w5.heap.size 25 [cs,rP].flatten.toArray:=Row.new _ _ _;have oM:Row w5 g7 25 cs.toArray:=h.row.keep cC (by show¬g7=p.b;omega);have mM:Row w5 w.heap.size 25 cG:=h.res.keep cC (by show¬w.heap.size=p.b;omega);have nS:=oM.alloc (.cells [cs,rP].flatten.toArray 25);have Ko:=mM.alloc (.cells [cs,rP].flatten.toArray 25);rw [←mj] at fV hnew nS Ko;clear mj;have hn9:=h.nd.len;have hx9:=hx.len;have WV:=ay (W:=W6) (Nat.le_of_lt mz) (.int .i64 q) (.int .i64 pl) (.string {data:=#[]}) (.string {data:=#[]}) (.int .i64 0) (.int .i64 0) (.int .i64 0) (.int .i64 0) (.slice (some ⟨w5.heap.size,0,none⟩) 2 2);have hbG:=ay (W:=W6) (aa g7) (.int .i64 q) (.int .i64 pl) (.string {data:=#[]}) (.string {data:=#[]}) (.int .i64 0) (.int .i64 0) (.int .i64 0) (.int .i64 0) (.slice (some ⟨w5.heap.size,0,none⟩) 2 2);have UM:=aN (C:=fun b=>b≤w.heap.size∨b=g7) (W:=W6) (.inr rfl) (.int .i64 q) (.int .i64 pl) (.string {data:=#[]}) (.string {data:=#[]}) (.int .i64 0) (.int .i64 0) (.int .i64 0) (.int .i64 0) (.slice (some ⟨w5.heap.size,0,none⟩) 2 2);have acK:ah (fun b=>b≤w.heap.size∨b=g7) W3 w5:=cC.mono (fun b hb=>.inl (by show b≤_;have:b=p.b:=hb;omega));have aa':ah (fun b=>b≤w.heap.size∨b=g7) w5 (kH W6 g7 (.int .i64 q) (.int .i64 pl) (.string {data:=#[]}) (.string {data:=#[]}) (.int .i64 0) (.int .i64 0) (.int .i64 0) (.int .i64 0) (.slice (some ⟨w5.heap.size,0,none⟩) 2 2)):=(ah.of_below fV (aa _)).trans UM;refine ⟨H.above (h5.below fV) WV,((h.keeps.trans cC).trans (ah.of_below fV (aa _))).over WV,Ko.below hbG mz,?_,?_⟩
 ·have hnd:=h.nd;cases hnd;exact aJ nS _ _ _ _ _ _ _ _ _
 ·refine .mk q pl [] [] 0 0 0 0 [n,x] _ 2 [cs,rP] rfl (fun i hi hi'=>?_) ?_ (aa _)
  ·match i,hi,hi' with
   |0,_,_=>exact (h.nd.keeps acK).keeps aa'
   |1,_,_=>exact (hx.mono (fun b hb=>by rcases hb with hb|rfl;exact Nat.lt_of_le_of_lt hb (by omega);exact hg3)).keeps aa'
   |i+2,hi,_=>exact absurd hi (by simp)
  ·refine CJ (t:=25) ?_ (fun c hc=>by
    rcases List.mem_cons.1 hc with rfl|hc
    ·exact hn9
    ·rw [List.mem_singleton.1 hc];exact hx9) (by rintro (h1|h1)<;>omega)
   refine hnew.keep UM (by rintro (h1|h1)<;>omega)
theorem lA (p:PS) (F:Nat) (Tn:FuncId) (f:Nat→PR Nd) (ops:List (List UInt8×Int)) (bm k:Nat) (w:World) (h:bQ p w k) (hF:p.L.length<F+k) (hm:nR w bm ops) (hb:bm≠p.b) (hu:dQ ops) (h0:∀o∈ops,o.2≠0)
 (hc:cY p Tn f F) (hcall:∀W,(callFunc Tn #[.pointer (some ⟨p.b,0,none⟩)]).run Tryz.prog W=.ok (.enter Tn #[.pointer (some ⟨p.b,0,none⟩)]) W) (hp:Prog f):
 Calls Tryz.prog 34 #[.pointer (some ⟨p.b,0,none⟩),.map (some bm),.func (.func Tn) #[] #[]] w (cQ p w (qI w.heap.size) (dN p.L p.en ops f k)):=by
 have hbz:p.b<w.heap.size:=h.row.lt
 have Wv:bm<w.heap.size:=by obtain ⟨es,clock,hes,_⟩:=hm;exact (Array.getElem?_eq_some_iff.1 hes).1
 have H:=hide h;have iX:Row (w.alloc (.cells cG 25)) w.heap.size 25 cG:=Row.new _ _ _;have hb0:Below w.heap.size w (w.alloc (.cells cG 25)):=(af _ _).alloc (aa _) _;have C0:=hide (hc k _ hF (h.below hb0));have oF:=hide iX;have mi:=hide hb0;have HC:=hide hc;have HM:=hide hm;have HU:=hide hu;have HZ:=hide h0;have HP:=hide hp;unfold dN
 cases hR:f k with
 |err a er=>
  rw [hR] at C0;show Calls _ _ _ _ (cQ p w (qI w.heap.size) (.err a er));clear hR h hm hu h0 hc hp iX hb0 HC HM HU HZ HP oF;go_enter Tryz.func34,Tryz.ntmps34;go_wp2_with fail;refine C0.o.mono ?_;rintro e w1 ⟨rfl,hk⟩;go_wp2;exact ⟨rfl,rfl,(ah.of_below mi.o (aa _)).trans hk⟩
 |ok n1 k1=>
  rw [hR] at C0;have hk1:=hp _ _ _ hR;show Calls _ _ _ _ (cQ p w (qI w.heap.size) (g_ p.L p.en ops f (p.L.length+1) n1 k1));have HLF:=ae (g_ p.L p.en ops f (p.L.length+1) n1 k1=g_ p.L p.en ops f (p.L.length+1) n1 k1) rfl;generalize lM:g_ p.L p.en ops f (p.L.length+1) n1 k1=RR;have vU:=hide lM;clear HLF hR h hm hu h0 hc hp iX hb0 lM;go_enter Tryz.func34,Tryz.ntmps34;go_wp2_with fail;refine C0.o.mono ?_;rintro e w1 ⟨⟨v,rfl,cs,rfl,hnd⟩,h1,hk⟩;have hr1:Row w1 w.heap.size 25 cG:=oF.o.keep hk (by show¬w.heap.size=p.b;omega);have mz:w.heap.size<w1.heap.size:=hr1.lt
  have Ma:cU p w w1.heap.size (w1.alloc (.cells cs.toArray 25)) n1 cs k1:=
   ⟨h1.below ((af _ w1).alloc (aa _) _),((ah.of_below mi.o (aa _)).trans hk).trans (ah.of_below ((af _ w1).alloc (aa _) _) (aa _)),hr1.alloc _,Row.new w1 _ _,
    (hnd.ge ((af _ w1).alloc (aa _) _)).mono (fun b hb=>by
     rcases hb with hb|rfl
     ·exact .inl (by rw [aF];omega)
     ·exact .inr (aa _))⟩
  have ME:=hide Ma
  cases hnd with
  |mk kd a0 nm vl xa xb xc xd ks A cap bH hl hks hr=>
   clear hl hks hr Ma hr1 hk h1;unfold aB;go_wp2_with fail
   go_loopw [] (fun W=>∃n cs k2 m,cU p w w1.heap.size W n cs k2∧g_ p.L p.en ops f m n k2=RR∧p.L.length<m+k2∧k≤k2) (fun W=>p.L.length+1-placeOf p W)
   case atStart=>exact ⟨_,_,_,_,ME.o,vU.o,by omega,hk1⟩
   case round=>
    obtain ⟨n,cs,k2,m,hat,hRm,hmk,hkk⟩:=hrel
    obtain ⟨m',rfl⟩:∃m',m=m'+1:=⟨m-1,by have:=hat.at_.le;omega⟩
    have OP:=hide (jg p k2 bm ops wr hat.at_ (HM.o.keep hat.keeps hb) hb HU.o);have UO:=hide hat;have HRm:=hide hRm;have hk2:=hat.at_.le;clear hat hRm
    cases hO:kj p.L ops k2 with
    |none=>
     have hE:vQ p.L p.en ops k2=.returned (.tuple #[.int .i64 0,.int .i64 0]):=by unfold vQ;rw [hO]
     have hN:vR p.L ops k2=k2:=by unfold vR;rw [hO]
     have lM:RR=.ok n k2:=by rw [←HRm.o];unfold g_;rw [hO]
     have YG:=hide lM;rw [hE,hN] at OP;clear hE hN hO lM;go_wp2_with fail;refine OP.o.mono ?_;rintro e W3 ⟨rfl,h3,hk3⟩;have nL:=UO.o.keep hbz mz h3 hk3;have c0:=nL.row.cell 0;obtain ⟨h3,dL,hres,hrow,hnd⟩:=nL;have fR:=hide hnd
     cases hnd with
     |mk kd a0 nm vl xa xb xc xd ks A cap bH hl hks hr=>
      obtain ⟨d0,d1,d2,d3,d4,d5,d6,d7,d8⟩:=ak hrow;obtain ⟨e0,e1,e2,e3,e4,e5,e6,e7,e8⟩:=ak hres;obtain ⟨f0,f1,f2,f3,f4,f5,f6,f7,f8⟩:=aU hres;clear hl hks hr hrow c0;go_wp2_with fail;refine bodyPost_ret (v:=.agg #[.int .i64 kd,.int .i64 a0,.string (ag nm),.string (ag vl),.int .i64 xa,.int .i64 xb,.int .i64 xc,.int .i64 xd,.slice A ks.length cap]) (ai rfl _ _ w.heap.size 25 _ _ _ rfl (aJ hres _ _ _ _ _ _ _ _ _) Tryz.underlying25 rfl (by kernel_rfl)) rfl ?_;rw [YG.o];have hbl:Below w.heap.size W3 (kH W3 w.heap.size (.int .i64 kd) (.int .i64 a0) (.string (ag nm)) (.string (ag vl)) (.int .i64 xa) (.int .i64 xb) (.int .i64 xc) (.int .i64 xd) (.slice A ks.length cap)):=ay (aa _) _ _ _ _ _ _ _ _ _;exact ⟨⟨_,rfl,_,rfl,(fR.o.keeps (aN (.inl (aa _)) _ _ _ _ _ _ _ _ _)).mono (fun b hb'=>.inl (Nat.le_of_lt hb'))⟩,H.o.above h3 hbl,dL.over hbl⟩
    |some q=>
     obtain ⟨⟨o,ho,Kp⟩,hlt⟩:=tR hO;have hq0:(q==0)=false:=aP.2 (by rw [←Kp];exact HZ.o o ho)
     have hE:vQ p.L p.en ops k2=.returned (.tuple #[.int .i64 q,.int .i64 (eO p.L p.en k2)]):=by unfold vQ;rw [hO]
     have hN:vR p.L ops k2=k2+1:=by unfold vR;rw [hO]
     rw [hE,hN] at OP;clear hE hN ho Kp
     cases hx:f (k2+1) with
     |err a er=>
      have YG:=hide (show RR=.err a er by rw [←HRm.o];unfold g_;rw [hO,hx];rfl);have YH:=hide (fun (W:World) (h:bQ p W (k2+1))=>show Calls _ _ _ _ (cQ p W (qI W.heap.size) (.err a er)) from by rw [←hx];exact HC.o (k2+1) W (by omega) h);clear hx hO;generalize eO p.L p.en k2=pl at*;go_wp2_with fail;refine OP.o.mono ?_;rintro e W3 ⟨rfl,h3,hk3⟩;have nL:=UO.o.keep hbz mz h3 hk3;obtain ⟨h3,dL,hres,hrow,hnd⟩:=nL
      cases hnd with
      |mk kd a0 nm vl xa xb xc xd ks A cap bH hl hks hr=>
       obtain ⟨d0,d1,d2,d3,d4,d5,d6,d7,d8⟩:=ak hrow;have CX:=hide (YH.o W3.drew (h3.below ((af _ W3).drew)));clear hl hks hr hrow hres;go_wp2_with fail
       have Ak:=hide (fun (W:World) (hk:ah (fun c=>c=p.b) W3.drew W)=>show cQ p w (qI w.heap.size) RR (.panicked [{v:=ot a er,recovered:=false}]) W from by
        rw [YG.o];exact ⟨rfl,(dL.drew).trans hk⟩)
       refine wp_region_any (by kernel_rfl) ?_;change wpAny _ _ _ _ _ _ _ (World.drew _);refine wpAny_take (i:=0) (v:=?_) rfl (by kernel_rfl) (by kernel_rfl) (by kernel_rfl) (fun _ _ _ h=>h) (Or.inl ⟨by rfl,?_⟩) ?_;rotate_left
       ·intro w;go_simp;with_reducible rfl
       refine wpAny_take (i:=1) (v:=?_) rfl (by kernel_rfl) (by kernel_rfl) (by kernel_rfl) (fun _ _ _ h=>h) (Or.inl ⟨by rfl,?_⟩) ?_;rotate_left
       ·intro w;go_simp;with_reducible rfl
       refine wpAny_take (i:=3) (v:=?_) rfl (by kernel_rfl) (by kernel_rfl) (by kernel_rfl) (fun _ _ _ h=>h) (Or.inl ⟨by rfl,?_⟩) ?_;rotate_left
       ·intro w;go_simp;with_reducible rfl
       refine wpAny_take (i:=4) (v:=?_) rfl (by kernel_rfl) (by kernel_rfl) (by kernel_rfl) (fun _ _ _ h=>h) (Or.inl ⟨by rfl,?_⟩) ?_;rotate_left
       ·intro w;go_simp;with_reducible rfl
       refine oD (i:=2) (j:=5) (by kernel_rfl) rfl rfl (fun K hK=>?_) fun K hK=>?_
       ·go_simp;refine hK _ _ ?_;clear hK K;refine bK (i:=5) (by kernel_rfl) rfl fun K hK=>?_;go_simp;refine CX.o.mono ?_;rintro e w5 ⟨rfl,cC⟩;exact ⟨rfl,Ak.o _ cC⟩
       ·go_simp;refine CX.o.mono ?_;rintro e w5 ⟨rfl,cC⟩;exact ⟨rfl,Ak.o _ cC⟩
     |ok x k3=>
      have hk3:=HP.o _ _ _ hx;have aba:=hide (show g_ p.L p.en ops f m' (.mk q (eO p.L p.en k2) [] [] 0 0 0 0 [n,x]) k3=RR by rw [←HRm.o];(conv=>rhs;unfold g_);rw [hO,hx];rfl);have YH:=hide (fun (W:World) (h:bQ p W (k2+1))=>show Calls _ _ _ _ (cQ p W (qI W.heap.size) (.ok x k3)) from by rw [←hx];exact HC.o (k2+1) W (by omega) h);clear hx hO;generalize eO p.L p.en k2=pl at*;go_wp2_with fail;refine OP.o.mono ?_;rintro e W3 ⟨rfl,h3,Pq⟩;have nL:=UO.o.keep hbz mz h3 Pq;have HL3:=hide nL;obtain ⟨h3,dL,hres,hrow,hnd⟩:=nL
      cases hnd with
      |mk kd a0 nm vl xa xb xc xd ks A cap bH hl hks hr=>
       obtain ⟨d0,d1,d2,d3,d4,d5,d6,d7,d8⟩:=ak hrow;have CX:=hide (YH.o W3.drew (h3.below ((af _ W3).drew)))
       have WW:¬(w1.heap.size=p.b):=by omega
       have yN:=hide hres;have wQ:=hide hrow;clear hl hks hr hrow hres;go_wp2_with fail;refine wp_region_any (by kernel_rfl) ?_;change wpAny _ _ _ _ _ _ _ (World.drew _);refine wpAny_take (i:=0) (v:=?_) rfl (by kernel_rfl) (by kernel_rfl) (by kernel_rfl) (fun _ _ _ h=>h) (Or.inl ⟨by rfl,?_⟩) ?_;rotate_left
       ·intro w;go_simp;with_reducible rfl
       refine wpAny_take (i:=1) (v:=?_) rfl (by kernel_rfl) (by kernel_rfl) (by kernel_rfl) (fun _ _ _ h=>h) (Or.inl ⟨by rfl,?_⟩) ?_;rotate_left
       ·intro w;go_simp;with_reducible rfl
       refine wpAny_take (i:=3) (v:=?_) rfl (by kernel_rfl) (by kernel_rfl) (by kernel_rfl) (fun _ _ _ h=>h) (Or.inl ⟨by rfl,?_⟩) ?_;rotate_left
       ·intro w;go_simp;with_reducible rfl
       refine wpAny_take (i:=4) (v:=?_) rfl (by kernel_rfl) (by kernel_rfl) (by kernel_rfl) (fun _ _ _ h=>h) (Or.inl ⟨by rfl,?_⟩) ?_;rotate_left
       ·intro w;go_simp;with_reducible rfl
       refine oD (i:=2) (j:=5) (by kernel_rfl) rfl rfl (fun K hK=>?_) fun K hK=>?_
       ·go_simp;refine hK _ _ ?_;clear hK K;refine bK (i:=5) (by kernel_rfl) rfl fun K hK=>?_;go_simp;refine CX.o.mono ?_;rintro e w5 ⟨⟨v,rfl,rP,rfl,jC⟩,h5,cC⟩;refine hK _ _ ?_;clear hK K
        have fO:ah (fun c=>c=p.b) W3 w5:=⟨cC.os,cC.tape,cC.output,cC.size,cC.block⟩
        have oM:=wQ.o.keep fO WW;have Qr:=hide jC;have H5:=hide h5;have yO:=hide fO
        cases jC with
        |mk yk y0 yn yv ya yb yc yd yks yA cv YI YJ YK YL=>
         unfold aB;clear h5 cC fO YJ YK YL;refine bK (i:=6) (by kernel_rfl) rfl fun K hK=>?_;go_simp;refine hK _ _ ?_;clear hK K;generalize mj:World.alloc w5 _=W6
         have nS:Row W6 w1.heap.size 25 (aB kd a0 nm vl xa xb xc xd (.slice A ks.length cap)).toArray:=by rw [←mj];exact oM.alloc _
         have UQ:=hide (cU.step (q:=q) (pl:=pl) H.o hbz mz HL3.o H5.o yO.o Qr.o W6 mj.symm);obtain ⟨d0,d1,d2,d3,d4,d5,d6,d7,d8⟩:=ak nS;obtain ⟨f0,f1,f2,f3,f4,f5,f6,f7,f8⟩:=aU nS;clear oM nS mj;refine bK (i:=7) (by kernel_rfl) rfl fun K hK=>?_;go_simp;refine hK _ _ ?_;clear hK K;refine bK (i:=8) (by kernel_rfl) rfl fun K hK=>?_;go_simp;refine hK _ _ ?_;clear hK K;refine wpAny_done (by kernel_rfl) ?_ _;go_wp2;go_roundw
         case rel=>exact ⟨_,_,k3,m',UQ.o,aba.o,by omega,by omega⟩
         case measure=>rw [di UQ.o.at_,di UO.o.at_];omega
       ·go_simp;refine CX.o.mono ?_;rintro e w5 ⟨⟨v,rfl,rP,rfl,jC⟩,h5,cC⟩;refine hK _ _ ?_;clear hK K
        have fO:ah (fun c=>c=p.b) W3 w5:=⟨cC.os,cC.tape,cC.output,cC.size,cC.block⟩
        have oM:=wQ.o.keep fO WW;have Qr:=hide jC;have H5:=hide h5;have yO:=hide fO
        cases jC with
        |mk yk y0 yn yv ya yb yc yd yks yA cv YI YJ YK YL=>
         unfold aB;clear h5 cC fO YJ YK YL;obtain ⟨c0,c1,c2,c3,c4,c5,c6,c7,c8⟩:=ak oM;refine bK (i:=2) (by kernel_rfl) rfl fun K hK=>?_;go_simp;refine hK _ _ ?_;clear hK K;refine bK (i:=6) (by kernel_rfl) rfl fun K hK=>?_;go_simp;refine hK _ _ ?_;clear hK K;generalize mj:World.alloc w5 _=W6
         have nS:Row W6 w1.heap.size 25 (aB kd a0 nm vl xa xb xc xd (.slice A ks.length cap)).toArray:=by rw [←mj];exact oM.alloc _
         have UQ:=hide (cU.step (q:=q) (pl:=pl) H.o hbz mz HL3.o H5.o yO.o Qr.o W6 mj.symm);obtain ⟨d0,d1,d2,d3,d4,d5,d6,d7,d8⟩:=ak nS;obtain ⟨f0,f1,f2,f3,f4,f5,f6,f7,f8⟩:=aU nS;clear oM nS mj;refine bK (i:=7) (by kernel_rfl) rfl fun K hK=>?_;go_simp;refine hK _ _ ?_;clear hK K;refine bK (i:=8) (by kernel_rfl) rfl fun K hK=>?_;go_simp;refine hK _ _ ?_;clear hK K;refine wpAny_done (by kernel_rfl) ?_ _;go_wp2;go_roundw
         case rel=>exact ⟨_,_,k3,m',UQ.o,aba.o,by omega,by omega⟩
         case measure=>rw [di UQ.o.at_,di UO.o.at_];omega
end Go.Proofs.YtddoehnkgcbboaaGreatDoor
