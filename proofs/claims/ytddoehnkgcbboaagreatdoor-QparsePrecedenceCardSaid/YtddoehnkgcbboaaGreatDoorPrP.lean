/- Packed by program: a part of the proof; the last file says what is proved. -/
import Derived.Test.YtddoehnkgcbboaaGreatDoorPrN
import Derived.Test.YtddoehnkgcbboaaGreatDoorPrO
import Derived.Deep.RegionHeld3
import Derived.Deep.DeepCutAuto
import Derived.Deep.CutBlock
set_option maxHeartbeats 16000000
set_option maxRecDepth 100000
set_option linter.unusedVariables false
set_option linter.unusedSimpArgs false
namespace Go.Proofs.YtddoehnkgcbboaaGreatDoor
open Go.RowKit Go.Shelf Go.Maps
theorem kK (k:Int):jP b_ k=vR k:=by
 unfold jP b_ vR
 simp only [List.find?_cons,List.find?_nil]
 by_cases h1:k=37
 ·subst h1;rfl
 by_cases h2:k=38
 ·subst h2;rfl
 by_cases h3:k=39
 ·subst h3;rfl
 by_cases h4:k=40
 ·subst h4;rfl
 by_cases h5:k=41
 ·subst h5;rfl
 by_cases h6:k=43
 ·subst h6;rfl
 rw [if_neg h1,if_neg h2,if_neg h3,if_neg h4,if_neg h5,if_neg h6]
 simp only [decide_eq_false (Ne.symm h1),decide_eq_false (Ne.symm h2),decide_eq_false (Ne.symm h3),decide_eq_false (Ne.symm h4),decide_eq_false (Ne.symm h5),decide_eq_false (Ne.symm h6)]
 rfl
theorem fM:d_ b_:=by unfold d_ b_;decide
theorem uF:d_ eB:=by unfold d_ eB;decide
theorem BV:d_ cY:=by unfold d_ cY;decide
def EU (kd:Int) (vl:List UInt8):Int:=pG aM (.mk kd 0 [] vl 0 0 0 0 [])
theorem Mo (n:Nd):pG aM n=EU n.kind n.value:=by cases n;rfl
theorem aK {W1 w5:World} (hb:Below W1.heap.size W1.drew w5) (cs:Array Value) (T:TypeId):Hid (Row (w5.alloc (.cells cs T)) w5.heap.size T cs)∧Hid (Below W1.heap.size W1 (w5.alloc (.cells cs T))):=by
 have h1:Below W1.heap.size W1 w5:=⟨hb.os,hb.tape,hb.output,hb.size,hb.block⟩
 exact ⟨Row.new w5 T cs,h1.alloc h1.size _⟩
theorem aL {W1 w5:World} {o:Obj} {T:TypeId} {z0 z1 z2 z3:Value} (hb:Below (W1.alloc o).heap.size (W1.alloc o).drew w5) (hr:Row w5 W1.heap.size T #[z0,z1,z2,z3]) (a b c d:Value):
 Hid (Row ((((w5.setCell ⟨W1.heap.size,0,none⟩ a).setCell ⟨W1.heap.size,1,none⟩ b).setCell ⟨W1.heap.size,2,none⟩ c).setCell ⟨W1.heap.size,3,none⟩ d) W1.heap.size T #[a,b,c,d])∧
 Hid (Below W1.heap.size W1 ((((w5.setCell ⟨W1.heap.size,0,none⟩ a).setCell ⟨W1.heap.size,1,none⟩ b).setCell ⟨W1.heap.size,2,none⟩ c).setCell ⟨W1.heap.size,3,none⟩ d)):=by
 have h0:Below (W1.alloc o).heap.size (W1.alloc o) w5:=⟨hb.os,hb.tape,hb.output,hb.size,hb.block⟩
 have h1:Below W1.heap.size W1 w5:=((Below.refl _ W1).alloc (Nat.le_refl _) o).trans (h0.mono (by rw [World.size_alloc];omega))
 have r0:Row (w5.setCell ⟨W1.heap.size,0,none⟩ a) W1.heap.size T #[a,z1,z2,z3]:=hr.bg 0 a
 have r1:Row ((w5.setCell ⟨W1.heap.size,0,none⟩ a).setCell ⟨W1.heap.size,1,none⟩ b) W1.heap.size T #[a,b,z2,z3]:=r0.bg 1 b
 have r2:Row (((w5.setCell ⟨W1.heap.size,0,none⟩ a).setCell ⟨W1.heap.size,1,none⟩ b).setCell ⟨W1.heap.size,2,none⟩ c) W1.heap.size T #[a,b,c,z3]:=r1.bg 2 c
 have r3:Row ((((w5.setCell ⟨W1.heap.size,0,none⟩ a).setCell ⟨W1.heap.size,1,none⟩ b).setCell ⟨W1.heap.size,2,none⟩ c).setCell ⟨W1.heap.size,3,none⟩ d) W1.heap.size T #[a,b,c,d]:=r2.bg 3 d
 exact ⟨r3,(((h1.setCell (p:=⟨W1.heap.size,0,none⟩) (Nat.le_refl _) a).setCell (p:=⟨W1.heap.size,1,none⟩) (Nat.le_refl _) b).setCell (p:=⟨W1.heap.size,2,none⟩) (Nat.le_refl _) c).setCell (p:=⟨W1.heap.size,3,none⟩) (Nat.le_refl _) d⟩
theorem Ja (kd a0 xa xb xc xd:Int) (nm vl:List UInt8) (s:Value) (w:World) (hk:dr kd) (x:List UInt8×Int×Int×Int) (hx:kD kd=some x):
 Calls Tryz.prog 44 #[.agg (aw kd a0 nm vl xa xb xc xd s).toArray] w fun e w'=>e=.returned (.int .i64 (EU kd vl))∧Below w.heap.size w w':=by
 have hl:EU kd vl=x.2.1:=by unfold EU pG;show (match kD kd with|some x=>_|none=>_)=_;rw [hx]
 rw [hl]
 obtain ⟨x0,x1,x2,x3⟩:=x
 have hE:jr kd=.tuple #[.agg #[.string (ae x0),.int .i64 x1,.int .i64 x2,.int .i64 x3],.bool true]:=by unfold jr;rw [hx];rfl
 have nL:=aa (fun W:World=>bB W)
 have LK:=aa (fun (W:World) (r:Nat) (h:aW W r)=>show (Instr.lookup 102 (.map (some r)) (.int .i64 kd) true).run Tryz.prog W=.ok (.tuple #[.agg #[.string (ae x0),.int .i64 x1,.int .i64 x2,.int .i64 x3],.bool true]) W from by rw [←hE];exact cS h hk)
 have HR:=aa (Row.new w 25 (aw kd a0 nm vl xa xb xc xd s).toArray)
 have HB:=aa ((Below.refl w.heap.size w).alloc (Nat.le_refl _) (.cells (aw kd a0 nm vl xa xb xc xd s).toArray 25))
 unfold aw at HR HB⊢
 obtain ⟨W1,hW1⟩:∃W1,W1=w.alloc (.cells [Value.int .i64 kd,.int .i64 a0,.string (ae nm),.string (ae vl),.int .i64 xa,.int .i64 xb,.int .i64 xc,.int .i64 xd,s].toArray 25):=⟨_,rfl⟩
 rw [←hW1] at HR HB
 have hc0:W1.cell? ⟨w.heap.size,0,none⟩=some (.int .i64 kd):=HR.out.cell 0
 have hz1:w.heap.size<W1.heap.size:=HR.out.lt
 have dG:=aa hW1.symm
 clear hl hx hE hW1
 go_enter Tryz.func44,Tryz.ntmps44
 go_upto_region 1 with fail
 rw [dG.out]
 go_cut [3,4] (fun tp tk wx=>∃g:Nat,tp=.pointer (some ⟨g,0,none⟩)∧tk=.bool true∧Hid (Row wx g 100 #[.string (ae x0),.int .i64 x1,.int .i64 x2,.int .i64 x3])∧Hid (Below W1.heap.size W1 wx))
 case first=>
  have FA:=aa (fun (W W':World) (hb:Below W.heap.size W W') (hz:w.heap.size<W.heap.size) (he:W.heap[w.heap.size]? =W1.heap[w.heap.size]?)=>show W'.cell? ⟨w.heap.size,0,none⟩=some (.int .i64 kd) from by
   rw [World.cell?_of_block ((hb.block _ hz).trans he)];exact hc0)
  have FB:=aa (fun (o:Obj) (W':World) (hb:Below (W1.alloc o).heap.size (W1.alloc o).drew W')=>show W'.cell? ⟨w.heap.size,0,none⟩=some (.int .i64 kd) from FA.out (W1.alloc o).drew W' hb (by show _<(W1.alloc o).heap.size;rw [World.size_alloc];omega) (Below.heap_alloc _ _ _ hz1))
  have pL:=aa (fun (o:Obj) (W:World) (h:aW W (W1.alloc o).heap.size)=>show aW W (W1.heap.size+1) from by rw [World.size_alloc] at h;exact h)
  have FR:=aa (fun (W':World) (hb:Below (W1.alloc (.cells #[.string {data:=#[]},.int .i64 0,.int .i64 0,.int .i64 0] 100)).heap.size (W1.alloc (.cells #[.string {data:=#[]},.int .i64 0,.int .i64 0,.int .i64 0] 100)).drew W')=>show (W'.cell? ⟨W1.heap.size,0,none⟩=some (.string {data:=#[]})∧W'.cell? ⟨W1.heap.size,1,none⟩=some (.int .i64 0)∧W'.cell? ⟨W1.heap.size,2,none⟩=some (.int .i64 0)∧W'.cell? ⟨W1.heap.size,3,none⟩=some (.int .i64 0))∧(W'.frozen? ⟨W1.heap.size,0,none⟩=false∧W'.frozen? ⟨W1.heap.size,1,none⟩=false∧W'.frozen? ⟨W1.heap.size,2,none⟩=false∧W'.frozen? ⟨W1.heap.size,3,none⟩=false)∧Hid (Row W' W1.heap.size 100 #[.string {data:=#[]},.int .i64 0,.int .i64 0,.int .i64 0]) from by
   have hr:=(Row.new W1 100 #[.string {data:=#[]},.int .i64 0,.int .i64 0,.int .i64 0]).drew.below hb (by rw [World.size_alloc];omega)
   exact ⟨⟨hr.cell 0,hr.cell 1,hr.cell 2,hr.cell 3⟩,⟨hr.frozen 0,hr.frozen 1,hr.frozen 2,hr.frozen 3⟩,hr⟩)
  have ew:=World.new_ne W1 ⟨w.heap.size,0,none⟩ hc0
  have jQ:=aa (fun (W:World) (h:aW W W1.heap.size)=>show (Instr.lookup 102 (.map (some W1.heap.size)) (.int .i64 kd) true).run Tryz.prog W=.ok (.tuple #[.agg #[.string (ae x0),.int .i64 x1,.int .i64 x2,.int .i64 x3],.bool true]) W from LK.out W _ h)
  have pM:=aa (fun (W:World) (h:aW W (W1.heap.size+1))=>show (Instr.lookup 102 (.map (some (W1.heap.size+1))) (.int .i64 kd) true).run Tryz.prog W=.ok (.tuple #[.agg #[.string (ae x0),.int .i64 x1,.int .i64 x2,.int .i64 x3],.bool true]) W from LK.out W _ h)
  go_region_held3 (fun w'=>w'.cell? ⟨w.heap.size,0,none⟩=some (.int .i64 kd)) (go_keep) ((go_at_call 68;refine (nL.out _).mono ?_;rintro e w5 ⟨rfl,hm,hb5⟩;(first|(have hs0:=FA.out _ _ hb5 hz1 rfl;have pN:=jQ.out w5 hm;have GG:=fun o=>jQ.out (w5.alloc o) (hm.below ((Below.refl _ w5).alloc (Nat.le_refl _) o)))|(have hs0:=FB.out _ _ hb5;obtain ⟨⟨k0,k1,k2,k3⟩,⟨y0,y1,y2,y3⟩,jR⟩:=FR.out _ hb5;have pN:=pM.out w5 (pL.out _ _ hm)));have bA:=aa hb5;clear hb5 hm))
  all_goals (go_wp2_with fail;go_meet;first|exact ⟨_,rfl,rfl,(aK (W1:=W1) bA.out _ _).1,(aK (W1:=W1) bA.out _ _).2⟩|exact ⟨_,rfl,rfl,(aL (W1:=W1) bA.out jR.out _ _ _ _).1,(aL (W1:=W1) bA.out jR.out _ _ _ _).2⟩)
 case rest=>
  obtain ⟨g,rfl,rfl,sT,fN⟩:=hcut
  have hg1:wc.cell? ⟨g,1,none⟩=some (.int .i64 x1):=sT.out.cell 1
  go_wp2
  go_ret
  exact ⟨rfl,HB.out.trans (fN.out.mono HB.out.size)⟩
theorem eP {W1 w5 w6:World} (h:Below W1.heap.size W1.drew w5) (k:Below w5.heap.size w5 w6):Below W1.heap.size W1 w6:=
 (show Below W1.heap.size W1 w5 from ⟨h.os,h.tape,h.output,h.size,h.block⟩).trans (k.mono h.size)
theorem Jb (a0 xa xb xc xd:Int) (nm vl:List UInt8) (s:Value) (w:World):
 Calls Tryz.prog 44 #[.agg (aw 28 a0 nm vl xa xb xc xd s).toArray] w fun e w'=>e=.returned (.int .i64 2)∧Below w.heap.size w w':=by
 have hk:dr 28:=⟨by decide,by decide⟩
 have hE:jr 28=.tuple #[.agg #[.string {data:=#[]},.int .i64 0,.int .i64 0,.int .i64 0],.bool false]:=by rfl
 have nL:=aa (fun W:World=>bB W)
 have LK:=aa (fun (W:World) (r:Nat) (h:aW W r)=>show (Instr.lookup 102 (.map (some r)) (.int .i64 28) true).run Tryz.prog W=.ok (.tuple #[.agg #[.string {data:=#[]},.int .i64 0,.int .i64 0,.int .i64 0],.bool false]) W from by rw [←hE];exact cS h hk)
 have HR:=aa (Row.new w 25 (aw 28 a0 nm vl xa xb xc xd s).toArray)
 have HB:=aa ((Below.refl w.heap.size w).alloc (Nat.le_refl _) (.cells (aw 28 a0 nm vl xa xb xc xd s).toArray 25))
 unfold aw at HR HB⊢
 obtain ⟨W1,hW1⟩:∃W1,W1=w.alloc (.cells [Value.int .i64 28,.int .i64 a0,.string (ae nm),.string (ae vl),.int .i64 xa,.int .i64 xb,.int .i64 xc,.int .i64 xd,s].toArray 25):=⟨_,rfl⟩
 rw [←hW1] at HR HB
 have hc0:W1.cell? ⟨w.heap.size,0,none⟩=some (.int .i64 28):=HR.out.cell 0
 have hz1:w.heap.size<W1.heap.size:=HR.out.lt
 have dG:=aa hW1.symm
 clear hE hW1
 go_enter Tryz.func44,Tryz.ntmps44
 go_upto_region 1 with fail
 rw [dG.out]
 go_cut [3,4] (fun tp tk wx=>∃g:Nat,tp=.pointer (some ⟨g,0,none⟩)∧tk=.bool false∧Hid (Row wx g 100 #[.string {data:=#[]},.int .i64 0,.int .i64 0,.int .i64 0])∧Hid (Below W1.heap.size W1 wx))
 case first=>
  have FA:=aa (fun (W W':World) (hb:Below W.heap.size W W') (hz:w.heap.size<W.heap.size) (he:W.heap[w.heap.size]? =W1.heap[w.heap.size]?)=>show W'.cell? ⟨w.heap.size,0,none⟩=some (.int .i64 28) from by
   rw [World.cell?_of_block ((hb.block _ hz).trans he)];exact hc0)
  have FB:=aa (fun (o:Obj) (W':World) (hb:Below (W1.alloc o).heap.size (W1.alloc o).drew W')=>show W'.cell? ⟨w.heap.size,0,none⟩=some (.int .i64 28) from FA.out (W1.alloc o).drew W' hb (by show _<(W1.alloc o).heap.size;rw [World.size_alloc];omega) (Below.heap_alloc _ _ _ hz1))
  have pL:=aa (fun (o:Obj) (W:World) (h:aW W (W1.alloc o).heap.size)=>show aW W (W1.heap.size+1) from by rw [World.size_alloc] at h;exact h)
  have FR:=aa (fun (W':World) (hb:Below (W1.alloc (.cells #[.string {data:=#[]},.int .i64 0,.int .i64 0,.int .i64 0] 100)).heap.size (W1.alloc (.cells #[.string {data:=#[]},.int .i64 0,.int .i64 0,.int .i64 0] 100)).drew W')=>show (W'.cell? ⟨W1.heap.size,0,none⟩=some (.string {data:=#[]})∧W'.cell? ⟨W1.heap.size,1,none⟩=some (.int .i64 0)∧W'.cell? ⟨W1.heap.size,2,none⟩=some (.int .i64 0)∧W'.cell? ⟨W1.heap.size,3,none⟩=some (.int .i64 0))∧(W'.frozen? ⟨W1.heap.size,0,none⟩=false∧W'.frozen? ⟨W1.heap.size,1,none⟩=false∧W'.frozen? ⟨W1.heap.size,2,none⟩=false∧W'.frozen? ⟨W1.heap.size,3,none⟩=false)∧Hid (Row W' W1.heap.size 100 #[.string {data:=#[]},.int .i64 0,.int .i64 0,.int .i64 0]) from by
   have hr:=(Row.new W1 100 #[.string {data:=#[]},.int .i64 0,.int .i64 0,.int .i64 0]).drew.below hb (by rw [World.size_alloc];omega)
   exact ⟨⟨hr.cell 0,hr.cell 1,hr.cell 2,hr.cell 3⟩,⟨hr.frozen 0,hr.frozen 1,hr.frozen 2,hr.frozen 3⟩,hr⟩)
  have ew:=World.new_ne W1 ⟨w.heap.size,0,none⟩ hc0
  have jQ:=aa (fun (W:World) (h:aW W W1.heap.size)=>show (Instr.lookup 102 (.map (some W1.heap.size)) (.int .i64 28) true).run Tryz.prog W=.ok (.tuple #[.agg #[.string {data:=#[]},.int .i64 0,.int .i64 0,.int .i64 0],.bool false]) W from LK.out W _ h)
  have pM:=aa (fun (W:World) (h:aW W (W1.heap.size+1))=>show (Instr.lookup 102 (.map (some (W1.heap.size+1))) (.int .i64 28) true).run Tryz.prog W=.ok (.tuple #[.agg #[.string {data:=#[]},.int .i64 0,.int .i64 0,.int .i64 0],.bool false]) W from LK.out W _ h)
  go_region_held3 (fun w'=>w'.cell? ⟨w.heap.size,0,none⟩=some (.int .i64 28)) (go_keep) ((go_at_call 68;refine (nL.out _).mono ?_;rintro e w5 ⟨rfl,hm,hb5⟩;(first|(have hs0:=FA.out _ _ hb5 hz1 rfl;have pN:=jQ.out w5 hm;have GG:=fun o=>jQ.out (w5.alloc o) (hm.below ((Below.refl _ w5).alloc (Nat.le_refl _) o)))|(have hs0:=FB.out _ _ hb5;obtain ⟨⟨k0,k1,k2,k3⟩,⟨y0,y1,y2,y3⟩,jR⟩:=FR.out _ hb5;have pN:=pM.out w5 (pL.out _ _ hm)));have bA:=aa hb5;clear hb5 hm))
  all_goals (go_wp2_with fail;go_meet;first|exact ⟨_,rfl,rfl,(aK (W1:=W1) bA.out _ _).1,(aK (W1:=W1) bA.out _ _).2⟩|exact ⟨_,rfl,rfl,(aL (W1:=W1) bA.out jR.out _ _ _ _).1,(aL (W1:=W1) bA.out jR.out _ _ _ _).2⟩)
 case rest=>
  obtain ⟨g,rfl,rfl,sT,fN⟩:=hcut
  have hc1:wc.cell? ⟨w.heap.size,0,none⟩=some (.int .i64 28):=(fN.out.cell (p:=⟨w.heap.size,0,none⟩) hz1).trans hc0
  go_wp2
  go_ret
  exact ⟨rfl,HB.out.trans (fN.out.mono HB.out.size)⟩
theorem Mp (a0 xa xb xc xd:Int) (nm vl:List UInt8) (s:Value) (w:World):
 Calls Tryz.prog 44 #[.agg (aw 8 a0 nm vl xa xb xc xd s).toArray] w fun e w'=>e=.returned (.int .i64 8)∧Below w.heap.size w w':=by
 have hk:dr 8:=⟨by decide,by decide⟩
 have hE:jr 8=.tuple #[.agg #[.string {data:=#[]},.int .i64 0,.int .i64 0,.int .i64 0],.bool false]:=by rfl
 have nL:=aa (fun W:World=>bB W)
 have LK:=aa (fun (W:World) (r:Nat) (h:aW W r)=>show (Instr.lookup 102 (.map (some r)) (.int .i64 8) true).run Tryz.prog W=.ok (.tuple #[.agg #[.string {data:=#[]},.int .i64 0,.int .i64 0,.int .i64 0],.bool false]) W from by rw [←hE];exact cS h hk)
 have HR:=aa (Row.new w 25 (aw 8 a0 nm vl xa xb xc xd s).toArray)
 have HB:=aa ((Below.refl w.heap.size w).alloc (Nat.le_refl _) (.cells (aw 8 a0 nm vl xa xb xc xd s).toArray 25))
 unfold aw at HR HB⊢
 obtain ⟨W1,hW1⟩:∃W1,W1=w.alloc (.cells [Value.int .i64 8,.int .i64 a0,.string (ae nm),.string (ae vl),.int .i64 xa,.int .i64 xb,.int .i64 xc,.int .i64 xd,s].toArray 25):=⟨_,rfl⟩
 rw [←hW1] at HR HB
 have hc0:W1.cell? ⟨w.heap.size,0,none⟩=some (.int .i64 8):=HR.out.cell 0
 have hz1:w.heap.size<W1.heap.size:=HR.out.lt
 have dG:=aa hW1.symm
 clear hE hW1
 go_enter Tryz.func44,Tryz.ntmps44
 go_upto_region 1 with fail
 rw [dG.out]
 go_cut [3,4] (fun tp tk wx=>∃g:Nat,tp=.pointer (some ⟨g,0,none⟩)∧tk=.bool false∧Hid (Row wx g 100 #[.string {data:=#[]},.int .i64 0,.int .i64 0,.int .i64 0])∧Hid (Below W1.heap.size W1 wx))
 case first=>
  have FA:=aa (fun (W W':World) (hb:Below W.heap.size W W') (hz:w.heap.size<W.heap.size) (he:W.heap[w.heap.size]? =W1.heap[w.heap.size]?)=>show W'.cell? ⟨w.heap.size,0,none⟩=some (.int .i64 8) from by
   rw [World.cell?_of_block ((hb.block _ hz).trans he)];exact hc0)
  have FB:=aa (fun (o:Obj) (W':World) (hb:Below (W1.alloc o).heap.size (W1.alloc o).drew W')=>show W'.cell? ⟨w.heap.size,0,none⟩=some (.int .i64 8) from FA.out (W1.alloc o).drew W' hb (by show _<(W1.alloc o).heap.size;rw [World.size_alloc];omega) (Below.heap_alloc _ _ _ hz1))
  have pL:=aa (fun (o:Obj) (W:World) (h:aW W (W1.alloc o).heap.size)=>show aW W (W1.heap.size+1) from by rw [World.size_alloc] at h;exact h)
  have FR:=aa (fun (W':World) (hb:Below (W1.alloc (.cells #[.string {data:=#[]},.int .i64 0,.int .i64 0,.int .i64 0] 100)).heap.size (W1.alloc (.cells #[.string {data:=#[]},.int .i64 0,.int .i64 0,.int .i64 0] 100)).drew W')=>show (W'.cell? ⟨W1.heap.size,0,none⟩=some (.string {data:=#[]})∧W'.cell? ⟨W1.heap.size,1,none⟩=some (.int .i64 0)∧W'.cell? ⟨W1.heap.size,2,none⟩=some (.int .i64 0)∧W'.cell? ⟨W1.heap.size,3,none⟩=some (.int .i64 0))∧(W'.frozen? ⟨W1.heap.size,0,none⟩=false∧W'.frozen? ⟨W1.heap.size,1,none⟩=false∧W'.frozen? ⟨W1.heap.size,2,none⟩=false∧W'.frozen? ⟨W1.heap.size,3,none⟩=false)∧Hid (Row W' W1.heap.size 100 #[.string {data:=#[]},.int .i64 0,.int .i64 0,.int .i64 0]) from by
   have hr:=(Row.new W1 100 #[.string {data:=#[]},.int .i64 0,.int .i64 0,.int .i64 0]).drew.below hb (by rw [World.size_alloc];omega)
   exact ⟨⟨hr.cell 0,hr.cell 1,hr.cell 2,hr.cell 3⟩,⟨hr.frozen 0,hr.frozen 1,hr.frozen 2,hr.frozen 3⟩,hr⟩)
  have ew:=World.new_ne W1 ⟨w.heap.size,0,none⟩ hc0
  have jQ:=aa (fun (W:World) (h:aW W W1.heap.size)=>show (Instr.lookup 102 (.map (some W1.heap.size)) (.int .i64 8) true).run Tryz.prog W=.ok (.tuple #[.agg #[.string {data:=#[]},.int .i64 0,.int .i64 0,.int .i64 0],.bool false]) W from LK.out W _ h)
  have pM:=aa (fun (W:World) (h:aW W (W1.heap.size+1))=>show (Instr.lookup 102 (.map (some (W1.heap.size+1))) (.int .i64 8) true).run Tryz.prog W=.ok (.tuple #[.agg #[.string {data:=#[]},.int .i64 0,.int .i64 0,.int .i64 0],.bool false]) W from LK.out W _ h)
  go_region_held3 (fun w'=>w'.cell? ⟨w.heap.size,0,none⟩=some (.int .i64 8)) (go_keep) ((go_at_call 68;refine (nL.out _).mono ?_;rintro e w5 ⟨rfl,hm,hb5⟩;(first|(have hs0:=FA.out _ _ hb5 hz1 rfl;have pN:=jQ.out w5 hm;have GG:=fun o=>jQ.out (w5.alloc o) (hm.below ((Below.refl _ w5).alloc (Nat.le_refl _) o)))|(have hs0:=FB.out _ _ hb5;obtain ⟨⟨k0,k1,k2,k3⟩,⟨y0,y1,y2,y3⟩,jR⟩:=FR.out _ hb5;have pN:=pM.out w5 (pL.out _ _ hm)));have bA:=aa hb5;clear hb5 hm))
  all_goals (go_wp2_with fail;go_meet;first|exact ⟨_,rfl,rfl,(aK (W1:=W1) bA.out _ _).1,(aK (W1:=W1) bA.out _ _).2⟩|exact ⟨_,rfl,rfl,(aL (W1:=W1) bA.out jR.out _ _ _ _).1,(aL (W1:=W1) bA.out jR.out _ _ _ _).2⟩)
 case rest=>
  obtain ⟨g,rfl,rfl,sT,fN⟩:=hcut
  have hc1:wc.cell? ⟨w.heap.size,0,none⟩=some (.int .i64 8):=(fN.out.cell (p:=⟨w.heap.size,0,none⟩) hz1).trans hc0
  go_wp2
  go_ret
  exact ⟨rfl,HB.out.trans (fN.out.mono HB.out.size)⟩
theorem Mq (a0 xa xb xc xd:Int) (nm vl:List UInt8) (s:Value) (w:World):
 Calls Tryz.prog 44 #[.agg (aw 6 a0 nm vl xa xb xc xd s).toArray] w fun e w'=>e=.returned (.int .i64 8)∧Below w.heap.size w w':=by
 have hk:dr 6:=⟨by decide,by decide⟩
 have hE:jr 6=.tuple #[.agg #[.string {data:=#[]},.int .i64 0,.int .i64 0,.int .i64 0],.bool false]:=by rfl
 have nL:=aa (fun W:World=>bB W)
 have LK:=aa (fun (W:World) (r:Nat) (h:aW W r)=>show (Instr.lookup 102 (.map (some r)) (.int .i64 6) true).run Tryz.prog W=.ok (.tuple #[.agg #[.string {data:=#[]},.int .i64 0,.int .i64 0,.int .i64 0],.bool false]) W from by rw [←hE];exact cS h hk)
 have HR:=aa (Row.new w 25 (aw 6 a0 nm vl xa xb xc xd s).toArray)
 have HB:=aa ((Below.refl w.heap.size w).alloc (Nat.le_refl _) (.cells (aw 6 a0 nm vl xa xb xc xd s).toArray 25))
 unfold aw at HR HB⊢
 obtain ⟨W1,hW1⟩:∃W1,W1=w.alloc (.cells [Value.int .i64 6,.int .i64 a0,.string (ae nm),.string (ae vl),.int .i64 xa,.int .i64 xb,.int .i64 xc,.int .i64 xd,s].toArray 25):=⟨_,rfl⟩
 rw [←hW1] at HR HB
 have hc0:W1.cell? ⟨w.heap.size,0,none⟩=some (.int .i64 6):=HR.out.cell 0
 have hz1:w.heap.size<W1.heap.size:=HR.out.lt
 have dG:=aa hW1.symm
 clear hE hW1
 go_enter Tryz.func44,Tryz.ntmps44
 go_upto_region 1 with fail
 rw [dG.out]
 go_cut [3,4] (fun tp tk wx=>∃g:Nat,tp=.pointer (some ⟨g,0,none⟩)∧tk=.bool false∧Hid (Row wx g 100 #[.string {data:=#[]},.int .i64 0,.int .i64 0,.int .i64 0])∧Hid (Below W1.heap.size W1 wx))
 case first=>
  have FA:=aa (fun (W W':World) (hb:Below W.heap.size W W') (hz:w.heap.size<W.heap.size) (he:W.heap[w.heap.size]? =W1.heap[w.heap.size]?)=>show W'.cell? ⟨w.heap.size,0,none⟩=some (.int .i64 6) from by
   rw [World.cell?_of_block ((hb.block _ hz).trans he)];exact hc0)
  have FB:=aa (fun (o:Obj) (W':World) (hb:Below (W1.alloc o).heap.size (W1.alloc o).drew W')=>show W'.cell? ⟨w.heap.size,0,none⟩=some (.int .i64 6) from FA.out (W1.alloc o).drew W' hb (by show _<(W1.alloc o).heap.size;rw [World.size_alloc];omega) (Below.heap_alloc _ _ _ hz1))
  have pL:=aa (fun (o:Obj) (W:World) (h:aW W (W1.alloc o).heap.size)=>show aW W (W1.heap.size+1) from by rw [World.size_alloc] at h;exact h)
  have FR:=aa (fun (W':World) (hb:Below (W1.alloc (.cells #[.string {data:=#[]},.int .i64 0,.int .i64 0,.int .i64 0] 100)).heap.size (W1.alloc (.cells #[.string {data:=#[]},.int .i64 0,.int .i64 0,.int .i64 0] 100)).drew W')=>show (W'.cell? ⟨W1.heap.size,0,none⟩=some (.string {data:=#[]})∧W'.cell? ⟨W1.heap.size,1,none⟩=some (.int .i64 0)∧W'.cell? ⟨W1.heap.size,2,none⟩=some (.int .i64 0)∧W'.cell? ⟨W1.heap.size,3,none⟩=some (.int .i64 0))∧(W'.frozen? ⟨W1.heap.size,0,none⟩=false∧W'.frozen? ⟨W1.heap.size,1,none⟩=false∧W'.frozen? ⟨W1.heap.size,2,none⟩=false∧W'.frozen? ⟨W1.heap.size,3,none⟩=false)∧Hid (Row W' W1.heap.size 100 #[.string {data:=#[]},.int .i64 0,.int .i64 0,.int .i64 0]) from by
   have hr:=(Row.new W1 100 #[.string {data:=#[]},.int .i64 0,.int .i64 0,.int .i64 0]).drew.below hb (by rw [World.size_alloc];omega)
   exact ⟨⟨hr.cell 0,hr.cell 1,hr.cell 2,hr.cell 3⟩,⟨hr.frozen 0,hr.frozen 1,hr.frozen 2,hr.frozen 3⟩,hr⟩)
  have ew:=World.new_ne W1 ⟨w.heap.size,0,none⟩ hc0
  have jQ:=aa (fun (W:World) (h:aW W W1.heap.size)=>show (Instr.lookup 102 (.map (some W1.heap.size)) (.int .i64 6) true).run Tryz.prog W=.ok (.tuple #[.agg #[.string {data:=#[]},.int .i64 0,.int .i64 0,.int .i64 0],.bool false]) W from LK.out W _ h)
  have pM:=aa (fun (W:World) (h:aW W (W1.heap.size+1))=>show (Instr.lookup 102 (.map (some (W1.heap.size+1))) (.int .i64 6) true).run Tryz.prog W=.ok (.tuple #[.agg #[.string {data:=#[]},.int .i64 0,.int .i64 0,.int .i64 0],.bool false]) W from LK.out W _ h)
  go_region_held3 (fun w'=>w'.cell? ⟨w.heap.size,0,none⟩=some (.int .i64 6)) (go_keep) ((go_at_call 68;refine (nL.out _).mono ?_;rintro e w5 ⟨rfl,hm,hb5⟩;(first|(have hs0:=FA.out _ _ hb5 hz1 rfl;have pN:=jQ.out w5 hm;have GG:=fun o=>jQ.out (w5.alloc o) (hm.below ((Below.refl _ w5).alloc (Nat.le_refl _) o)))|(have hs0:=FB.out _ _ hb5;obtain ⟨⟨k0,k1,k2,k3⟩,⟨y0,y1,y2,y3⟩,jR⟩:=FR.out _ hb5;have pN:=pM.out w5 (pL.out _ _ hm)));have bA:=aa hb5;clear hb5 hm))
  all_goals (go_wp2_with fail;go_meet;first|exact ⟨_,rfl,rfl,(aK (W1:=W1) bA.out _ _).1,(aK (W1:=W1) bA.out _ _).2⟩|exact ⟨_,rfl,rfl,(aL (W1:=W1) bA.out jR.out _ _ _ _).1,(aL (W1:=W1) bA.out jR.out _ _ _ _).2⟩)
 case rest=>
  obtain ⟨g,rfl,rfl,sT,fN⟩:=hcut
  have hc1:wc.cell? ⟨w.heap.size,0,none⟩=some (.int .i64 6):=(fN.out.cell (p:=⟨w.heap.size,0,none⟩) hz1).trans hc0
  go_wp2
  go_ret
  exact ⟨rfl,HB.out.trans (fN.out.mono HB.out.size)⟩
theorem Jc (a0 xa xb xc xd:Int) (nm vl:List UInt8) (s:Value) (w:World):
 Calls Tryz.prog 44 #[.agg (aw 45 a0 nm vl xa xb xc xd s).toArray] w fun e w'=>e=.returned (.int .i64 11)∧Below w.heap.size w w':=by
 have hk:dr 45:=⟨by decide,by decide⟩
 have hE:jr 45=.tuple #[.agg #[.string {data:=#[]},.int .i64 0,.int .i64 0,.int .i64 0],.bool false]:=by rfl
 have nL:=aa (fun W:World=>bB W)
 have LK:=aa (fun (W:World) (r:Nat) (h:aW W r)=>show (Instr.lookup 102 (.map (some r)) (.int .i64 45) true).run Tryz.prog W=.ok (.tuple #[.agg #[.string {data:=#[]},.int .i64 0,.int .i64 0,.int .i64 0],.bool false]) W from by rw [←hE];exact cS h hk)
 have HR:=aa (Row.new w 25 (aw 45 a0 nm vl xa xb xc xd s).toArray)
 have HB:=aa ((Below.refl w.heap.size w).alloc (Nat.le_refl _) (.cells (aw 45 a0 nm vl xa xb xc xd s).toArray 25))
 unfold aw at HR HB⊢
 obtain ⟨W1,hW1⟩:∃W1,W1=w.alloc (.cells [Value.int .i64 45,.int .i64 a0,.string (ae nm),.string (ae vl),.int .i64 xa,.int .i64 xb,.int .i64 xc,.int .i64 xd,s].toArray 25):=⟨_,rfl⟩
 rw [←hW1] at HR HB
 have hc0:W1.cell? ⟨w.heap.size,0,none⟩=some (.int .i64 45):=HR.out.cell 0
 have hz1:w.heap.size<W1.heap.size:=HR.out.lt
 have dG:=aa hW1.symm
 clear hE hW1
 go_enter Tryz.func44,Tryz.ntmps44
 go_upto_region 1 with fail
 rw [dG.out]
 go_cut [3,4] (fun tp tk wx=>∃g:Nat,tp=.pointer (some ⟨g,0,none⟩)∧tk=.bool false∧Hid (Row wx g 100 #[.string {data:=#[]},.int .i64 0,.int .i64 0,.int .i64 0])∧Hid (Below W1.heap.size W1 wx))
 case first=>
  have FA:=aa (fun (W W':World) (hb:Below W.heap.size W W') (hz:w.heap.size<W.heap.size) (he:W.heap[w.heap.size]? =W1.heap[w.heap.size]?)=>show W'.cell? ⟨w.heap.size,0,none⟩=some (.int .i64 45) from by
   rw [World.cell?_of_block ((hb.block _ hz).trans he)];exact hc0)
  have FB:=aa (fun (o:Obj) (W':World) (hb:Below (W1.alloc o).heap.size (W1.alloc o).drew W')=>show W'.cell? ⟨w.heap.size,0,none⟩=some (.int .i64 45) from FA.out (W1.alloc o).drew W' hb (by show _<(W1.alloc o).heap.size;rw [World.size_alloc];omega) (Below.heap_alloc _ _ _ hz1))
  have pL:=aa (fun (o:Obj) (W:World) (h:aW W (W1.alloc o).heap.size)=>show aW W (W1.heap.size+1) from by rw [World.size_alloc] at h;exact h)
  have FR:=aa (fun (W':World) (hb:Below (W1.alloc (.cells #[.string {data:=#[]},.int .i64 0,.int .i64 0,.int .i64 0] 100)).heap.size (W1.alloc (.cells #[.string {data:=#[]},.int .i64 0,.int .i64 0,.int .i64 0] 100)).drew W')=>show (W'.cell? ⟨W1.heap.size,0,none⟩=some (.string {data:=#[]})∧W'.cell? ⟨W1.heap.size,1,none⟩=some (.int .i64 0)∧W'.cell? ⟨W1.heap.size,2,none⟩=some (.int .i64 0)∧W'.cell? ⟨W1.heap.size,3,none⟩=some (.int .i64 0))∧(W'.frozen? ⟨W1.heap.size,0,none⟩=false∧W'.frozen? ⟨W1.heap.size,1,none⟩=false∧W'.frozen? ⟨W1.heap.size,2,none⟩=false∧W'.frozen? ⟨W1.heap.size,3,none⟩=false)∧Hid (Row W' W1.heap.size 100 #[.string {data:=#[]},.int .i64 0,.int .i64 0,.int .i64 0]) from by
   have hr:=(Row.new W1 100 #[.string {data:=#[]},.int .i64 0,.int .i64 0,.int .i64 0]).drew.below hb (by rw [World.size_alloc];omega)
   exact ⟨⟨hr.cell 0,hr.cell 1,hr.cell 2,hr.cell 3⟩,⟨hr.frozen 0,hr.frozen 1,hr.frozen 2,hr.frozen 3⟩,hr⟩)
  have ew:=World.new_ne W1 ⟨w.heap.size,0,none⟩ hc0
  have jQ:=aa (fun (W:World) (h:aW W W1.heap.size)=>show (Instr.lookup 102 (.map (some W1.heap.size)) (.int .i64 45) true).run Tryz.prog W=.ok (.tuple #[.agg #[.string {data:=#[]},.int .i64 0,.int .i64 0,.int .i64 0],.bool false]) W from LK.out W _ h)
  have pM:=aa (fun (W:World) (h:aW W (W1.heap.size+1))=>show (Instr.lookup 102 (.map (some (W1.heap.size+1))) (.int .i64 45) true).run Tryz.prog W=.ok (.tuple #[.agg #[.string {data:=#[]},.int .i64 0,.int .i64 0,.int .i64 0],.bool false]) W from LK.out W _ h)
  go_region_held3 (fun w'=>w'.cell? ⟨w.heap.size,0,none⟩=some (.int .i64 45)) (go_keep) ((go_at_call 68;refine (nL.out _).mono ?_;rintro e w5 ⟨rfl,hm,hb5⟩;(first|(have hs0:=FA.out _ _ hb5 hz1 rfl;have pN:=jQ.out w5 hm;have GG:=fun o=>jQ.out (w5.alloc o) (hm.below ((Below.refl _ w5).alloc (Nat.le_refl _) o)))|(have hs0:=FB.out _ _ hb5;obtain ⟨⟨k0,k1,k2,k3⟩,⟨y0,y1,y2,y3⟩,jR⟩:=FR.out _ hb5;have pN:=pM.out w5 (pL.out _ _ hm)));have bA:=aa hb5;clear hb5 hm))
  all_goals (go_wp2_with fail;go_meet;first|exact ⟨_,rfl,rfl,(aK (W1:=W1) bA.out _ _).1,(aK (W1:=W1) bA.out _ _).2⟩|exact ⟨_,rfl,rfl,(aL (W1:=W1) bA.out jR.out _ _ _ _).1,(aL (W1:=W1) bA.out jR.out _ _ _ _).2⟩)
 case rest=>
  obtain ⟨g,rfl,rfl,sT,fN⟩:=hcut
  have hc1:wc.cell? ⟨w.heap.size,0,none⟩=some (.int .i64 45):=(fN.out.cell (p:=⟨w.heap.size,0,none⟩) hz1).trans hc0
  go_wp2
  go_ret
  exact ⟨rfl,HB.out.trans (fN.out.mono HB.out.size)⟩
theorem Jd (a0 xa xb xc xd:Int) (nm vl:List UInt8) (s:Value) (w:World):
 Calls Tryz.prog 44 #[.agg (aw 47 a0 nm vl xa xb xc xd s).toArray] w fun e w'=>e=.returned (.int .i64 12)∧Below w.heap.size w w':=by
 have hk:dr 47:=⟨by decide,by decide⟩
 have hE:jr 47=.tuple #[.agg #[.string {data:=#[]},.int .i64 0,.int .i64 0,.int .i64 0],.bool false]:=by rfl
 have nL:=aa (fun W:World=>bB W)
 have LK:=aa (fun (W:World) (r:Nat) (h:aW W r)=>show (Instr.lookup 102 (.map (some r)) (.int .i64 47) true).run Tryz.prog W=.ok (.tuple #[.agg #[.string {data:=#[]},.int .i64 0,.int .i64 0,.int .i64 0],.bool false]) W from by rw [←hE];exact cS h hk)
 have HR:=aa (Row.new w 25 (aw 47 a0 nm vl xa xb xc xd s).toArray)
 have HB:=aa ((Below.refl w.heap.size w).alloc (Nat.le_refl _) (.cells (aw 47 a0 nm vl xa xb xc xd s).toArray 25))
 unfold aw at HR HB⊢
 obtain ⟨W1,hW1⟩:∃W1,W1=w.alloc (.cells [Value.int .i64 47,.int .i64 a0,.string (ae nm),.string (ae vl),.int .i64 xa,.int .i64 xb,.int .i64 xc,.int .i64 xd,s].toArray 25):=⟨_,rfl⟩
 rw [←hW1] at HR HB
 have hc0:W1.cell? ⟨w.heap.size,0,none⟩=some (.int .i64 47):=HR.out.cell 0
 have hz1:w.heap.size<W1.heap.size:=HR.out.lt
 have dG:=aa hW1.symm
 clear hE hW1
 go_enter Tryz.func44,Tryz.ntmps44
 go_upto_region 1 with fail
 rw [dG.out]
 go_cut [3,4] (fun tp tk wx=>∃g:Nat,tp=.pointer (some ⟨g,0,none⟩)∧tk=.bool false∧Hid (Row wx g 100 #[.string {data:=#[]},.int .i64 0,.int .i64 0,.int .i64 0])∧Hid (Below W1.heap.size W1 wx))
 case first=>
  have FA:=aa (fun (W W':World) (hb:Below W.heap.size W W') (hz:w.heap.size<W.heap.size) (he:W.heap[w.heap.size]? =W1.heap[w.heap.size]?)=>show W'.cell? ⟨w.heap.size,0,none⟩=some (.int .i64 47) from by
   rw [World.cell?_of_block ((hb.block _ hz).trans he)];exact hc0)
  have FB:=aa (fun (o:Obj) (W':World) (hb:Below (W1.alloc o).heap.size (W1.alloc o).drew W')=>show W'.cell? ⟨w.heap.size,0,none⟩=some (.int .i64 47) from FA.out (W1.alloc o).drew W' hb (by show _<(W1.alloc o).heap.size;rw [World.size_alloc];omega) (Below.heap_alloc _ _ _ hz1))
  have pL:=aa (fun (o:Obj) (W:World) (h:aW W (W1.alloc o).heap.size)=>show aW W (W1.heap.size+1) from by rw [World.size_alloc] at h;exact h)
  have FR:=aa (fun (W':World) (hb:Below (W1.alloc (.cells #[.string {data:=#[]},.int .i64 0,.int .i64 0,.int .i64 0] 100)).heap.size (W1.alloc (.cells #[.string {data:=#[]},.int .i64 0,.int .i64 0,.int .i64 0] 100)).drew W')=>show (W'.cell? ⟨W1.heap.size,0,none⟩=some (.string {data:=#[]})∧W'.cell? ⟨W1.heap.size,1,none⟩=some (.int .i64 0)∧W'.cell? ⟨W1.heap.size,2,none⟩=some (.int .i64 0)∧W'.cell? ⟨W1.heap.size,3,none⟩=some (.int .i64 0))∧(W'.frozen? ⟨W1.heap.size,0,none⟩=false∧W'.frozen? ⟨W1.heap.size,1,none⟩=false∧W'.frozen? ⟨W1.heap.size,2,none⟩=false∧W'.frozen? ⟨W1.heap.size,3,none⟩=false)∧Hid (Row W' W1.heap.size 100 #[.string {data:=#[]},.int .i64 0,.int .i64 0,.int .i64 0]) from by
   have hr:=(Row.new W1 100 #[.string {data:=#[]},.int .i64 0,.int .i64 0,.int .i64 0]).drew.below hb (by rw [World.size_alloc];omega)
   exact ⟨⟨hr.cell 0,hr.cell 1,hr.cell 2,hr.cell 3⟩,⟨hr.frozen 0,hr.frozen 1,hr.frozen 2,hr.frozen 3⟩,hr⟩)
  have ew:=World.new_ne W1 ⟨w.heap.size,0,none⟩ hc0
  have jQ:=aa (fun (W:World) (h:aW W W1.heap.size)=>show (Instr.lookup 102 (.map (some W1.heap.size)) (.int .i64 47) true).run Tryz.prog W=.ok (.tuple #[.agg #[.string {data:=#[]},.int .i64 0,.int .i64 0,.int .i64 0],.bool false]) W from LK.out W _ h)
  have pM:=aa (fun (W:World) (h:aW W (W1.heap.size+1))=>show (Instr.lookup 102 (.map (some (W1.heap.size+1))) (.int .i64 47) true).run Tryz.prog W=.ok (.tuple #[.agg #[.string {data:=#[]},.int .i64 0,.int .i64 0,.int .i64 0],.bool false]) W from LK.out W _ h)
  go_region_held3 (fun w'=>w'.cell? ⟨w.heap.size,0,none⟩=some (.int .i64 47)) (go_keep) ((go_at_call 68;refine (nL.out _).mono ?_;rintro e w5 ⟨rfl,hm,hb5⟩;(first|(have hs0:=FA.out _ _ hb5 hz1 rfl;have pN:=jQ.out w5 hm;have GG:=fun o=>jQ.out (w5.alloc o) (hm.below ((Below.refl _ w5).alloc (Nat.le_refl _) o)))|(have hs0:=FB.out _ _ hb5;obtain ⟨⟨k0,k1,k2,k3⟩,⟨y0,y1,y2,y3⟩,jR⟩:=FR.out _ hb5;have pN:=pM.out w5 (pL.out _ _ hm)));have bA:=aa hb5;clear hb5 hm))
  all_goals (go_wp2_with fail;go_meet;first|exact ⟨_,rfl,rfl,(aK (W1:=W1) bA.out _ _).1,(aK (W1:=W1) bA.out _ _).2⟩|exact ⟨_,rfl,rfl,(aL (W1:=W1) bA.out jR.out _ _ _ _).1,(aL (W1:=W1) bA.out jR.out _ _ _ _).2⟩)
 case rest=>
  obtain ⟨g,rfl,rfl,sT,fN⟩:=hcut
  have hc1:wc.cell? ⟨w.heap.size,0,none⟩=some (.int .i64 47):=(fN.out.cell (p:=⟨w.heap.size,0,none⟩) hz1).trans hc0
  go_wp2
  go_ret
  exact ⟨rfl,HB.out.trans (fN.out.mono HB.out.size)⟩
theorem Je (a0 xa xb xc xd:Int) (nm vl:List UInt8) (s:Value) (w:World):
 Calls Tryz.prog 44 #[.agg (aw 44 a0 nm vl xa xb xc xd s).toArray] w fun e w'=>e=.returned (.int .i64 13)∧Below w.heap.size w w':=by
 have hk:dr 44:=⟨by decide,by decide⟩
 have hE:jr 44=.tuple #[.agg #[.string {data:=#[]},.int .i64 0,.int .i64 0,.int .i64 0],.bool false]:=by rfl
 have nL:=aa (fun W:World=>bB W)
 have LK:=aa (fun (W:World) (r:Nat) (h:aW W r)=>show (Instr.lookup 102 (.map (some r)) (.int .i64 44) true).run Tryz.prog W=.ok (.tuple #[.agg #[.string {data:=#[]},.int .i64 0,.int .i64 0,.int .i64 0],.bool false]) W from by rw [←hE];exact cS h hk)
 have HR:=aa (Row.new w 25 (aw 44 a0 nm vl xa xb xc xd s).toArray)
 have HB:=aa ((Below.refl w.heap.size w).alloc (Nat.le_refl _) (.cells (aw 44 a0 nm vl xa xb xc xd s).toArray 25))
 unfold aw at HR HB⊢
 obtain ⟨W1,hW1⟩:∃W1,W1=w.alloc (.cells [Value.int .i64 44,.int .i64 a0,.string (ae nm),.string (ae vl),.int .i64 xa,.int .i64 xb,.int .i64 xc,.int .i64 xd,s].toArray 25):=⟨_,rfl⟩
 rw [←hW1] at HR HB
 have hc0:W1.cell? ⟨w.heap.size,0,none⟩=some (.int .i64 44):=HR.out.cell 0
 have hz1:w.heap.size<W1.heap.size:=HR.out.lt
 have dG:=aa hW1.symm
 clear hE hW1
 go_enter Tryz.func44,Tryz.ntmps44
 go_upto_region 1 with fail
 rw [dG.out]
 go_cut [3,4] (fun tp tk wx=>∃g:Nat,tp=.pointer (some ⟨g,0,none⟩)∧tk=.bool false∧Hid (Row wx g 100 #[.string {data:=#[]},.int .i64 0,.int .i64 0,.int .i64 0])∧Hid (Below W1.heap.size W1 wx))
 case first=>
  have FA:=aa (fun (W W':World) (hb:Below W.heap.size W W') (hz:w.heap.size<W.heap.size) (he:W.heap[w.heap.size]? =W1.heap[w.heap.size]?)=>show W'.cell? ⟨w.heap.size,0,none⟩=some (.int .i64 44) from by
   rw [World.cell?_of_block ((hb.block _ hz).trans he)];exact hc0)
  have FB:=aa (fun (o:Obj) (W':World) (hb:Below (W1.alloc o).heap.size (W1.alloc o).drew W')=>show W'.cell? ⟨w.heap.size,0,none⟩=some (.int .i64 44) from FA.out (W1.alloc o).drew W' hb (by show _<(W1.alloc o).heap.size;rw [World.size_alloc];omega) (Below.heap_alloc _ _ _ hz1))
  have pL:=aa (fun (o:Obj) (W:World) (h:aW W (W1.alloc o).heap.size)=>show aW W (W1.heap.size+1) from by rw [World.size_alloc] at h;exact h)
  have FR:=aa (fun (W':World) (hb:Below (W1.alloc (.cells #[.string {data:=#[]},.int .i64 0,.int .i64 0,.int .i64 0] 100)).heap.size (W1.alloc (.cells #[.string {data:=#[]},.int .i64 0,.int .i64 0,.int .i64 0] 100)).drew W')=>show (W'.cell? ⟨W1.heap.size,0,none⟩=some (.string {data:=#[]})∧W'.cell? ⟨W1.heap.size,1,none⟩=some (.int .i64 0)∧W'.cell? ⟨W1.heap.size,2,none⟩=some (.int .i64 0)∧W'.cell? ⟨W1.heap.size,3,none⟩=some (.int .i64 0))∧(W'.frozen? ⟨W1.heap.size,0,none⟩=false∧W'.frozen? ⟨W1.heap.size,1,none⟩=false∧W'.frozen? ⟨W1.heap.size,2,none⟩=false∧W'.frozen? ⟨W1.heap.size,3,none⟩=false)∧Hid (Row W' W1.heap.size 100 #[.string {data:=#[]},.int .i64 0,.int .i64 0,.int .i64 0]) from by
   have hr:=(Row.new W1 100 #[.string {data:=#[]},.int .i64 0,.int .i64 0,.int .i64 0]).drew.below hb (by rw [World.size_alloc];omega)
   exact ⟨⟨hr.cell 0,hr.cell 1,hr.cell 2,hr.cell 3⟩,⟨hr.frozen 0,hr.frozen 1,hr.frozen 2,hr.frozen 3⟩,hr⟩)
  have ew:=World.new_ne W1 ⟨w.heap.size,0,none⟩ hc0
  have jQ:=aa (fun (W:World) (h:aW W W1.heap.size)=>show (Instr.lookup 102 (.map (some W1.heap.size)) (.int .i64 44) true).run Tryz.prog W=.ok (.tuple #[.agg #[.string {data:=#[]},.int .i64 0,.int .i64 0,.int .i64 0],.bool false]) W from LK.out W _ h)
  have pM:=aa (fun (W:World) (h:aW W (W1.heap.size+1))=>show (Instr.lookup 102 (.map (some (W1.heap.size+1))) (.int .i64 44) true).run Tryz.prog W=.ok (.tuple #[.agg #[.string {data:=#[]},.int .i64 0,.int .i64 0,.int .i64 0],.bool false]) W from LK.out W _ h)
  go_region_held3 (fun w'=>w'.cell? ⟨w.heap.size,0,none⟩=some (.int .i64 44)) (go_keep) ((go_at_call 68;refine (nL.out _).mono ?_;rintro e w5 ⟨rfl,hm,hb5⟩;(first|(have hs0:=FA.out _ _ hb5 hz1 rfl;have pN:=jQ.out w5 hm;have GG:=fun o=>jQ.out (w5.alloc o) (hm.below ((Below.refl _ w5).alloc (Nat.le_refl _) o)))|(have hs0:=FB.out _ _ hb5;obtain ⟨⟨k0,k1,k2,k3⟩,⟨y0,y1,y2,y3⟩,jR⟩:=FR.out _ hb5;have pN:=pM.out w5 (pL.out _ _ hm)));have bA:=aa hb5;clear hb5 hm))
  all_goals (go_wp2_with fail;go_meet;first|exact ⟨_,rfl,rfl,(aK (W1:=W1) bA.out _ _).1,(aK (W1:=W1) bA.out _ _).2⟩|exact ⟨_,rfl,rfl,(aL (W1:=W1) bA.out jR.out _ _ _ _).1,(aL (W1:=W1) bA.out jR.out _ _ _ _).2⟩)
 case rest=>
  obtain ⟨g,rfl,rfl,sT,fN⟩:=hcut
  have hc1:wc.cell? ⟨w.heap.size,0,none⟩=some (.int .i64 44):=(fN.out.cell (p:=⟨w.heap.size,0,none⟩) hz1).trans hc0
  go_wp2
  go_ret
  exact ⟨rfl,HB.out.trans (fN.out.mono HB.out.size)⟩
theorem Mr (kd:Int) (hk:dr kd) (hx:kD kd=none) (EW:kd≠28) (h8:kd≠8) (h6:kd≠6) (h4:kd≠4) (oG:kd≠45) (N8:kd≠47) (GH:kd≠44) (x:List UInt8) (he:vR kd=some x) (a0 xa xb xc xd:Int) (nm vl:List UInt8) (s:Value) (w:World):
 Calls Tryz.prog 44 #[.agg (aw kd a0 nm vl xa xb xc xd s).toArray] w fun e w'=>e=.returned (.int .i64 13)∧Below w.heap.size w w':=by
 have EV:=aa (fun W:World=>fG W)
 have WD:=aa (fun (W:World) (bm:Nat) (h:iU W bm b_)=>show Calls Tryz.prog 70 #[.map (some bm),.int .i64 kd] W fun e w'=>e=.returned (.tuple #[.string (ae x),.bool true])∧Below W.heap.size W w' from by
  have:=dL bm b_ kd W h fM
  rw [kK,he] at this
  exact this)
 have hE:jr kd=.tuple #[.agg #[.string {data:=#[]},.int .i64 0,.int .i64 0,.int .i64 0],.bool false]:=by unfold jr;rw [hx]
 have nL:=aa (fun W:World=>bB W)
 have LK:=aa (fun (W:World) (r:Nat) (h:aW W r)=>show (Instr.lookup 102 (.map (some r)) (.int .i64 kd) true).run Tryz.prog W=.ok (.tuple #[.agg #[.string {data:=#[]},.int .i64 0,.int .i64 0,.int .i64 0],.bool false]) W from by rw [←hE];exact cS h hk)
 have HR:=aa (Row.new w 25 (aw kd a0 nm vl xa xb xc xd s).toArray)
 have HB:=aa ((Below.refl w.heap.size w).alloc (Nat.le_refl _) (.cells (aw kd a0 nm vl xa xb xc xd s).toArray 25))
 unfold aw at HR HB⊢
 obtain ⟨W1,hW1⟩:∃W1,W1=w.alloc (.cells [Value.int .i64 kd,.int .i64 a0,.string (ae nm),.string (ae vl),.int .i64 xa,.int .i64 xb,.int .i64 xc,.int .i64 xd,s].toArray 25):=⟨_,rfl⟩
 rw [←hW1] at HR HB
 have hc0:W1.cell? ⟨w.heap.size,0,none⟩=some (.int .i64 kd):=HR.out.cell 0
 have hz1:w.heap.size<W1.heap.size:=HR.out.lt
 have dG:=aa hW1.symm
 clear hE hW1
 have n28:(kd==28)=false:=beq_eq_false_iff_ne.2 EW
 have n8:(kd==8)=false:=beq_eq_false_iff_ne.2 h8
 have n6:(kd==6)=false:=beq_eq_false_iff_ne.2 h6
 have n4:(kd==4)=false:=beq_eq_false_iff_ne.2 h4
 have n45:(kd==45)=false:=beq_eq_false_iff_ne.2 oG
 have n47:(kd==47)=false:=beq_eq_false_iff_ne.2 N8
 have n44:(kd==44)=false:=beq_eq_false_iff_ne.2 GH
 clear hx EW h8 h6 h4 oG N8 GH
 go_enter Tryz.func44,Tryz.ntmps44
 go_upto_region 1 with fail
 rw [dG.out]
 go_cut [3,4] (fun tp tk wx=>∃g:Nat,tp=.pointer (some ⟨g,0,none⟩)∧tk=.bool false∧Hid (Row wx g 100 #[.string {data:=#[]},.int .i64 0,.int .i64 0,.int .i64 0])∧Hid (Below W1.heap.size W1 wx))
 case first=>
  have FA:=aa (fun (W W':World) (hb:Below W.heap.size W W') (hz:w.heap.size<W.heap.size) (he:W.heap[w.heap.size]? =W1.heap[w.heap.size]?)=>show W'.cell? ⟨w.heap.size,0,none⟩=some (.int .i64 kd) from by
   rw [World.cell?_of_block ((hb.block _ hz).trans he)];exact hc0)
  have FB:=aa (fun (o:Obj) (W':World) (hb:Below (W1.alloc o).heap.size (W1.alloc o).drew W')=>show W'.cell? ⟨w.heap.size,0,none⟩=some (.int .i64 kd) from FA.out (W1.alloc o).drew W' hb (by show _<(W1.alloc o).heap.size;rw [World.size_alloc];omega) (Below.heap_alloc _ _ _ hz1))
  have pL:=aa (fun (o:Obj) (W:World) (h:aW W (W1.alloc o).heap.size)=>show aW W (W1.heap.size+1) from by rw [World.size_alloc] at h;exact h)
  have FR:=aa (fun (W':World) (hb:Below (W1.alloc (.cells #[.string {data:=#[]},.int .i64 0,.int .i64 0,.int .i64 0] 100)).heap.size (W1.alloc (.cells #[.string {data:=#[]},.int .i64 0,.int .i64 0,.int .i64 0] 100)).drew W')=>show (W'.cell? ⟨W1.heap.size,0,none⟩=some (.string {data:=#[]})∧W'.cell? ⟨W1.heap.size,1,none⟩=some (.int .i64 0)∧W'.cell? ⟨W1.heap.size,2,none⟩=some (.int .i64 0)∧W'.cell? ⟨W1.heap.size,3,none⟩=some (.int .i64 0))∧(W'.frozen? ⟨W1.heap.size,0,none⟩=false∧W'.frozen? ⟨W1.heap.size,1,none⟩=false∧W'.frozen? ⟨W1.heap.size,2,none⟩=false∧W'.frozen? ⟨W1.heap.size,3,none⟩=false)∧Hid (Row W' W1.heap.size 100 #[.string {data:=#[]},.int .i64 0,.int .i64 0,.int .i64 0]) from by
   have hr:=(Row.new W1 100 #[.string {data:=#[]},.int .i64 0,.int .i64 0,.int .i64 0]).drew.below hb (by rw [World.size_alloc];omega)
   exact ⟨⟨hr.cell 0,hr.cell 1,hr.cell 2,hr.cell 3⟩,⟨hr.frozen 0,hr.frozen 1,hr.frozen 2,hr.frozen 3⟩,hr⟩)
  have ew:=World.new_ne W1 ⟨w.heap.size,0,none⟩ hc0
  have jQ:=aa (fun (W:World) (h:aW W W1.heap.size)=>show (Instr.lookup 102 (.map (some W1.heap.size)) (.int .i64 kd) true).run Tryz.prog W=.ok (.tuple #[.agg #[.string {data:=#[]},.int .i64 0,.int .i64 0,.int .i64 0],.bool false]) W from LK.out W _ h)
  have pM:=aa (fun (W:World) (h:aW W (W1.heap.size+1))=>show (Instr.lookup 102 (.map (some (W1.heap.size+1))) (.int .i64 kd) true).run Tryz.prog W=.ok (.tuple #[.agg #[.string {data:=#[]},.int .i64 0,.int .i64 0,.int .i64 0],.bool false]) W from LK.out W _ h)
  go_region_held3 (fun w'=>w'.cell? ⟨w.heap.size,0,none⟩=some (.int .i64 kd)) (go_keep) ((go_at_call 68;refine (nL.out _).mono ?_;rintro e w5 ⟨rfl,hm,hb5⟩;(first|(have hs0:=FA.out _ _ hb5 hz1 rfl;have pN:=jQ.out w5 hm;have GG:=fun o=>jQ.out (w5.alloc o) (hm.below ((Below.refl _ w5).alloc (Nat.le_refl _) o)))|(have hs0:=FB.out _ _ hb5;obtain ⟨⟨k0,k1,k2,k3⟩,⟨y0,y1,y2,y3⟩,jR⟩:=FR.out _ hb5;have pN:=pM.out w5 (pL.out _ _ hm)));have bA:=aa hb5;clear hb5 hm))
  all_goals (go_wp2_with fail;go_meet;first|exact ⟨_,rfl,rfl,(aK (W1:=W1) bA.out _ _).1,(aK (W1:=W1) bA.out _ _).2⟩|exact ⟨_,rfl,rfl,(aL (W1:=W1) bA.out jR.out _ _ _ _).1,(aL (W1:=W1) bA.out jR.out _ _ _ _).2⟩)
 case rest=>
  obtain ⟨g,rfl,rfl,sT,fN⟩:=hcut
  have hc1:wc.cell? ⟨w.heap.size,0,none⟩=some (.int .i64 kd):=(fN.out.cell (p:=⟨w.heap.size,0,none⟩) hz1).trans hc0
  have hz2:w.heap.size<wc.heap.size:=Nat.lt_of_lt_of_le hz1 fN.out.size
  go_upto_region 19 with fail
  have FA:=aa (fun (W W':World) (hb:Below W.heap.size W W') (hz:w.heap.size<W.heap.size) (he:W.cell? ⟨w.heap.size,0,none⟩=some (.int .i64 kd))=>show W'.cell? ⟨w.heap.size,0,none⟩=some (.int .i64 kd) from (hb.cell (p:=⟨w.heap.size,0,none⟩) hz).trans he)
  go_region_held3 (fun w'=>w'.cell? ⟨w.heap.size,0,none⟩=some (.int .i64 kd)) (go_keep) (first|(go_at_call 71;((with_reducible refine (EV.out _).mono ?_);rintro e w5 ⟨rfl,rQ,hb5⟩;have hs0:=FA.out _ _ hb5 hz2 hc1;have vu:=aa rQ;have iA:=aa hb5;have mg:=hb5.size;clear rQ hb5))|(go_at_call 70;(refine (WD.out _ _ vu.out).mono ?_;rintro e w6 ⟨rfl,bA⟩;have hs1:=FA.out _ _ bA (Nat.lt_of_lt_of_le hz2 mg) hs0;have nH:=aa (eP (W1:=wc) iA.out bA);clear bA)))
  go_wp2
  go_ret
  exact ⟨rfl,HB.out.trans ((fN.out.trans (nH.out.mono fN.out.size)).mono HB.out.size)⟩
theorem Ms (a0 xa xb xc xd:Int) (nm vl:List UInt8) (s:Value) (w:World):
 Calls Tryz.prog 44 #[.agg (aw 42 a0 nm vl xa xb xc xd s).toArray] w fun e w'=>e=.returned (.int .i64 13)∧Below w.heap.size w w':=by
 have hk:dr 42:=⟨by decide,by decide⟩
 have EV:=aa (fun W:World=>fG W)
 have WD:=aa (fun (W:World) (bm:Nat) (h:iU W bm b_)=>show Calls Tryz.prog 70 #[.map (some bm),.int .i64 42] W fun e w'=>e=.returned (.tuple #[.string {data:=#[]},.bool false])∧Below W.heap.size W w' from by
  have:=dL bm b_ 42 W h fM
  rw [kK,show vR 42=none from rfl] at this
  exact this)
 have hE:jr 42=.tuple #[.agg #[.string {data:=#[]},.int .i64 0,.int .i64 0,.int .i64 0],.bool false]:=by rfl
 have nL:=aa (fun W:World=>bB W)
 have LK:=aa (fun (W:World) (r:Nat) (h:aW W r)=>show (Instr.lookup 102 (.map (some r)) (.int .i64 42) true).run Tryz.prog W=.ok (.tuple #[.agg #[.string {data:=#[]},.int .i64 0,.int .i64 0,.int .i64 0],.bool false]) W from by rw [←hE];exact cS h hk)
 have HR:=aa (Row.new w 25 (aw 42 a0 nm vl xa xb xc xd s).toArray)
 have HB:=aa ((Below.refl w.heap.size w).alloc (Nat.le_refl _) (.cells (aw 42 a0 nm vl xa xb xc xd s).toArray 25))
 unfold aw at HR HB⊢
 obtain ⟨W1,hW1⟩:∃W1,W1=w.alloc (.cells [Value.int .i64 42,.int .i64 a0,.string (ae nm),.string (ae vl),.int .i64 xa,.int .i64 xb,.int .i64 xc,.int .i64 xd,s].toArray 25):=⟨_,rfl⟩
 rw [←hW1] at HR HB
 have hc0:W1.cell? ⟨w.heap.size,0,none⟩=some (.int .i64 42):=HR.out.cell 0
 have hz1:w.heap.size<W1.heap.size:=HR.out.lt
 have dG:=aa hW1.symm
 clear hE hW1
 go_enter Tryz.func44,Tryz.ntmps44
 go_upto_region 1 with fail
 rw [dG.out]
 go_cut [3,4] (fun tp tk wx=>∃g:Nat,tp=.pointer (some ⟨g,0,none⟩)∧tk=.bool false∧Hid (Row wx g 100 #[.string {data:=#[]},.int .i64 0,.int .i64 0,.int .i64 0])∧Hid (Below W1.heap.size W1 wx))
 case first=>
  have FA:=aa (fun (W W':World) (hb:Below W.heap.size W W') (hz:w.heap.size<W.heap.size) (he:W.heap[w.heap.size]? =W1.heap[w.heap.size]?)=>show W'.cell? ⟨w.heap.size,0,none⟩=some (.int .i64 42) from by
   rw [World.cell?_of_block ((hb.block _ hz).trans he)];exact hc0)
  have FB:=aa (fun (o:Obj) (W':World) (hb:Below (W1.alloc o).heap.size (W1.alloc o).drew W')=>show W'.cell? ⟨w.heap.size,0,none⟩=some (.int .i64 42) from FA.out (W1.alloc o).drew W' hb (by show _<(W1.alloc o).heap.size;rw [World.size_alloc];omega) (Below.heap_alloc _ _ _ hz1))
  have pL:=aa (fun (o:Obj) (W:World) (h:aW W (W1.alloc o).heap.size)=>show aW W (W1.heap.size+1) from by rw [World.size_alloc] at h;exact h)
  have FR:=aa (fun (W':World) (hb:Below (W1.alloc (.cells #[.string {data:=#[]},.int .i64 0,.int .i64 0,.int .i64 0] 100)).heap.size (W1.alloc (.cells #[.string {data:=#[]},.int .i64 0,.int .i64 0,.int .i64 0] 100)).drew W')=>show (W'.cell? ⟨W1.heap.size,0,none⟩=some (.string {data:=#[]})∧W'.cell? ⟨W1.heap.size,1,none⟩=some (.int .i64 0)∧W'.cell? ⟨W1.heap.size,2,none⟩=some (.int .i64 0)∧W'.cell? ⟨W1.heap.size,3,none⟩=some (.int .i64 0))∧(W'.frozen? ⟨W1.heap.size,0,none⟩=false∧W'.frozen? ⟨W1.heap.size,1,none⟩=false∧W'.frozen? ⟨W1.heap.size,2,none⟩=false∧W'.frozen? ⟨W1.heap.size,3,none⟩=false)∧Hid (Row W' W1.heap.size 100 #[.string {data:=#[]},.int .i64 0,.int .i64 0,.int .i64 0]) from by
   have hr:=(Row.new W1 100 #[.string {data:=#[]},.int .i64 0,.int .i64 0,.int .i64 0]).drew.below hb (by rw [World.size_alloc];omega)
   exact ⟨⟨hr.cell 0,hr.cell 1,hr.cell 2,hr.cell 3⟩,⟨hr.frozen 0,hr.frozen 1,hr.frozen 2,hr.frozen 3⟩,hr⟩)
  have ew:=World.new_ne W1 ⟨w.heap.size,0,none⟩ hc0
  have jQ:=aa (fun (W:World) (h:aW W W1.heap.size)=>show (Instr.lookup 102 (.map (some W1.heap.size)) (.int .i64 42) true).run Tryz.prog W=.ok (.tuple #[.agg #[.string {data:=#[]},.int .i64 0,.int .i64 0,.int .i64 0],.bool false]) W from LK.out W _ h)
  have pM:=aa (fun (W:World) (h:aW W (W1.heap.size+1))=>show (Instr.lookup 102 (.map (some (W1.heap.size+1))) (.int .i64 42) true).run Tryz.prog W=.ok (.tuple #[.agg #[.string {data:=#[]},.int .i64 0,.int .i64 0,.int .i64 0],.bool false]) W from LK.out W _ h)
  go_region_held3 (fun w'=>w'.cell? ⟨w.heap.size,0,none⟩=some (.int .i64 42)) (go_keep) ((go_at_call 68;refine (nL.out _).mono ?_;rintro e w5 ⟨rfl,hm,hb5⟩;(first|(have hs0:=FA.out _ _ hb5 hz1 rfl;have pN:=jQ.out w5 hm;have GG:=fun o=>jQ.out (w5.alloc o) (hm.below ((Below.refl _ w5).alloc (Nat.le_refl _) o)))|(have hs0:=FB.out _ _ hb5;obtain ⟨⟨k0,k1,k2,k3⟩,⟨y0,y1,y2,y3⟩,jR⟩:=FR.out _ hb5;have pN:=pM.out w5 (pL.out _ _ hm)));have bA:=aa hb5;clear hb5 hm))
  all_goals (go_wp2_with fail;go_meet;first|exact ⟨_,rfl,rfl,(aK (W1:=W1) bA.out _ _).1,(aK (W1:=W1) bA.out _ _).2⟩|exact ⟨_,rfl,rfl,(aL (W1:=W1) bA.out jR.out _ _ _ _).1,(aL (W1:=W1) bA.out jR.out _ _ _ _).2⟩)
 case rest=>
  obtain ⟨g,rfl,rfl,sT,fN⟩:=hcut
  have hc1:wc.cell? ⟨w.heap.size,0,none⟩=some (.int .i64 42):=(fN.out.cell (p:=⟨w.heap.size,0,none⟩) hz1).trans hc0
  have hz2:w.heap.size<wc.heap.size:=Nat.lt_of_lt_of_le hz1 fN.out.size
  go_upto_region 19 with fail
  have FA:=aa (fun (W W':World) (hb:Below W.heap.size W W') (hz:w.heap.size<W.heap.size) (he:W.cell? ⟨w.heap.size,0,none⟩=some (.int .i64 42))=>show W'.cell? ⟨w.heap.size,0,none⟩=some (.int .i64 42) from (hb.cell (p:=⟨w.heap.size,0,none⟩) hz).trans he)
  go_region_held3 (fun w'=>w'.cell? ⟨w.heap.size,0,none⟩=some (.int .i64 42)) (go_keep) (first|(go_at_call 71;((with_reducible refine (EV.out _).mono ?_);rintro e w5 ⟨rfl,rQ,hb5⟩;have hs0:=FA.out _ _ hb5 hz2 hc1;have vu:=aa rQ;have iA:=aa hb5;have mg:=hb5.size;clear rQ hb5))|(go_at_call 70;(refine (WD.out _ _ vu.out).mono ?_;rintro e w6 ⟨rfl,bA⟩;have hs1:=FA.out _ _ bA (Nat.lt_of_lt_of_le hz2 mg) hs0;have nH:=aa (eP (W1:=wc) iA.out bA);clear bA)))
  go_wp2
  go_ret
  exact ⟨rfl,HB.out.trans ((fN.out.trans (nH.out.mono fN.out.size)).mono HB.out.size)⟩
theorem Jf (kd:Int) (hk:dr kd) (hx:kD kd=none) (EW:kd≠28) (h8:kd≠8) (h6:kd≠6) (h4:kd≠4) (oG:kd≠45) (N8:kd≠47) (GH:kd≠44) (he:vR kd=none) (Mt:kd≠42) (a0 xa xb xc xd:Int) (nm vl:List UInt8) (s:Value) (w:World):
 Calls Tryz.prog 44 #[.agg (aw kd a0 nm vl xa xb xc xd s).toArray] w fun e w'=>e=.returned (.int .i64 9)∧Below w.heap.size w w':=by
 have EV:=aa (fun W:World=>fG W)
 have WD:=aa (fun (W:World) (bm:Nat) (h:iU W bm b_)=>show Calls Tryz.prog 70 #[.map (some bm),.int .i64 kd] W fun e w'=>e=.returned (.tuple #[.string {data:=#[]},.bool false])∧Below W.heap.size W w' from by
  have:=dL bm b_ kd W h fM
  rw [kK,he] at this
  exact this)
 have hE:jr kd=.tuple #[.agg #[.string {data:=#[]},.int .i64 0,.int .i64 0,.int .i64 0],.bool false]:=by unfold jr;rw [hx]
 have nL:=aa (fun W:World=>bB W)
 have LK:=aa (fun (W:World) (r:Nat) (h:aW W r)=>show (Instr.lookup 102 (.map (some r)) (.int .i64 kd) true).run Tryz.prog W=.ok (.tuple #[.agg #[.string {data:=#[]},.int .i64 0,.int .i64 0,.int .i64 0],.bool false]) W from by rw [←hE];exact cS h hk)
 have HR:=aa (Row.new w 25 (aw kd a0 nm vl xa xb xc xd s).toArray)
 have HB:=aa ((Below.refl w.heap.size w).alloc (Nat.le_refl _) (.cells (aw kd a0 nm vl xa xb xc xd s).toArray 25))
 unfold aw at HR HB⊢
 obtain ⟨W1,hW1⟩:∃W1,W1=w.alloc (.cells [Value.int .i64 kd,.int .i64 a0,.string (ae nm),.string (ae vl),.int .i64 xa,.int .i64 xb,.int .i64 xc,.int .i64 xd,s].toArray 25):=⟨_,rfl⟩
 rw [←hW1] at HR HB
 have hc0:W1.cell? ⟨w.heap.size,0,none⟩=some (.int .i64 kd):=HR.out.cell 0
 have hz1:w.heap.size<W1.heap.size:=HR.out.lt
 have dG:=aa hW1.symm
 clear hE hW1
 have n28:(kd==28)=false:=beq_eq_false_iff_ne.2 EW
 have n8:(kd==8)=false:=beq_eq_false_iff_ne.2 h8
 have n6:(kd==6)=false:=beq_eq_false_iff_ne.2 h6
 have n4:(kd==4)=false:=beq_eq_false_iff_ne.2 h4
 have n45:(kd==45)=false:=beq_eq_false_iff_ne.2 oG
 have n47:(kd==47)=false:=beq_eq_false_iff_ne.2 N8
 have n44:(kd==44)=false:=beq_eq_false_iff_ne.2 GH
 have n42:(kd==42)=false:=beq_eq_false_iff_ne.2 Mt
 clear hx EW h8 h6 h4 oG N8 GH Mt
 go_enter Tryz.func44,Tryz.ntmps44
 go_upto_region 1 with fail
 rw [dG.out]
 go_cut [3,4] (fun tp tk wx=>∃g:Nat,tp=.pointer (some ⟨g,0,none⟩)∧tk=.bool false∧Hid (Row wx g 100 #[.string {data:=#[]},.int .i64 0,.int .i64 0,.int .i64 0])∧Hid (Below W1.heap.size W1 wx))
 case first=>
  have FA:=aa (fun (W W':World) (hb:Below W.heap.size W W') (hz:w.heap.size<W.heap.size) (he:W.heap[w.heap.size]? =W1.heap[w.heap.size]?)=>show W'.cell? ⟨w.heap.size,0,none⟩=some (.int .i64 kd) from by
   rw [World.cell?_of_block ((hb.block _ hz).trans he)];exact hc0)
  have FB:=aa (fun (o:Obj) (W':World) (hb:Below (W1.alloc o).heap.size (W1.alloc o).drew W')=>show W'.cell? ⟨w.heap.size,0,none⟩=some (.int .i64 kd) from FA.out (W1.alloc o).drew W' hb (by show _<(W1.alloc o).heap.size;rw [World.size_alloc];omega) (Below.heap_alloc _ _ _ hz1))
  have pL:=aa (fun (o:Obj) (W:World) (h:aW W (W1.alloc o).heap.size)=>show aW W (W1.heap.size+1) from by rw [World.size_alloc] at h;exact h)
  have FR:=aa (fun (W':World) (hb:Below (W1.alloc (.cells #[.string {data:=#[]},.int .i64 0,.int .i64 0,.int .i64 0] 100)).heap.size (W1.alloc (.cells #[.string {data:=#[]},.int .i64 0,.int .i64 0,.int .i64 0] 100)).drew W')=>show (W'.cell? ⟨W1.heap.size,0,none⟩=some (.string {data:=#[]})∧W'.cell? ⟨W1.heap.size,1,none⟩=some (.int .i64 0)∧W'.cell? ⟨W1.heap.size,2,none⟩=some (.int .i64 0)∧W'.cell? ⟨W1.heap.size,3,none⟩=some (.int .i64 0))∧(W'.frozen? ⟨W1.heap.size,0,none⟩=false∧W'.frozen? ⟨W1.heap.size,1,none⟩=false∧W'.frozen? ⟨W1.heap.size,2,none⟩=false∧W'.frozen? ⟨W1.heap.size,3,none⟩=false)∧Hid (Row W' W1.heap.size 100 #[.string {data:=#[]},.int .i64 0,.int .i64 0,.int .i64 0]) from by
   have hr:=(Row.new W1 100 #[.string {data:=#[]},.int .i64 0,.int .i64 0,.int .i64 0]).drew.below hb (by rw [World.size_alloc];omega)
   exact ⟨⟨hr.cell 0,hr.cell 1,hr.cell 2,hr.cell 3⟩,⟨hr.frozen 0,hr.frozen 1,hr.frozen 2,hr.frozen 3⟩,hr⟩)
  have ew:=World.new_ne W1 ⟨w.heap.size,0,none⟩ hc0
  have jQ:=aa (fun (W:World) (h:aW W W1.heap.size)=>show (Instr.lookup 102 (.map (some W1.heap.size)) (.int .i64 kd) true).run Tryz.prog W=.ok (.tuple #[.agg #[.string {data:=#[]},.int .i64 0,.int .i64 0,.int .i64 0],.bool false]) W from LK.out W _ h)
  have pM:=aa (fun (W:World) (h:aW W (W1.heap.size+1))=>show (Instr.lookup 102 (.map (some (W1.heap.size+1))) (.int .i64 kd) true).run Tryz.prog W=.ok (.tuple #[.agg #[.string {data:=#[]},.int .i64 0,.int .i64 0,.int .i64 0],.bool false]) W from LK.out W _ h)
  go_region_held3 (fun w'=>w'.cell? ⟨w.heap.size,0,none⟩=some (.int .i64 kd)) (go_keep) ((go_at_call 68;refine (nL.out _).mono ?_;rintro e w5 ⟨rfl,hm,hb5⟩;(first|(have hs0:=FA.out _ _ hb5 hz1 rfl;have pN:=jQ.out w5 hm;have GG:=fun o=>jQ.out (w5.alloc o) (hm.below ((Below.refl _ w5).alloc (Nat.le_refl _) o)))|(have hs0:=FB.out _ _ hb5;obtain ⟨⟨k0,k1,k2,k3⟩,⟨y0,y1,y2,y3⟩,jR⟩:=FR.out _ hb5;have pN:=pM.out w5 (pL.out _ _ hm)));have bA:=aa hb5;clear hb5 hm))
  all_goals (go_wp2_with fail;go_meet;first|exact ⟨_,rfl,rfl,(aK (W1:=W1) bA.out _ _).1,(aK (W1:=W1) bA.out _ _).2⟩|exact ⟨_,rfl,rfl,(aL (W1:=W1) bA.out jR.out _ _ _ _).1,(aL (W1:=W1) bA.out jR.out _ _ _ _).2⟩)
 case rest=>
  obtain ⟨g,rfl,rfl,sT,fN⟩:=hcut
  have hc1:wc.cell? ⟨w.heap.size,0,none⟩=some (.int .i64 kd):=(fN.out.cell (p:=⟨w.heap.size,0,none⟩) hz1).trans hc0
  have hz2:w.heap.size<wc.heap.size:=Nat.lt_of_lt_of_le hz1 fN.out.size
  go_upto_region 19 with fail
  have FA:=aa (fun (W W':World) (hb:Below W.heap.size W W') (hz:w.heap.size<W.heap.size) (he:W.cell? ⟨w.heap.size,0,none⟩=some (.int .i64 kd))=>show W'.cell? ⟨w.heap.size,0,none⟩=some (.int .i64 kd) from (hb.cell (p:=⟨w.heap.size,0,none⟩) hz).trans he)
  go_region_held3 (fun w'=>w'.cell? ⟨w.heap.size,0,none⟩=some (.int .i64 kd)) (go_keep) (first|(go_at_call 71;((with_reducible refine (EV.out _).mono ?_);rintro e w5 ⟨rfl,rQ,hb5⟩;have hs0:=FA.out _ _ hb5 hz2 hc1;have vu:=aa rQ;have iA:=aa hb5;have mg:=hb5.size;clear rQ hb5))|(go_at_call 70;(refine (WD.out _ _ vu.out).mono ?_;rintro e w6 ⟨rfl,bA⟩;have hs1:=FA.out _ _ bA (Nat.lt_of_lt_of_le hz2 mg) hs0;have nH:=aa (eP (W1:=wc) iA.out bA);clear bA)))
  go_wp2
  go_ret
  exact ⟨rfl,HB.out.trans ((fN.out.trans (nH.out.mono fN.out.size)).mono HB.out.size)⟩
theorem Jg (a0 xa xb xc xd:Int) (nm vl:List UInt8) (s:Value) (w:World) (hv:vl.length≤1000000) (hg:Gl w) (hs:aM vl<0):
 Calls Tryz.prog 44 #[.agg (aw 4 a0 nm vl xa xb xc xd s).toArray] w fun e w'=>e=.returned (.int .i64 8)∧Below w.heap.size w w':=by
 have hk:dr 4:=⟨by decide,by decide⟩
 have SG:=aa (fun (W:World) (h:Gl W)=>show Calls Tryz.prog 69 #[.string (ae vl)] W fun e w'=>e=.returned (.int .i64 (aM vl))∧Below W.heap.size W w' from BU vl W hv h)
 have HG:=aa hg
 clear hg
 have Vd:=hs
 have hE:jr 4=.tuple #[.agg #[.string {data:=#[]},.int .i64 0,.int .i64 0,.int .i64 0],.bool false]:=by rfl
 have nL:=aa (fun W:World=>bB W)
 have LK:=aa (fun (W:World) (r:Nat) (h:aW W r)=>show (Instr.lookup 102 (.map (some r)) (.int .i64 4) true).run Tryz.prog W=.ok (.tuple #[.agg #[.string {data:=#[]},.int .i64 0,.int .i64 0,.int .i64 0],.bool false]) W from by rw [←hE];exact cS h hk)
 have HR:=aa (Row.new w 25 (aw 4 a0 nm vl xa xb xc xd s).toArray)
 have HB:=aa ((Below.refl w.heap.size w).alloc (Nat.le_refl _) (.cells (aw 4 a0 nm vl xa xb xc xd s).toArray 25))
 unfold aw at HR HB⊢
 obtain ⟨W1,hW1⟩:∃W1,W1=w.alloc (.cells [Value.int .i64 4,.int .i64 a0,.string (ae nm),.string (ae vl),.int .i64 xa,.int .i64 xb,.int .i64 xc,.int .i64 xd,s].toArray 25):=⟨_,rfl⟩
 rw [←hW1] at HR HB
 have hc0:W1.cell? ⟨w.heap.size,0,none⟩=some (.int .i64 4):=HR.out.cell 0
 have hz1:w.heap.size<W1.heap.size:=HR.out.lt
 have dG:=aa hW1.symm
 clear hE hW1
 generalize aM vl=sv at*
 go_enter Tryz.func44,Tryz.ntmps44
 go_upto_region 1 with fail
 rw [dG.out]
 go_cut [3,4] (fun tp tk wx=>∃g:Nat,tp=.pointer (some ⟨g,0,none⟩)∧tk=.bool false∧Hid (Row wx g 100 #[.string {data:=#[]},.int .i64 0,.int .i64 0,.int .i64 0])∧Hid (Below W1.heap.size W1 wx))
 case first=>
  have FA:=aa (fun (W W':World) (hb:Below W.heap.size W W') (hz:w.heap.size<W.heap.size) (he:W.heap[w.heap.size]? =W1.heap[w.heap.size]?)=>show W'.cell? ⟨w.heap.size,0,none⟩=some (.int .i64 4) from by
   rw [World.cell?_of_block ((hb.block _ hz).trans he)];exact hc0)
  have FB:=aa (fun (o:Obj) (W':World) (hb:Below (W1.alloc o).heap.size (W1.alloc o).drew W')=>show W'.cell? ⟨w.heap.size,0,none⟩=some (.int .i64 4) from FA.out (W1.alloc o).drew W' hb (by show _<(W1.alloc o).heap.size;rw [World.size_alloc];omega) (Below.heap_alloc _ _ _ hz1))
  have pL:=aa (fun (o:Obj) (W:World) (h:aW W (W1.alloc o).heap.size)=>show aW W (W1.heap.size+1) from by rw [World.size_alloc] at h;exact h)
  have FR:=aa (fun (W':World) (hb:Below (W1.alloc (.cells #[.string {data:=#[]},.int .i64 0,.int .i64 0,.int .i64 0] 100)).heap.size (W1.alloc (.cells #[.string {data:=#[]},.int .i64 0,.int .i64 0,.int .i64 0] 100)).drew W')=>show (W'.cell? ⟨W1.heap.size,0,none⟩=some (.string {data:=#[]})∧W'.cell? ⟨W1.heap.size,1,none⟩=some (.int .i64 0)∧W'.cell? ⟨W1.heap.size,2,none⟩=some (.int .i64 0)∧W'.cell? ⟨W1.heap.size,3,none⟩=some (.int .i64 0))∧(W'.frozen? ⟨W1.heap.size,0,none⟩=false∧W'.frozen? ⟨W1.heap.size,1,none⟩=false∧W'.frozen? ⟨W1.heap.size,2,none⟩=false∧W'.frozen? ⟨W1.heap.size,3,none⟩=false)∧Hid (Row W' W1.heap.size 100 #[.string {data:=#[]},.int .i64 0,.int .i64 0,.int .i64 0]) from by
   have hr:=(Row.new W1 100 #[.string {data:=#[]},.int .i64 0,.int .i64 0,.int .i64 0]).drew.below hb (by rw [World.size_alloc];omega)
   exact ⟨⟨hr.cell 0,hr.cell 1,hr.cell 2,hr.cell 3⟩,⟨hr.frozen 0,hr.frozen 1,hr.frozen 2,hr.frozen 3⟩,hr⟩)
  have ew:=World.new_ne W1 ⟨w.heap.size,0,none⟩ hc0
  have jQ:=aa (fun (W:World) (h:aW W W1.heap.size)=>show (Instr.lookup 102 (.map (some W1.heap.size)) (.int .i64 4) true).run Tryz.prog W=.ok (.tuple #[.agg #[.string {data:=#[]},.int .i64 0,.int .i64 0,.int .i64 0],.bool false]) W from LK.out W _ h)
  have pM:=aa (fun (W:World) (h:aW W (W1.heap.size+1))=>show (Instr.lookup 102 (.map (some (W1.heap.size+1))) (.int .i64 4) true).run Tryz.prog W=.ok (.tuple #[.agg #[.string {data:=#[]},.int .i64 0,.int .i64 0,.int .i64 0],.bool false]) W from LK.out W _ h)
  go_region_held3 (fun w'=>w'.cell? ⟨w.heap.size,0,none⟩=some (.int .i64 4)) (go_keep) ((go_at_call 68;refine (nL.out _).mono ?_;rintro e w5 ⟨rfl,hm,hb5⟩;(first|(have hs0:=FA.out _ _ hb5 hz1 rfl;have pN:=jQ.out w5 hm;have GG:=fun o=>jQ.out (w5.alloc o) (hm.below ((Below.refl _ w5).alloc (Nat.le_refl _) o)))|(have hs0:=FB.out _ _ hb5;obtain ⟨⟨k0,k1,k2,k3⟩,⟨y0,y1,y2,y3⟩,jR⟩:=FR.out _ hb5;have pN:=pM.out w5 (pL.out _ _ hm)));have bA:=aa hb5;clear hb5 hm))
  all_goals (go_wp2_with fail;go_meet;first|exact ⟨_,rfl,rfl,(aK (W1:=W1) bA.out _ _).1,(aK (W1:=W1) bA.out _ _).2⟩|exact ⟨_,rfl,rfl,(aL (W1:=W1) bA.out jR.out _ _ _ _).1,(aL (W1:=W1) bA.out jR.out _ _ _ _).2⟩)
 case rest=>
  obtain ⟨g,rfl,rfl,sT,fN⟩:=hcut
  have hc1:wc.cell? ⟨w.heap.size,0,none⟩=some (.int .i64 4):=(fN.out.cell (p:=⟨w.heap.size,0,none⟩) hz1).trans hc0
  have hc3:wc.cell? ⟨w.heap.size,3,none⟩=some (.string (ae vl)):=(fN.out.cell (p:=⟨w.heap.size,3,none⟩) hz1).trans (HR.out.cell 3)
  have TV:=aa (HB.out.trans (fN.out.mono HB.out.size))
  go_wp2_with fail
  refine (SG.out _ (HG.out.below TV.out)).mono ?_
  rintro e w7 ⟨rfl,kz⟩
  have hc7:w7.cell? ⟨w.heap.size,0,none⟩=some (.int .i64 4):=(kz.cell (p:=⟨w.heap.size,0,none⟩) (Nat.lt_of_lt_of_le hz1 fN.out.size)).trans hc1
  have hz7:w.heap.size<w7.heap.size:=Nat.lt_of_lt_of_le (Nat.lt_of_lt_of_le hz1 fN.out.size) kz.size
  have wQ:=aa (TV.out.trans (kz.mono TV.out.size))
  clear kz
  go_wp2
  go_ret
  exact ⟨rfl,wQ.out⟩
theorem Jh (a0 xa xb xc xd:Int) (nm vl:List UInt8) (s:Value) (w:World) (hv:vl.length≤1000000) (hg:Gl w) (hs:¬aM vl<0):
 Calls Tryz.prog 44 #[.agg (aw 4 a0 nm vl xa xb xc xd s).toArray] w fun e w'=>e=.returned (.int .i64 9)∧Below w.heap.size w w':=by
 have hk:dr 4:=⟨by decide,by decide⟩
 have SG:=aa (fun (W:World) (h:Gl W)=>show Calls Tryz.prog 69 #[.string (ae vl)] W fun e w'=>e=.returned (.int .i64 (aM vl))∧Below W.heap.size W w' from BU vl W hv h)
 have HG:=aa hg
 clear hg
 have Vd:0≤aM vl:=by omega
 clear hs
 have EV:=aa (fun W:World=>fG W)
 have WD:=aa (fun (W:World) (bm:Nat) (h:iU W bm b_)=>show Calls Tryz.prog 70 #[.map (some bm),.int .i64 4] W fun e w'=>e=.returned (.tuple #[.string {data:=#[]},.bool false])∧Below W.heap.size W w' from by
  have:=dL bm b_ 4 W h fM
  rw [kK,show vR 4=none from rfl] at this
  exact this)
 have hE:jr 4=.tuple #[.agg #[.string {data:=#[]},.int .i64 0,.int .i64 0,.int .i64 0],.bool false]:=by rfl
 have nL:=aa (fun W:World=>bB W)
 have LK:=aa (fun (W:World) (r:Nat) (h:aW W r)=>show (Instr.lookup 102 (.map (some r)) (.int .i64 4) true).run Tryz.prog W=.ok (.tuple #[.agg #[.string {data:=#[]},.int .i64 0,.int .i64 0,.int .i64 0],.bool false]) W from by rw [←hE];exact cS h hk)
 have HR:=aa (Row.new w 25 (aw 4 a0 nm vl xa xb xc xd s).toArray)
 have HB:=aa ((Below.refl w.heap.size w).alloc (Nat.le_refl _) (.cells (aw 4 a0 nm vl xa xb xc xd s).toArray 25))
 unfold aw at HR HB⊢
 obtain ⟨W1,hW1⟩:∃W1,W1=w.alloc (.cells [Value.int .i64 4,.int .i64 a0,.string (ae nm),.string (ae vl),.int .i64 xa,.int .i64 xb,.int .i64 xc,.int .i64 xd,s].toArray 25):=⟨_,rfl⟩
 rw [←hW1] at HR HB
 have hc0:W1.cell? ⟨w.heap.size,0,none⟩=some (.int .i64 4):=HR.out.cell 0
 have hz1:w.heap.size<W1.heap.size:=HR.out.lt
 have dG:=aa hW1.symm
 clear hE hW1
 generalize aM vl=sv at*
 go_enter Tryz.func44,Tryz.ntmps44
 go_upto_region 1 with fail
 rw [dG.out]
 go_cut [3,4] (fun tp tk wx=>∃g:Nat,tp=.pointer (some ⟨g,0,none⟩)∧tk=.bool false∧Hid (Row wx g 100 #[.string {data:=#[]},.int .i64 0,.int .i64 0,.int .i64 0])∧Hid (Below W1.heap.size W1 wx))
 case first=>
  have FA:=aa (fun (W W':World) (hb:Below W.heap.size W W') (hz:w.heap.size<W.heap.size) (he:W.heap[w.heap.size]? =W1.heap[w.heap.size]?)=>show W'.cell? ⟨w.heap.size,0,none⟩=some (.int .i64 4) from by
   rw [World.cell?_of_block ((hb.block _ hz).trans he)];exact hc0)
  have FB:=aa (fun (o:Obj) (W':World) (hb:Below (W1.alloc o).heap.size (W1.alloc o).drew W')=>show W'.cell? ⟨w.heap.size,0,none⟩=some (.int .i64 4) from FA.out (W1.alloc o).drew W' hb (by show _<(W1.alloc o).heap.size;rw [World.size_alloc];omega) (Below.heap_alloc _ _ _ hz1))
  have pL:=aa (fun (o:Obj) (W:World) (h:aW W (W1.alloc o).heap.size)=>show aW W (W1.heap.size+1) from by rw [World.size_alloc] at h;exact h)
  have FR:=aa (fun (W':World) (hb:Below (W1.alloc (.cells #[.string {data:=#[]},.int .i64 0,.int .i64 0,.int .i64 0] 100)).heap.size (W1.alloc (.cells #[.string {data:=#[]},.int .i64 0,.int .i64 0,.int .i64 0] 100)).drew W')=>show (W'.cell? ⟨W1.heap.size,0,none⟩=some (.string {data:=#[]})∧W'.cell? ⟨W1.heap.size,1,none⟩=some (.int .i64 0)∧W'.cell? ⟨W1.heap.size,2,none⟩=some (.int .i64 0)∧W'.cell? ⟨W1.heap.size,3,none⟩=some (.int .i64 0))∧(W'.frozen? ⟨W1.heap.size,0,none⟩=false∧W'.frozen? ⟨W1.heap.size,1,none⟩=false∧W'.frozen? ⟨W1.heap.size,2,none⟩=false∧W'.frozen? ⟨W1.heap.size,3,none⟩=false)∧Hid (Row W' W1.heap.size 100 #[.string {data:=#[]},.int .i64 0,.int .i64 0,.int .i64 0]) from by
   have hr:=(Row.new W1 100 #[.string {data:=#[]},.int .i64 0,.int .i64 0,.int .i64 0]).drew.below hb (by rw [World.size_alloc];omega)
   exact ⟨⟨hr.cell 0,hr.cell 1,hr.cell 2,hr.cell 3⟩,⟨hr.frozen 0,hr.frozen 1,hr.frozen 2,hr.frozen 3⟩,hr⟩)
  have ew:=World.new_ne W1 ⟨w.heap.size,0,none⟩ hc0
  have jQ:=aa (fun (W:World) (h:aW W W1.heap.size)=>show (Instr.lookup 102 (.map (some W1.heap.size)) (.int .i64 4) true).run Tryz.prog W=.ok (.tuple #[.agg #[.string {data:=#[]},.int .i64 0,.int .i64 0,.int .i64 0],.bool false]) W from LK.out W _ h)
  have pM:=aa (fun (W:World) (h:aW W (W1.heap.size+1))=>show (Instr.lookup 102 (.map (some (W1.heap.size+1))) (.int .i64 4) true).run Tryz.prog W=.ok (.tuple #[.agg #[.string {data:=#[]},.int .i64 0,.int .i64 0,.int .i64 0],.bool false]) W from LK.out W _ h)
  go_region_held3 (fun w'=>w'.cell? ⟨w.heap.size,0,none⟩=some (.int .i64 4)) (go_keep) ((go_at_call 68;refine (nL.out _).mono ?_;rintro e w5 ⟨rfl,hm,hb5⟩;(first|(have hs0:=FA.out _ _ hb5 hz1 rfl;have pN:=jQ.out w5 hm;have GG:=fun o=>jQ.out (w5.alloc o) (hm.below ((Below.refl _ w5).alloc (Nat.le_refl _) o)))|(have hs0:=FB.out _ _ hb5;obtain ⟨⟨k0,k1,k2,k3⟩,⟨y0,y1,y2,y3⟩,jR⟩:=FR.out _ hb5;have pN:=pM.out w5 (pL.out _ _ hm)));have bA:=aa hb5;clear hb5 hm))
  all_goals (go_wp2_with fail;go_meet;first|exact ⟨_,rfl,rfl,(aK (W1:=W1) bA.out _ _).1,(aK (W1:=W1) bA.out _ _).2⟩|exact ⟨_,rfl,rfl,(aL (W1:=W1) bA.out jR.out _ _ _ _).1,(aL (W1:=W1) bA.out jR.out _ _ _ _).2⟩)
 case rest=>
  obtain ⟨g,rfl,rfl,sT,fN⟩:=hcut
  have hc1:wc.cell? ⟨w.heap.size,0,none⟩=some (.int .i64 4):=(fN.out.cell (p:=⟨w.heap.size,0,none⟩) hz1).trans hc0
  have hc3:wc.cell? ⟨w.heap.size,3,none⟩=some (.string (ae vl)):=(fN.out.cell (p:=⟨w.heap.size,3,none⟩) hz1).trans (HR.out.cell 3)
  have TV:=aa (HB.out.trans (fN.out.mono HB.out.size))
  go_wp2_with fail
  refine (SG.out _ (HG.out.below TV.out)).mono ?_
  rintro e w7 ⟨rfl,kz⟩
  have hc7:w7.cell? ⟨w.heap.size,0,none⟩=some (.int .i64 4):=(kz.cell (p:=⟨w.heap.size,0,none⟩) (Nat.lt_of_lt_of_le hz1 fN.out.size)).trans hc1
  have hz7:w.heap.size<w7.heap.size:=Nat.lt_of_lt_of_le (Nat.lt_of_lt_of_le hz1 fN.out.size) kz.size
  have wQ:=aa (TV.out.trans (kz.mono TV.out.size))
  clear kz
  go_upto_region 19 with fail
  have FA:=aa (fun (W W':World) (hb:Below W.heap.size W W') (hz:w.heap.size<W.heap.size) (he:W.cell? ⟨w.heap.size,0,none⟩=some (.int .i64 4))=>show W'.cell? ⟨w.heap.size,0,none⟩=some (.int .i64 4) from (hb.cell (p:=⟨w.heap.size,0,none⟩) hz).trans he)
  go_region_held3 (fun w'=>w'.cell? ⟨w.heap.size,0,none⟩=some (.int .i64 4)) (go_keep) (first|(go_at_call 71;((with_reducible refine (EV.out _).mono ?_);rintro e w5 ⟨rfl,rQ,hb5⟩;have hs0:=FA.out _ _ hb5 hz7 hc7;have vu:=aa rQ;have iA:=aa hb5;have mg:=hb5.size;clear rQ hb5))|(go_at_call 70;(refine (WD.out _ _ vu.out).mono ?_;rintro e w6 ⟨rfl,bA⟩;have hs1:=FA.out _ _ bA (Nat.lt_of_lt_of_le hz7 mg) hs0;have nH:=aa (eP (W1:=w7) iA.out bA);clear bA)))
  go_wp2
  go_ret
  exact ⟨rfl,wQ.out.trans (nH.out.mono wQ.out.size)⟩
theorem qO (kd a0 xa xb xc xd:Int) (nm vl:List UInt8) (s:Value) (w:World) (hk:dr kd) (hv:vl.length≤1000000) (hg:Gl w):
 Calls Tryz.prog 44 #[.agg (aw kd a0 nm vl xa xb xc xd s).toArray] w fun e w'=>e=.returned (.int .i64 (EU kd vl))∧Below w.heap.size w w':=by
 cases hx:kD kd with
 |some x=>exact Ja kd a0 xa xb xc xd nm vl s w hk x hx
 |none=>
  by_cases EW:kd=28
  ·subst EW;exact Jb a0 xa xb xc xd nm vl s w
  by_cases h8:kd=8
  ·subst h8;exact Mp a0 xa xb xc xd nm vl s w
  by_cases h6:kd=6
  ·subst h6;exact Mq a0 xa xb xc xd nm vl s w
  by_cases oG:kd=45
  ·subst oG;exact Jc a0 xa xb xc xd nm vl s w
  by_cases N8:kd=47
  ·subst N8;exact Jd a0 xa xb xc xd nm vl s w
  by_cases GH:kd=44
  ·subst GH;exact Je a0 xa xb xc xd nm vl s w
  by_cases h4:kd=4
  ·subst h4
   by_cases hs:aM vl<0
   ·have e:EU 4 vl=8:=by
     show (if (4:Int)=28 then (2:Int) else if (4:Int)=8∨(4:Int)=6 then 8 else if (4:Int)=4∧aM vl<0 then 8 else _)=8
     rw [if_neg (by decide),if_neg (by decide),if_pos ⟨rfl,hs⟩]
    rw [e];exact Jg a0 xa xb xc xd nm vl s w hv hg hs
   ·have e:EU 4 vl=9:=by
     show (if (4:Int)=28 then (2:Int) else if (4:Int)=8∨(4:Int)=6 then 8 else if (4:Int)=4∧aM vl<0 then 8 else _)=9
     rw [if_neg (by decide),if_neg (by decide),if_neg (fun h=>hs h.2)];rfl
    rw [e];exact Jh a0 xa xb xc xd nm vl s w hv hg hs
  ·have e0:EU kd vl=if (vR kd).isSome∨kd=42 then 13 else 9:=by
    unfold EU pG
    show (match kD kd with|some x=>x.2.1|none=>if kd=28 then 2 else if kd=8∨kd=6 then 8 else if kd=4∧aM vl<0 then 8 else if kd=45 then 11 else if kd=47 then 12 else if kd=44 then 13 else if (vR kd).isSome∨kd=42 then 13 else 9)=_
    rw [hx]
    show (if kd=28 then (2:Int) else if kd=8∨kd=6 then 8 else if kd=4∧aM vl<0 then 8 else if kd=45 then 11 else if kd=47 then 12 else if kd=44 then 13 else if (vR kd).isSome∨kd=42 then 13 else 9)=_
    rw [if_neg EW,if_neg (fun h=>h.elim h8 h6),if_neg (fun h=>h4 h.1),if_neg oG,if_neg N8,if_neg GH]
   rw [e0]
   by_cases Mt:kd=42
   ·subst Mt;exact Ms a0 xa xb xc xd nm vl s w
   ·cases he:vR kd with
    |some x=>rw [if_pos (.inl rfl)];exact Mr kd hk hx EW h8 h6 h4 oG N8 GH x he a0 xa xb xc xd nm vl s w
    |none=>rw [if_neg (by rintro (h|h);cases h;exact Mt h)];exact Jf kd hk hx EW h8 h6 h4 oG N8 GH he Mt a0 xa xb xc xd nm vl s w
end Go.Proofs.YtddoehnkgcbboaaGreatDoor
