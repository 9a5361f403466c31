/- A part of the proof that the last file tells. -/
import Derived.Test.YtddoehnkgcbboaaGreatDoorAgL
import Derived.Lib.Builder
import Derived.Lib.UnsafeStr
import Derived.Laws.Externs
set_option maxHeartbeats 16000000
set_option maxRecDepth 100000
set_option linter.unusedVariables false
set_option linter.unusedSimpArgs false
namespace Go.Proofs.YtddoehnkgcbboaaGreatDoor
open Go.RowKit Go.Shelf
def mN:List (List UInt8×Int)→Nat→List MapEntry
 |[],_=>[]
 |o::r,n=>{key:=.string (ag o.1),val:=.int .i64 o.2,born:=n}::mN r (n+1)
theorem Bc:∀(ops:List (List UInt8×Int)) (n:Nat) (o:List UInt8×Int),mN (ops++[o]) n=mN ops n++[{key:=.string (ag o.1),val:=.int .i64 o.2,born:=n+ops.length}]
 |[],n,o=>rfl
 |a::r,n,o=>by
  rw [List.cons_append];unfold mN;rw [Bc r (n+1) o,aj,show n+1+r.length=n+(r.length+1) by omega];rfl
theorem Bd (x:List UInt8):∀(ops:List (List UInt8×Int)) (n j:Nat),(∀o∈ops,o.1≠x)→Instr.findNow .string (.string (ag x)) (mN ops n) j=some none
 |[],n,j,_=>rfl
 |o::r,n,j,h=>by
  unfold mN Instr.findNow;rw [vP];have hf:(x==o.1)=false:=aP.2 (fun e=>h o bX e.symm);rw [hf];exact Bd x r (n+1) (j+1) (fun o ho=>h o (cL _ ho))
theorem iH (w:World) (r n:Nat) (ops:List (List UInt8×Int)) (o:List UInt8×Int) (hn:n=ops.length) (hb:w.heap[r]? =some (.map (mN ops 0).toArray n)) (hk:∀a∈ops,a.1≠o.1):
 ∃w',(Instr.mapUpdate 63 (.map (some r)) (.string (ag o.1)) (.int .i64 o.2)).run Tryz.prog w=.ok () w'∧w'.heap[r]? =some (.map (mN (ops++[o]) 0).toArray (n+1))∧∀B,B≤r→RowKit.Below B w w':=by
 obtain ⟨w',h1,h2,h3⟩:=xD w 63 9 3 .string r n _ (.string (ag o.1)) (.int .i64 o.2) Tryz.underlying63 Tryz.underlying9 trivial hb (Bd _ _ _ _ hk);refine ⟨w',h1,?_,h3⟩;rw [h2,Bc,hn,Nat.zero_add];simp
theorem Kq:∀(ops:List (List UInt8×Int)) (n:Nat),((mN ops n).map fun e=>(e.key,e.val))=ops.map (fun o=>(Value.string (ag o.1),Value.int .i64 o.2))∧((mN ops n).map (·.born))=List.range' n ops.length
 |[],n=>⟨rfl,rfl⟩
 |o::r,n=>by
  obtain ⟨h1,h2⟩:=Kq r (n+1);refine ⟨?_,?_⟩
  ·unfold mN;rw [List.map_cons,h1];rfl
  ·unfold mN;rw [List.map_cons,h2,aj,List.range'_succ]
theorem jh {w:World} {r n:Nat} {ops:List (List UInt8×Int)} (hn:n=ops.length) (hb:w.heap[r]? =some (.map (mN ops 0).toArray n)):nR w r ops:=by
 obtain ⟨h1,h2⟩:=Kq ops 0;refine ⟨_,n,hb,h1,fun e he=>?_,?_⟩
 ·have:e.born∈(mN ops 0).map (·.born):=List.mem_map.2 ⟨e,by simpa using he,rfl⟩;rw [h2,List.mem_range'_1] at this;omega
 ·show (((mN ops 0).toArray.toList).map (·.born)).Nodup;rw [List.toList_toArray,h2];exact List.nodup_range'
theorem bQ.IE {p:PS} {w:World} {k:Nat} (h:bQ p w k):Below w.heap.size w ((w.alloc (.cells cG 25)).alloc (.map #[] 0))∧((w.alloc (.cells cG 25)).alloc (.map #[] 0)).heap[w.heap.size+1]? =some (.map (mN [] 0).toArray 0)∧Row ((w.alloc (.cells cG 25)).alloc (.map #[] 0)) w.heap.size 25 cG:=by
 refine ⟨((af _ _).alloc (aa _) _).alloc (by rw [aF];omega) _,?_,(Row.new w _ _).alloc _⟩;have:=heap_alloc_new (w.alloc (.cells cG 25)) (.map #[] 0);rw [aF] at this;exact this
theorem ji {B g:Nat} {W:World} {n:Nd} {kd a0 xa xb xc xd:Int} {nm vl:List UInt8} {s:Value} (h:cK (fun b=>b<B) W n (aB kd a0 nm vl xa xb xc xd s)) (hg:g<B):
 qI g (kH W g (.int .i64 kd) (.int .i64 a0) (.string (ag nm)) (.string (ag vl)) (.int .i64 xa) (.int .i64 xb) (.int .i64 xc) (.int .i64 xd) s) n (.agg #[.int .i64 kd,.int .i64 a0,.string (ag nm),.string (ag vl),.int .i64 xa,.int .i64 xb,.int .i64 xc,.int .i64 xd,s]):=
 ⟨_,rfl,(h.keeps (aN (C:=fun b=>b<B) hg _ _ _ _ _ _ _ _ _)).mono (fun b hb=>Nat.lt_trans hb hg)⟩
theorem rQ {f:FuncId} {args:Array Value} (h:(Tryz.prog.funcs[f]?).map (fun fn=>(fn.name== "runtime.NumGoroutine",fn.body.isNone))=some (false,false)):∀W,(callFunc f args).run Tryz.prog W=.ok (.enter f args) W:=fun W=>ld h W
theorem UR (p:PS) (F:Nat) (f:Nat→PR Nd) (hc:cY p 249 f F) (hp:Prog f):cY p 223 (dN p.L p.en CB f) F:=by
 intro k w hF h;have hmm:=@run_makeMap Tryz.prog;have hbz:p.b<w.heap.size:=h.row.lt;obtain ⟨b0,m0,iX⟩:=h.IE;obtain ⟨W1,r1,m1,b1⟩:=iH _ (w.heap.size+1) 0 _ ([43],12) rfl m0 (by decide);obtain ⟨W2,r2,m2,b2⟩:=iH _ (w.heap.size+1) 1 _ ([45],13) rfl m1 (by decide);have u1:(Instr.mapUpdate 63 (.map (some (w.heap.size+1))) (.string {data:=#[43]}) (.int .i64 12)).run Tryz.prog ((w.alloc (.cells #[.int .i64 0,.int .i64 0,.string {data:=#[]},.string {data:=#[]},.int .i64 0,.int .i64 0,.int .i64 0,.int .i64 0,.slice none 0 0] 25)).alloc (.map #[] 0))=.ok () W1:=r1;have u2:(Instr.mapUpdate 63 (.map (some (w.heap.size+1))) (.string {data:=#[45]}) (.int .i64 13)).run Tryz.prog (W1)=.ok () W2:=r2;have hb:Below w.heap.size w W2:=((b0).trans (b1 _ (Nat.le_succ _))).trans (b2 _ (Nat.le_succ _));have uZ:Row W2 w.heap.size 25 cG:=((iX).below (b1 _ (aa _)) (Nat.lt_succ_self _)).below (b2 _ (aa _)) (Nat.lt_succ_self _);have LF:=hide (lA p F 249 f CB (w.heap.size+1) k W2 (h.below hb) hF (jh rfl m2) (by omega) (by unfold dQ;decide) (by decide) hc (rQ (by kernel_rfl)) hp);have H:=hide h;have HB:=hide hb;have HR:=hide uZ;have hsz:w.heap.size<W2.heap.size:=uZ.lt;clear m0 b0 iX hb uZ hc m1 b1 r1 m2 b2 r2
 cases hR:dN p.L p.en CB f k with
 |err a er=>
  rw [hR] at LF;clear h hR;go_enter Tryz.func223,Tryz.ntmps223;go_wp2_with fail;refine LF.o.mono ?_;rintro e w1 ⟨rfl,hk⟩;go_wp2;exact ⟨rfl,rfl,(ah.of_below HB.o (aa _)).trans hk⟩
 |ok n k'=>
  rw [hR] at LF;clear h hR;go_enter Tryz.func223,Tryz.ntmps223;go_wp2_with fail;refine LF.o.mono ?_;rintro e w1 ⟨⟨v,rfl,cs,rfl,hnd⟩,h1,hk⟩;have hres:Row w1 w.heap.size 25 cG:=HR.o.keep hk (by show¬w.heap.size=p.b;omega);have fR:=hide hnd
  cases hnd with
  |mk kd a0 nm vl xa xb xc xd ks A cap bH hl hks hr=>
   obtain ⟨e0,e1,e2,e3,e4,e5,e6,e7,e8⟩:=ak hres;obtain ⟨f0,f1,f2,f3,f4,f5,f6,f7,f8⟩:=aU hres;have hkk:=(ah.of_below (C:=fun c=>c=p.b) HB.o (aa _)).trans hk;clear hl hks hr hk;unfold aB;go_wp2_with fail;refine bodyPost_ret (v:=.agg #[.int .i64 kd,.int .i64 a0,.string (ag nm),.string (ag vl),.int .i64 xa,.int .i64 xb,.int .i64 xc,.int .i64 xd,.slice A ks.length cap]) (ai rfl _ _ w.heap.size 25 _ _ _ rfl (aJ hres _ _ _ _ _ _ _ _ _) Tryz.underlying25 rfl (by kernel_rfl)) rfl ?_;have hbl:=ay (W:=w1) (aa w.heap.size) (.int .i64 kd) (.int .i64 a0) (.string (ag nm)) (.string (ag vl)) (.int .i64 xa) (.int .i64 xb) (.int .i64 xc) (.int .i64 xd) (.slice A ks.length cap);exact ⟨⟨_,rfl,ji fR.o hsz⟩,H.o.above h1 hbl,hkk.over hbl⟩
theorem IG (p:PS) (F:Nat) (f:Nat→PR Nd) (hc:cY p 223 f F) (hp:Prog f):cY p 197 (dN p.L p.en EO f) F:=by
 intro k w hF h;have hmm:=@run_makeMap Tryz.prog;have hbz:p.b<w.heap.size:=h.row.lt;obtain ⟨b0,m0,iX⟩:=h.IE;obtain ⟨W1,r1,m1,b1⟩:=iH _ (w.heap.size+1) 0 _ ([38],9) rfl m0 (by decide);have u1:(Instr.mapUpdate 63 (.map (some (w.heap.size+1))) (.string {data:=#[38]}) (.int .i64 9)).run Tryz.prog ((w.alloc (.cells #[.int .i64 0,.int .i64 0,.string {data:=#[]},.string {data:=#[]},.int .i64 0,.int .i64 0,.int .i64 0,.int .i64 0,.slice none 0 0] 25)).alloc (.map #[] 0))=.ok () W1:=r1;have hb:Below w.heap.size w W1:=(b0).trans (b1 _ (Nat.le_succ _));have uZ:Row W1 w.heap.size 25 cG:=(iX).below (b1 _ (aa _)) (Nat.lt_succ_self _);have LF:=hide (lA p F 223 f EO (w.heap.size+1) k W1 (h.below hb) hF (jh rfl m1) (by omega) (by unfold dQ;decide) (by decide) hc (rQ (by kernel_rfl)) hp);have H:=hide h;have HB:=hide hb;have HR:=hide uZ;have hsz:w.heap.size<W1.heap.size:=uZ.lt;clear m0 b0 iX hb uZ hc m1 b1 r1
 cases hR:dN p.L p.en EO f k with
 |err a er=>
  rw [hR] at LF;clear h hR;go_enter Tryz.func197,Tryz.ntmps197;go_wp2_with fail;refine LF.o.mono ?_;rintro e w1 ⟨rfl,hk⟩;go_wp2;exact ⟨rfl,rfl,(ah.of_below HB.o (aa _)).trans hk⟩
 |ok n k'=>
  rw [hR] at LF;clear h hR;go_enter Tryz.func197,Tryz.ntmps197;go_wp2_with fail;refine LF.o.mono ?_;rintro e w1 ⟨⟨v,rfl,cs,rfl,hnd⟩,h1,hk⟩;have hres:Row w1 w.heap.size 25 cG:=HR.o.keep hk (by show¬w.heap.size=p.b;omega);have fR:=hide hnd
  cases hnd with
  |mk kd a0 nm vl xa xb xc xd ks A cap bH hl hks hr=>
   obtain ⟨e0,e1,e2,e3,e4,e5,e6,e7,e8⟩:=ak hres;obtain ⟨f0,f1,f2,f3,f4,f5,f6,f7,f8⟩:=aU hres;have hkk:=(ah.of_below (C:=fun c=>c=p.b) HB.o (aa _)).trans hk;clear hl hks hr hk;unfold aB;go_wp2_with fail;refine bodyPost_ret (v:=.agg #[.int .i64 kd,.int .i64 a0,.string (ag nm),.string (ag vl),.int .i64 xa,.int .i64 xb,.int .i64 xc,.int .i64 xd,.slice A ks.length cap]) (ai rfl _ _ w.heap.size 25 _ _ _ rfl (aJ hres _ _ _ _ _ _ _ _ _) Tryz.underlying25 rfl (by kernel_rfl)) rfl ?_;have hbl:=ay (W:=w1) (aa w.heap.size) (.int .i64 kd) (.int .i64 a0) (.string (ag nm)) (.string (ag vl)) (.int .i64 xa) (.int .i64 xb) (.int .i64 xc) (.int .i64 xd) (.slice A ks.length cap);exact ⟨⟨_,rfl,ji fR.o hsz⟩,H.o.above h1 hbl,hkk.over hbl⟩
theorem II (p:PS) (F:Nat) (f:Nat→PR Nd) (hc:cY p 197 f F) (hp:Prog f):cY p 164 (dN p.L p.en IA f) F:=by
 intro k w hF h;have hmm:=@run_makeMap Tryz.prog;have hbz:p.b<w.heap.size:=h.row.lt;obtain ⟨b0,m0,iX⟩:=h.IE;obtain ⟨W1,r1,m1,b1⟩:=iH _ (w.heap.size+1) 0 _ ([94],11) rfl m0 (by decide);have u1:(Instr.mapUpdate 63 (.map (some (w.heap.size+1))) (.string {data:=#[94]}) (.int .i64 11)).run Tryz.prog ((w.alloc (.cells #[.int .i64 0,.int .i64 0,.string {data:=#[]},.string {data:=#[]},.int .i64 0,.int .i64 0,.int .i64 0,.int .i64 0,.slice none 0 0] 25)).alloc (.map #[] 0))=.ok () W1:=r1;have hb:Below w.heap.size w W1:=(b0).trans (b1 _ (Nat.le_succ _));have uZ:Row W1 w.heap.size 25 cG:=(iX).below (b1 _ (aa _)) (Nat.lt_succ_self _);have LF:=hide (lA p F 197 f IA (w.heap.size+1) k W1 (h.below hb) hF (jh rfl m1) (by omega) (by unfold dQ;decide) (by decide) hc (rQ (by kernel_rfl)) hp);have H:=hide h;have HB:=hide hb;have HR:=hide uZ;have hsz:w.heap.size<W1.heap.size:=uZ.lt;clear m0 b0 iX hb uZ hc m1 b1 r1
 cases hR:dN p.L p.en IA f k with
 |err a er=>
  rw [hR] at LF;clear h hR;go_enter Tryz.func164,Tryz.ntmps164;go_wp2_with fail;refine LF.o.mono ?_;rintro e w1 ⟨rfl,hk⟩;go_wp2;exact ⟨rfl,rfl,(ah.of_below HB.o (aa _)).trans hk⟩
 |ok n k'=>
  rw [hR] at LF;clear h hR;go_enter Tryz.func164,Tryz.ntmps164;go_wp2_with fail;refine LF.o.mono ?_;rintro e w1 ⟨⟨v,rfl,cs,rfl,hnd⟩,h1,hk⟩;have hres:Row w1 w.heap.size 25 cG:=HR.o.keep hk (by show¬w.heap.size=p.b;omega);have fR:=hide hnd
  cases hnd with
  |mk kd a0 nm vl xa xb xc xd ks A cap bH hl hks hr=>
   obtain ⟨e0,e1,e2,e3,e4,e5,e6,e7,e8⟩:=ak hres;obtain ⟨f0,f1,f2,f3,f4,f5,f6,f7,f8⟩:=aU hres;have hkk:=(ah.of_below (C:=fun c=>c=p.b) HB.o (aa _)).trans hk;clear hl hks hr hk;unfold aB;go_wp2_with fail;refine bodyPost_ret (v:=.agg #[.int .i64 kd,.int .i64 a0,.string (ag nm),.string (ag vl),.int .i64 xa,.int .i64 xb,.int .i64 xc,.int .i64 xd,.slice A ks.length cap]) (ai rfl _ _ w.heap.size 25 _ _ _ rfl (aJ hres _ _ _ _ _ _ _ _ _) Tryz.underlying25 rfl (by kernel_rfl)) rfl ?_;have hbl:=ay (W:=w1) (aa w.heap.size) (.int .i64 kd) (.int .i64 a0) (.string (ag nm)) (.string (ag vl)) (.int .i64 xa) (.int .i64 xb) (.int .i64 xc) (.int .i64 xd) (.slice A ks.length cap);exact ⟨⟨_,rfl,ji fR.o hsz⟩,H.o.above h1 hbl,hkk.over hbl⟩
theorem MF (p:PS) (F:Nat) (f:Nat→PR Nd) (hc:cY p 164 f F) (hp:Prog f):cY p 127 (dN p.L p.en orO f) F:=by
 intro k w hF h;have hmm:=@run_makeMap Tryz.prog;have hbz:p.b<w.heap.size:=h.row.lt;obtain ⟨b0,m0,iX⟩:=h.IE;obtain ⟨W1,r1,m1,b1⟩:=iH _ (w.heap.size+1) 0 _ ([124],10) rfl m0 (by decide);have u1:(Instr.mapUpdate 63 (.map (some (w.heap.size+1))) (.string {data:=#[124]}) (.int .i64 10)).run Tryz.prog ((w.alloc (.cells #[.int .i64 0,.int .i64 0,.string {data:=#[]},.string {data:=#[]},.int .i64 0,.int .i64 0,.int .i64 0,.int .i64 0,.slice none 0 0] 25)).alloc (.map #[] 0))=.ok () W1:=r1;have hb:Below w.heap.size w W1:=(b0).trans (b1 _ (Nat.le_succ _));have uZ:Row W1 w.heap.size 25 cG:=(iX).below (b1 _ (aa _)) (Nat.lt_succ_self _);have LF:=hide (lA p F 164 f orO (w.heap.size+1) k W1 (h.below hb) hF (jh rfl m1) (by omega) (by unfold dQ;decide) (by decide) hc (rQ (by kernel_rfl)) hp);have H:=hide h;have HB:=hide hb;have HR:=hide uZ;have hsz:w.heap.size<W1.heap.size:=uZ.lt;clear m0 b0 iX hb uZ hc m1 b1 r1
 cases hR:dN p.L p.en orO f k with
 |err a er=>
  rw [hR] at LF;clear h hR;go_enter Tryz.func127,Tryz.ntmps127;go_wp2_with fail;refine LF.o.mono ?_;rintro e w1 ⟨rfl,hk⟩;go_wp2;exact ⟨rfl,rfl,(ah.of_below HB.o (aa _)).trans hk⟩
 |ok n k'=>
  rw [hR] at LF;clear h hR;go_enter Tryz.func127,Tryz.ntmps127;go_wp2_with fail;refine LF.o.mono ?_;rintro e w1 ⟨⟨v,rfl,cs,rfl,hnd⟩,h1,hk⟩;have hres:Row w1 w.heap.size 25 cG:=HR.o.keep hk (by show¬w.heap.size=p.b;omega);have fR:=hide hnd
  cases hnd with
  |mk kd a0 nm vl xa xb xc xd ks A cap bH hl hks hr=>
   obtain ⟨e0,e1,e2,e3,e4,e5,e6,e7,e8⟩:=ak hres;obtain ⟨f0,f1,f2,f3,f4,f5,f6,f7,f8⟩:=aU hres;have hkk:=(ah.of_below (C:=fun c=>c=p.b) HB.o (aa _)).trans hk;clear hl hks hr hk;unfold aB;go_wp2_with fail;refine bodyPost_ret (v:=.agg #[.int .i64 kd,.int .i64 a0,.string (ag nm),.string (ag vl),.int .i64 xa,.int .i64 xb,.int .i64 xc,.int .i64 xd,.slice A ks.length cap]) (ai rfl _ _ w.heap.size 25 _ _ _ rfl (aJ hres _ _ _ _ _ _ _ _ _) Tryz.underlying25 rfl (by kernel_rfl)) rfl ?_;have hbl:=ay (W:=w1) (aa w.heap.size) (.int .i64 kd) (.int .i64 a0) (.string (ag nm)) (.string (ag vl)) (.int .i64 xa) (.int .i64 xb) (.int .i64 xc) (.int .i64 xd) (.slice A ks.length cap);exact ⟨⟨_,rfl,ji fR.o hsz⟩,H.o.above h1 hbl,hkk.over hbl⟩
theorem Qs (p:PS) (F:Nat) (f:Nat→PR Nd) (hc:cY p 50 f F) (hp:Prog f):cY p 35 (dN p.L p.en yD f) F:=by
 intro k w hF h;have hmm:=@run_makeMap Tryz.prog;have hbz:p.b<w.heap.size:=h.row.lt;obtain ⟨b0,m0,iX⟩:=h.IE;obtain ⟨W1,r1,m1,b1⟩:=iH _ (w.heap.size+1) 0 _ ([38,38],29) rfl m0 (by decide);have u1:(Instr.mapUpdate 63 (.map (some (w.heap.size+1))) (.string {data:=#[38,38]}) (.int .i64 29)).run Tryz.prog ((w.alloc (.cells #[.int .i64 0,.int .i64 0,.string {data:=#[]},.string {data:=#[]},.int .i64 0,.int .i64 0,.int .i64 0,.int .i64 0,.slice none 0 0] 25)).alloc (.map #[] 0))=.ok () W1:=r1;have hb:Below w.heap.size w W1:=(b0).trans (b1 _ (Nat.le_succ _));have uZ:Row W1 w.heap.size 25 cG:=(iX).below (b1 _ (aa _)) (Nat.lt_succ_self _);have LF:=hide (lA p F 50 f yD (w.heap.size+1) k W1 (h.below hb) hF (jh rfl m1) (by omega) (by unfold dQ;decide) (by decide) hc (rQ (by kernel_rfl)) hp);have H:=hide h;have HB:=hide hb;have HR:=hide uZ;have hsz:w.heap.size<W1.heap.size:=uZ.lt;clear m0 b0 iX hb uZ hc m1 b1 r1
 cases hR:dN p.L p.en yD f k with
 |err a er=>
  rw [hR] at LF;clear h hR;go_enter Tryz.func35,Tryz.ntmps35;go_wp2_with fail;refine LF.o.mono ?_;rintro e w1 ⟨rfl,hk⟩;go_wp2;exact ⟨rfl,rfl,(ah.of_below HB.o (aa _)).trans hk⟩
 |ok n k'=>
  rw [hR] at LF;clear h hR;go_enter Tryz.func35,Tryz.ntmps35;go_wp2_with fail;refine LF.o.mono ?_;rintro e w1 ⟨⟨v,rfl,cs,rfl,hnd⟩,h1,hk⟩;have hres:Row w1 w.heap.size 25 cG:=HR.o.keep hk (by show¬w.heap.size=p.b;omega);have fR:=hide hnd
  cases hnd with
  |mk kd a0 nm vl xa xb xc xd ks A cap bH hl hks hr=>
   obtain ⟨e0,e1,e2,e3,e4,e5,e6,e7,e8⟩:=ak hres;obtain ⟨f0,f1,f2,f3,f4,f5,f6,f7,f8⟩:=aU hres;have hkk:=(ah.of_below (C:=fun c=>c=p.b) HB.o (aa _)).trans hk;clear hl hks hr hk;unfold aB;go_wp2_with fail;refine bodyPost_ret (v:=.agg #[.int .i64 kd,.int .i64 a0,.string (ag nm),.string (ag vl),.int .i64 xa,.int .i64 xb,.int .i64 xc,.int .i64 xd,.slice A ks.length cap]) (ai rfl _ _ w.heap.size 25 _ _ _ rfl (aJ hres _ _ _ _ _ _ _ _ _) Tryz.underlying25 rfl (by kernel_rfl)) rfl ?_;have hbl:=ay (W:=w1) (aa w.heap.size) (.int .i64 kd) (.int .i64 a0) (.string (ag nm)) (.string (ag vl)) (.int .i64 xa) (.int .i64 xb) (.int .i64 xc) (.int .i64 xd) (.slice A ks.length cap);exact ⟨⟨_,rfl,ji fR.o hsz⟩,H.o.above h1 hbl,hkk.over hbl⟩
theorem Al (p:PS) (F:Nat) (f:Nat→PR Nd) (hc:cY p 35 f F) (hp:Prog f):cY p 17 (dN p.L p.en tM f) F:=by
 intro k w hF h;have hmm:=@run_makeMap Tryz.prog;have hbz:p.b<w.heap.size:=h.row.lt;obtain ⟨b0,m0,iX⟩:=h.IE;obtain ⟨W1,r1,m1,b1⟩:=iH _ (w.heap.size+1) 0 _ ([124,124],30) rfl m0 (by decide);have u1:(Instr.mapUpdate 63 (.map (some (w.heap.size+1))) (.string {data:=#[124,124]}) (.int .i64 30)).run Tryz.prog ((w.alloc (.cells #[.int .i64 0,.int .i64 0,.string {data:=#[]},.string {data:=#[]},.int .i64 0,.int .i64 0,.int .i64 0,.int .i64 0,.slice none 0 0] 25)).alloc (.map #[] 0))=.ok () W1:=r1;have hb:Below w.heap.size w W1:=(b0).trans (b1 _ (Nat.le_succ _));have uZ:Row W1 w.heap.size 25 cG:=(iX).below (b1 _ (aa _)) (Nat.lt_succ_self _);have LF:=hide (lA p F 35 f tM (w.heap.size+1) k W1 (h.below hb) hF (jh rfl m1) (by omega) (by unfold dQ;decide) (by decide) hc (rQ (by kernel_rfl)) hp);have H:=hide h;have HB:=hide hb;have HR:=hide uZ;have hsz:w.heap.size<W1.heap.size:=uZ.lt;clear m0 b0 iX hb uZ hc m1 b1 r1
 cases hR:dN p.L p.en tM f k with
 |err a er=>
  rw [hR] at LF;clear h hR;go_enter Tryz.func17,Tryz.ntmps17;go_wp2_with fail;refine LF.o.mono ?_;rintro e w1 ⟨rfl,hk⟩;go_wp2;exact ⟨rfl,rfl,(ah.of_below HB.o (aa _)).trans hk⟩
 |ok n k'=>
  rw [hR] at LF;clear h hR;go_enter Tryz.func17,Tryz.ntmps17;go_wp2_with fail;refine LF.o.mono ?_;rintro e w1 ⟨⟨v,rfl,cs,rfl,hnd⟩,h1,hk⟩;have hres:Row w1 w.heap.size 25 cG:=HR.o.keep hk (by show¬w.heap.size=p.b;omega);have fR:=hide hnd
  cases hnd with
  |mk kd a0 nm vl xa xb xc xd ks A cap bH hl hks hr=>
   obtain ⟨e0,e1,e2,e3,e4,e5,e6,e7,e8⟩:=ak hres;obtain ⟨f0,f1,f2,f3,f4,f5,f6,f7,f8⟩:=aU hres;have hkk:=(ah.of_below (C:=fun c=>c=p.b) HB.o (aa _)).trans hk;clear hl hks hr hk;unfold aB;go_wp2_with fail;refine bodyPost_ret (v:=.agg #[.int .i64 kd,.int .i64 a0,.string (ag nm),.string (ag vl),.int .i64 xa,.int .i64 xb,.int .i64 xc,.int .i64 xd,.slice A ks.length cap]) (ai rfl _ _ w.heap.size 25 _ _ _ rfl (aJ hres _ _ _ _ _ _ _ _ _) Tryz.underlying25 rfl (by kernel_rfl)) rfl ?_;have hbl:=ay (W:=w1) (aa w.heap.size) (.int .i64 kd) (.int .i64 a0) (.string (ag nm)) (.string (ag vl)) (.int .i64 xa) (.int .i64 xb) (.int .i64 xc) (.int .i64 xd) (.slice A ks.length cap);exact ⟨⟨_,rfl,ji fR.o hsz⟩,H.o.above h1 hbl,hkk.over hbl⟩
theorem E1 (p:PS) (F:Nat) (f:Nat→PR Nd) (hc:cY p 43 f F) (hp:Prog f):cY p 25 (dN p.L p.en ER f) F:=by
 intro k w hF h;have hmm:=@run_makeMap Tryz.prog;have hbz:p.b<w.heap.size:=h.row.lt;obtain ⟨b0,m0,iX⟩:=h.IE;obtain ⟨W1,r1,m1,b1⟩:=iH _ (w.heap.size+1) 0 _ ([111,114],46) rfl m0 (by decide);have u1:(Instr.mapUpdate 63 (.map (some (w.heap.size+1))) (.string {data:=#[111,114]}) (.int .i64 46)).run Tryz.prog ((w.alloc (.cells #[.int .i64 0,.int .i64 0,.string {data:=#[]},.string {data:=#[]},.int .i64 0,.int .i64 0,.int .i64 0,.int .i64 0,.slice none 0 0] 25)).alloc (.map #[] 0))=.ok () W1:=r1;have hb:Below w.heap.size w W1:=(b0).trans (b1 _ (Nat.le_succ _));have uZ:Row W1 w.heap.size 25 cG:=(iX).below (b1 _ (aa _)) (Nat.lt_succ_self _);have LF:=hide (lA p F 43 f ER (w.heap.size+1) k W1 (h.below hb) hF (jh rfl m1) (by omega) (by unfold dQ;decide) (by decide) hc (rQ (by kernel_rfl)) hp);have H:=hide h;have HB:=hide hb;have HR:=hide uZ;have hsz:w.heap.size<W1.heap.size:=uZ.lt;clear m0 b0 iX hb uZ hc m1 b1 r1
 cases hR:dN p.L p.en ER f k with
 |err a er=>
  rw [hR] at LF;clear h hR;go_enter Tryz.func25,Tryz.ntmps25;go_wp2_with fail;refine LF.o.mono ?_;rintro e w1 ⟨rfl,hk⟩;go_wp2;exact ⟨rfl,rfl,(ah.of_below HB.o (aa _)).trans hk⟩
 |ok n k'=>
  rw [hR] at LF;clear h hR;go_enter Tryz.func25,Tryz.ntmps25;go_wp2_with fail;refine LF.o.mono ?_;rintro e w1 ⟨⟨v,rfl,cs,rfl,hnd⟩,h1,hk⟩;have hres:Row w1 w.heap.size 25 cG:=HR.o.keep hk (by show¬w.heap.size=p.b;omega);have fR:=hide hnd
  cases hnd with
  |mk kd a0 nm vl xa xb xc xd ks A cap bH hl hks hr=>
   obtain ⟨e0,e1,e2,e3,e4,e5,e6,e7,e8⟩:=ak hres;obtain ⟨f0,f1,f2,f3,f4,f5,f6,f7,f8⟩:=aU hres;have hkk:=(ah.of_below (C:=fun c=>c=p.b) HB.o (aa _)).trans hk;clear hl hks hr hk;unfold aB;go_wp2_with fail;refine bodyPost_ret (v:=.agg #[.int .i64 kd,.int .i64 a0,.string (ag nm),.string (ag vl),.int .i64 xa,.int .i64 xb,.int .i64 xc,.int .i64 xd,.slice A ks.length cap]) (ai rfl _ _ w.heap.size 25 _ _ _ rfl (aJ hres _ _ _ _ _ _ _ _ _) Tryz.underlying25 rfl (by kernel_rfl)) rfl ?_;have hbl:=ay (W:=w1) (aa w.heap.size) (.int .i64 kd) (.int .i64 a0) (.string (ag nm)) (.string (ag vl)) (.int .i64 xa) (.int .i64 xb) (.int .i64 xc) (.int .i64 xd) (.slice A ks.length cap);exact ⟨⟨_,rfl,ji fR.o hsz⟩,H.o.above h1 hbl,hkk.over hbl⟩
theorem E2 {B g:Nat} {w5 W6:World} {ks:List Nd} {bH:List (List Value)} (hl:bH.length=ks.length) (hk:∀i (h:i<ks.length) (h':i<bH.length),cK (fun b=>b<B) w5 ks[i] bH[i]) (hg:g<B) (hB:B≤w5.heap.size) (hW:W6=w5.alloc (.cells bH.flatten.toArray 25))
 (kd a0 xa xb xc xd:Int) (nm vl:List UInt8) (cap:Nat) (hcap:ks.length≤cap):
 qI g (kH W6 g (.int .i64 kd) (.int .i64 a0) (.string (ag nm)) (.string (ag vl)) (.int .i64 xa) (.int .i64 xb) (.int .i64 xc) (.int .i64 xd) (.slice (some ⟨w5.heap.size,0,none⟩) ks.length cap)) (.mk kd a0 nm vl xa xb xc xd ks)
  (.agg #[.int .i64 kd,.int .i64 a0,.string (ag nm),.string (ag vl),.int .i64 xa,.int .i64 xb,.int .i64 xc,.int .i64 xd,.slice (some ⟨w5.heap.size,0,none⟩) ks.length cap]):=by
 have hnew:Row W6 w5.heap.size 25 bH.flatten.toArray:=by rw [hW];exact Row.new _ _ _
 have fV:Below w5.heap.size w5 W6:=by rw [hW];exact (af _ _).alloc (aa _) _
 have ki:=(ah.of_below (C:=fun b=>b<B) fV (aa _)).trans (aN (C:=fun b=>b<B) (W:=W6) hg (.int .i64 kd) (.int .i64 a0) (.string (ag nm)) (.string (ag vl)) (.int .i64 xa) (.int .i64 xb) (.int .i64 xc) (.int .i64 xd) (.slice (some ⟨w5.heap.size,0,none⟩) ks.length cap));have UM:=aN (C:=fun b=>b<B) (W:=W6) hg (.int .i64 kd) (.int .i64 a0) (.string (ag nm)) (.string (ag vl)) (.int .i64 xa) (.int .i64 xb) (.int .i64 xc) (.int .i64 xd) (.slice (some ⟨w5.heap.size,0,none⟩) ks.length cap);refine ⟨_,rfl,.mk kd a0 nm vl xa xb xc xd ks _ cap bH hl (fun i h h'=>((hk i h h').keeps ki).mono (fun b hb=>Nat.lt_trans hb hg)) ?_ hcap⟩;refine CJ (hnew.keep UM (by show¬w5.heap.size<B;omega)) (fun c hc=>?_) (by show¬w5.heap.size<g;omega);obtain ⟨i,hi,rfl⟩:=List.getElem_of_mem hc;exact (hk i (by omega) hi).len
theorem CK {B g:Nat} {w5 W6:World} {x:Nd} {cs:List Value} (hx:cK (fun b=>b<B) w5 x cs) (hg:g<B) (hB:B≤w5.heap.size) (hW:W6=w5.alloc (.cells [cs].flatten.toArray 25))
 (kd a0 xa xb xc xd:Int) (nm vl:List UInt8) (cap:Nat) (hcap:1≤cap:=by decide):
 qI g (kH W6 g (.int .i64 kd) (.int .i64 a0) (.string (ag nm)) (.string (ag vl)) (.int .i64 xa) (.int .i64 xb) (.int .i64 xc) (.int .i64 xd) (.slice (some ⟨w5.heap.size,0,none⟩) 1 cap)) (.mk kd a0 nm vl xa xb xc xd [x])
  (.agg #[.int .i64 kd,.int .i64 a0,.string (ag nm),.string (ag vl),.int .i64 xa,.int .i64 xb,.int .i64 xc,.int .i64 xd,.slice (some ⟨w5.heap.size,0,none⟩) 1 cap]):=
 E2 (ks:=[x]) (bH:=[cs]) rfl (fun i h h'=>by match i,h with|0,_=>exact hx) hg hB hW kd a0 xa xb xc xd nm vl cap hcap
theorem ou (w:World):Calls Tryz.prog 103 #[] w fun e w'=>e=.returned (.map (some w.heap.size))∧nR w' w.heap.size eK∧Below w.heap.size w w':=by
 have hmm:=@run_makeMap Tryz.prog;have m0:(w.alloc (.map #[] 0)).heap[w.heap.size]? =some (.map (mN [] 0).toArray 0):=heap_alloc_new w _;obtain ⟨W1,r1,m1,b1⟩:=iH _ w.heap.size 0 _ ([61,61],19) rfl m0 (by decide);obtain ⟨W2,r2,m2,b2⟩:=iH _ w.heap.size 1 _ ([33,61],20) rfl m1 (by decide);obtain ⟨W3,r3,m3,b3⟩:=iH _ w.heap.size 2 _ ([61,61,61],21) rfl m2 (by decide);obtain ⟨W4,r4,m4,b4⟩:=iH _ w.heap.size 3 _ ([33,61,61],22) rfl m3 (by decide);obtain ⟨W5,r5,m5,b5⟩:=iH _ w.heap.size 4 _ ([60],23) rfl m4 (by decide);obtain ⟨W6,r6,m6,b6⟩:=iH _ w.heap.size 5 _ ([60,61],24) rfl m5 (by decide);obtain ⟨W7,r7,m7,b7⟩:=iH _ w.heap.size 6 _ ([62],25) rfl m6 (by decide);obtain ⟨W8,r8,m8,b8⟩:=iH _ w.heap.size 7 _ ([62,61],26) rfl m7 (by decide);have u1:(Instr.mapUpdate 63 (.map (some w.heap.size)) (.string {data:=#[61,61]}) (.int .i64 19)).run Tryz.prog (w.alloc (.map #[] 0))=.ok () W1:=r1;have u2:(Instr.mapUpdate 63 (.map (some w.heap.size)) (.string {data:=#[33,61]}) (.int .i64 20)).run Tryz.prog (W1)=.ok () W2:=r2;have u3:(Instr.mapUpdate 63 (.map (some w.heap.size)) (.string {data:=#[61,61,61]}) (.int .i64 21)).run Tryz.prog (W2)=.ok () W3:=r3;have u4:(Instr.mapUpdate 63 (.map (some w.heap.size)) (.string {data:=#[33,61,61]}) (.int .i64 22)).run Tryz.prog (W3)=.ok () W4:=r4;have u5:(Instr.mapUpdate 63 (.map (some w.heap.size)) (.string {data:=#[60]}) (.int .i64 23)).run Tryz.prog (W4)=.ok () W5:=r5;have u6:(Instr.mapUpdate 63 (.map (some w.heap.size)) (.string {data:=#[60,61]}) (.int .i64 24)).run Tryz.prog (W5)=.ok () W6:=r6;have u7:(Instr.mapUpdate 63 (.map (some w.heap.size)) (.string {data:=#[62]}) (.int .i64 25)).run Tryz.prog (W6)=.ok () W7:=r7;have u8:(Instr.mapUpdate 63 (.map (some w.heap.size)) (.string {data:=#[62,61]}) (.int .i64 26)).run Tryz.prog (W7)=.ok () W8:=r8;have hb:Below w.heap.size w W8:=(((((((((af w.heap.size w).alloc (aa _) _).trans (b1 _ (aa _))).trans (b2 _ (aa _))).trans (b3 _ (aa _))).trans (b4 _ (aa _))).trans (b5 _ (aa _))).trans (b6 _ (aa _))).trans (b7 _ (aa _))).trans (b8 _ (aa _));have HM:=hide (jh (n:=8) rfl m8);clear m0 m1 b1 r1 m2 b2 r2 m3 b3 r3 m4 b4 r4 m5 b5 r5 m6 b6 r6 m7 b7 r7 m8 b8 r8;go_enter Tryz.func103,Tryz.ntmps103;go_wp2;go_ret;exact ⟨rfl,HM.o,hb⟩
theorem Be (w:World):Calls Tryz.prog 108 #[] w fun e w'=>e=.returned (.map (some w.heap.size))∧nR w' w.heap.size fW∧Below w.heap.size w w':=by
 have hmm:=@run_makeMap Tryz.prog;have m0:(w.alloc (.map #[] 0)).heap[w.heap.size]? =some (.map (mN [] 0).toArray 0):=heap_alloc_new w _;obtain ⟨W1,r1,m1,b1⟩:=iH _ w.heap.size 0 _ ([97,110,100,114],14) rfl m0 (by decide);obtain ⟨W2,r2,m2,b2⟩:=iH _ w.heap.size 1 _ ([111,114,114],15) rfl m1 (by decide);obtain ⟨W3,r3,m3,b3⟩:=iH _ w.heap.size 2 _ ([120,111,114,114],16) rfl m2 (by decide);obtain ⟨W4,r4,m4,b4⟩:=iH _ w.heap.size 3 _ ([107,110,111,119,110],27) rfl m3 (by decide);have u1:(Instr.mapUpdate 63 (.map (some w.heap.size)) (.string {data:=#[97,110,100,114]}) (.int .i64 14)).run Tryz.prog (w.alloc (.map #[] 0))=.ok () W1:=r1;have u2:(Instr.mapUpdate 63 (.map (some w.heap.size)) (.string {data:=#[111,114,114]}) (.int .i64 15)).run Tryz.prog (W1)=.ok () W2:=r2;have u3:(Instr.mapUpdate 63 (.map (some w.heap.size)) (.string {data:=#[120,111,114,114]}) (.int .i64 16)).run Tryz.prog (W2)=.ok () W3:=r3;have u4:(Instr.mapUpdate 63 (.map (some w.heap.size)) (.string {data:=#[107,110,111,119,110]}) (.int .i64 27)).run Tryz.prog (W3)=.ok () W4:=r4;have hb:Below w.heap.size w W4:=(((((af w.heap.size w).alloc (aa _) _).trans (b1 _ (aa _))).trans (b2 _ (aa _))).trans (b3 _ (aa _))).trans (b4 _ (aa _));have HM:=hide (jh (n:=4) rfl m4);clear m0 m1 b1 r1 m2 b2 r2 m3 b3 r3 m4 b4 r4;go_enter Tryz.func108,Tryz.ntmps108;go_wp2;go_ret;exact ⟨rfl,HM.o,hb⟩
theorem Bf (w:World):Calls Tryz.prog 110 #[] w fun e w'=>e=.returned (.map (some w.heap.size))∧nR w' w.heap.size dV∧Below w.heap.size w w':=by
 have hmm:=@run_makeMap Tryz.prog;have m0:(w.alloc (.map #[] 0)).heap[w.heap.size]? =some (.map (mN [] 0).toArray 0):=heap_alloc_new w _;obtain ⟨W1,r1,m1,b1⟩:=iH _ w.heap.size 0 _ ([111,110,99,101],31) rfl m0 (by decide);obtain ⟨W2,r2,m2,b2⟩:=iH _ w.heap.size 1 _ ([104,105,115,116,111,114,105,99,97,108,108,121],32) rfl m1 (by decide);obtain ⟨W3,r3,m3,b3⟩:=iH _ w.heap.size 2 _ ([101,118,101,110,116,117,97,108,108,121],33) rfl m2 (by decide);obtain ⟨W4,r4,m4,b4⟩:=iH _ w.heap.size 3 _ ([97,108,119,97,121,115],34) rfl m3 (by decide);obtain ⟨W5,r5,m5,b5⟩:=iH _ w.heap.size 4 _ ([115,105,110,99,101],35) rfl m4 (by decide);obtain ⟨W6,r6,m6,b6⟩:=iH _ w.heap.size 5 _ ([117,110,116,105,108],36) rfl m5 (by decide);have u1:(Instr.mapUpdate 63 (.map (some w.heap.size)) (.string {data:=#[111,110,99,101]}) (.int .i64 31)).run Tryz.prog (w.alloc (.map #[] 0))=.ok () W1:=r1;have u2:(Instr.mapUpdate 63 (.map (some w.heap.size)) (.string {data:=#[104,105,115,116,111,114,105,99,97,108,108,121]}) (.int .i64 32)).run Tryz.prog (W1)=.ok () W2:=r2;have u3:(Instr.mapUpdate 63 (.map (some w.heap.size)) (.string {data:=#[101,118,101,110,116,117,97,108,108,121]}) (.int .i64 33)).run Tryz.prog (W2)=.ok () W3:=r3;have u4:(Instr.mapUpdate 63 (.map (some w.heap.size)) (.string {data:=#[97,108,119,97,121,115]}) (.int .i64 34)).run Tryz.prog (W3)=.ok () W4:=r4;have u5:(Instr.mapUpdate 63 (.map (some w.heap.size)) (.string {data:=#[115,105,110,99,101]}) (.int .i64 35)).run Tryz.prog (W4)=.ok () W5:=r5;have u6:(Instr.mapUpdate 63 (.map (some w.heap.size)) (.string {data:=#[117,110,116,105,108]}) (.int .i64 36)).run Tryz.prog (W5)=.ok () W6:=r6;have hb:Below w.heap.size w W6:=(((((((af w.heap.size w).alloc (aa _) _).trans (b1 _ (aa _))).trans (b2 _ (aa _))).trans (b3 _ (aa _))).trans (b4 _ (aa _))).trans (b5 _ (aa _))).trans (b6 _ (aa _));have HM:=hide (jh (n:=6) rfl m6);clear m0 m1 b1 r1 m2 b2 r2 m3 b3 r3 m4 b4 r4 m5 b5 r5 m6 b6 r6;go_enter Tryz.func110,Tryz.ntmps110;go_wp2;go_ret;exact ⟨rfl,HM.o,hb⟩
theorem rR (w:World):Calls Tryz.prog 71 #[] w fun e w'=>e=.returned (.map (some w.heap.size))∧nR w' w.heap.size fk∧Below w.heap.size w w':=by
 have hmm:=@run_makeMap Tryz.prog;have m0:(w.alloc (.map #[] 0)).heap[w.heap.size]? =some (.map (mN [] 0).toArray 0):=heap_alloc_new w _;obtain ⟨W1,r1,m1,b1⟩:=iH _ w.heap.size 0 _ ([114,105,115,101],37) rfl m0 (by decide);obtain ⟨W2,r2,m2,b2⟩:=iH _ w.heap.size 1 _ ([102,97,108,108],38) rfl m1 (by decide);obtain ⟨W3,r3,m3,b3⟩:=iH _ w.heap.size 2 _ ([112,111,115,101,100,103,101],39) rfl m2 (by decide);obtain ⟨W4,r4,m4,b4⟩:=iH _ w.heap.size 3 _ ([110,101,103,101,100,103,101],40) rfl m3 (by decide);obtain ⟨W5,r5,m5,b5⟩:=iH _ w.heap.size 4 _ ([99,104,97,110,103,101],41) rfl m4 (by decide);obtain ⟨W6,r6,m6,b6⟩:=iH _ w.heap.size 5 _ ([98,101,99,111,109,101,115],43) rfl m5 (by decide);have u1:(Instr.mapUpdate 63 (.map (some w.heap.size)) (.string {data:=#[114,105,115,101]}) (.int .i64 37)).run Tryz.prog (w.alloc (.map #[] 0))=.ok () W1:=r1;have u2:(Instr.mapUpdate 63 (.map (some w.heap.size)) (.string {data:=#[102,97,108,108]}) (.int .i64 38)).run Tryz.prog (W1)=.ok () W2:=r2;have u3:(Instr.mapUpdate 63 (.map (some w.heap.size)) (.string {data:=#[112,111,115,101,100,103,101]}) (.int .i64 39)).run Tryz.prog (W2)=.ok () W3:=r3;have u4:(Instr.mapUpdate 63 (.map (some w.heap.size)) (.string {data:=#[110,101,103,101,100,103,101]}) (.int .i64 40)).run Tryz.prog (W3)=.ok () W4:=r4;have u5:(Instr.mapUpdate 63 (.map (some w.heap.size)) (.string {data:=#[99,104,97,110,103,101]}) (.int .i64 41)).run Tryz.prog (W4)=.ok () W5:=r5;have u6:(Instr.mapUpdate 63 (.map (some w.heap.size)) (.string {data:=#[98,101,99,111,109,101,115]}) (.int .i64 43)).run Tryz.prog (W5)=.ok () W6:=r6;have hb:Below w.heap.size w W6:=(((((((af w.heap.size w).alloc (aa _) _).trans (b1 _ (aa _))).trans (b2 _ (aa _))).trans (b3 _ (aa _))).trans (b4 _ (aa _))).trans (b5 _ (aa _))).trans (b6 _ (aa _));have HM:=hide (jh (n:=6) rfl m6);clear m0 m1 b1 r1 m2 b2 r2 m3 b3 r3 m4 b4 r4 m5 b5 r5 m6 b6 r6;go_enter Tryz.func71,Tryz.ntmps71;go_wp2;go_ret;exact ⟨rfl,HM.o,hb⟩
theorem CL (p:PS) (F:Nat) (ng cmp:Nat→PR Nd) (hn:cY p 50 ng F) (hc:cY p 77 cmp (F+1)):cY p 50 (yE p.L p.en ng cmp) (F+1):=by
 intro k w hF h;have hbz:p.b<w.heap.size:=h.row.lt;have hb0:Below w.heap.size w (w.alloc (.cells cG 25)):=(af _ _).alloc (aa _) _;have iX:Row (w.alloc (.cells cG 25)) w.heap.size 25 cG:=Row.new _ _ _;have PL:=hide (gD p k _ (h.below hb0));have AC:=hide (fun (W:World) (h:bQ p W k)=>eW p k [33] W h);have HN:=hide (fun (W:World) (h:bQ p W (k+1))=>hn (k+1) W (by omega) h);have HC:=hide (fun (W:World) (h:bQ p W k)=>hc k W hF h);have H:=hide h;have mi:=hide hb0;have oF:=hide iX;unfold yE;have abb:iG=[33]:=rfl;rw [abb];generalize eO p.L p.en k=pl at*;clear hn hc h hb0 iX
 cases hI:b_ p.L k [33] with
 |true=>
  rw [hI] at AC;rw [if_pos rfl];clear HC
  cases hx:ng (k+1) with
  |err a er=>
   rw [hx] at HN;show Calls _ _ _ _ (cQ p w (qI w.heap.size) (.err a er));clear hx hI;go_enter Tryz.func50,Tryz.ntmps50;go_wp2_with fail;refine PL.o.mono ?_;rintro e w1 ⟨rfl,hb1⟩;have hr1:Row w1 w.heap.size 25 cG:=oF.o.below hb1 oF.o.lt;have hb2:Below w.heap.size w w1:=mi.o.trans (hb1.mono mi.o.size);have zQ:=hide (AC.o w1 (H.o.below hb2));have jx:=hide hr1;have dX:=hide hb2;clear hb1 hb2 hr1;go_wp2_with fail;refine zQ.o.mono ?_;rintro e w2 ⟨rfl,h2,hk2⟩;have hr2:Row w2 w.heap.size 25 cG:=jx.o.keep hk2 (by show¬w.heap.size=p.b;omega);have qG:=hide hr2;have Du:=hide ((ah.of_below (C:=fun c=>c=p.b) dX.o (aa _)).trans hk2);have hz2:w.heap.size<w2.heap.size:=hr2.lt;have X:=hide (HN.o w2 h2);clear h2 hk2 hr2;go_wp2_with fail;refine X.o.mono ?_;rintro e w3 ⟨rfl,hk3⟩;go_wp2;exact ⟨rfl,rfl,Du.o.trans hk3⟩
  |ok x k'=>
   rw [hx] at HN;show Calls _ _ _ _ (cQ p w (qI w.heap.size) (.ok (.mk 28 pl [] [] 0 0 0 0 [x]) k'));clear hx hI;go_enter Tryz.func50,Tryz.ntmps50;go_wp2_with fail;refine PL.o.mono ?_;rintro e w1 ⟨rfl,hb1⟩;have hr1:Row w1 w.heap.size 25 cG:=oF.o.below hb1 oF.o.lt;have hb2:Below w.heap.size w w1:=mi.o.trans (hb1.mono mi.o.size);have zQ:=hide (AC.o w1 (H.o.below hb2));have jx:=hide hr1;have dX:=hide hb2;clear hb1 hb2 hr1;go_wp2_with fail;refine zQ.o.mono ?_;rintro e w2 ⟨rfl,h2,hk2⟩;have hr2:Row w2 w.heap.size 25 cG:=jx.o.keep hk2 (by show¬w.heap.size=p.b;omega);have qG:=hide hr2;have Du:=hide ((ah.of_below (C:=fun c=>c=p.b) dX.o (aa _)).trans hk2);have hz2:w.heap.size<w2.heap.size:=hr2.lt;have X:=hide (HN.o w2 h2);clear h2 hk2 hr2;go_wp2_with fail;refine X.o.mono ?_;rintro e w3 ⟨⟨v,rfl,cs,rfl,hnd⟩,h3,hk3⟩;have hr3:Row w3 w.heap.size 25 cG:=qG.o.keep hk3 (by show¬w.heap.size=p.b;omega);have hkk:=Du.o.trans hk3;have hz3:=hk3.size;have fR:=hide hnd
   cases hnd with
   |mk kd a0 nm vl xa xb xc xd ks A cap bH hl hks hr=>
    unfold aB;have hr4:=hr3.alloc (.cells [aB kd a0 nm vl xa xb xc xd (.slice A ks.length cap)].flatten.toArray 25);have hb4:Below w3.heap.size w3 (w3.alloc (.cells [aB kd a0 nm vl xa xb xc xd (.slice A ks.length cap)].flatten.toArray 25)):=(af _ _).alloc (aa _) _;generalize lJ:w3.alloc (.cells [aB kd a0 nm vl xa xb xc xd (.slice A ks.length cap)].flatten.toArray 25)=W4 at hr4 hb4;have nT:w3.alloc (.cells #[.int .i64 kd,.int .i64 a0,.string (ag nm),.string (ag vl),.int .i64 xa,.int .i64 xb,.int .i64 xc,.int .i64 xd,.slice A ks.length cap] 25)=W4:=lJ;have NK:=hide (CK fR.o hz2 hz3 lJ.symm 28 pl 0 0 0 0 [] [] 1);obtain ⟨e0,e1,e2,e3,e4,e5,e6,e7,e8⟩:=ak hr4;obtain ⟨Kr,Ks,IJ,Kt,Ku,Kv,Kw,Ky,Kz⟩:=aU hr4;clear hl hks hr lJ hr3;go_wp2_with fail;refine bodyPost_ret (v:=.agg #[.int .i64 28,.int .i64 pl,.string {data:=#[]},.string {data:=#[]},.int .i64 0,.int .i64 0,.int .i64 0,.int .i64 0,.slice (some ⟨w3.heap.size,0,none⟩) 1 1]) (ai rfl _ _ w.heap.size 25 _ _ _ rfl (aJ hr4 _ _ _ _ _ _ _ _ _) Tryz.underlying25 rfl (by kernel_rfl)) rfl ?_;have hbl:=ay (W:=W4) (aa w.heap.size) (.int .i64 28) (.int .i64 pl) (.string {data:=#[]}) (.string {data:=#[]}) (.int .i64 0) (.int .i64 0) (.int .i64 0) (.int .i64 0) (.slice (some ⟨w3.heap.size,0,none⟩) 1 1);exact ⟨⟨_,rfl,NK.o⟩,H.o.above (h3.below hb4) hbl,(hkk.trans (ah.of_below hb4 (aa _))).over hbl⟩
 |false=>
  rw [hI] at AC;rw [if_neg (by decide)];clear HN
  cases hx:cmp k with
  |err a er=>
   rw [hx] at HC;clear hx hI;go_enter Tryz.func50,Tryz.ntmps50;go_wp2_with fail;refine PL.o.mono ?_;rintro e w1 ⟨rfl,hb1⟩;have hr1:Row w1 w.heap.size 25 cG:=oF.o.below hb1 oF.o.lt;have hb2:Below w.heap.size w w1:=mi.o.trans (hb1.mono mi.o.size);have zQ:=hide (AC.o w1 (H.o.below hb2));have jx:=hide hr1;have dX:=hide hb2;clear hb1 hb2 hr1;go_wp2_with fail;refine zQ.o.mono ?_;rintro e w2 ⟨rfl,h2,hk2⟩;have hr2:Row w2 w.heap.size 25 cG:=jx.o.keep hk2 (by show¬w.heap.size=p.b;omega);have qG:=hide hr2;have Du:=hide ((ah.of_below (C:=fun c=>c=p.b) dX.o (aa _)).trans hk2);have hz2:w.heap.size<w2.heap.size:=hr2.lt;have X:=hide (HC.o w2 h2);clear h2 hk2 hr2;go_wp2_with fail;refine X.o.mono ?_;rintro e w3 ⟨rfl,hk3⟩;go_wp2;exact ⟨rfl,rfl,Du.o.trans hk3⟩
  |ok x k'=>
   rw [hx] at HC;clear hx hI;go_enter Tryz.func50,Tryz.ntmps50;go_wp2_with fail;refine PL.o.mono ?_;rintro e w1 ⟨rfl,hb1⟩;have hr1:Row w1 w.heap.size 25 cG:=oF.o.below hb1 oF.o.lt;have hb2:Below w.heap.size w w1:=mi.o.trans (hb1.mono mi.o.size);have zQ:=hide (AC.o w1 (H.o.below hb2));have jx:=hide hr1;have dX:=hide hb2;clear hb1 hb2 hr1;go_wp2_with fail;refine zQ.o.mono ?_;rintro e w2 ⟨rfl,h2,hk2⟩;have hr2:Row w2 w.heap.size 25 cG:=jx.o.keep hk2 (by show¬w.heap.size=p.b;omega);have qG:=hide hr2;have Du:=hide ((ah.of_below (C:=fun c=>c=p.b) dX.o (aa _)).trans hk2);have hz2:w.heap.size<w2.heap.size:=hr2.lt;have X:=hide (HC.o w2 h2);clear h2 hk2 hr2;go_wp2_with fail;refine X.o.mono ?_;rintro e w3 ⟨⟨v,rfl,cs,rfl,hnd⟩,h3,hk3⟩;have hr3:Row w3 w.heap.size 25 cG:=qG.o.keep hk3 (by show¬w.heap.size=p.b;omega);have hkk:=Du.o.trans hk3;have hz3:=hk3.size;have fR:=hide hnd
   cases hnd with
   |mk kd a0 nm vl xa xb xc xd ks A cap bH hl hks hr=>
    unfold aB;obtain ⟨e0,e1,e2,e3,e4,e5,e6,e7,e8⟩:=ak hr3;obtain ⟨Kr,Ks,IJ,Kt,Ku,Kv,Kw,Ky,Kz⟩:=aU hr3;clear hl hks hr;go_wp2_with fail;refine bodyPost_ret (v:=.agg #[.int .i64 kd,.int .i64 a0,.string (ag nm),.string (ag vl),.int .i64 xa,.int .i64 xb,.int .i64 xc,.int .i64 xd,.slice A ks.length cap]) (ai rfl _ _ w.heap.size 25 _ _ _ rfl (aJ hr3 _ _ _ _ _ _ _ _ _) Tryz.underlying25 rfl (by kernel_rfl)) rfl ?_;have hbl:=ay (W:=w3) (aa w.heap.size) (.int .i64 kd) (.int .i64 a0) (.string (ag nm)) (.string (ag vl)) (.int .i64 xa) (.int .i64 xb) (.int .i64 xc) (.int .i64 xd) (.slice A ks.length cap);exact ⟨⟨_,rfl,ji fR.o hz2⟩,H.o.above h3 hbl,hkk.over hbl⟩
structure fT (W:World) (B b:Nat) (v:Value) (st:St) (bad:Bool):Prop where
 ge:B≤b
 row:∃p,(p=.pointer none∨p=.pointer (some ⟨b,0,none⟩))∧Row W b 79 #[p,v,.bool st.2,.bool bad]
 own:W.ownsRow B 5 1 v st.1.length (Lib.byteCells st.1)
structure aM (B b:Nat) (W W':World):Prop where
 below:Below B W W'
 size:W.heap.size≤W'.heap.size
 rows:∀g t cs,t≠5→g≠b→Row W g t cs→Row W' g t cs
theorem aM.refl (B b:Nat) (W:World):aM B b W W:=⟨af _ _,aa _,fun _ _ _ _ _ h=>h⟩
theorem aM.trans {B b:Nat} {W W1 W2:World} (h:aM B b W W1) (k:aM B b W1 W2):aM B b W W2:=
 ⟨h.below.trans k.below,br h.size k.size,fun g t cs ht hg hr=>k.rows g t cs ht hg (h.rows g t cs ht hg hr)⟩
theorem aM.of_below {B b:Nat} {W W':World} (h:Below W.heap.size W W') (hB:B≤W.heap.size):aM B b W W':=
 ⟨h.mono hB,h.size,fun g t cs _ _ hr=>hr.below h hr.lt⟩
theorem aM.drew {B b:Nat} {W W':World} (h:aM B b W W'):aM B b W W'.drew:=⟨h.below.drew,h.size,h.rows⟩
theorem aM.alloc {B b:Nat} {W W':World} (h:aM B b W W') (hB:B≤W'.heap.size) (o:Obj):aM B b W (W'.alloc o):=h.trans (aM.of_below ((af _ _).alloc (aa _) o) hB)
theorem aM.set {B b:Nat} {W W':World} (h:aM B b W W') (hB:B≤b) (o:Nat) (u:Value):aM B b W (W'.setCell ⟨b,o,none⟩ u):=
 ⟨h.below.setCell (p:=⟨b,o,none⟩) hB u,by simpa [World.setCell] using h.size,fun g t cs ht hg hr=>(h.rows g t cs ht hg hr).off hg o u⟩
theorem fT.lt {W:World} {B b:Nat} {v:Value} {st:St} {bad:Bool} (h:fT W B b v st bad):b<W.heap.size:=by
 obtain ⟨p,_,hr⟩:=h.row;exact hr.lt
theorem fT.leB {W:World} {B b:Nat} {v:Value} {st:St} {bad:Bool} (h:fT W B b v st bad):B≤W.heap.size:=br h.ge (Nat.le_of_lt h.lt)
theorem kL {W:World} {B:Nat} {v:Value} {n:Nat} {xs:List Value} (h:W.ownsRow B 5 1 v n xs) {g:Nat} {t:TypeId} {cs:Array Value} (hr:Row W g t cs) (ht:t≠5):v.ownBlock≠some g:=Lib.ownBlock_ne h hr ht
theorem fT.keep {W W':World} {B b:Nat} {v:Value} {st:St} {bad:Bool} (h:fT W B b v st bad) (hb:Below W.heap.size W W'):fT W' B b v st bad:=by
 obtain ⟨p,hp,hr⟩:=h.row;exact ⟨h.ge,⟨p,hp,hr.below hb hr.lt⟩,iC h.own hb⟩
theorem fT.alloc {W:World} {B b:Nat} {v:Value} {st:St} {bad:Bool} (h:fT W B b v st bad) (o:Obj):fT (W.alloc o) B b v st bad:=h.keep ((af _ W).alloc (aa _) o)
theorem fT.drew {W:World} {B b:Nat} {v:Value} {st:St} {bad:Bool} (h:fT W B b v st bad):fT W.drew B b v st bad:=h.keep (af _ W).drew
theorem ql {W:World} {B b:Nat} {v:Value} {n:Nat} {xs:List Value} (h:W.ownsRow B 5 1 v n xs) (hb:v.ownBlock≠some b) (o:Nat) (u:Value):(W.setCell ⟨b,o,none⟩ u).ownsRow B 5 1 v n xs:=
 World.ownsRow.kept (row:=some b) h ⟨rfl,rfl,rfl,by simp [World.setCell],fun k _ hk=>Below.heap_setCell _ _ _ _ (fun e=>hk (by simp [e]))⟩ (Or.inr hb)
theorem rS:(79:TypeId)≠5:=by decide
theorem fT.CO {W:World} {B b:Nat} {v:Value} {st:St} {bad:Bool} (h:fT W B b v st bad) (x:Bool):fT (W.setCell ⟨b,2,none⟩ (.bool x)) B b v (st.1,x) bad:=by
 obtain ⟨p,hp,hr⟩:=h.row;exact ⟨h.ge,⟨p,hp,hr.bU 2 _⟩,ql h.own (kL h.own hr rS) _ _⟩
theorem fT.yP {W:World} {B b:Nat} {v:Value} {st:St} {bad:Bool} (h:fT W B b v st bad) (x:Bool):fT (W.setCell ⟨b,3,none⟩ (.bool x)) B b v st x:=by
 obtain ⟨p,hp,hr⟩:=h.row;exact ⟨h.ge,⟨p,hp,hr.bU 3 _⟩,ql h.own (kL h.own hr rS) _ _⟩
theorem fT.cells {W:World} {B b:Nat} {v:Value} {st:St} {bad:Bool} (h:fT W B b v st bad):(W.cell? ⟨b,1,none⟩=some v∧W.cell? ⟨b,2,none⟩=some (.bool st.2)∧W.cell? ⟨b,3,none⟩=some (.bool bad))∧W.frozen? ⟨b,1,none⟩=false∧W.frozen? ⟨b,2,none⟩=false∧W.frozen? ⟨b,3,none⟩=false:=by
 obtain ⟨p,_,hr⟩:=h.row;exact ⟨⟨hr.cell 1,hr.cell 2,hr.cell 3⟩,hr.frozen 1,hr.frozen 2,hr.frozen 3⟩
theorem fT.shape {W:World} {B b:Nat} {v:Value} {st:St} {bad:Bool} (h:fT W B b v st bad):W.shape? b=some (79,4):=by
 obtain ⟨p,_,hr⟩:=h.row;simp [World.shape?,show W.heap[b]? =_ from hr]
theorem E3:(Tryz.prog.info? 77).map (·.size)=some 2:=by kernel_rfl
theorem liesBuilder:liesAt Tryz.prog Tryz.prog.depth 79 (4 / Tryz.prog.cellsOf 79) 0 77 1=true:=by kernel_rfl
theorem tS (b B:Nat) (v:Value) (st:St) (bad:Bool) (w:World) (h:fT w B b v st bad):
 Calls Tryz.prog 152 #[.pointer (some ⟨b,0,none⟩)] w fun e w'=>e=.returned (.tuple #[])∧Row w' b 79 #[.pointer (some ⟨b,0,none⟩),v,.bool st.2,.bool bad]∧w'.ownsRow B 5 1 v st.1.length (Lib.byteCells st.1)∧aM B b w w':=by
 obtain ⟨j,hj,hjs⟩:=Option.map_eq_some_iff.1 E3;have hsh:=h.shape;have hge:=h.ge;obtain ⟨p,hp,hr⟩:=h.row;have HO:=hide (ql (h.own) (kL h.own hr rS) 0 (.pointer (some ⟨b,0,none⟩)));have HO':=hide h.own;have HR:=hide (hr.bU 0 (.pointer (some ⟨b,0,none⟩)));have HR':=hide hr;have HP:=hide ((aM.refl B b w).set hge 0 (.pointer (some ⟨b,0,none⟩)));have c0:w.cell? ⟨b,0,none⟩=some p:=hr.cell 0;have f0:w.frozen? ⟨b,0,none⟩=false:=hr.frozen 0;clear h hr
 rcases hp with rfl|rfl
 ·go_enter Tryz.func152,Tryz.ntmps152;go_wp2;rw [Lib.run_to_unsafe w ⟨b,0,none⟩ Tryz.underlying74 Tryz.underlying177 hj (by rw [hjs];decide) hsh (by show 0<4;decide)];simp only [Result.andThen];rw [Oper.upon_value];go_wp2;rw [run_callFunc_extern Tryz.func186 (by kernel_rfl) (by kernel_rfl) (by kernel_rfl) (e:=Extern.AbiNoEscape.same) (by kernel_rfl)];rw [Lib.run_noEscape];simp only [Result.andThen];rw [Oper.upon_value];go_wp2;rw [Lib.run_from_unsafe w ⟨b,0,none⟩ Tryz.underlying177 Tryz.underlying74 hj hsh liesBuilder];simp only [Result.andThen];rw [Oper.upon_value];go_wp2;go_end0;exact ⟨rfl,HR.o,HO.o,HP.o⟩
 ·go_enter Tryz.func152,Tryz.ntmps152;go_wp2;rw [Lib.run_neq_ptr_same w _ Tryz.underlying74 hj];go_wp2;go_end0;exact ⟨rfl,HR'.o,HO'.o,aM.refl _ _ _⟩
theorem yQ {B b:Nat} {w w1 w2:World} {v:Value} {n:Nat} {xs:List Value} (h:aM B b w w1) (ho:w1.ownsRow B 5 1 v n xs) (hg:w1.grownBy w2 v.ownBlock) (hB:B≤w1.heap.size):aM B b w w2:=
 ⟨h.below.grown hg hB (fun k hk=>(ho.lt k hk).1),br h.size hg.size,fun g t cs ht hgb hr=>(h.rows g t cs ht hgb hr).grown hg (fun e=>kL ho (h.rows g t cs ht hgb hr) ht e.symm)⟩
theorem CP (b B:Nat) (v:Value) (st:St) (bad:Bool) (c:UInt8) (w:World) (h:fT w B b v st bad) (hlen:st.1.length+1≤140737488355328):
 Calls Tryz.prog 114 #[.pointer (some ⟨b,0,none⟩),.int .u8 (c.toNat:Int)] w fun e w'=>e=.returned .nilIface∧∃v',fT w' B b v' (st.1++[c],st.2) bad∧aM B b w w':=by
 obtain ⟨i0,hi,hz0,hz1,hz2⟩:=info_parts Co;have CC:=hide (tS b B v st bad w h);have hge:=h.ge;have abc:=h.leB;clear h;go_enter Tryz.func114,Tryz.ntmps114;go_wp2_with fail;refine CC.o.mono ?_;rintro e w1 ⟨rfl,hr,hown,hpt⟩;have c1:w1.cell? ⟨b,1,none⟩=some v:=hr.cell 1;have HP1:=hide hpt;have jx:=hide hr;have hlt:=hr.lt
 have hBw:B≤w1.heap.size:=by omega
 clear hpt hr CC;go_wp2_with (at_builtin;refine wpList_append_own _ rfl _ _ 75 rfl B 5 i0 (.int .u8 0) 1 1 Tryz.underlying75 hi hz0 hz1 hz2 rfl (by decide) _ _ _ rfl (hown.alloc _) ⟨w1.heap.size,0,none⟩ 1 1 [.int .u8 (c.toNat:Int)] rfl rfl ?c1 ?c2 ?c3 ?c4 ?c5 ?_)
 case c1=>
  intro j u hj
  match j,hj with
  |0,hj=>simp at hj;subst hj;simp [Addr.add]
 case c2=>intro u hu;simp at hu;subst hu;rfl
 case c3=>unfold maxLen;omega
 case c4=>omega
 case c5=>simp;omega
 intro v' w2 hown' hgrow _;have hr2:Row w2 b 79 #[.pointer (some ⟨b,0,none⟩),v,.bool st.2,.bool bad]:=(jx.o.alloc _).grown hgrow (fun e=>kL hown jx.o rS e.symm);have d1:w2.cell? ⟨b,1,none⟩=some v:=hr2.cell 1;have f1:w2.frozen? ⟨b,1,none⟩=false:=hr2.frozen 1;have hne:=kL hown' hr2 rS;have KA:=ae (fT (w2.setCell ⟨b,1,none⟩ v') B b v' (st.1++[c],st.2) bad) (⟨hge,⟨_,.inr rfl,hr2.bU 1 v'⟩,ql (by rw [Lib.byteCells_append,aw];exact hown') hne 1 v'⟩);have Tp:=hide ((yQ (HP1.o.alloc hBw _) (hown.alloc _) hgrow (by simp;omega)).set hge 1 v')
 obtain ⟨g,cap,rfl⟩:∃g cap,v'=.slice (some ⟨g,0,none⟩) (st.1.length+1) cap:=by
  rcases hown'.2 with ⟨_,h0⟩|⟨g,cap,cur,hv,_⟩
  ·omega
  ·exact ⟨g,cap,hv⟩
 clear hown hown' hgrow hr2 hne c1;go_wp2;go_ret;exact ⟨rfl,_,KA.o,Tp.o⟩
theorem yR (b B:Nat) (v:Value) (st:St) (bad:Bool) (s:List UInt8) (w:World) (h:fT w B b v st bad) (hlen:st.1.length+s.length≤140737488355328):
 Calls Tryz.prog 115 #[.pointer (some ⟨b,0,none⟩),.string (ag s)] w fun e w'=>e=.returned (.tuple #[.int .i64 (s.length:Int),.nilIface])∧∃v',fT w' B b v' (st.1++s,st.2) bad∧aM B b w w':=by
 obtain ⟨i0,hi,hz0,hz1,hz2⟩:=info_parts Co;have CC:=hide (tS b B v st bad w h);have hge:=h.ge;have abc:=h.leB;have hsz:=aO s;have HSZ:=hide hsz;have HSC:=ae (Lib.strCells (ag s)=Lib.byteCells s) (by rw [Lib.strCells_eq];rfl);clear h;generalize ag s=S at*
 have hss:st.1.length+S.size≤140737488355328:=by omega
 clear hsz;go_enter Tryz.func115,Tryz.ntmps115;go_wp2_with fail;refine CC.o.mono ?_;rintro e w1 ⟨rfl,hr,hown,hpt⟩;have c1:w1.cell? ⟨b,1,none⟩=some v:=hr.cell 1;have HP1:=hide hpt;have jx:=hide hr;have hlt:=hr.lt
 have hBw:B≤w1.heap.size:=by omega
 clear hpt hr CC;go_wp2_with (at_builtin;refine Lib.wpList_append_own_string _ rfl _ _ 75 9 rfl B 5 i0 Tryz.underlying75 Tryz.underlying9 hi hz0 hz1 hz2 _ _ _ rfl hown S rfl ?c3 ?c4 ?c5 ?_)
 case c3=>unfold maxLen;omega
 case c4=>exact hss
 case c5=>omega
 intro v' w2 hown' hgrow _;have hr2:Row w2 b 79 #[.pointer (some ⟨b,0,none⟩),v,.bool st.2,.bool bad]:=jx.o.grown hgrow (fun e=>kL hown jx.o rS e.symm);have d1:w2.cell? ⟨b,1,none⟩=some v:=hr2.cell 1;have f1:w2.frozen? ⟨b,1,none⟩=false:=hr2.frozen 1;have hne:=kL hown' hr2 rS;have KA:=ae (fT (w2.setCell ⟨b,1,none⟩ v') B b v' (st.1++s,st.2) bad) (⟨hge,⟨_,.inr rfl,hr2.bU 1 v'⟩,ql (by rw [Lib.byteCells_append,aw,←HSC.o,←HSZ.o];exact hown') hne 1 v'⟩);have Tp:=hide ((yQ HP1.o hown hgrow hBw).set hge 1 v')
 obtain ⟨ao,n',cap,rfl⟩:∃ao n' cap,v'=.slice ao n' cap:=by
  rcases hown'.2 with ⟨hv,_⟩|⟨g,cap,cur,hv,_⟩
  ·exact ⟨_,_,_,hv⟩
  ·exact ⟨_,_,_,hv⟩
 clear hown hown' hgrow hr2 hne c1;go_wp2
 go_ret2
 exact ⟨by rw [←HSZ.o];rfl,_,KA.o,Tp.o⟩
def PnE (B b:Nat) (W:World) (st:St) (bad:Bool) (e:Ending) (w':World):Prop:=e=.returned (.tuple #[])∧(∃v',fT w' B b v' st bad)∧aM B b W w'
theorem UT (st:St) (s:List UInt8):(bD st s).1.length≤st.1.length+s.length+1:=by
 unfold bD;by_cases h:s=[]
 ·rw [if_pos h];omega
 ·rw [if_neg h];show ((if st.2&&decide (s.head? ≠some 32) then st.1++[32] else st.1)++s).length≤_
  split<;>simp<;>omega
def jD:List (List UInt8)→Nat
 |[]=>0
 |s::r=>s.length+1+jD r
theorem MG (st:St) (l:List (List UInt8)) (s:List UInt8):fB st (l++[s])=bD (fB st l) s:=by
 unfold fB;rw [List.foldl_append];rfl
theorem yS:∀(l:List (List UInt8)) (st:St),(fB st l).1.length≤st.1.length+jD l
 |[],st=>aa _
 |s::r,st=>by
  have h1:=UT st s;have h2:=yS r (bD st s);show (fB (bD st s) r).1.length≤_;rw [jD];omega
theorem Bg:∀(l:List (List UInt8)) (k:Nat) (h:k<l.length),jD (l.take k)+l[k].length+1≤jD l
 |s::r,0,h=>by rw [List.take_zero,jD,jD,List.getElem_cons_zero];omega
 |s::r,k+1,h=>by
  rw [List.take_succ_cons,jD,jD,List.getElem_cons_succ];have:=Bg r k (by simpa using h);omega
theorem MH (b B:Nat) (v:Value) (st:St) (bad:Bool) (ws:List (List UInt8)) (g cap:Nat) (w:World) (h:fT w B b v st bad) (hr:Row w g 9 (ws.map fun s=>Value.string (ag s)).toArray) (hlen:st.1.length+jD ws≤1099511627776) (hn:ws.length≤1000):
 Calls Tryz.prog 73 #[.pointer (some ⟨b,0,none⟩),.slice (some ⟨g,0,none⟩) ws.length cap] w (PnE B b w (fB st ws) bad):=by
 have hgb:g≠b:=by
  obtain ⟨p,_,yT⟩:=h.row;exact hr.ne_ yT (by decide)
 have abc:=h.leB;have hge:=h.ge;have H0:=ae (fT w B b v (fB st (ws.take 0)) bad) h
 have HG:=hide (fun (W:World) (hp:aM B b w W) (k:Nat) (hk:k<ws.length)=>show W.cell? ⟨g,k,none⟩=some (.string (ag ws[k])) from by
  rw [(hp.rows g _ _ (by decide) hgb hr).cell k]
  simp [hk])
 have HT:=hide (fun (k:Nat) (hk:k<ws.length)=>show fB st (ws.take (k+1))=bD (fB st (ws.take k)) ws[k] from by
  rw [List.take_succ_eq_append_getElem hk,MG])
 have HL:=hide (fun (k:Nat) (hk:k<ws.length)=>show (fB st (ws.take k)).1.length+ws[k].length+1≤1099511627776 from by
  have h1:=yS (ws.take k) st;have h2:=Bg ws k hk
  omega)
 have HE:=ae (fB st (ws.take ws.length)=fB st ws) (by rw [List.take_length])
 obtain ⟨n,hN⟩:∃n,ws.length=n:=⟨_,rfl⟩
 rw [hN] at HE hn⊢;have HN:=hide hN;clear h hr hlen hN hgb;go_enter Tryz.func73,Tryz.ntmps73;go_wp2_with fail
 go_loopw [8] (fun i wr=>∃(k:Nat) (v':Value),k≤n∧i=.int .i64 (k:Int)∧fT wr B b v' (fB st (ws.take k)) bad∧aM B b w wr) (fun i _=>n-(intOf i).toNat)
 case atStart=>exact ⟨0,v,bj _,rfl,H0.o,aM.refl _ _ _⟩
 case round=>
  obtain ⟨k,v',hk,rfl,hpa,hpt⟩:=hrel;by_cases hlt:k<n
  ·have ir:k<ws.length:=by rw [HN.o];exact hlt
   have hk':(k:Int)<(n:Int):=by omega
   have uQ:(0:Int)≤(k:Int):=by omega
   have hw1:IntKind.i64.wrap ((k:Int)+1)=(k:Int)+1:=bI _ (by omega);have cg:=HG.o wr hpt k ir;have MI:=HT.o k ir;have HLk:=HL.o k ir;obtain ⟨⟨d1,d2,d3⟩,e1,e2,e3⟩:=hpa.cells;have KA:=hide hpa;have Tp:=hide hpt;generalize ws[k]=s at*
   obtain ⟨st1,hst⟩:∃st1,fB st (ws.take k)=st1:=⟨_,rfl⟩
   rw [hst] at MI HLk KA d2;obtain ⟨l,esc⟩:=st1;have d2':wr.cell? ⟨b,2,none⟩=some (.bool esc):=d2;have Tb:l.length+s.length+1≤1099511627776:=HLk;clear hst hpa hpt d1 d2 d3 HLk e1 e3
   cases s with
   |nil=>
    have DI:=ae (fB st (ws.take (k+1))=(l,esc)) MI;have hb0:ag ([]:List UInt8)=⟨#[]⟩:=rfl;rw [hb0] at cg;clear MI hb0;go_wp2;go_roundw
    case rel=>exact ⟨k+1,v',by omega,by go_num,by rw [DI.o];exact KA.o,Tp.o⟩
    case measure=>simp [intOf];omega
   |cons c t=>
    have hne:¬(ag (c::t)).toList=[]:=by rw [Lib.toList_data,dD];simp
    have adT:(ag (c::t)).toList.isEmpty=false:=by rw [Lib.toList_data,dD];rfl
    have hz:0<(ag (c::t)).size:=by rw [aO];simp
    have hc0:(ag (c::t))[0]'hz=c:=by rw [fu];rfl
    have hls:(c::t).length=t.length+1:=rfl;rw [hls] at Tb;have WS:=hide (fun (W:World) (v:Value) (st:St) (h:fT W B b v st bad) (hl:st.1.length+(t.length+1)≤140737488355328)=>yR b B v st bad (c::t) W h hl);have WB:=hide (fun (W:World) (v:Value) (st:St) (h:fT W B b v st bad) (hl:st.1.length+1≤140737488355328)=>show Calls Tryz.prog 114 #[.pointer (some ⟨b,0,none⟩),.int .u8 32] W fun e w'=>e=.returned .nilIface∧∃v',fT w' B b v' (st.1++[32],st.2) bad∧aM B b W w' from CP b B v st bad 32 W h hl)
    have hwr:bD (l,esc) (c::t)=((if esc&&decide (c≠32) then l++[32] else l)++(c::t),false):=by
     unfold bD;rw [if_neg (by simp)];simp
    rw [hwr] at MI;have UU:=hide MI;clear MI hwr hls;generalize ag (c::t)=S at*
    cases esc with
    |false=>
     go_wp2_with fail;refine (WS.o _ _ _ (KA.o.CO false) (by show l.length+_≤_;omega)).mono ?_;rintro e w2 ⟨rfl,v2,E4,E5⟩;have Qt:=hide E4;have Qu:=hide ((Tp.o.set hge 2 (.bool false)).trans E5);clear E4 E5;go_wp2;go_roundw
     case rel=>exact ⟨k+1,v2,by omega,by go_num,by rw [UU.o];exact Qt.o,Qu.o⟩
     case measure=>simp [intOf];omega
    |true=>
     by_cases Qv:c=32
     ·subst Qv;have q1:((((32:UInt8).toNat:Int)) !=32)=false:=rfl;go_wp2_with fail;refine (WS.o _ _ _ (KA.o.CO false) (by show l.length+_≤_;omega)).mono ?_;rintro e w2 ⟨rfl,v2,E4,E5⟩;have Qt:=hide E4;have Qu:=hide ((Tp.o.set hge 2 (.bool false)).trans E5);clear E4 E5;go_wp2;go_roundw
      case rel=>exact ⟨k+1,v2,by omega,by go_num,by rw [UU.o];exact Qt.o,Qu.o⟩
      case measure=>simp [intOf];omega
     ·have q1:((c.toNat:Int) !=32)=true:=by
       rw [bne,aP.2 (fun e=>Qv (UInt8.toNat_inj.1 (by show c.toNat=32;omega)))];rfl
      have hd:(true&&decide (c≠32))=true:=by rw [decide_eq_true Qv];rfl
      rw [hd] at UU;clear hd;go_wp2_with fail;refine (WB.o _ _ _ KA.o (by show l.length+_≤_;omega)).mono ?_;rintro e w1 ⟨rfl,v1,UW,abd⟩;have acL:=hide UW;have acM:=hide (Tp.o.trans abd);have f2:=UW.cells.2.2.1;have g2:=UW.cells.1.2.1;clear UW abd;go_wp2_with fail;refine (WS.o _ _ _ (acL.o.CO false) (by show (l++[32]).length+_≤_;simp;omega)).mono ?_;rintro e w2 ⟨rfl,v2,E4,E5⟩;have Qt:=hide E4;have Qu:=hide ((acM.o.set hge 2 (.bool false)).trans E5);clear E4 E5;go_wp2;go_roundw
      case rel=>exact ⟨k+1,v2,by omega,by go_num,by rw [UU.o];exact Qt.o,Qu.o⟩
      case measure=>simp [intOf];omega
  ·obtain rfl:k=n:=by omega
   have hk':¬(k:Int)<(k:Int):=by omega
   have KA:=hide hpa;have Tp:=hide hpt;clear hpa hpt;go_wp2;go_end0;exact ⟨rfl,⟨v',by rw [←HE.o];exact KA.o⟩,Tp.o⟩
end Go.Proofs.YtddoehnkgcbboaaGreatDoor
