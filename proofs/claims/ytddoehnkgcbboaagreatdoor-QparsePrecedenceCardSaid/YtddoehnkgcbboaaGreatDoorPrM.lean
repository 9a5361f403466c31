/- Packed by program: a part of the proof; the last file says what is proved. -/
import Derived.Test.YtddoehnkgcbboaaGreatDoorPrL
import Derived.Test.YtddoehnkgcbboaaGreatDoorPrK
import Derived.Test.YtddoehnkgcbboaaGreatDoorPrA
import Derived.Lib.Builder
import Derived.Lib.AppendStr
import Derived.Lib.UnsafeStr
import Derived.Laws.Externs
import Derived.WalkLawsBesides
set_option maxHeartbeats 16000000
set_option maxRecDepth 100000
set_option linter.unusedVariables false
set_option linter.unusedSimpArgs false
namespace Go.Proofs.YtddoehnkgcbboaaGreatDoor
open Go.RowKit Go.Shelf
def kH:List (List UInt8×Int)→Nat→List MapEntry
 |[],_=>[]
 |o::r,n=>{key:=.string (ae o.1),val:=.int .i64 o.2,born:=n}::kH r (n+1)
theorem xl:∀(ops:List (List UInt8×Int)) (n:Nat) (o:List UInt8×Int),kH (ops++[o]) n=kH ops n++[{key:=.string (ae o.1),val:=.int .i64 o.2,born:=n+ops.length}]
 |[],n,o=>rfl
 |a::r,n,o=>by
  rw [List.cons_append]
  unfold kH
  rw [xl r (n+1) o,List.length_cons,show n+1+r.length=n+(r.length+1) by omega];rfl
theorem xn (x:List UInt8):∀(ops:List (List UInt8×Int)) (n j:Nat),(∀o∈ops,o.1≠x)→Instr.findNow .string (.string (ae x)) (kH ops n) j=some none
 |[],n,j,_=>rfl
 |o::r,n,j,h=>by
  unfold kH Instr.findNow
  rw [rJ]
  have hf:(x==o.1)=false:=beq_eq_false_iff_ne.2 (fun e=>h o List.mem_cons_self e.symm)
  rw [hf]
  exact xn x r (n+1) (j+1) (fun o ho=>h o (List.mem_cons_of_mem _ ho))
theorem fx (w:World) (r n:Nat) (ops:List (List UInt8×Int)) (o:List UInt8×Int) (hn:n=ops.length) (hb:w.heap[r]? =some (.map (kH ops 0).toArray n)) (hk:∀a∈ops,a.1≠o.1):
 ∃w',(Instr.mapUpdate 63 (.map (some r)) (.string (ae o.1)) (.int .i64 o.2)).run Tryz.prog w=.ok () w'∧w'.heap[r]? =some (.map (kH (ops++[o]) 0).toArray (n+1))∧∀B,B≤r→RowKit.Below B w w':=by
 obtain ⟨w',h1,h2,h3⟩:=s9 w 63 9 3 .string r n _ (.string (ae o.1)) (.int .i64 o.2) Tryz.underlying63 Tryz.underlying9 trivial hb (xn _ _ _ _ hk)
 refine ⟨w',h1,?_,h3⟩
 rw [h2,xl,hn,Nat.zero_add]
 simp
theorem Gq:∀(ops:List (List UInt8×Int)) (n:Nat),((kH ops n).map fun e=>(e.key,e.val))=ops.map (fun o=>(Value.string (ae o.1),Value.int .i64 o.2))∧((kH ops n).map (·.born))=List.range' n ops.length
 |[],n=>⟨rfl,rfl⟩
 |o::r,n=>by
  obtain ⟨h1,h2⟩:=Gq r (n+1)
  refine ⟨?_,?_⟩
  ·unfold kH;rw [List.map_cons,h1];rfl
  ·unfold kH;rw [List.map_cons,h2,List.length_cons,List.range'_succ]
theorem f_ {w:World} {r n:Nat} {ops:List (List UInt8×Int)} (hn:n=ops.length) (hb:w.heap[r]? =some (.map (kH ops 0).toArray n)):iU w r ops:=by
 obtain ⟨h1,h2⟩:=Gq ops 0
 refine ⟨_,n,hb,h1,fun e he=>?_,?_⟩
 ·have:e.born∈(kH ops 0).map (·.born):=List.mem_map.2 ⟨e,by simpa using he,rfl⟩
  rw [h2,List.mem_range'_1] at this
  omega
 ·show (((kH ops 0).toArray.toList).map (·.born)).Nodup
  rw [List.toList_toArray,h2]
  exact List.nodup_range'
theorem bc.EK {p:PS} {w:World} {k:Nat} (h:bc p w k):Below w.heap.size w ((w.alloc (.cells bJ 25)).alloc (.map #[] 0))∧((w.alloc (.cells bJ 25)).alloc (.map #[] 0)).heap[w.heap.size+1]? =some (.map (kH [] 0).toArray 0)∧Row ((w.alloc (.cells bJ 25)).alloc (.map #[] 0)) w.heap.size 25 bJ:=by
 refine ⟨((Below.refl _ _).alloc (Nat.le_refl _) _).alloc (by rw [World.size_alloc];omega) _,?_,(Row.new w _ _).alloc _⟩
 have:=heap_alloc_new (w.alloc (.cells bJ 25)) (.map #[] 0)
 rw [World.size_alloc] at this
 exact this
theorem gg {B g:Nat} {W:World} {n:Nd} {kd a0 xa xb xc xd:Int} {nm vl:List UInt8} {s:Value} (h:cG (fun b=>b<B) W n (aw kd a0 nm vl xa xb xc xd s)) (hg:g<B):
 nh g (iP W g (.int .i64 kd) (.int .i64 a0) (.string (ae nm)) (.string (ae vl)) (.int .i64 xa) (.int .i64 xb) (.int .i64 xc) (.int .i64 xd) s) n (.agg #[.int .i64 kd,.int .i64 a0,.string (ae nm),.string (ae vl),.int .i64 xa,.int .i64 xb,.int .i64 xc,.int .i64 xd,s]):=
 ⟨_,rfl,(h.keeps (ax (C:=fun b=>b<B) hg _ _ _ _ _ _ _ _ _)).mono (fun b hb=>Nat.lt_trans hb hg)⟩
theorem ov {f:FuncId} {args:Array Value} (h:(Tryz.prog.funcs[f]?).map (fun fn=>(fn.name== "runtime.NumGoroutine",fn.body.isNone))=some (false,false)):∀W,(callFunc f args).run Tryz.prog W=.ok (.enter f args) W:=fun W=>jh h W
theorem Pd (p:PS) (F:Nat) (f:Nat→PR Nd) (hc:bQ p 249 f F) (hp:Prog f):bQ p 223 (cA p.L p.en yU f) F:=by
 intro k w hF h
 have hmm:=@run_makeMap Tryz.prog
 have aN:p.b<w.heap.size:=h.row.lt
 obtain ⟨b0,m0,fO⟩:=h.EK
 obtain ⟨W1,r1,m1,b1⟩:=fx _ (w.heap.size+1) 0 _ ([43],12) rfl m0 (by decide)
 obtain ⟨W2,r2,m2,b2⟩:=fx _ (w.heap.size+1) 1 _ ([45],13) rfl m1 (by decide)
 have u1:(Instr.mapUpdate 63 (.map (some (w.heap.size+1))) (.string {data:=#[43]}) (.int .i64 12)).run Tryz.prog ((w.alloc (.cells #[.int .i64 0,.int .i64 0,.string {data:=#[]},.string {data:=#[]},.int .i64 0,.int .i64 0,.int .i64 0,.int .i64 0,.slice none 0 0] 25)).alloc (.map #[] 0))=.ok () W1:=r1
 have u2:(Instr.mapUpdate 63 (.map (some (w.heap.size+1))) (.string {data:=#[45]}) (.int .i64 13)).run Tryz.prog (W1)=.ok () W2:=r2
 have hb:Below w.heap.size w W2:=((b0).trans (b1 _ (Nat.le_succ _))).trans (b2 _ (Nat.le_succ _))
 have qM:Row W2 w.heap.size 25 bJ:=((fO).below (b1 _ (Nat.le_refl _)) (Nat.lt_succ_self _)).below (b2 _ (Nat.le_refl _)) (Nat.lt_succ_self _)
 have LF:=aa (jq p F 249 f yU (w.heap.size+1) k W2 (h.below hb) hF (f_ rfl m2) (by omega) (by unfold cD;decide) (by decide) hc (ov (by kernel_rfl)) hp)
 have H:=aa h
 have HB:=aa hb
 have HR:=aa qM
 have hsz:w.heap.size<W2.heap.size:=qM.lt
 clear m0 b0 fO hb qM hc m1 b1 r1 m2 b2 r2
 cases hR:cA p.L p.en yU f k with
 |err a er=>
  rw [hR] at LF
  clear h hR
  go_enter Tryz.func223,Tryz.ntmps223
  go_wp2_with fail
  refine LF.out.mono ?_
  rintro e w1 ⟨rfl,hk⟩
  go_wp2
  exact ⟨rfl,rfl,(af.of_below HB.out (Nat.le_refl _)).trans hk⟩
 |ok n k'=>
  rw [hR] at LF
  clear h hR
  go_enter Tryz.func223,Tryz.ntmps223
  go_wp2_with fail
  refine LF.out.mono ?_
  rintro e w1 ⟨⟨v,rfl,cs,rfl,aB⟩,h1,hk⟩
  have hres:Row w1 w.heap.size 25 bJ:=HR.out.keep hk (by show¬w.heap.size=p.b;omega)
  have cN:=aa aB
  cases aB with
  |mk kd a0 nm vl xa xb xc xd ks A cap bF hl iG hr=>
   obtain ⟨e0,e1,e2,e3,e4,e5,e6,e7,e8⟩:=aj hres
   obtain ⟨f0,f1,f2,f3,f4,f5,f6,f7,f8⟩:=aA hres
   have gM:=(af.of_below (C:=fun c=>c=p.b) HB.out (Nat.le_refl _)).trans hk
   clear hl iG hr hk
   unfold aw
   go_wp2_with fail
   refine bodyPost_ret (v:=.agg #[.int .i64 kd,.int .i64 a0,.string (ae nm),.string (ae vl),.int .i64 xa,.int .i64 xb,.int .i64 xc,.int .i64 xd,.slice A ks.length cap]) (ag rfl _ _ w.heap.size 25 _ _ _ rfl (av hres _ _ _ _ _ _ _ _ _) Tryz.underlying25 rfl (by kernel_rfl)) rfl ?_
   have hbl:=ak (W:=w1) (Nat.le_refl w.heap.size) (.int .i64 kd) (.int .i64 a0) (.string (ae nm)) (.string (ae vl)) (.int .i64 xa) (.int .i64 xb) (.int .i64 xc) (.int .i64 xd) (.slice A ks.length cap)
   exact ⟨⟨_,rfl,gg cN.out hsz⟩,H.out.above h1 hbl,gM.over hbl⟩
theorem EM (p:PS) (F:Nat) (f:Nat→PR Nd) (hc:bQ p 223 f F) (hp:Prog f):bQ p 197 (cA p.L p.en Bx f) F:=by
 intro k w hF h
 have hmm:=@run_makeMap Tryz.prog
 have aN:p.b<w.heap.size:=h.row.lt
 obtain ⟨b0,m0,fO⟩:=h.EK
 obtain ⟨W1,r1,m1,b1⟩:=fx _ (w.heap.size+1) 0 _ ([38],9) rfl m0 (by decide)
 have u1:(Instr.mapUpdate 63 (.map (some (w.heap.size+1))) (.string {data:=#[38]}) (.int .i64 9)).run Tryz.prog ((w.alloc (.cells #[.int .i64 0,.int .i64 0,.string {data:=#[]},.string {data:=#[]},.int .i64 0,.int .i64 0,.int .i64 0,.int .i64 0,.slice none 0 0] 25)).alloc (.map #[] 0))=.ok () W1:=r1
 have hb:Below w.heap.size w W1:=(b0).trans (b1 _ (Nat.le_succ _))
 have qM:Row W1 w.heap.size 25 bJ:=(fO).below (b1 _ (Nat.le_refl _)) (Nat.lt_succ_self _)
 have LF:=aa (jq p F 223 f Bx (w.heap.size+1) k W1 (h.below hb) hF (f_ rfl m1) (by omega) (by unfold cD;decide) (by decide) hc (ov (by kernel_rfl)) hp)
 have H:=aa h
 have HB:=aa hb
 have HR:=aa qM
 have hsz:w.heap.size<W1.heap.size:=qM.lt
 clear m0 b0 fO hb qM hc m1 b1 r1
 cases hR:cA p.L p.en Bx f k with
 |err a er=>
  rw [hR] at LF
  clear h hR
  go_enter Tryz.func197,Tryz.ntmps197
  go_wp2_with fail
  refine LF.out.mono ?_
  rintro e w1 ⟨rfl,hk⟩
  go_wp2
  exact ⟨rfl,rfl,(af.of_below HB.out (Nat.le_refl _)).trans hk⟩
 |ok n k'=>
  rw [hR] at LF
  clear h hR
  go_enter Tryz.func197,Tryz.ntmps197
  go_wp2_with fail
  refine LF.out.mono ?_
  rintro e w1 ⟨⟨v,rfl,cs,rfl,aB⟩,h1,hk⟩
  have hres:Row w1 w.heap.size 25 bJ:=HR.out.keep hk (by show¬w.heap.size=p.b;omega)
  have cN:=aa aB
  cases aB with
  |mk kd a0 nm vl xa xb xc xd ks A cap bF hl iG hr=>
   obtain ⟨e0,e1,e2,e3,e4,e5,e6,e7,e8⟩:=aj hres
   obtain ⟨f0,f1,f2,f3,f4,f5,f6,f7,f8⟩:=aA hres
   have gM:=(af.of_below (C:=fun c=>c=p.b) HB.out (Nat.le_refl _)).trans hk
   clear hl iG hr hk
   unfold aw
   go_wp2_with fail
   refine bodyPost_ret (v:=.agg #[.int .i64 kd,.int .i64 a0,.string (ae nm),.string (ae vl),.int .i64 xa,.int .i64 xb,.int .i64 xc,.int .i64 xd,.slice A ks.length cap]) (ag rfl _ _ w.heap.size 25 _ _ _ rfl (av hres _ _ _ _ _ _ _ _ _) Tryz.underlying25 rfl (by kernel_rfl)) rfl ?_
   have hbl:=ak (W:=w1) (Nat.le_refl w.heap.size) (.int .i64 kd) (.int .i64 a0) (.string (ae nm)) (.string (ae vl)) (.int .i64 xa) (.int .i64 xb) (.int .i64 xc) (.int .i64 xd) (.slice A ks.length cap)
   exact ⟨⟨_,rfl,gg cN.out hsz⟩,H.out.above h1 hbl,gM.over hbl⟩
theorem EN (p:PS) (F:Nat) (f:Nat→PR Nd) (hc:bQ p 197 f F) (hp:Prog f):bQ p 164 (cA p.L p.en ED f) F:=by
 intro k w hF h
 have hmm:=@run_makeMap Tryz.prog
 have aN:p.b<w.heap.size:=h.row.lt
 obtain ⟨b0,m0,fO⟩:=h.EK
 obtain ⟨W1,r1,m1,b1⟩:=fx _ (w.heap.size+1) 0 _ ([94],11) rfl m0 (by decide)
 have u1:(Instr.mapUpdate 63 (.map (some (w.heap.size+1))) (.string {data:=#[94]}) (.int .i64 11)).run Tryz.prog ((w.alloc (.cells #[.int .i64 0,.int .i64 0,.string {data:=#[]},.string {data:=#[]},.int .i64 0,.int .i64 0,.int .i64 0,.int .i64 0,.slice none 0 0] 25)).alloc (.map #[] 0))=.ok () W1:=r1
 have hb:Below w.heap.size w W1:=(b0).trans (b1 _ (Nat.le_succ _))
 have qM:Row W1 w.heap.size 25 bJ:=(fO).below (b1 _ (Nat.le_refl _)) (Nat.lt_succ_self _)
 have LF:=aa (jq p F 197 f ED (w.heap.size+1) k W1 (h.below hb) hF (f_ rfl m1) (by omega) (by unfold cD;decide) (by decide) hc (ov (by kernel_rfl)) hp)
 have H:=aa h
 have HB:=aa hb
 have HR:=aa qM
 have hsz:w.heap.size<W1.heap.size:=qM.lt
 clear m0 b0 fO hb qM hc m1 b1 r1
 cases hR:cA p.L p.en ED f k with
 |err a er=>
  rw [hR] at LF
  clear h hR
  go_enter Tryz.func164,Tryz.ntmps164
  go_wp2_with fail
  refine LF.out.mono ?_
  rintro e w1 ⟨rfl,hk⟩
  go_wp2
  exact ⟨rfl,rfl,(af.of_below HB.out (Nat.le_refl _)).trans hk⟩
 |ok n k'=>
  rw [hR] at LF
  clear h hR
  go_enter Tryz.func164,Tryz.ntmps164
  go_wp2_with fail
  refine LF.out.mono ?_
  rintro e w1 ⟨⟨v,rfl,cs,rfl,aB⟩,h1,hk⟩
  have hres:Row w1 w.heap.size 25 bJ:=HR.out.keep hk (by show¬w.heap.size=p.b;omega)
  have cN:=aa aB
  cases aB with
  |mk kd a0 nm vl xa xb xc xd ks A cap bF hl iG hr=>
   obtain ⟨e0,e1,e2,e3,e4,e5,e6,e7,e8⟩:=aj hres
   obtain ⟨f0,f1,f2,f3,f4,f5,f6,f7,f8⟩:=aA hres
   have gM:=(af.of_below (C:=fun c=>c=p.b) HB.out (Nat.le_refl _)).trans hk
   clear hl iG hr hk
   unfold aw
   go_wp2_with fail
   refine bodyPost_ret (v:=.agg #[.int .i64 kd,.int .i64 a0,.string (ae nm),.string (ae vl),.int .i64 xa,.int .i64 xb,.int .i64 xc,.int .i64 xd,.slice A ks.length cap]) (ag rfl _ _ w.heap.size 25 _ _ _ rfl (av hres _ _ _ _ _ _ _ _ _) Tryz.underlying25 rfl (by kernel_rfl)) rfl ?_
   have hbl:=ak (W:=w1) (Nat.le_refl w.heap.size) (.int .i64 kd) (.int .i64 a0) (.string (ae nm)) (.string (ae vl)) (.int .i64 xa) (.int .i64 xb) (.int .i64 xc) (.int .i64 xd) (.slice A ks.length cap)
   exact ⟨⟨_,rfl,gg cN.out hsz⟩,H.out.above h1 hbl,gM.over hbl⟩
theorem I6 (p:PS) (F:Nat) (f:Nat→PR Nd) (hc:bQ p 164 f F) (hp:Prog f):bQ p 127 (cA p.L p.en Vi f) F:=by
 intro k w hF h
 have hmm:=@run_makeMap Tryz.prog
 have aN:p.b<w.heap.size:=h.row.lt
 obtain ⟨b0,m0,fO⟩:=h.EK
 obtain ⟨W1,r1,m1,b1⟩:=fx _ (w.heap.size+1) 0 _ ([124],10) rfl m0 (by decide)
 have u1:(Instr.mapUpdate 63 (.map (some (w.heap.size+1))) (.string {data:=#[124]}) (.int .i64 10)).run Tryz.prog ((w.alloc (.cells #[.int .i64 0,.int .i64 0,.string {data:=#[]},.string {data:=#[]},.int .i64 0,.int .i64 0,.int .i64 0,.int .i64 0,.slice none 0 0] 25)).alloc (.map #[] 0))=.ok () W1:=r1
 have hb:Below w.heap.size w W1:=(b0).trans (b1 _ (Nat.le_succ _))
 have qM:Row W1 w.heap.size 25 bJ:=(fO).below (b1 _ (Nat.le_refl _)) (Nat.lt_succ_self _)
 have LF:=aa (jq p F 164 f Vi (w.heap.size+1) k W1 (h.below hb) hF (f_ rfl m1) (by omega) (by unfold cD;decide) (by decide) hc (ov (by kernel_rfl)) hp)
 have H:=aa h
 have HB:=aa hb
 have HR:=aa qM
 have hsz:w.heap.size<W1.heap.size:=qM.lt
 clear m0 b0 fO hb qM hc m1 b1 r1
 cases hR:cA p.L p.en Vi f k with
 |err a er=>
  rw [hR] at LF
  clear h hR
  go_enter Tryz.func127,Tryz.ntmps127
  go_wp2_with fail
  refine LF.out.mono ?_
  rintro e w1 ⟨rfl,hk⟩
  go_wp2
  exact ⟨rfl,rfl,(af.of_below HB.out (Nat.le_refl _)).trans hk⟩
 |ok n k'=>
  rw [hR] at LF
  clear h hR
  go_enter Tryz.func127,Tryz.ntmps127
  go_wp2_with fail
  refine LF.out.mono ?_
  rintro e w1 ⟨⟨v,rfl,cs,rfl,aB⟩,h1,hk⟩
  have hres:Row w1 w.heap.size 25 bJ:=HR.out.keep hk (by show¬w.heap.size=p.b;omega)
  have cN:=aa aB
  cases aB with
  |mk kd a0 nm vl xa xb xc xd ks A cap bF hl iG hr=>
   obtain ⟨e0,e1,e2,e3,e4,e5,e6,e7,e8⟩:=aj hres
   obtain ⟨f0,f1,f2,f3,f4,f5,f6,f7,f8⟩:=aA hres
   have gM:=(af.of_below (C:=fun c=>c=p.b) HB.out (Nat.le_refl _)).trans hk
   clear hl iG hr hk
   unfold aw
   go_wp2_with fail
   refine bodyPost_ret (v:=.agg #[.int .i64 kd,.int .i64 a0,.string (ae nm),.string (ae vl),.int .i64 xa,.int .i64 xb,.int .i64 xc,.int .i64 xd,.slice A ks.length cap]) (ag rfl _ _ w.heap.size 25 _ _ _ rfl (av hres _ _ _ _ _ _ _ _ _) Tryz.underlying25 rfl (by kernel_rfl)) rfl ?_
   have hbl:=ak (W:=w1) (Nat.le_refl w.heap.size) (.int .i64 kd) (.int .i64 a0) (.string (ae nm)) (.string (ae vl)) (.int .i64 xa) (.int .i64 xb) (.int .i64 xc) (.int .i64 xd) (.slice A ks.length cap)
   exact ⟨⟨_,rfl,gg cN.out hsz⟩,H.out.above h1 hbl,gM.over hbl⟩
theorem Mf (p:PS) (F:Nat) (f:Nat→PR Nd) (hc:bQ p 50 f F) (hp:Prog f):bQ p 35 (cA p.L p.en uh f) F:=by
 intro k w hF h
 have hmm:=@run_makeMap Tryz.prog
 have aN:p.b<w.heap.size:=h.row.lt
 obtain ⟨b0,m0,fO⟩:=h.EK
 obtain ⟨W1,r1,m1,b1⟩:=fx _ (w.heap.size+1) 0 _ ([38,38],29) rfl m0 (by decide)
 have u1:(Instr.mapUpdate 63 (.map (some (w.heap.size+1))) (.string {data:=#[38,38]}) (.int .i64 29)).run Tryz.prog ((w.alloc (.cells #[.int .i64 0,.int .i64 0,.string {data:=#[]},.string {data:=#[]},.int .i64 0,.int .i64 0,.int .i64 0,.int .i64 0,.slice none 0 0] 25)).alloc (.map #[] 0))=.ok () W1:=r1
 have hb:Below w.heap.size w W1:=(b0).trans (b1 _ (Nat.le_succ _))
 have qM:Row W1 w.heap.size 25 bJ:=(fO).below (b1 _ (Nat.le_refl _)) (Nat.lt_succ_self _)
 have LF:=aa (jq p F 50 f uh (w.heap.size+1) k W1 (h.below hb) hF (f_ rfl m1) (by omega) (by unfold cD;decide) (by decide) hc (ov (by kernel_rfl)) hp)
 have H:=aa h
 have HB:=aa hb
 have HR:=aa qM
 have hsz:w.heap.size<W1.heap.size:=qM.lt
 clear m0 b0 fO hb qM hc m1 b1 r1
 cases hR:cA p.L p.en uh f k with
 |err a er=>
  rw [hR] at LF
  clear h hR
  go_enter Tryz.func35,Tryz.ntmps35
  go_wp2_with fail
  refine LF.out.mono ?_
  rintro e w1 ⟨rfl,hk⟩
  go_wp2
  exact ⟨rfl,rfl,(af.of_below HB.out (Nat.le_refl _)).trans hk⟩
 |ok n k'=>
  rw [hR] at LF
  clear h hR
  go_enter Tryz.func35,Tryz.ntmps35
  go_wp2_with fail
  refine LF.out.mono ?_
  rintro e w1 ⟨⟨v,rfl,cs,rfl,aB⟩,h1,hk⟩
  have hres:Row w1 w.heap.size 25 bJ:=HR.out.keep hk (by show¬w.heap.size=p.b;omega)
  have cN:=aa aB
  cases aB with
  |mk kd a0 nm vl xa xb xc xd ks A cap bF hl iG hr=>
   obtain ⟨e0,e1,e2,e3,e4,e5,e6,e7,e8⟩:=aj hres
   obtain ⟨f0,f1,f2,f3,f4,f5,f6,f7,f8⟩:=aA hres
   have gM:=(af.of_below (C:=fun c=>c=p.b) HB.out (Nat.le_refl _)).trans hk
   clear hl iG hr hk
   unfold aw
   go_wp2_with fail
   refine bodyPost_ret (v:=.agg #[.int .i64 kd,.int .i64 a0,.string (ae nm),.string (ae vl),.int .i64 xa,.int .i64 xb,.int .i64 xc,.int .i64 xd,.slice A ks.length cap]) (ag rfl _ _ w.heap.size 25 _ _ _ rfl (av hres _ _ _ _ _ _ _ _ _) Tryz.underlying25 rfl (by kernel_rfl)) rfl ?_
   have hbl:=ak (W:=w1) (Nat.le_refl w.heap.size) (.int .i64 kd) (.int .i64 a0) (.string (ae nm)) (.string (ae vl)) (.int .i64 xa) (.int .i64 xb) (.int .i64 xc) (.int .i64 xd) (.slice A ks.length cap)
   exact ⟨⟨_,rfl,gg cN.out hsz⟩,H.out.above h1 hbl,gM.over hbl⟩
theorem vT (p:PS) (F:Nat) (f:Nat→PR Nd) (hc:bQ p 35 f F) (hp:Prog f):bQ p 17 (cA p.L p.en pF f) F:=by
 intro k w hF h
 have hmm:=@run_makeMap Tryz.prog
 have aN:p.b<w.heap.size:=h.row.lt
 obtain ⟨b0,m0,fO⟩:=h.EK
 obtain ⟨W1,r1,m1,b1⟩:=fx _ (w.heap.size+1) 0 _ ([124,124],30) rfl m0 (by decide)
 have u1:(Instr.mapUpdate 63 (.map (some (w.heap.size+1))) (.string {data:=#[124,124]}) (.int .i64 30)).run Tryz.prog ((w.alloc (.cells #[.int .i64 0,.int .i64 0,.string {data:=#[]},.string {data:=#[]},.int .i64 0,.int .i64 0,.int .i64 0,.int .i64 0,.slice none 0 0] 25)).alloc (.map #[] 0))=.ok () W1:=r1
 have hb:Below w.heap.size w W1:=(b0).trans (b1 _ (Nat.le_succ _))
 have qM:Row W1 w.heap.size 25 bJ:=(fO).below (b1 _ (Nat.le_refl _)) (Nat.lt_succ_self _)
 have LF:=aa (jq p F 35 f pF (w.heap.size+1) k W1 (h.below hb) hF (f_ rfl m1) (by omega) (by unfold cD;decide) (by decide) hc (ov (by kernel_rfl)) hp)
 have H:=aa h
 have HB:=aa hb
 have HR:=aa qM
 have hsz:w.heap.size<W1.heap.size:=qM.lt
 clear m0 b0 fO hb qM hc m1 b1 r1
 cases hR:cA p.L p.en pF f k with
 |err a er=>
  rw [hR] at LF
  clear h hR
  go_enter Tryz.func17,Tryz.ntmps17
  go_wp2_with fail
  refine LF.out.mono ?_
  rintro e w1 ⟨rfl,hk⟩
  go_wp2
  exact ⟨rfl,rfl,(af.of_below HB.out (Nat.le_refl _)).trans hk⟩
 |ok n k'=>
  rw [hR] at LF
  clear h hR
  go_enter Tryz.func17,Tryz.ntmps17
  go_wp2_with fail
  refine LF.out.mono ?_
  rintro e w1 ⟨⟨v,rfl,cs,rfl,aB⟩,h1,hk⟩
  have hres:Row w1 w.heap.size 25 bJ:=HR.out.keep hk (by show¬w.heap.size=p.b;omega)
  have cN:=aa aB
  cases aB with
  |mk kd a0 nm vl xa xb xc xd ks A cap bF hl iG hr=>
   obtain ⟨e0,e1,e2,e3,e4,e5,e6,e7,e8⟩:=aj hres
   obtain ⟨f0,f1,f2,f3,f4,f5,f6,f7,f8⟩:=aA hres
   have gM:=(af.of_below (C:=fun c=>c=p.b) HB.out (Nat.le_refl _)).trans hk
   clear hl iG hr hk
   unfold aw
   go_wp2_with fail
   refine bodyPost_ret (v:=.agg #[.int .i64 kd,.int .i64 a0,.string (ae nm),.string (ae vl),.int .i64 xa,.int .i64 xb,.int .i64 xc,.int .i64 xd,.slice A ks.length cap]) (ag rfl _ _ w.heap.size 25 _ _ _ rfl (av hres _ _ _ _ _ _ _ _ _) Tryz.underlying25 rfl (by kernel_rfl)) rfl ?_
   have hbl:=ak (W:=w1) (Nat.le_refl w.heap.size) (.int .i64 kd) (.int .i64 a0) (.string (ae nm)) (.string (ae vl)) (.int .i64 xa) (.int .i64 xb) (.int .i64 xc) (.int .i64 xd) (.slice A ks.length cap)
   exact ⟨⟨_,rfl,gg cN.out hsz⟩,H.out.above h1 hbl,gM.over hbl⟩
theorem BJ (p:PS) (F:Nat) (f:Nat→PR Nd) (hc:bQ p 43 f F) (hp:Prog f):bQ p 25 (cA p.L p.en EF f) F:=by
 intro k w hF h
 have hmm:=@run_makeMap Tryz.prog
 have aN:p.b<w.heap.size:=h.row.lt
 obtain ⟨b0,m0,fO⟩:=h.EK
 obtain ⟨W1,r1,m1,b1⟩:=fx _ (w.heap.size+1) 0 _ ([111,114],46) rfl m0 (by decide)
 have u1:(Instr.mapUpdate 63 (.map (some (w.heap.size+1))) (.string {data:=#[111,114]}) (.int .i64 46)).run Tryz.prog ((w.alloc (.cells #[.int .i64 0,.int .i64 0,.string {data:=#[]},.string {data:=#[]},.int .i64 0,.int .i64 0,.int .i64 0,.int .i64 0,.slice none 0 0] 25)).alloc (.map #[] 0))=.ok () W1:=r1
 have hb:Below w.heap.size w W1:=(b0).trans (b1 _ (Nat.le_succ _))
 have qM:Row W1 w.heap.size 25 bJ:=(fO).below (b1 _ (Nat.le_refl _)) (Nat.lt_succ_self _)
 have LF:=aa (jq p F 43 f EF (w.heap.size+1) k W1 (h.below hb) hF (f_ rfl m1) (by omega) (by unfold cD;decide) (by decide) hc (ov (by kernel_rfl)) hp)
 have H:=aa h
 have HB:=aa hb
 have HR:=aa qM
 have hsz:w.heap.size<W1.heap.size:=qM.lt
 clear m0 b0 fO hb qM hc m1 b1 r1
 cases hR:cA p.L p.en EF f k with
 |err a er=>
  rw [hR] at LF
  clear h hR
  go_enter Tryz.func25,Tryz.ntmps25
  go_wp2_with fail
  refine LF.out.mono ?_
  rintro e w1 ⟨rfl,hk⟩
  go_wp2
  exact ⟨rfl,rfl,(af.of_below HB.out (Nat.le_refl _)).trans hk⟩
 |ok n k'=>
  rw [hR] at LF
  clear h hR
  go_enter Tryz.func25,Tryz.ntmps25
  go_wp2_with fail
  refine LF.out.mono ?_
  rintro e w1 ⟨⟨v,rfl,cs,rfl,aB⟩,h1,hk⟩
  have hres:Row w1 w.heap.size 25 bJ:=HR.out.keep hk (by show¬w.heap.size=p.b;omega)
  have cN:=aa aB
  cases aB with
  |mk kd a0 nm vl xa xb xc xd ks A cap bF hl iG hr=>
   obtain ⟨e0,e1,e2,e3,e4,e5,e6,e7,e8⟩:=aj hres
   obtain ⟨f0,f1,f2,f3,f4,f5,f6,f7,f8⟩:=aA hres
   have gM:=(af.of_below (C:=fun c=>c=p.b) HB.out (Nat.le_refl _)).trans hk
   clear hl iG hr hk
   unfold aw
   go_wp2_with fail
   refine bodyPost_ret (v:=.agg #[.int .i64 kd,.int .i64 a0,.string (ae nm),.string (ae vl),.int .i64 xa,.int .i64 xb,.int .i64 xc,.int .i64 xd,.slice A ks.length cap]) (ag rfl _ _ w.heap.size 25 _ _ _ rfl (av hres _ _ _ _ _ _ _ _ _) Tryz.underlying25 rfl (by kernel_rfl)) rfl ?_
   have hbl:=ak (W:=w1) (Nat.le_refl w.heap.size) (.int .i64 kd) (.int .i64 a0) (.string (ae nm)) (.string (ae vl)) (.int .i64 xa) (.int .i64 xb) (.int .i64 xc) (.int .i64 xd) (.slice A ks.length cap)
   exact ⟨⟨_,rfl,gg cN.out hsz⟩,H.out.above h1 hbl,gM.over hbl⟩
theorem BK {B g:Nat} {w5 W6:World} {ks:List Nd} {bF:List (List Value)} (hl:bF.length=ks.length) (hk:∀i (h:i<ks.length) (h':i<bF.length),cG (fun b=>b<B) w5 ks[i] bF[i]) (hg:g<B) (hB:B≤w5.heap.size) (hW:W6=w5.alloc (.cells bF.flatten.toArray 25))
 (kd a0 xa xb xc xd:Int) (nm vl:List UInt8) (cap:Nat) (cI:ks.length≤cap):
 nh g (iP W6 g (.int .i64 kd) (.int .i64 a0) (.string (ae nm)) (.string (ae vl)) (.int .i64 xa) (.int .i64 xb) (.int .i64 xc) (.int .i64 xd) (.slice (some ⟨w5.heap.size,0,none⟩) ks.length cap)) (.mk kd a0 nm vl xa xb xc xd ks)
  (.agg #[.int .i64 kd,.int .i64 a0,.string (ae nm),.string (ae vl),.int .i64 xa,.int .i64 xb,.int .i64 xc,.int .i64 xd,.slice (some ⟨w5.heap.size,0,none⟩) ks.length cap]):=by
 have hnew:Row W6 w5.heap.size 25 bF.flatten.toArray:=by rw [hW];exact Row.new _ _ _
 have bA:Below w5.heap.size w5 W6:=by rw [hW];exact (Below.refl _ _).alloc (Nat.le_refl _) _
 have lW:=(af.of_below (C:=fun b=>b<B) bA (Nat.le_refl _)).trans (ax (C:=fun b=>b<B) (W:=W6) hg (.int .i64 kd) (.int .i64 a0) (.string (ae nm)) (.string (ae vl)) (.int .i64 xa) (.int .i64 xb) (.int .i64 xc) (.int .i64 xd) (.slice (some ⟨w5.heap.size,0,none⟩) ks.length cap))
 have Pa:=ax (C:=fun b=>b<B) (W:=W6) hg (.int .i64 kd) (.int .i64 a0) (.string (ae nm)) (.string (ae vl)) (.int .i64 xa) (.int .i64 xb) (.int .i64 xc) (.int .i64 xd) (.slice (some ⟨w5.heap.size,0,none⟩) ks.length cap)
 refine ⟨_,rfl,.mk kd a0 nm vl xa xb xc xd ks _ cap bF hl (fun i h h'=>((hk i h h').keeps lW).mono (fun b hb=>Nat.lt_trans hb hg)) ?_ cI⟩
 refine zb (hnew.keep Pa (by show¬w5.heap.size<B;omega)) (fun c hc=>?_) (by show¬w5.heap.size<g;omega)
 obtain ⟨i,hi,rfl⟩:=List.getElem_of_mem hc
 exact (hk i (by omega) hi).len
theorem zg {B g:Nat} {w5 W6:World} {x:Nd} {cs:List Value} (hx:cG (fun b=>b<B) w5 x cs) (hg:g<B) (hB:B≤w5.heap.size) (hW:W6=w5.alloc (.cells [cs].flatten.toArray 25))
 (kd a0 xa xb xc xd:Int) (nm vl:List UInt8) (cap:Nat) (cI:1≤cap:=by decide):
 nh g (iP W6 g (.int .i64 kd) (.int .i64 a0) (.string (ae nm)) (.string (ae vl)) (.int .i64 xa) (.int .i64 xb) (.int .i64 xc) (.int .i64 xd) (.slice (some ⟨w5.heap.size,0,none⟩) 1 cap)) (.mk kd a0 nm vl xa xb xc xd [x])
  (.agg #[.int .i64 kd,.int .i64 a0,.string (ae nm),.string (ae vl),.int .i64 xa,.int .i64 xb,.int .i64 xc,.int .i64 xd,.slice (some ⟨w5.heap.size,0,none⟩) 1 cap]):=
 BK (ks:=[x]) (bF:=[cs]) rfl (fun i h h'=>by match i,h with|0,_=>exact hx) hg hB hW kd a0 xa xb xc xd nm vl cap cI
theorem lL (w:World):Calls Tryz.prog 103 #[] w fun e w'=>e=.returned (.map (some w.heap.size))∧iU w' w.heap.size cP∧Below w.heap.size w w':=by
 have hmm:=@run_makeMap Tryz.prog
 have m0:(w.alloc (.map #[] 0)).heap[w.heap.size]? =some (.map (kH [] 0).toArray 0):=heap_alloc_new w _
 obtain ⟨W1,r1,m1,b1⟩:=fx _ w.heap.size 0 _ ([61,61],19) rfl m0 (by decide)
 obtain ⟨W2,r2,m2,b2⟩:=fx _ w.heap.size 1 _ ([33,61],20) rfl m1 (by decide)
 obtain ⟨W3,r3,m3,b3⟩:=fx _ w.heap.size 2 _ ([61,61,61],21) rfl m2 (by decide)
 obtain ⟨W4,r4,m4,b4⟩:=fx _ w.heap.size 3 _ ([33,61,61],22) rfl m3 (by decide)
 obtain ⟨W5,r5,m5,b5⟩:=fx _ w.heap.size 4 _ ([60],23) rfl m4 (by decide)
 obtain ⟨W6,r6,m6,b6⟩:=fx _ w.heap.size 5 _ ([60,61],24) rfl m5 (by decide)
 obtain ⟨W7,r7,m7,b7⟩:=fx _ w.heap.size 6 _ ([62],25) rfl m6 (by decide)
 obtain ⟨W8,r8,m8,b8⟩:=fx _ w.heap.size 7 _ ([62,61],26) rfl m7 (by decide)
 have u1:(Instr.mapUpdate 63 (.map (some w.heap.size)) (.string {data:=#[61,61]}) (.int .i64 19)).run Tryz.prog (w.alloc (.map #[] 0))=.ok () W1:=r1
 have u2:(Instr.mapUpdate 63 (.map (some w.heap.size)) (.string {data:=#[33,61]}) (.int .i64 20)).run Tryz.prog (W1)=.ok () W2:=r2
 have u3:(Instr.mapUpdate 63 (.map (some w.heap.size)) (.string {data:=#[61,61,61]}) (.int .i64 21)).run Tryz.prog (W2)=.ok () W3:=r3
 have u4:(Instr.mapUpdate 63 (.map (some w.heap.size)) (.string {data:=#[33,61,61]}) (.int .i64 22)).run Tryz.prog (W3)=.ok () W4:=r4
 have u5:(Instr.mapUpdate 63 (.map (some w.heap.size)) (.string {data:=#[60]}) (.int .i64 23)).run Tryz.prog (W4)=.ok () W5:=r5
 have u6:(Instr.mapUpdate 63 (.map (some w.heap.size)) (.string {data:=#[60,61]}) (.int .i64 24)).run Tryz.prog (W5)=.ok () W6:=r6
 have u7:(Instr.mapUpdate 63 (.map (some w.heap.size)) (.string {data:=#[62]}) (.int .i64 25)).run Tryz.prog (W6)=.ok () W7:=r7
 have u8:(Instr.mapUpdate 63 (.map (some w.heap.size)) (.string {data:=#[62,61]}) (.int .i64 26)).run Tryz.prog (W7)=.ok () W8:=r8
 have hb:Below w.heap.size w W8:=(((((((((Below.refl w.heap.size w).alloc (Nat.le_refl _) _).trans (b1 _ (Nat.le_refl _))).trans (b2 _ (Nat.le_refl _))).trans (b3 _ (Nat.le_refl _))).trans (b4 _ (Nat.le_refl _))).trans (b5 _ (Nat.le_refl _))).trans (b6 _ (Nat.le_refl _))).trans (b7 _ (Nat.le_refl _))).trans (b8 _ (Nat.le_refl _))
 have HM:=aa (f_ (n:=8) rfl m8)
 clear m0 m1 b1 r1 m2 b2 r2 m3 b3 r3 m4 b4 r4 m5 b5 r5 m6 b6 r6 m7 b7 r7 m8 b8 r8
 go_enter Tryz.func103,Tryz.ntmps103
 go_wp2
 go_ret
 exact ⟨rfl,HM.out,hb⟩
theorem qN (w:World):Calls Tryz.prog 108 #[] w fun e w'=>e=.returned (.map (some w.heap.size))∧iU w' w.heap.size eB∧Below w.heap.size w w':=by
 have hmm:=@run_makeMap Tryz.prog
 have m0:(w.alloc (.map #[] 0)).heap[w.heap.size]? =some (.map (kH [] 0).toArray 0):=heap_alloc_new w _
 obtain ⟨W1,r1,m1,b1⟩:=fx _ w.heap.size 0 _ ([97,110,100,114],14) rfl m0 (by decide)
 obtain ⟨W2,r2,m2,b2⟩:=fx _ w.heap.size 1 _ ([111,114,114],15) rfl m1 (by decide)
 obtain ⟨W3,r3,m3,b3⟩:=fx _ w.heap.size 2 _ ([120,111,114,114],16) rfl m2 (by decide)
 obtain ⟨W4,r4,m4,b4⟩:=fx _ w.heap.size 3 _ ([107,110,111,119,110],27) rfl m3 (by decide)
 have u1:(Instr.mapUpdate 63 (.map (some w.heap.size)) (.string {data:=#[97,110,100,114]}) (.int .i64 14)).run Tryz.prog (w.alloc (.map #[] 0))=.ok () W1:=r1
 have u2:(Instr.mapUpdate 63 (.map (some w.heap.size)) (.string {data:=#[111,114,114]}) (.int .i64 15)).run Tryz.prog (W1)=.ok () W2:=r2
 have u3:(Instr.mapUpdate 63 (.map (some w.heap.size)) (.string {data:=#[120,111,114,114]}) (.int .i64 16)).run Tryz.prog (W2)=.ok () W3:=r3
 have u4:(Instr.mapUpdate 63 (.map (some w.heap.size)) (.string {data:=#[107,110,111,119,110]}) (.int .i64 27)).run Tryz.prog (W3)=.ok () W4:=r4
 have hb:Below w.heap.size w W4:=(((((Below.refl w.heap.size w).alloc (Nat.le_refl _) _).trans (b1 _ (Nat.le_refl _))).trans (b2 _ (Nat.le_refl _))).trans (b3 _ (Nat.le_refl _))).trans (b4 _ (Nat.le_refl _))
 have HM:=aa (f_ (n:=4) rfl m4)
 clear m0 m1 b1 r1 m2 b2 r2 m3 b3 r3 m4 b4 r4
 go_enter Tryz.func108,Tryz.ntmps108
 go_wp2
 go_ret
 exact ⟨rfl,HM.out,hb⟩
theorem xo (w:World):Calls Tryz.prog 110 #[] w fun e w'=>e=.returned (.map (some w.heap.size))∧iU w' w.heap.size cY∧Below w.heap.size w w':=by
 have hmm:=@run_makeMap Tryz.prog
 have m0:(w.alloc (.map #[] 0)).heap[w.heap.size]? =some (.map (kH [] 0).toArray 0):=heap_alloc_new w _
 obtain ⟨W1,r1,m1,b1⟩:=fx _ w.heap.size 0 _ ([111,110,99,101],31) rfl m0 (by decide)
 obtain ⟨W2,r2,m2,b2⟩:=fx _ w.heap.size 1 _ ([104,105,115,116,111,114,105,99,97,108,108,121],32) rfl m1 (by decide)
 obtain ⟨W3,r3,m3,b3⟩:=fx _ w.heap.size 2 _ ([101,118,101,110,116,117,97,108,108,121],33) rfl m2 (by decide)
 obtain ⟨W4,r4,m4,b4⟩:=fx _ w.heap.size 3 _ ([97,108,119,97,121,115],34) rfl m3 (by decide)
 obtain ⟨W5,r5,m5,b5⟩:=fx _ w.heap.size 4 _ ([115,105,110,99,101],35) rfl m4 (by decide)
 obtain ⟨W6,r6,m6,b6⟩:=fx _ w.heap.size 5 _ ([117,110,116,105,108],36) rfl m5 (by decide)
 have u1:(Instr.mapUpdate 63 (.map (some w.heap.size)) (.string {data:=#[111,110,99,101]}) (.int .i64 31)).run Tryz.prog (w.alloc (.map #[] 0))=.ok () W1:=r1
 have u2:(Instr.mapUpdate 63 (.map (some w.heap.size)) (.string {data:=#[104,105,115,116,111,114,105,99,97,108,108,121]}) (.int .i64 32)).run Tryz.prog (W1)=.ok () W2:=r2
 have u3:(Instr.mapUpdate 63 (.map (some w.heap.size)) (.string {data:=#[101,118,101,110,116,117,97,108,108,121]}) (.int .i64 33)).run Tryz.prog (W2)=.ok () W3:=r3
 have u4:(Instr.mapUpdate 63 (.map (some w.heap.size)) (.string {data:=#[97,108,119,97,121,115]}) (.int .i64 34)).run Tryz.prog (W3)=.ok () W4:=r4
 have u5:(Instr.mapUpdate 63 (.map (some w.heap.size)) (.string {data:=#[115,105,110,99,101]}) (.int .i64 35)).run Tryz.prog (W4)=.ok () W5:=r5
 have u6:(Instr.mapUpdate 63 (.map (some w.heap.size)) (.string {data:=#[117,110,116,105,108]}) (.int .i64 36)).run Tryz.prog (W5)=.ok () W6:=r6
 have hb:Below w.heap.size w W6:=(((((((Below.refl w.heap.size w).alloc (Nat.le_refl _) _).trans (b1 _ (Nat.le_refl _))).trans (b2 _ (Nat.le_refl _))).trans (b3 _ (Nat.le_refl _))).trans (b4 _ (Nat.le_refl _))).trans (b5 _ (Nat.le_refl _))).trans (b6 _ (Nat.le_refl _))
 have HM:=aa (f_ (n:=6) rfl m6)
 clear m0 m1 b1 r1 m2 b2 r2 m3 b3 r3 m4 b4 r4 m5 b5 r5 m6 b6 r6
 go_enter Tryz.func110,Tryz.ntmps110
 go_wp2
 go_ret
 exact ⟨rfl,HM.out,hb⟩
theorem fG (w:World):Calls Tryz.prog 71 #[] w fun e w'=>e=.returned (.map (some w.heap.size))∧iU w' w.heap.size b_∧Below w.heap.size w w':=by
 have hmm:=@run_makeMap Tryz.prog
 have m0:(w.alloc (.map #[] 0)).heap[w.heap.size]? =some (.map (kH [] 0).toArray 0):=heap_alloc_new w _
 obtain ⟨W1,r1,m1,b1⟩:=fx _ w.heap.size 0 _ ([114,105,115,101],37) rfl m0 (by decide)
 obtain ⟨W2,r2,m2,b2⟩:=fx _ w.heap.size 1 _ ([102,97,108,108],38) rfl m1 (by decide)
 obtain ⟨W3,r3,m3,b3⟩:=fx _ w.heap.size 2 _ ([112,111,115,101,100,103,101],39) rfl m2 (by decide)
 obtain ⟨W4,r4,m4,b4⟩:=fx _ w.heap.size 3 _ ([110,101,103,101,100,103,101],40) rfl m3 (by decide)
 obtain ⟨W5,r5,m5,b5⟩:=fx _ w.heap.size 4 _ ([99,104,97,110,103,101],41) rfl m4 (by decide)
 obtain ⟨W6,r6,m6,b6⟩:=fx _ w.heap.size 5 _ ([98,101,99,111,109,101,115],43) rfl m5 (by decide)
 have u1:(Instr.mapUpdate 63 (.map (some w.heap.size)) (.string {data:=#[114,105,115,101]}) (.int .i64 37)).run Tryz.prog (w.alloc (.map #[] 0))=.ok () W1:=r1
 have u2:(Instr.mapUpdate 63 (.map (some w.heap.size)) (.string {data:=#[102,97,108,108]}) (.int .i64 38)).run Tryz.prog (W1)=.ok () W2:=r2
 have u3:(Instr.mapUpdate 63 (.map (some w.heap.size)) (.string {data:=#[112,111,115,101,100,103,101]}) (.int .i64 39)).run Tryz.prog (W2)=.ok () W3:=r3
 have u4:(Instr.mapUpdate 63 (.map (some w.heap.size)) (.string {data:=#[110,101,103,101,100,103,101]}) (.int .i64 40)).run Tryz.prog (W3)=.ok () W4:=r4
 have u5:(Instr.mapUpdate 63 (.map (some w.heap.size)) (.string {data:=#[99,104,97,110,103,101]}) (.int .i64 41)).run Tryz.prog (W4)=.ok () W5:=r5
 have u6:(Instr.mapUpdate 63 (.map (some w.heap.size)) (.string {data:=#[98,101,99,111,109,101,115]}) (.int .i64 43)).run Tryz.prog (W5)=.ok () W6:=r6
 have hb:Below w.heap.size w W6:=(((((((Below.refl w.heap.size w).alloc (Nat.le_refl _) _).trans (b1 _ (Nat.le_refl _))).trans (b2 _ (Nat.le_refl _))).trans (b3 _ (Nat.le_refl _))).trans (b4 _ (Nat.le_refl _))).trans (b5 _ (Nat.le_refl _))).trans (b6 _ (Nat.le_refl _))
 have HM:=aa (f_ (n:=6) rfl m6)
 clear m0 m1 b1 r1 m2 b2 r2 m3 b3 r3 m4 b4 r4 m5 b5 r5 m6 b6 r6
 go_enter Tryz.func71,Tryz.ntmps71
 go_wp2
 go_ret
 exact ⟨rfl,HM.out,hb⟩
theorem zh (p:PS) (F:Nat) (ng cmp:Nat→PR Nd) (hn:bQ p 50 ng F) (hc:bQ p 77 cmp (F+1)):bQ p 50 (ui p.L p.en ng cmp) (F+1):=by
 intro k w hF h
 have aN:p.b<w.heap.size:=h.row.lt
 have hb0:Below w.heap.size w (w.alloc (.cells bJ 25)):=(Below.refl _ _).alloc (Nat.le_refl _) _
 have fO:Row (w.alloc (.cells bJ 25)) w.heap.size 25 bJ:=Row.new _ _ _
 have PL:=aa (dZ p k _ (h.below hb0))
 have AC:=aa (fun (W:World) (h:bc p W k)=>cR p k [33] W h)
 have HN:=aa (fun (W:World) (h:bc p W (k+1))=>hn (k+1) W (by omega) h)
 have HC:=aa (fun (W:World) (h:bc p W k)=>hc k W hF h)
 have H:=aa h
 have ke:=aa hb0
 have lN:=aa fO
 unfold ui
 have XS:rK=[33]:=rfl
 rw [XS]
 generalize dy p.L p.en k=pl at*
 clear hn hc h hb0 fO
 cases hI:bH p.L k [33] with
 |true=>
  rw [hI] at AC
  rw [if_pos rfl]
  clear HC
  cases hx:ng (k+1) with
  |err a er=>
   rw [hx] at HN
   show Calls _ _ _ _ (bO p w (nh w.heap.size) (.err a er))
   clear hx hI
   go_enter Tryz.func50,Tryz.ntmps50
   go_wp2_with fail
   refine PL.out.mono ?_
   rintro e w1 ⟨rfl,hb1⟩
   have hr1:Row w1 w.heap.size 25 bJ:=lN.out.below hb1 lN.out.lt
   have hb2:Below w.heap.size w w1:=ke.out.trans (hb1.mono ke.out.size)
   have vt:=aa (AC.out w1 (H.out.below hb2))
   have gJ:=aa hr1
   have fu:=aa hb2
   clear hb1 hb2 hr1
   go_wp2_with fail
   refine vt.out.mono ?_
   rintro e w2 ⟨rfl,h2,hk2⟩
   have hr2:Row w2 w.heap.size 25 bJ:=gJ.out.keep hk2 (by show¬w.heap.size=p.b;omega)
   have nz:=aa hr2
   have Ac:=aa ((af.of_below (C:=fun c=>c=p.b) fu.out (Nat.le_refl _)).trans hk2)
   have hz2:w.heap.size<w2.heap.size:=hr2.lt
   have X:=aa (HN.out w2 h2)
   clear h2 hk2 hr2
   go_wp2_with fail
   refine X.out.mono ?_
   rintro e w3 ⟨rfl,hk3⟩
   go_wp2
   exact ⟨rfl,rfl,Ac.out.trans hk3⟩
  |ok x k'=>
   rw [hx] at HN
   show Calls _ _ _ _ (bO p w (nh w.heap.size) (.ok (.mk 28 pl [] [] 0 0 0 0 [x]) k'))
   clear hx hI
   go_enter Tryz.func50,Tryz.ntmps50
   go_wp2_with fail
   refine PL.out.mono ?_
   rintro e w1 ⟨rfl,hb1⟩
   have hr1:Row w1 w.heap.size 25 bJ:=lN.out.below hb1 lN.out.lt
   have hb2:Below w.heap.size w w1:=ke.out.trans (hb1.mono ke.out.size)
   have vt:=aa (AC.out w1 (H.out.below hb2))
   have gJ:=aa hr1
   have fu:=aa hb2
   clear hb1 hb2 hr1
   go_wp2_with fail
   refine vt.out.mono ?_
   rintro e w2 ⟨rfl,h2,hk2⟩
   have hr2:Row w2 w.heap.size 25 bJ:=gJ.out.keep hk2 (by show¬w.heap.size=p.b;omega)
   have nz:=aa hr2
   have Ac:=aa ((af.of_below (C:=fun c=>c=p.b) fu.out (Nat.le_refl _)).trans hk2)
   have hz2:w.heap.size<w2.heap.size:=hr2.lt
   have X:=aa (HN.out w2 h2)
   clear h2 hk2 hr2
   go_wp2_with fail
   refine X.out.mono ?_
   rintro e w3 ⟨⟨v,rfl,cs,rfl,aB⟩,h3,hk3⟩
   have hr3:Row w3 w.heap.size 25 bJ:=nz.out.keep hk3 (by show¬w.heap.size=p.b;omega)
   have gM:=Ac.out.trans hk3
   have hz3:=hk3.size
   have cN:=aa aB
   cases aB with
   |mk kd a0 nm vl xa xb xc xd ks A cap bF hl iG hr=>
    unfold aw
    have hr4:=hr3.alloc (.cells [aw kd a0 nm vl xa xb xc xd (.slice A ks.length cap)].flatten.toArray 25)
    have hb4:Below w3.heap.size w3 (w3.alloc (.cells [aw kd a0 nm vl xa xb xc xd (.slice A ks.length cap)].flatten.toArray 25)):=(Below.refl _ _).alloc (Nat.le_refl _) _
    generalize jA:w3.alloc (.cells [aw kd a0 nm vl xa xb xc xd (.slice A ks.length cap)].flatten.toArray 25)=W4 at hr4 hb4
    have lB:w3.alloc (.cells #[.int .i64 kd,.int .i64 a0,.string (ae nm),.string (ae vl),.int .i64 xa,.int .i64 xb,.int .i64 xc,.int .i64 xd,.slice A ks.length cap] 25)=W4:=jA
    have NK:=aa (zg cN.out hz2 hz3 jA.symm 28 pl 0 0 0 0 [] [] 1)
    obtain ⟨e0,e1,e2,e3,e4,e5,e6,e7,e8⟩:=aj hr4
    obtain ⟨Gr,Gs,EO,Gt,Gu,Gv,Gw,Gx,Gy⟩:=aA hr4
    clear hl iG hr jA hr3
    go_wp2_with fail
    refine bodyPost_ret (v:=.agg #[.int .i64 28,.int .i64 pl,.string {data:=#[]},.string {data:=#[]},.int .i64 0,.int .i64 0,.int .i64 0,.int .i64 0,.slice (some ⟨w3.heap.size,0,none⟩) 1 1]) (ag rfl _ _ w.heap.size 25 _ _ _ rfl (av hr4 _ _ _ _ _ _ _ _ _) Tryz.underlying25 rfl (by kernel_rfl)) rfl ?_
    have hbl:=ak (W:=W4) (Nat.le_refl w.heap.size) (.int .i64 28) (.int .i64 pl) (.string {data:=#[]}) (.string {data:=#[]}) (.int .i64 0) (.int .i64 0) (.int .i64 0) (.int .i64 0) (.slice (some ⟨w3.heap.size,0,none⟩) 1 1)
    exact ⟨⟨_,rfl,NK.out⟩,H.out.above (h3.below hb4) hbl,(gM.trans (af.of_below hb4 (Nat.le_refl _))).over hbl⟩
 |false=>
  rw [hI] at AC
  rw [if_neg (by decide)]
  clear HN
  cases hx:cmp k with
  |err a er=>
   rw [hx] at HC
   clear hx hI
   go_enter Tryz.func50,Tryz.ntmps50
   go_wp2_with fail
   refine PL.out.mono ?_
   rintro e w1 ⟨rfl,hb1⟩
   have hr1:Row w1 w.heap.size 25 bJ:=lN.out.below hb1 lN.out.lt
   have hb2:Below w.heap.size w w1:=ke.out.trans (hb1.mono ke.out.size)
   have vt:=aa (AC.out w1 (H.out.below hb2))
   have gJ:=aa hr1
   have fu:=aa hb2
   clear hb1 hb2 hr1
   go_wp2_with fail
   refine vt.out.mono ?_
   rintro e w2 ⟨rfl,h2,hk2⟩
   have hr2:Row w2 w.heap.size 25 bJ:=gJ.out.keep hk2 (by show¬w.heap.size=p.b;omega)
   have nz:=aa hr2
   have Ac:=aa ((af.of_below (C:=fun c=>c=p.b) fu.out (Nat.le_refl _)).trans hk2)
   have hz2:w.heap.size<w2.heap.size:=hr2.lt
   have X:=aa (HC.out w2 h2)
   clear h2 hk2 hr2
   go_wp2_with fail
   refine X.out.mono ?_
   rintro e w3 ⟨rfl,hk3⟩
   go_wp2
   exact ⟨rfl,rfl,Ac.out.trans hk3⟩
  |ok x k'=>
   rw [hx] at HC
   clear hx hI
   go_enter Tryz.func50,Tryz.ntmps50
   go_wp2_with fail
   refine PL.out.mono ?_
   rintro e w1 ⟨rfl,hb1⟩
   have hr1:Row w1 w.heap.size 25 bJ:=lN.out.below hb1 lN.out.lt
   have hb2:Below w.heap.size w w1:=ke.out.trans (hb1.mono ke.out.size)
   have vt:=aa (AC.out w1 (H.out.below hb2))
   have gJ:=aa hr1
   have fu:=aa hb2
   clear hb1 hb2 hr1
   go_wp2_with fail
   refine vt.out.mono ?_
   rintro e w2 ⟨rfl,h2,hk2⟩
   have hr2:Row w2 w.heap.size 25 bJ:=gJ.out.keep hk2 (by show¬w.heap.size=p.b;omega)
   have nz:=aa hr2
   have Ac:=aa ((af.of_below (C:=fun c=>c=p.b) fu.out (Nat.le_refl _)).trans hk2)
   have hz2:w.heap.size<w2.heap.size:=hr2.lt
   have X:=aa (HC.out w2 h2)
   clear h2 hk2 hr2
   go_wp2_with fail
   refine X.out.mono ?_
   rintro e w3 ⟨⟨v,rfl,cs,rfl,aB⟩,h3,hk3⟩
   have hr3:Row w3 w.heap.size 25 bJ:=nz.out.keep hk3 (by show¬w.heap.size=p.b;omega)
   have gM:=Ac.out.trans hk3
   have hz3:=hk3.size
   have cN:=aa aB
   cases aB with
   |mk kd a0 nm vl xa xb xc xd ks A cap bF hl iG hr=>
    unfold aw
    obtain ⟨e0,e1,e2,e3,e4,e5,e6,e7,e8⟩:=aj hr3
    obtain ⟨Gr,Gs,EO,Gt,Gu,Gv,Gw,Gx,Gy⟩:=aA hr3
    clear hl iG hr
    go_wp2_with fail
    refine bodyPost_ret (v:=.agg #[.int .i64 kd,.int .i64 a0,.string (ae nm),.string (ae vl),.int .i64 xa,.int .i64 xb,.int .i64 xc,.int .i64 xd,.slice A ks.length cap]) (ag rfl _ _ w.heap.size 25 _ _ _ rfl (av hr3 _ _ _ _ _ _ _ _ _) Tryz.underlying25 rfl (by kernel_rfl)) rfl ?_
    have hbl:=ak (W:=w3) (Nat.le_refl w.heap.size) (.int .i64 kd) (.int .i64 a0) (.string (ae nm)) (.string (ae vl)) (.int .i64 xa) (.int .i64 xb) (.int .i64 xc) (.int .i64 xd) (.slice A ks.length cap)
    exact ⟨⟨_,rfl,gg cN.out hz2⟩,H.out.above h3 hbl,gM.over hbl⟩
structure dF (W:World) (B b:Nat) (v:Value) (st:St) (bad:Bool):Prop where
 ge:B≤b
 row:∃p,(p=.pointer none∨p=.pointer (some ⟨b,0,none⟩))∧Row W b 79 #[p,v,.bool st.2,.bool bad]
 own:W.ownsRow B 5 1 v st.1.length (Lib.byteCells st.1)
structure aI (B b:Nat) (W W':World):Prop where
 below:Below B W W'
 size:W.heap.size≤W'.heap.size
 rows:∀g t cs,t≠5→g≠b→Row W g t cs→Row W' g t cs
theorem aI.refl (B b:Nat) (W:World):aI B b W W:=⟨Below.refl _ _,Nat.le_refl _,fun _ _ _ _ _ h=>h⟩
theorem aI.trans {B b:Nat} {W W1 W2:World} (h:aI B b W W1) (k:aI B b W1 W2):aI B b W W2:=
 ⟨h.below.trans k.below,Nat.le_trans h.size k.size,fun g t cs ht hg hr=>k.rows g t cs ht hg (h.rows g t cs ht hg hr)⟩
theorem aI.of_below {B b:Nat} {W W':World} (h:Below W.heap.size W W') (hB:B≤W.heap.size):aI B b W W':=
 ⟨h.mono hB,h.size,fun g t cs _ _ hr=>hr.below h hr.lt⟩
theorem aI.drew {B b:Nat} {W W':World} (h:aI B b W W'):aI B b W W'.drew:=⟨h.below.drew,h.size,h.rows⟩
theorem aI.alloc {B b:Nat} {W W':World} (h:aI B b W W') (hB:B≤W'.heap.size) (o:Obj):aI B b W (W'.alloc o):=h.trans (aI.of_below ((Below.refl _ _).alloc (Nat.le_refl _) o) hB)
theorem aI.set {B b:Nat} {W W':World} (h:aI B b W W') (hB:B≤b) (o:Nat) (u:Value):aI B b W (W'.setCell ⟨b,o,none⟩ u):=
 ⟨h.below.setCell (p:=⟨b,o,none⟩) hB u,by simpa [World.setCell] using h.size,fun g t cs ht hg hr=>(h.rows g t cs ht hg hr).off hg o u⟩
theorem dF.lt {W:World} {B b:Nat} {v:Value} {st:St} {bad:Bool} (h:dF W B b v st bad):b<W.heap.size:=by
 obtain ⟨p,_,hr⟩:=h.row;exact hr.lt
theorem dF.ZH {W:World} {B b:Nat} {v:Value} {st:St} {bad:Bool} (h:dF W B b v st bad):B≤W.heap.size:=Nat.le_trans h.ge (Nat.le_of_lt h.lt)
theorem iW {W:World} {B:Nat} {v:Value} {n:Nat} {xs:List Value} (h:W.ownsRow B 5 1 v n xs) {g:Nat} {t:TypeId} {cs:Array Value} (hr:Row W g t cs) (ht:t≠5):v.ownBlock≠some g:=Lib.ownBlock_ne h hr ht
theorem dF.keep {W W':World} {B b:Nat} {v:Value} {st:St} {bad:Bool} (h:dF W B b v st bad) (hb:Below W.heap.size W W'):dF W' B b v st bad:=by
 obtain ⟨p,hp,hr⟩:=h.row
 exact ⟨h.ge,⟨p,hp,hr.below hb hr.lt⟩,ft h.own hb⟩
theorem dF.alloc {W:World} {B b:Nat} {v:Value} {st:St} {bad:Bool} (h:dF W B b v st bad) (o:Obj):dF (W.alloc o) B b v st bad:=h.keep ((Below.refl _ W).alloc (Nat.le_refl _) o)
theorem dF.drew {W:World} {B b:Nat} {v:Value} {st:St} {bad:Bool} (h:dF W B b v st bad):dF W.drew B b v st bad:=h.keep (Below.refl _ W).drew
theorem ni {W:World} {B b:Nat} {v:Value} {n:Nat} {xs:List Value} (h:W.ownsRow B 5 1 v n xs) (hb:v.ownBlock≠some b) (o:Nat) (u:Value):(W.setCell ⟨b,o,none⟩ u).ownsRow B 5 1 v n xs:=
 World.ownsRow.kept (row:=some b) h ⟨rfl,rfl,rfl,by simp [World.setCell],fun k _ hk=>Below.heap_setCell _ _ _ _ (fun e=>hk (by simp [e]))⟩ (Or.inr hb)
theorem ox:(79:TypeId)≠5:=by decide
theorem dF.zi {W:World} {B b:Nat} {v:Value} {st:St} {bad:Bool} (h:dF W B b v st bad) (x:Bool):dF (W.setCell ⟨b,2,none⟩ (.bool x)) B b v (st.1,x) bad:=by
 obtain ⟨p,hp,hr⟩:=h.row
 exact ⟨h.ge,⟨p,hp,hr.bg 2 _⟩,ni h.own (iW h.own hr ox) _ _⟩
theorem dF.ux {W:World} {B b:Nat} {v:Value} {st:St} {bad:Bool} (h:dF W B b v st bad) (x:Bool):dF (W.setCell ⟨b,3,none⟩ (.bool x)) B b v st x:=by
 obtain ⟨p,hp,hr⟩:=h.row
 exact ⟨h.ge,⟨p,hp,hr.bg 3 _⟩,ni h.own (iW h.own hr ox) _ _⟩
theorem dF.cells {W:World} {B b:Nat} {v:Value} {st:St} {bad:Bool} (h:dF W B b v st bad):(W.cell? ⟨b,1,none⟩=some v∧W.cell? ⟨b,2,none⟩=some (.bool st.2)∧W.cell? ⟨b,3,none⟩=some (.bool bad))∧W.frozen? ⟨b,1,none⟩=false∧W.frozen? ⟨b,2,none⟩=false∧W.frozen? ⟨b,3,none⟩=false:=by
 obtain ⟨p,_,hr⟩:=h.row
 exact ⟨⟨hr.cell 1,hr.cell 2,hr.cell 3⟩,hr.frozen 1,hr.frozen 2,hr.frozen 3⟩
theorem dF.shape {W:World} {B b:Nat} {v:Value} {st:St} {bad:Bool} (h:dF W B b v st bad):W.shape? b=some (79,4):=by
 obtain ⟨p,_,hr⟩:=h.row
 simp [World.shape?,show W.heap[b]? =_ from hr]
theorem BM:(Tryz.prog.info? 77).map (·.size)=some 2:=by kernel_rfl
theorem liesBuilder:liesAt Tryz.prog Tryz.prog.depth 79 (4 / Tryz.prog.cellsOf 79) 0 77 1=true:=by kernel_rfl
theorem pK (b B:Nat) (v:Value) (st:St) (bad:Bool) (w:World) (h:dF w B b v st bad):
 Calls Tryz.prog 152 #[.pointer (some ⟨b,0,none⟩)] w fun e w'=>e=.returned (.tuple #[])∧Row w' b 79 #[.pointer (some ⟨b,0,none⟩),v,.bool st.2,.bool bad]∧w'.ownsRow B 5 1 v st.1.length (Lib.byteCells st.1)∧aI B b w w':=by
 obtain ⟨j,hj,hjs⟩:=Option.map_eq_some_iff.1 BM
 have QH:=h.shape
 have hge:=h.ge
 obtain ⟨p,hp,hr⟩:=h.row
 have HO:=aa (ni (h.own) (iW h.own hr ox) 0 (.pointer (some ⟨b,0,none⟩)))
 have HO':=aa h.own
 have HR:=aa (hr.bg 0 (.pointer (some ⟨b,0,none⟩)))
 have HR':=aa hr
 have HP:=aa ((aI.refl B b w).set hge 0 (.pointer (some ⟨b,0,none⟩)))
 have c0:w.cell? ⟨b,0,none⟩=some p:=hr.cell 0
 have f0:w.frozen? ⟨b,0,none⟩=false:=hr.frozen 0
 clear h hr
 rcases hp with rfl|rfl
 ·go_enter Tryz.func152,Tryz.ntmps152
  go_wp2
  rw [Lib.run_to_unsafe w ⟨b,0,none⟩ Tryz.underlying74 Tryz.underlying177 hj (by rw [hjs];decide) QH (by show 0<4;decide)]
  simp only [Result.andThen]
  rw [Oper.upon_value]
  go_wp2
  rw [run_callFunc_extern Tryz.func186 (by kernel_rfl) (by kernel_rfl) (by kernel_rfl) (e:=Extern.AbiNoEscape.same) (by kernel_rfl)]
  rw [Lib.run_noEscape]
  simp only [Result.andThen]
  rw [Oper.upon_value]
  go_wp2
  rw [Lib.run_from_unsafe w ⟨b,0,none⟩ Tryz.underlying177 Tryz.underlying74 hj QH liesBuilder]
  simp only [Result.andThen]
  rw [Oper.upon_value]
  go_wp2
  go_end0
  exact ⟨rfl,HR.out,HO.out,HP.out⟩
 ·go_enter Tryz.func152,Tryz.ntmps152
  go_wp2
  rw [Lib.run_neq_ptr_same w _ Tryz.underlying74 hj]
  go_wp2
  go_end0
  exact ⟨rfl,HR'.out,HO'.out,aI.refl _ _ _⟩
theorem uy {B b:Nat} {w w1 w2:World} {v:Value} {n:Nat} {xs:List Value} (h:aI B b w w1) (ho:w1.ownsRow B 5 1 v n xs) (hg:w1.grownBy w2 v.ownBlock) (hB:B≤w1.heap.size):aI B b w w2:=
 ⟨h.below.grown hg hB (fun k hk=>(ho.lt k hk).1),Nat.le_trans h.size hg.size,fun g t cs ht hgb hr=>(h.rows g t cs ht hgb hr).grown hg (fun e=>iW ho (h.rows g t cs ht hgb hr) ht e.symm)⟩
theorem zj (b B:Nat) (v:Value) (st:St) (bad:Bool) (c:UInt8) (w:World) (h:dF w B b v st bad) (hlen:st.1.length+1≤140737488355328):
 Calls Tryz.prog 114 #[.pointer (some ⟨b,0,none⟩),.int .u8 (c.toNat:Int)] w fun e w'=>e=.returned .nilIface∧∃v',dF w' B b v' (st.1++[c],st.2) bad∧aI B b w w':=by
 obtain ⟨i0,hi,hz0,hz1,hz2⟩:=info_parts yF
 have CC:=aa (pK b B v st bad w h)
 have hge:=h.ge
 have XT:=h.ZH
 clear h
 go_enter Tryz.func114,Tryz.ntmps114
 go_wp2_with fail
 refine CC.out.mono ?_
 rintro e w1 ⟨rfl,hr,hown,Mg⟩
 have c1:w1.cell? ⟨b,1,none⟩=some v:=hr.cell 1
 have HP1:=aa Mg
 have gJ:=aa hr
 have hlt:=hr.lt
 have Sq:B≤w1.heap.size:=by omega
 clear Mg hr CC
 go_wp2_with (at_builtin;refine wpList_append_own _ rfl _ _ 75 rfl B 5 i0 (.int .u8 0) 1 1 Tryz.underlying75 hi hz0 hz1 hz2 rfl (by decide) _ _ _ rfl (hown.alloc _) ⟨w1.heap.size,0,none⟩ 1 1 [.int .u8 (c.toNat:Int)] rfl rfl ?c1 ?c2 ?c3 ?c4 ?c5 ?_)
 case c1=>
  intro j u hj
  match j,hj with
  |0,hj=>simp at hj;subst hj;simp [Addr.add]
 case c2=>intro u hu;simp at hu;subst hu;rfl
 case c3=>unfold maxLen;omega
 case c4=>omega
 case c5=>simp;omega
 intro v' w2 hown' hgrow _
 have hr2:Row w2 b 79 #[.pointer (some ⟨b,0,none⟩),v,.bool st.2,.bool bad]:=(gJ.out.alloc _).grown hgrow (fun e=>iW hown gJ.out ox e.symm)
 have d1:w2.cell? ⟨b,1,none⟩=some v:=hr2.cell 1
 have f1:w2.frozen? ⟨b,1,none⟩=false:=hr2.frozen 1
 have hne:=iW hown' hr2 ox
 have Gz:=aa (show dF (w2.setCell ⟨b,1,none⟩ v') B b v' (st.1++[c],st.2) bad from ⟨hge,⟨_,.inr rfl,hr2.bg 1 v'⟩,ni (by rw [Lib.byteCells_append,List.length_append];exact hown') hne 1 v'⟩)
 have N0:=aa ((uy (HP1.out.alloc Sq _) (hown.alloc _) hgrow (by simp;omega)).set hge 1 v')
 obtain ⟨g,cap,rfl⟩:∃g cap,v'=.slice (some ⟨g,0,none⟩) (st.1.length+1) cap:=by
  rcases hown'.2 with ⟨_,h0⟩|⟨g,cap,cur,hv,_⟩
  ·omega
  ·exact ⟨g,cap,hv⟩
 clear hown hown' hgrow hr2 hne c1
 go_wp2
 go_ret
 exact ⟨rfl,_,Gz.out,N0.out⟩
theorem uz (b B:Nat) (v:Value) (st:St) (bad:Bool) (s:List UInt8) (w:World) (h:dF w B b v st bad) (hlen:st.1.length+s.length≤140737488355328):
 Calls Tryz.prog 115 #[.pointer (some ⟨b,0,none⟩),.string (ae s)] w fun e w'=>e=.returned (.tuple #[.int .i64 (s.length:Int),.nilIface])∧∃v',dF w' B b v' (st.1++s,st.2) bad∧aI B b w w':=by
 obtain ⟨i0,hi,hz0,hz1,hz2⟩:=info_parts yF
 have CC:=aa (pK b B v st bad w h)
 have hge:=h.ge
 have XT:=h.ZH
 have hsz:=aD s
 have HSZ:=aa hsz
 have HSC:=aa (show Lib.strCells (ae s)=Lib.byteCells s from by rw [Lib.strCells_eq];rfl)
 clear h
 generalize ae s=S at*
 have hss:st.1.length+S.size≤140737488355328:=by omega
 clear hsz
 go_enter Tryz.func115,Tryz.ntmps115
 go_wp2_with fail
 refine CC.out.mono ?_
 rintro e w1 ⟨rfl,hr,hown,Mg⟩
 have c1:w1.cell? ⟨b,1,none⟩=some v:=hr.cell 1
 have HP1:=aa Mg
 have gJ:=aa hr
 have hlt:=hr.lt
 have Sq:B≤w1.heap.size:=by omega
 clear Mg hr CC
 go_wp2_with (at_builtin;refine Lib.wpList_append_own_string _ rfl _ _ 75 9 rfl B 5 i0 Tryz.underlying75 Tryz.underlying9 hi hz0 hz1 hz2 _ _ _ rfl hown S rfl ?c3 ?c4 ?c5 ?_)
 case c3=>unfold maxLen;omega
 case c4=>exact hss
 case c5=>omega
 intro v' w2 hown' hgrow _
 have hr2:Row w2 b 79 #[.pointer (some ⟨b,0,none⟩),v,.bool st.2,.bool bad]:=gJ.out.grown hgrow (fun e=>iW hown gJ.out ox e.symm)
 have d1:w2.cell? ⟨b,1,none⟩=some v:=hr2.cell 1
 have f1:w2.frozen? ⟨b,1,none⟩=false:=hr2.frozen 1
 have hne:=iW hown' hr2 ox
 have Gz:=aa (show dF (w2.setCell ⟨b,1,none⟩ v') B b v' (st.1++s,st.2) bad from ⟨hge,⟨_,.inr rfl,hr2.bg 1 v'⟩,ni (by rw [Lib.byteCells_append,List.length_append,←HSC.out,←HSZ.out];exact hown') hne 1 v'⟩)
 have N0:=aa ((uy HP1.out hown hgrow Sq).set hge 1 v')
 obtain ⟨ao,n',cap,rfl⟩:∃ao n' cap,v'=.slice ao n' cap:=by
  rcases hown'.2 with ⟨hv,_⟩|⟨g,cap,cur,hv,_⟩
  ·exact ⟨_,_,_,hv⟩
  ·exact ⟨_,_,_,hv⟩
 clear hown hown' hgrow hr2 hne c1
 go_wp2
 go_ret2
 exact ⟨by rw [←HSZ.out];rfl,_,Gz.out,N0.out⟩
def PnE (B b:Nat) (W:World) (st:St) (bad:Bool) (e:Ending) (w':World):Prop:=e=.returned (.tuple #[])∧(∃v',dF w' B b v' st bad)∧aI B b W w'
theorem Pe (st:St) (s:List UInt8):(dD st s).1.length≤st.1.length+s.length+1:=by
 unfold dD
 by_cases h:s=[]
 ·rw [if_pos h];omega
 ·rw [if_neg h]
  show ((if st.2&&decide (s.head? ≠some 32) then st.1++[32] else st.1)++s).length≤_
  split<;>simp<;>omega
def lR:List (List UInt8)→Nat
 |[]=>0
 |s::r=>s.length+1+lR r
theorem I7 (st:St) (l:List (List UInt8)) (s:List UInt8):gN st (l++[s])=dD (gN st l) s:=by
 unfold gN;rw [List.foldl_append];rfl
theorem uA:∀(l:List (List UInt8)) (st:St),(gN st l).1.length≤st.1.length+lR l
 |[],st=>Nat.le_refl _
 |s::r,st=>by
  have h1:=Pe st s
  have h2:=uA r (dD st s)
  show (gN (dD st s) r).1.length≤_
  rw [lR];omega
theorem xp:∀(l:List (List UInt8)) (k:Nat) (h:k<l.length),lR (l.take k)+l[k].length+1≤lR l
 |s::r,0,h=>by rw [List.take_zero,lR,lR,List.getElem_cons_zero];omega
 |s::r,k+1,h=>by
  rw [List.take_succ_cons,lR,lR,List.getElem_cons_succ]
  have:=xp r k (by simpa using h);omega
theorem I8 (b B:Nat) (v:Value) (st:St) (bad:Bool) (ws:List (List UInt8)) (g cap:Nat) (w:World) (h:dF w B b v st bad) (hr:Row w g 9 (ws.map fun s=>Value.string (ae s)).toArray) (hlen:st.1.length+lR ws≤1099511627776) (hn:ws.length≤1000):
 Calls Tryz.prog 73 #[.pointer (some ⟨b,0,none⟩),.slice (some ⟨g,0,none⟩) ws.length cap] w (PnE B b w (gN st ws) bad):=by
 have hgb:g≠b:=by
  obtain ⟨p,_,Pg⟩:=h.row
  exact hr.Y9 Pg (by decide)
 have XT:=h.ZH
 have hge:=h.ge
 have H0:=aa (show dF w B b v (gN st (ws.take 0)) bad from h)
 have HG:=aa (fun (W:World) (hp:aI B b w W) (k:Nat) (hk:k<ws.length)=>show W.cell? ⟨g,k,none⟩=some (.string (ae ws[k])) from by
  rw [(hp.rows g _ _ (by decide) hgb hr).cell k]
  simp [hk])
 have HT:=aa (fun (k:Nat) (hk:k<ws.length)=>show gN st (ws.take (k+1))=dD (gN st (ws.take k)) ws[k] from by
  rw [List.take_succ_eq_append_getElem hk,I7])
 have HL:=aa (fun (k:Nat) (hk:k<ws.length)=>show (gN st (ws.take k)).1.length+ws[k].length+1≤1099511627776 from by
  have h1:=uA (ws.take k) st
  have h2:=xp ws k hk
  omega)
 have HE:=aa (show gN st (ws.take ws.length)=gN st ws from by rw [List.take_length])
 obtain ⟨n,hN⟩:∃n,ws.length=n:=⟨_,rfl⟩
 rw [hN] at HE hn⊢
 have HN:=aa hN
 clear h hr hlen hN hgb
 go_enter Tryz.func73,Tryz.ntmps73
 go_wp2_with fail
 go_loopw [8] (fun i wr=>∃(k:Nat) (v':Value),k≤n∧i=.int .i64 (k:Int)∧dF wr B b v' (gN st (ws.take k)) bad∧aI B b w wr) (fun i _=>n-(intOf i).toNat)
 case atStart=>exact ⟨0,v,Nat.zero_le _,rfl,H0.out,aI.refl _ _ _⟩
 case round=>
  obtain ⟨k,v',hk,rfl,Mh,Mg⟩:=hrel
  by_cases hlt:k<n
  ·have vU:k<ws.length:=by rw [HN.out];exact hlt
   have Ky:(k:Int)<(n:Int):=by omega
   have hk0:(0:Int)≤(k:Int):=by omega
   have hw1:IntKind.i64.wrap ((k:Int)+1)=(k:Int)+1:=IntWalk.i64_in _ (by omega)
   have cg:=HG.out wr Mg k vU
   have N1:=HT.out k vU
   have HLk:=HL.out k vU
   obtain ⟨⟨d1,d2,d3⟩,e1,e2,e3⟩:=Mh.cells
   have Gz:=aa Mh
   have N0:=aa Mg
   generalize ws[k]=s at*
   obtain ⟨st1,hst⟩:∃st1,gN st (ws.take k)=st1:=⟨_,rfl⟩
   rw [hst] at N1 HLk Gz d2
   obtain ⟨l,Vl⟩:=st1
   have d2':wr.cell? ⟨b,2,none⟩=some (.bool Vl):=d2
   have U2:l.length+s.length+1≤1099511627776:=HLk
   clear hst Mh Mg d1 d2 d3 HLk e1 e3
   cases s with
   |nil=>
    have Am:=aa (show gN st (ws.take (k+1))=(l,Vl) from N1)
    have hb0:ae ([]:List UInt8)=⟨#[]⟩:=rfl
    rw [hb0] at cg
    clear N1 hb0
    go_wp2
    go_roundw
    case rel=>exact ⟨k+1,v',by omega,by go_num,by rw [Am.out];exact Gz.out,N0.out⟩
    case measure=>simp [intOf];omega
   |cons c t=>
    have hne:¬(ae (c::t)).toList=[]:=by rw [Lib.toList_data,cy];simp
    have aaS:(ae (c::t)).toList.isEmpty=false:=by rw [Lib.toList_data,cy];rfl
    have hz:0<(ae (c::t)).size:=by rw [aD];simp
    have hc0:(ae (c::t))[0]'hz=c:=by rw [df];rfl
    have hls:(c::t).length=t.length+1:=rfl
    rw [hls] at U2
    have WS:=aa (fun (W:World) (v:Value) (st:St) (h:dF W B b v st bad) (hl:st.1.length+(t.length+1)≤140737488355328)=>uz b B v st bad (c::t) W h hl)
    have WB:=aa (fun (W:World) (v:Value) (st:St) (h:dF W B b v st bad) (hl:st.1.length+1≤140737488355328)=>show Calls Tryz.prog 114 #[.pointer (some ⟨b,0,none⟩),.int .u8 32] W fun e w'=>e=.returned .nilIface∧∃v',dF w' B b v' (st.1++[32],st.2) bad∧aI B b W w' from zj b B v st bad 32 W h hl)
    have hwr:dD (l,Vl) (c::t)=((if Vl&&decide (c≠32) then l++[32] else l)++(c::t),false):=by
     unfold dD
     rw [if_neg (by simp)]
     simp
    rw [hwr] at N1
    have Ph:=aa N1
    clear N1 hwr hls
    generalize ae (c::t)=S at*
    cases Vl with
    |false=>
     go_wp2_with fail
     refine (WS.out _ _ _ (Gz.out.zi false) (by show l.length+_≤_;omega)).mono ?_
     rintro e w2 ⟨rfl,v2,BN,BO⟩
     have Mi:=aa BN
     have Mj:=aa ((N0.out.set hge 2 (.bool false)).trans BO)
     clear BN BO
     go_wp2
     go_roundw
     case rel=>exact ⟨k+1,v2,by omega,by go_num,by rw [Ph.out];exact Mi.out,Mj.out⟩
     case measure=>simp [intOf];omega
    |true=>
     by_cases Rl:c=32
     ·subst Rl
      have q1:((((32:UInt8).toNat:Int)) !=32)=false:=rfl
      go_wp2_with fail
      refine (WS.out _ _ _ (Gz.out.zi false) (by show l.length+_≤_;omega)).mono ?_
      rintro e w2 ⟨rfl,v2,BN,BO⟩
      have Mi:=aa BN
      have Mj:=aa ((N0.out.set hge 2 (.bool false)).trans BO)
      clear BN BO
      go_wp2
      go_roundw
      case rel=>exact ⟨k+1,v2,by omega,by go_num,by rw [Ph.out];exact Mi.out,Mj.out⟩
      case measure=>simp [intOf];omega
     ·have q1:((c.toNat:Int) !=32)=true:=by
       rw [bne,beq_eq_false_iff_ne.2 (fun e=>Rl (UInt8.toNat_inj.1 (by show c.toNat=32;omega)))];rfl
      have hd:(true&&decide (c≠32))=true:=by rw [decide_eq_true Rl];rfl
      rw [hd] at Ph
      clear hd
      go_wp2_with fail
      refine (WB.out _ _ _ Gz.out (by show l.length+_≤_;omega)).mono ?_
      rintro e w1 ⟨rfl,v1,Pj,XU⟩
      have aaT:=aa Pj
      have aaU:=aa (N0.out.trans XU)
      have f2:=Pj.cells.2.2.1
      have g2:=Pj.cells.1.2.1
      clear Pj XU
      go_wp2_with fail
      refine (WS.out _ _ _ (aaT.out.zi false) (by show (l++[32]).length+_≤_;simp;omega)).mono ?_
      rintro e w2 ⟨rfl,v2,BN,BO⟩
      have Mi:=aa BN
      have Mj:=aa ((aaU.out.set hge 2 (.bool false)).trans BO)
      clear BN BO
      go_wp2
      go_roundw
      case rel=>exact ⟨k+1,v2,by omega,by go_num,by rw [Ph.out];exact Mi.out,Mj.out⟩
      case measure=>simp [intOf];omega
  ·obtain rfl:k=n:=by omega
   have Ky:¬(k:Int)<(k:Int):=by omega
   have Gz:=aa Mh
   have N0:=aa Mg
   clear Mh Mg
   go_wp2
   go_end0
   exact ⟨rfl,⟨v',by rw [←HE.out];exact Gz.out⟩,N0.out⟩
end Go.Proofs.YtddoehnkgcbboaaGreatDoor
