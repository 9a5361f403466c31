/- Packed by program: a part of the proof; the last file says what is proved. -/
import Derived.Test.YtddoehnkgcbboaaGreatDoorPrM
import Derived.Maps.Keyed
import Derived.DeepKeys4
set_option maxHeartbeats 16000000
set_option maxRecDepth 100000
set_option linter.unusedVariables false
set_option linter.unusedSimpArgs false
namespace Go
open Go.RowKit Go.Maps
def dr (n:Int):Prop:=-9223372036854775808≤n∧n≤9223372036854775807
def sR (W:World) (r:Nat) (l:List (Value×Value)):Prop:=∃es clock,W.heap[r]? =some (.map es clock)∧es.toList.map (fun e=>(e.key,e.val))=l
theorem sR.lt {W:World} {r:Nat} {l:List (Value×Value)} (h:sR W r l):r<W.heap.size:=by
 obtain ⟨es,c,h,_⟩:=h
 exact (Array.getElem?_eq_some_iff.1 h).1
theorem sR.below {W W':World} {r B:Nat} {l:List (Value×Value)} (h:sR W r l) (hb:Below B W W') (hr:r<B):sR W' r l:=by
 obtain ⟨es,c,h,hl⟩:=h
 exact ⟨es,c,(hb.block r hr).trans h,hl⟩
theorem sR.keep {C:Nat→Prop} {W W':World} {r:Nat} {l:List (Value×Value)} (h:sR W r l) (hk:af C W W') (hr:¬C r):sR W' r l:=by
 obtain ⟨es,c,h,hl⟩:=h
 exact ⟨es,c,(hk.block r ((Array.getElem?_eq_some_iff.1 h).1) hr).trans h,hl⟩
theorem sR.made (W:World):sR (W.alloc (.map #[] 0)) W.heap.size []:=⟨#[],0,(MapKept.heap_alloc W _).1,rfl⟩
section
variable {P : Program} {W : World} {r : Nat} {l : List (Value × Value)} {mt kt et : TypeId}
theorem lC (K:Keyed P kt) (h:sR W r l) (hk:∀p∈l,∃y,keyOf P kt p.1=some y) {x:Value} {lx:Lit} (hx:keyOf P kt x=some lx):
 ∃es clock,W.heap[r]? =some (.map es clock)∧es.toList.map (fun e=>(e.key,e.val))=l∧
  (((Instr.findKey kt x es.toList).run P W=.ok none W∧∀p∈l,p.1≠x)∨∃j e,(Instr.findKey kt x es.toList).run P W=.ok (some (j,e.val)) W∧es.toList[j]? =some e∧e.key=x∧l[j]? =some (x,e.val)):=by
 obtain ⟨es,clock,hh,hl⟩:=h
 refine ⟨es,clock,hh,hl,?_⟩
 have hke:∀e∈es.toList,∃y,keyOf P kt e.key=some y:=fun e he=>hk (e.key,e.val) (by rw [←hl];exact List.mem_map.2 ⟨e,he,rfl⟩)
 rcases K.find W hx es.toList hke with ⟨h1,h2⟩|⟨j,e,h1,h2,h3⟩
 ·left
  refine ⟨h1,fun p hp=>?_⟩
  rw [←hl] at hp
  obtain ⟨e,he,rfl⟩:=List.mem_map.1 hp
  exact h2 e he
 ·right
  refine ⟨j,e,h1,h2,h3,?_⟩
  rw [←hl,List.getElem?_map,h2]
  simp [h3]
theorem rP (K:Keyed P kt) (hm:P.underlying mt=some (.map kt et)) (h:sR W r l) (hk:∀p∈l,∃y,keyOf P kt p.1=some y) (hd:l.Pairwise fun p q=>p.1≠q.1) {x v:Value} {lx:Lit} (hx:keyOf P kt x=some lx) (hin:(x,v)∈l) (ok:Bool):
 (Instr.lookup mt (.map (some r)) x ok).run P W=.ok (if ok then .tuple #[v,.bool true] else v) W:=by
 obtain ⟨es,clock,hh,hl,hf⟩:=lC K h hk hx
 rcases hf with ⟨_,h2⟩|⟨j,e,h1,h2,h3,h4⟩
 ·exact absurd rfl (h2 (x,v) hin)
 ·have hv:e.val=v:=by
   obtain ⟨i,hi⟩:=List.mem_iff_getElem?.1 hin
   rcases Nat.lt_trichotomy i j with N5|N5|N5
   ·obtain ⟨a1,a2⟩:=List.getElem?_eq_some_iff.1 hi
    obtain ⟨b1,b2⟩:=List.getElem?_eq_some_iff.1 h4
    have:=List.pairwise_iff_getElem.1 hd i j a1 b1 N5
    rw [a2,b2] at this
    exact absurd rfl this
   ·subst N5
    rw [hi] at h4
    exact (congrArg Prod.snd (Option.some.inj h4)).symm
   ·obtain ⟨a1,a2⟩:=List.getElem?_eq_some_iff.1 hi
    obtain ⟨b1,b2⟩:=List.getElem?_eq_some_iff.1 h4
    have:=List.pairwise_iff_getElem.1 hd j i b1 a1 N5
    rw [a2,b2] at this
    exact absurd rfl this
  have hc:=K.check W es.isEmpty hx
  subst hv
  cases ok<;>simp [Instr.lookup,run_underlying hm,MapKept.run_getObj_map hh,hc,h1,Result.andThen]
theorem zk (K:Keyed P kt) (hm:P.underlying mt=some (.map kt et)) (h:sR W r l) (hk:∀p∈l,∃y,keyOf P kt p.1=some y) {x z:Value} {lx:Lit} (hx:keyOf P kt x=some lx) (hout:∀p∈l,p.1≠x) (hz:(zeroValue et).run P W=.ok z W) (ok:Bool):
 (Instr.lookup mt (.map (some r)) x ok).run P W=.ok (if ok then .tuple #[z,.bool false] else z) W:=by
 obtain ⟨es,clock,hh,hl,hf⟩:=lC K h hk hx
 rcases hf with ⟨h1,_⟩|⟨j,e,_,_,_,h4⟩
 ·have hc:=K.check W es.isEmpty hx
  cases ok<;>simp [Instr.lookup,run_underlying hm,MapKept.run_getObj_map hh,hc,h1,hz,Result.andThen]
 ·exact absurd rfl (hout _ (List.mem_of_getElem? h4))
theorem mC (K:Keyed P kt) (hm:P.underlying mt=some (.map kt et)) (h:sR W r l) (hk:∀p∈l,∃y,keyOf P kt p.1=some y) {x:Value} {lx:Lit} (hx:keyOf P kt x=some lx) (hout:∀p∈l,p.1≠x) (v:Value):
 ∃W',(Instr.mapUpdate mt (.map (some r)) x v).run P W=.ok () W'∧sR W' r (l++[(x,v)])∧af (fun b=>b=r) W W'∧W'.heap.size=W.heap.size:=by
 obtain ⟨es,clock,hh,hl,hf⟩:=lC K h hk hx
 rcases hf with ⟨h1,_⟩|⟨j,e,_,_,_,h4⟩
 ·have hc:=K.check W false hx
  refine ⟨{W with heap:=W.heap.setIfInBounds r (.map (es.push {key:=x,val:=v,born:=clock}) (clock+1))},by simp [Instr.mapUpdate,run_underlying hm,MapKept.run_getObj_map hh,hc,h1,MapKept.run_setObj_map _ hh,Result.andThen],⟨_,_,(MapKept.heap_set hh).1,by simp [hl]⟩,⟨rfl,rfl,rfl,by simp,fun b hb hn=>(MapKept.heap_set hh).2 b hn⟩,by simp⟩
 ·exact absurd rfl (hout _ (List.mem_of_getElem? h4))
end
end Go
namespace Go.Proofs.YtddoehnkgcbboaaGreatDoor
open Go.RowKit Go.Shelf Go.Maps
open Go.ChangeMaps (setBlock)
theorem kI:Keyed Tryz.prog 3:=int_keyed Tryz.underlying3
theorem aaV {n:Int} (h:dr n):(Lit.int .i64 n).wf=true:=by
 first
  |exact WalkArith.wf_i64 h.1 h.2
  |exact WalkArith.wf_i64 ⟨h.1,h.2⟩
  |(obtain ⟨h1,h2⟩:=h;simp [Lit.wf,IntKind.wrap_i64];omega)
theorem ki {n:Int} (h:dr n):keyOf Tryz.prog 3 (.int .i64 n)=some (.int .i64 n):=keyOf_int_mk Tryz.underlying3 (aaV h)
def jP (ops:List (List UInt8×Int)) (kind:Int):Option (List UInt8):=(ops.find? fun o=>o.2=kind).map (·.1)
def XV:Option (List UInt8)→Ending
 |some s=>.returned (.tuple #[.string (ae s),.bool true])
 |none=>.returned (.tuple #[.string {data:=#[]},.bool false])
def d_ (ops:List (List UInt8×Int)):Prop:=∀a∈ops,∀b∈ops,a.2=b.2→a.1=b.1
theorem ER {ops:List (List UInt8×Int)} {o:List UInt8×Int} (hu:d_ ops) (ho:o∈ops):jP ops o.2=some o.1:=by
 unfold jP
 cases hf:ops.find? (fun p=>decide (p.2=o.2)) with
 |none=>exact absurd (decide_eq_true rfl) (List.find?_eq_none.1 hf o ho)
 |some x=>
  have hx:x.2=o.2:=by simpa using List.find?_some hf
  show some x.1=some o.1
  rw [hu x (List.mem_of_find?_eq_some hf) o ho hx]
theorem ES {ops:List (List UInt8×Int)} {k:Int} (h:∀o∈ops,o.2≠k):jP ops k=none:=by
 unfold jP
 rw [List.find?_eq_none.2 (fun o ho=>by rw [decide_eq_false (h o ho)];decide)];rfl
structure TN (w:World) (bm:Nat) (r:Nat) (clock:Nat) (W:World) (seen:Array Nat) (c0:Nat):Prop where
 below:Below w.heap.size w W
 it:W.heap[r]? =some (.mapIter (some bm) clock seen c0)
 since:clock≤c0
theorem dL (bm:Nat) (ops:List (List UInt8×Int)) (kind:Int) (w:World) (hm:iU w bm ops) (hu:d_ ops):
 Calls Tryz.prog 70 #[.map (some bm),.int .i64 kind] w fun e w'=>e=XV (jP ops kind)∧Below w.heap.size w w':=by
 obtain ⟨es,clock,hes,kX,rN,aB⟩:=hm
 have QM:bm<w.heap.size:=(Array.getElem?_eq_some_iff.1 hes).1
 have hrg:=run_range_map (P:=Tryz.prog) w 63 9 3 bm es clock Tryz.underlying63 hes
 have KV:=aa (fun (e:MapEntry) (he:e∈es.toList)=>show ∃o∈ops,e.key=.string (ae o.1)∧e.val=.int .i64 o.2 from by
  have h1:(e.key,e.val)∈es.toList.map fun e=>(e.key,e.val):=List.mem_map.2 ⟨e,he,rfl⟩
  rw [kX] at h1
  obtain ⟨o,ho,yK⟩:=List.mem_map.1 h1
  exact ⟨o,ho,(congrArg Prod.fst yK).symm,(congrArg Prod.snd yK).symm⟩)
 have VK:=aa (fun (o:List UInt8×Int) (ho:o∈ops)=>show ∃e∈es.toList,e.val=.int .i64 o.2 from by
  have h1:(Value.string (ae o.1),Value.int .i64 o.2)∈ops.map (fun o=>(Value.string (ae o.1),Value.int .i64 o.2)):=List.mem_map.2 ⟨o,ho,rfl⟩
  rw [←kX] at h1
  obtain ⟨e,he,yK⟩:=List.mem_map.1 h1
  exact ⟨e,he,congrArg Prod.snd yK⟩)
 have HU:=aa hu
 have XL:=aa rN
 have cN:=aa aB
 have TC:=aa hes
 have HA:=aa (show TN w bm w.heap.size clock (w.alloc (.mapIter (some bm) clock #[] clock)) #[] clock from
  ⟨(Below.refl _ w).alloc (Nat.le_refl _) _,heap_alloc_new w _,Nat.le_refl _⟩)
 obtain ⟨RR,jC⟩:∃RR,jP ops kind=RR:=⟨_,rfl⟩
 have ze:=aa jC
 rw [jC]
 clear kX rN aB hes hu jC
 go_enter Tryz.func70,Tryz.ntmps70
 go_wp2_with fail
 clear hrg
 go_loopw [] (fun W=>∃(seen:Array Nat) (c0:Nat),TN w bm w.heap.size clock W seen c0∧∀e∈es.toList,e.born∈seen→e.val≠.int .i64 kind) (fun W=>(leftOf es (W.iterSeen w.heap.size)).size)
 case atStart=>exact ⟨#[],clock,HA.out,fun e _ he=>absurd he (by simp)⟩
 case round=>
  obtain ⟨seen,c0,hat,hno⟩:=hrel
  have hmap:wr.heap[bm]? =some (.map es clock):=(hat.below.block bm QM).trans TC.out
  have law:=run_next_at (P:=Tryz.prog) wr 0 w.heap.size bm clock c0 seen es clock hat.it hmap XL.out hat.since
  rcases law with ⟨h0,hrun⟩|⟨e,he,w1,hw1,hrun⟩
  ·have qf:∀ty,(Instr.next (.pointer (some ⟨w.heap.size,0,none⟩)) false ty).run Tryz.prog wr=_:=fun _=>hrun
   have hall:∀e∈es.toList,e.born∈seen:=fun e he=>by
    by_cases hc:e.born∈seen
    ·exact hc
    ·exfalso
     have:e∈leftOf es seen:=by
      unfold leftOf
      rw [Array.mem_filter]
      exact ⟨by simpa using he,by simpa using hc⟩
     have h1:=Array.size_pos_of_mem this
     omega
   have hnone:jP ops kind=none:=ES fun o ho e1=>by
    obtain ⟨e,he,hk⟩:=VK.out o ho
    exact hno e he (hall e he) (by rw [hk,e1])
   have HF:=aa (show RR=none∧Below w.heap.size w wr from ⟨ze.out.symm.trans hnone,hat.below⟩)
   clear hno hall hnone hat hrun hmap
   go_wp2
   go_ret2
   exact ⟨by rw [HF.out.1];rfl,HF.out.2⟩
  ·obtain ⟨o,ho,hkey,hval⟩:=KV.out e (mem_left he).1
   rw [hkey,hval] at hrun
   obtain ⟨b1,b2,b3,b4,b5,b6⟩:=fL (o':=.mapIter (some bm) clock (seen.push e.born) clock) hat.it hw1
   obtain ⟨W2,hW2⟩:∃W2,W2=setBlock w1 w.heap.size (.mapIter (some bm) clock (seen.push e.born) clock):=⟨_,rfl⟩
   rw [←hW2] at hrun b1 b2 b3 b4 b5 b6
   have hB:Below w.heap.size wr W2:=⟨b5,b4,b6,Nat.le_of_eq b3.symm,fun b hb=>b2 b (by omega)⟩
   have BG:TN w bm w.heap.size clock W2 (seen.push e.born) clock:=⟨hat.below.trans hB,b1,Nat.le_refl _⟩
   have xq:W2.heap[bm]? =some (.map es clock):=(BG.below.block bm QM).trans TC.out
   have qf:∀ty,(Instr.next (.pointer (some ⟨w.heap.size,0,none⟩)) false ty).run Tryz.prog wr=_:=fun _=>hrun
   have hen:=run_entry_at (P:=Tryz.prog) W2 w.heap.size bm clock seen es clock e b1 xq (mem_left he).1 cN.out
   rw [hkey,hval] at hen
   have HE:=aa he
   have HV:=aa hval
   have yZ:=aa BG
   have vr:=aa hno
   have Ka:=aa hat.it
   by_cases hq:o.2=kind
   ·have h1:jP ops kind=some o.1:=by rw [←hq];exact ER HU.out ho
    have HF:=aa (ze.out.symm.trans h1)
    have JX:(o.2==kind)=true:=beq_iff_eq.2 hq
    clear b1 b2 b3 b4 b5 b6 hW2 hB he hkey hval hno hrun hat hw1 BG hmap xq h1 hq
    go_wp2
    go_ret2
    exact ⟨by rw [HF.out];rfl,yZ.out.below⟩
   ·have JX:(o.2==kind)=false:=beq_eq_false_iff_ne.2 hq
    have HQ:=aa hq
    clear b1 b2 b3 b4 b5 b6 hW2 hB he hkey hval hno hrun hat hw1 BG hmap xq hq
    go_wp2
    go_roundw
    case rel=>exact ⟨seen.push e.born,clock,yZ.out,fun e' he' hs hv=>by
     rcases Array.mem_push.1 hs with h1|h1
     ·exact vr.out e' he' h1 hv
     ·have:e'=e:=by
       have h2:=find_born e es.toList cN.out (mem_left HE.out).1
       have h3:=find_born e' es.toList cN.out he'
       rw [h1] at h3
       exact Option.some.inj (h3.symm.trans h2)
      subst this
      have h5:=HV.out.symm.trans hv
      injection h5 with _ h5
      exact HQ.out h5⟩
    case measure=>
     have e1:W2.iterSeen w.heap.size=seen.push e.born:=by unfold World.iterSeen;rw [yZ.out.it]
     have e2:wr.iterSeen w.heap.size=seen:=by unfold World.iterSeen;rw [Ka.out]
     rw [e1,e2]
     exact left_shrinks es seen e HE.out
end Go.Proofs.YtddoehnkgcbboaaGreatDoor
namespace Go.Proofs.YtddoehnkgcbboaaGreatDoor
open Go.RowKit Go.Shelf Go.Maps
open Go.ChangeMaps (setBlock)
def jE (x:List UInt8×Int×Int×Int):Value:=.agg #[.string (ae x.1),.int .i64 x.2.1,.int .i64 x.2.2.1,.int .i64 x.2.2.2]
def kJ (o:List UInt8×Int):Value×Value:=(.int .i64 o.2,jE (o.1,3,4,4))
def dV:List (Value×Value):=[(.int .i64 30,jE ([124,124],0,0,1)),(.int .i64 29,jE ([38,38],1,1,2)),(.int .i64 10,jE ([124],4,4,5)),(.int .i64 11,jE ([94],5,5,6)),(.int .i64 9,jE ([38],6,6,7)),(.int .i64 12,jE ([43],7,7,8)),(.int .i64 13,jE ([45],7,7,8)),(.int .i64 46,jE ([111,114],10,10,11))]
def lD (l:List (Value×Value)):Prop:=∀p∈l,∃n:Int,dr n∧p.1=.int .i64 n
def aW (W:World) (r:Nat):Prop:=∃l,sR W r l∧lD l∧(l.Pairwise fun p q=>p.1≠q.1)∧∀k x,(Value.int .i64 k,x)∈l↔(kD k).map jE=some x
theorem aW.below {W W':World} {r:Nat} (h:aW W r) (hb:Below W.heap.size W W'):aW W' r:=by
 obtain ⟨l,h1,h2⟩:=h
 exact ⟨l,h1.below hb h1.lt,h2⟩
theorem lD.key {l:List (Value×Value)} (h:lD l):∀p∈l,∃y,keyOf Tryz.prog 3 p.1=some y:=fun p hp=>by
 obtain ⟨n,hn,e⟩:=h p hp
 rw [e];exact ⟨_,ki hn⟩
theorem Pk (W:World):(zeroValue 100).run Tryz.prog W=.ok (.agg #[.string {data:=#[]},.int .i64 0,.int .i64 0,.int .i64 0]) W:=by kernel_rfl
def jr (k:Int):Value:=match kD k with|some x=>.tuple #[jE x,.bool true]|none=>.tuple #[.agg #[.string {data:=#[]},.int .i64 0,.int .i64 0,.int .i64 0],.bool false]
theorem cS {W:World} {r:Nat} (h:aW W r) {k:Int} (hk:dr k):(Instr.lookup 102 (.map (some r)) (.int .i64 k) true).run Tryz.prog W=.ok (jr k) W:=by
 obtain ⟨l,h1,h2,h3,h4⟩:=h
 unfold jr
 cases hq:kD k with
 |some x=>
  exact rP kI Tryz.underlying102 h1 h2.key h3 (ki hk) ((h4 k (jE x)).2 (by rw [hq];rfl)) true
 |none=>
  refine zk kI Tryz.underlying102 h1 h2.key (ki hk) (fun p hp e=>?_) (Pk W) true
  have h5:=(h4 k p.2).1 (by rw [←e];exact hp)
  rw [hq] at h5;cases h5
theorem zl {W:World} {r:Nat} {l:List (Value×Value)} (h:sR W r l) (hk:lD l) {k:Int} (hn:dr k) (hout:∀p∈l,p.1≠.int .i64 k) (x:Value):
 ∃W',(Instr.mapUpdate 102 (.map (some r)) (.int .i64 k) x).run Tryz.prog W=.ok () W'∧sR W' r (l++[(.int .i64 k,x)])∧lD (l++[(.int .i64 k,x)])∧af (fun b=>b=r) W W':=by
 obtain ⟨W',h1,h2,h3,_⟩:=mC kI Tryz.underlying102 h hk.key (ki hn) hout x
 refine ⟨W',h1,h2,fun p hp=>?_,h3⟩
 rcases List.mem_append.1 hp with hp|hp
 ·exact hk p hp
 ·rw [List.mem_singleton.1 hp];exact ⟨k,hn,rfl⟩
theorem xr:lD dV:=by
 intro p hp
 simp only [dV,List.mem_cons,List.not_mem_nil,or_false] at hp
 rcases hp with rfl|rfl|rfl|rfl|rfl|rfl|rfl|rfl
 all_goals exact ⟨_,⟨by decide,by decide⟩,rfl⟩
theorem xt {k:Int} (h0:18<k) (h1:k<27):∀p∈dV,p.1≠.int .i64 k:=by
 intro p hp e
 simp only [dV,List.mem_cons,List.not_mem_nil,or_false] at hp
 rcases hp with rfl|rfl|rfl|rfl|rfl|rfl|rfl|rfl
 all_goals (injection e with _ e;omega)
theorem nj {o:List UInt8×Int} (h:o∈cP):18<o.2∧o.2<27:=by
 simp only [cP,List.mem_cons,List.not_mem_nil,or_false] at h
 rcases h with rfl|rfl|rfl|rfl|rfl|rfl|rfl|rfl
 all_goals exact ⟨by decide,by decide⟩
theorem I9:d_ cP:=by unfold d_ cP;decide
theorem Mk {a b:List UInt8×Int} (ha:a∈cP) (hb:b∈cP) (h:a.2=b.2):a=b:=Prod.ext (I9 a ha b hb h) h
theorem Pl (k:Int) (x:Value):(Value.int .i64 k,x)∈dV++cP.map kJ↔(kD k).map jE=some x:=by
 constructor
 ·intro h
  simp only [dV,cP,kJ,List.map_cons,List.map_nil,List.cons_append,List.nil_append,List.mem_cons,List.not_mem_nil,or_false,Prod.mk.injEq,Value.int.injEq,true_and] at h
  rcases h with ⟨rfl,rfl⟩|⟨rfl,rfl⟩|⟨rfl,rfl⟩|⟨rfl,rfl⟩|⟨rfl,rfl⟩|⟨rfl,rfl⟩|⟨rfl,rfl⟩|⟨rfl,rfl⟩|⟨rfl,rfl⟩|⟨rfl,rfl⟩|⟨rfl,rfl⟩|⟨rfl,rfl⟩|⟨rfl,rfl⟩|⟨rfl,rfl⟩|⟨rfl,rfl⟩|⟨rfl,rfl⟩
  all_goals rfl
 ·intro h
  obtain ⟨y,hy,rfl⟩:=Option.map_eq_some_iff.1 h
  unfold kD at hy
  by_cases Vm:k=30
  ·rw [if_pos Vm] at hy;cases hy;subst Vm;simp [dV,cP,kJ]
  rw [if_neg Vm] at hy
  by_cases Vn:k=29
  ·rw [if_pos Vn] at hy;cases hy;subst Vn;simp [dV,cP,kJ]
  rw [if_neg Vn] at hy
  by_cases N6:k=10
  ·rw [if_pos N6] at hy;cases hy;subst N6;simp [dV,cP,kJ]
  rw [if_neg N6] at hy
  by_cases e11:k=11
  ·rw [if_pos e11] at hy;cases hy;subst e11;simp [dV,cP,kJ]
  rw [if_neg e11] at hy
  by_cases e9:k=9
  ·rw [if_pos e9] at hy;cases hy;subst e9;simp [dV,cP,kJ]
  rw [if_neg e9] at hy
  by_cases Vo:k=12
  ·rw [if_pos Vo] at hy;cases hy;subst Vo;simp [dV,cP,kJ]
  rw [if_neg Vo] at hy
  by_cases Vp:k=13
  ·rw [if_pos Vp] at hy;cases hy;subst Vp;simp [dV,cP,kJ]
  rw [if_neg Vp] at hy
  by_cases NP:k=46
  ·rw [if_pos NP] at hy;cases hy;subst NP;simp [dV,cP,kJ]
  rw [if_neg NP] at hy
  by_cases Vq:k=19
  ·rw [if_pos Vq] at hy;cases hy;subst Vq;simp [dV,cP,kJ]
  rw [if_neg Vq] at hy
  by_cases Vr:k=20
  ·rw [if_pos Vr] at hy;cases hy;subst Vr;simp [dV,cP,kJ]
  rw [if_neg Vr] at hy
  by_cases Vs:k=21
  ·rw [if_pos Vs] at hy;cases hy;subst Vs;simp [dV,cP,kJ]
  rw [if_neg Vs] at hy
  by_cases Vt:k=22
  ·rw [if_pos Vt] at hy;cases hy;subst Vt;simp [dV,cP,kJ]
  rw [if_neg Vt] at hy
  by_cases Vu:k=23
  ·rw [if_pos Vu] at hy;cases hy;subst Vu;simp [dV,cP,kJ]
  rw [if_neg Vu] at hy
  by_cases Vv:k=24
  ·rw [if_pos Vv] at hy;cases hy;subst Vv;simp [dV,cP,kJ]
  rw [if_neg Vv] at hy
  by_cases Vw:k=25
  ·rw [if_pos Vw] at hy;cases hy;subst Vw;simp [dV,cP,kJ]
  rw [if_neg Vw] at hy
  by_cases Vx:k=26
  ·rw [if_pos Vx] at hy;cases hy;subst Vx;simp [dV,cP,kJ]
  rw [if_neg Vx] at hy
  cases hy
theorem xu {α β:Type} {f:α→β}:∀{l:List α},(l.map f).Nodup→∀{a b:α},a∈l→b∈l→f a=f b→a=b
 |[],_,a,b,ha,_,_=>by cases ha
 |x::r,h,a,b,ha,hb,e=>by
  rw [List.map_cons,List.nodup_cons] at h
  rcases List.mem_cons.1 ha with ha1|ha1<;>rcases List.mem_cons.1 hb with hb1|hb1
  ·rw [ha1,hb1]
  ·exact absurd (List.mem_map.2 ⟨b,hb1,by rw [←e,ha1]⟩) h.1
  ·exact absurd (List.mem_map.2 ⟨a,ha1,by rw [e,hb1]⟩) h.1
  ·exact xu h.2 ha1 hb1 e
structure Ml (w:World) (r bm it clock:Nat) (W:World) (seen:Array Nat) (c0:Nat) (D:List (List UInt8×Int)):Prop where
 keeps:af (fun b=>b=r) w W
 it:W.heap[it]? =some (.mapIter (some bm) clock seen c0)
 since:clock≤c0
 map:sR W r (dV++D.map kJ)
 sub:∀o∈D,o∈cP
 once:D.Pairwise fun a b=>a.2≠b.2
theorem Ml.done {w:World} {r bm it clock:Nat} {W:World} {seen:Array Nat} {c0:Nat} {D:List (List UInt8×Int)} (h:Ml w r bm it clock W seen c0 D) (hall:∀o∈cP,o∈D):aW W r:=by
 refine ⟨_,h.map,fun p hp=>?_,?_,fun k x=>?_⟩
 ·rcases List.mem_append.1 hp with hp|hp
  ·exact xr p hp
  ·obtain ⟨o,ho,rfl⟩:=List.mem_map.1 hp
   obtain ⟨h1,h2⟩:=nj (h.sub o ho)
   exact ⟨o.2,⟨by omega,by omega⟩,rfl⟩
 ·refine List.pairwise_append.2 ⟨?_,?_,?_⟩
  ·unfold dV
   simp only [List.pairwise_cons,List.mem_cons,List.not_mem_nil,or_false]
   refine ⟨?_,?_,?_,?_,?_,?_,?_,?_,List.Pairwise.nil⟩
   all_goals (intro q hq e;revert e;first|(rcases hq with rfl|rfl|rfl|rfl|rfl|rfl|rfl)|(rcases hq with rfl|rfl|rfl|rfl|rfl|rfl)|(rcases hq with rfl|rfl|rfl|rfl|rfl)|(rcases hq with rfl|rfl|rfl|rfl)|(rcases hq with rfl|rfl|rfl)|(rcases hq with rfl|rfl)|(subst hq)|(cases hq))
   all_goals (intro e;injection e with _ e;exact absurd e (by decide))
  ·rw [List.pairwise_map]
   exact h.once.imp (fun hne e=>hne (by injection e))
  ·intro p hp q hq
   obtain ⟨o,ho,rfl⟩:=List.mem_map.1 hq
   obtain ⟨h1,h2⟩:=nj (h.sub o ho)
   exact xt h1 h2 p hp
 ·rw [←Pl]
  constructor
  ·intro hm
   rcases List.mem_append.1 hm with hm|hm
   ·exact List.mem_append_left _ hm
   ·obtain ⟨o,ho,e⟩:=List.mem_map.1 hm
    exact List.mem_append_right _ (List.mem_map.2 ⟨o,h.sub o ho,e⟩)
  ·intro hm
   rcases List.mem_append.1 hm with hm|hm
   ·exact List.mem_append_left _ hm
   ·obtain ⟨o,ho,e⟩:=List.mem_map.1 hm
    exact List.mem_append_right _ (List.mem_map.2 ⟨o,hall o ho,e⟩)
theorem bB (w:World):Calls Tryz.prog 68 #[] w fun e w'=>e=.returned (.map (some w.heap.size))∧aW w' w.heap.size∧Below w.heap.size w w':=by
 have hmm:=@run_makeMap Tryz.prog
 have m0:sR (w.alloc (.map #[] 0)) w.heap.size []:=sR.made w
 have n0:lD []:=fun p hp=>by cases hp
 obtain ⟨W1,r1,m1,n1,b1⟩:=zl m0 n0 (k:=30) ⟨by decide,by decide⟩ (fun p hp=>by cases hp) (jE ([124,124],0,0,1))
 obtain ⟨W2,r2,m2,n2,b2⟩:=zl m1 n1 (k:=29) ⟨by decide,by decide⟩ (by simp) (jE ([38,38],1,1,2))
 obtain ⟨W3,r3,m3,n3,b3⟩:=zl m2 n2 (k:=10) ⟨by decide,by decide⟩ (by simp) (jE ([124],4,4,5))
 obtain ⟨W4,r4,m4,n4,b4⟩:=zl m3 n3 (k:=11) ⟨by decide,by decide⟩ (by simp) (jE ([94],5,5,6))
 obtain ⟨W5,r5,m5,n5,b5⟩:=zl m4 n4 (k:=9) ⟨by decide,by decide⟩ (by simp) (jE ([38],6,6,7))
 obtain ⟨W6,r6,m6,n6,b6⟩:=zl m5 n5 (k:=12) ⟨by decide,by decide⟩ (by simp) (jE ([43],7,7,8))
 obtain ⟨W7,r7,m7,n7,b7⟩:=zl m6 n6 (k:=13) ⟨by decide,by decide⟩ (by simp) (jE ([45],7,7,8))
 obtain ⟨W8,r8,m8,n8,b8⟩:=zl m7 n7 (k:=46) ⟨by decide,by decide⟩ (by simp) (jE ([111,114],10,10,11))
 have u1:(Instr.mapUpdate 102 (.map (some w.heap.size)) (.int .i64 30) (.agg #[.string {data:=#[124,124]},.int .i64 0,.int .i64 0,.int .i64 1])).run Tryz.prog (w.alloc (.map #[] 0))=.ok () W1:=r1
 have u2:(Instr.mapUpdate 102 (.map (some w.heap.size)) (.int .i64 29) (.agg #[.string {data:=#[38,38]},.int .i64 1,.int .i64 1,.int .i64 2])).run Tryz.prog W1=.ok () W2:=r2
 have u3:(Instr.mapUpdate 102 (.map (some w.heap.size)) (.int .i64 10) (.agg #[.string {data:=#[124]},.int .i64 4,.int .i64 4,.int .i64 5])).run Tryz.prog W2=.ok () W3:=r3
 have u4:(Instr.mapUpdate 102 (.map (some w.heap.size)) (.int .i64 11) (.agg #[.string {data:=#[94]},.int .i64 5,.int .i64 5,.int .i64 6])).run Tryz.prog W3=.ok () W4:=r4
 have u5:(Instr.mapUpdate 102 (.map (some w.heap.size)) (.int .i64 9) (.agg #[.string {data:=#[38]},.int .i64 6,.int .i64 6,.int .i64 7])).run Tryz.prog W4=.ok () W5:=r5
 have u6:(Instr.mapUpdate 102 (.map (some w.heap.size)) (.int .i64 12) (.agg #[.string {data:=#[43]},.int .i64 7,.int .i64 7,.int .i64 8])).run Tryz.prog W5=.ok () W6:=r6
 have u7:(Instr.mapUpdate 102 (.map (some w.heap.size)) (.int .i64 13) (.agg #[.string {data:=#[45]},.int .i64 7,.int .i64 7,.int .i64 8])).run Tryz.prog W6=.ok () W7:=r7
 have u8:(Instr.mapUpdate 102 (.map (some w.heap.size)) (.int .i64 46) (.agg #[.string {data:=#[111,114]},.int .i64 10,.int .i64 10,.int .i64 11])).run Tryz.prog W7=.ok () W8:=r8
 have Kb:af (fun b=>b=w.heap.size) (w.alloc (.map #[] 0)) W8:=((((((b1.trans b2).trans b3).trans b4).trans b5).trans b6).trans b7).trans b8
 have Xv:Below w.heap.size w W8:=((Below.refl w.heap.size w).alloc (Nat.le_refl _) _).trans (Kb.below (fun b hb=>by rw [hb];exact Nat.le_refl _) (by simp))
 have HM8:=aa (show sR W8 w.heap.size (dV++([]:List (List UInt8×Int)).map kJ) from m8)
 have GD:=aa Xv
 have CM:=aa (fun W:World=>lL W)
 have hz8:=m8.lt
 clear m0 n0 m1 n1 b1 r1 m2 n2 b2 r2 m3 n3 b3 r3 m4 n4 b4 r4 m5 n5 b5 r5 m6 n6 b6 r6 m7 n7 b7 r7 m8 n8 b8 r8 Kb Xv
 go_enter Tryz.func68,Tryz.ntmps68
 go_wp2_with fail
 clear u1 u2 u3 u4 u5 u6 u7 u8
 refine (CM.out _).mono ?_
 rintro e w9 ⟨rfl,hm9,gW⟩
 obtain ⟨es,clock,hes,kX,rN,aB⟩:=hm9
 have hrg:=run_range_map (P:=Tryz.prog) w9 63 9 3 W8.heap.size es clock Tryz.underlying63 hes
 have KV:=aa (fun (e:MapEntry) (he:e∈es.toList)=>show ∃o∈cP,e.key=.string (ae o.1)∧e.val=.int .i64 o.2 from by
  have h1:(e.key,e.val)∈es.toList.map fun e=>(e.key,e.val):=List.mem_map.2 ⟨e,he,rfl⟩
  rw [kX] at h1
  obtain ⟨o,ho,yK⟩:=List.mem_map.1 h1
  exact ⟨o,ho,(congrArg Prod.fst yK).symm,(congrArg Prod.snd yK).symm⟩)
 have VK:=aa (fun (o:List UInt8×Int) (ho:o∈cP)=>show ∃e∈es.toList,e.val=.int .i64 o.2 from by
  have h1:(Value.string (ae o.1),Value.int .i64 o.2)∈cP.map (fun o=>(Value.string (ae o.1),Value.int .i64 o.2)):=List.mem_map.2 ⟨o,ho,rfl⟩
  rw [←kX] at h1
  obtain ⟨e,he,yK⟩:=List.mem_map.1 h1
  exact ⟨e,he,congrArg Prod.snd yK⟩)
 have VI:=aa (show (es.toList.map (·.val)).Nodup from by
  have h1:es.toList.map (·.val)=cP.map fun o=>Value.int .i64 o.2:=by
   have:=congrArg (List.map Prod.snd) kX
   rwa [List.map_map,List.map_map] at this
  rw [h1]
  unfold cP
  simp)
 have hz9:W8.heap.size<w9.heap.size:=(Array.getElem?_eq_some_iff.1 hes).1
 have HA:=aa (show Ml w9 w.heap.size W8.heap.size w9.heap.size clock (w9.alloc (.mapIter (some W8.heap.size) clock #[] clock)) #[] clock [] from
  ⟨(af.refl _ _).alloc _,heap_alloc_new w9 _,Nat.le_refl _,(HM8.out.below gW hz8).below ((Below.refl _ w9).alloc (Nat.le_refl _) _) (by omega),(fun o ho=>(by cases ho)),List.Pairwise.nil⟩)
 have HB9:=aa (GD.out.trans (gW.mono GD.out.size))
 have XL:=aa rN
 have cN:=aa aB
 have TC:=aa hes
 clear kX rN aB hes gW
 go_wp2_with fail
 clear hrg
 go_loopw [] (fun W=>∃(seen:Array Nat) (c0:Nat) (D:List (List UInt8×Int)),Ml w9 w.heap.size W8.heap.size w9.heap.size clock W seen c0 D∧(∀e∈es.toList,e.born∈seen→∃o∈D,e.val=.int .i64 o.2)∧∀o∈D,∃e∈es.toList,e.born∈seen∧e.val=.int .i64 o.2) (fun W=>(leftOf es (W.iterSeen w9.heap.size)).size)
 case atStart=>exact ⟨#[],clock,[],HA.out,fun e _ he=>absurd he (by simp),fun o ho=>by cases ho⟩
 case round=>
  obtain ⟨seen,c0,D,hat,hin,hout⟩:=hrel
  have hmap:wr.heap[W8.heap.size]? =some (.map es clock):=(hat.keeps.block _ hz9 (by show¬W8.heap.size=w.heap.size;omega)).trans TC.out
  have law:=run_next_at (P:=Tryz.prog) wr 0 w9.heap.size W8.heap.size clock c0 seen es clock hat.it hmap XL.out hat.since
  rcases law with ⟨h0,hrun⟩|⟨e,he,w1,hw1,hrun⟩
  ·have qf:∀ty,(Instr.next (.pointer (some ⟨w9.heap.size,0,none⟩)) false ty).run Tryz.prog wr=_:=fun _=>hrun
   have hall:∀e∈es.toList,e.born∈seen:=fun e he=>by
    by_cases hc:e.born∈seen
    ·exact hc
    ·exfalso
     have:e∈leftOf es seen:=by
      unfold leftOf
      rw [Array.mem_filter]
      exact ⟨by simpa using he,by simpa using hc⟩
     have h1:=Array.size_pos_of_mem this
     omega
   have HF:=aa (show aW wr w.heap.size from hat.done (fun o ho=>by
    obtain ⟨e,he,hv⟩:=VK.out o ho
    obtain ⟨o',Vy,hv'⟩:=hin e he (hall e he)
    have:o.2=o'.2:=by rw [hv] at hv';injection hv'
    rw [Mk ho (hat.sub o' Vy) this];exact Vy))
   have HG:=aa (HB9.out.trans (hat.keeps.below (fun b hb=>by rw [hb];exact Nat.le_refl _) (by omega)))
   clear hin hout hall hat hrun hmap
   go_wp2
   go_ret
   exact ⟨rfl,HF.out,HG.out⟩
  ·obtain ⟨o,ho,hkey,hval⟩:=KV.out e (mem_left he).1
   have hnew:∀a∈D,a.2≠o.2:=fun a ha h1=>by
    obtain ⟨e',he',Vd,hv'⟩:=hout a ha
    have h2:e'=e:=by
     have h3:e'.val=e.val:=by rw [hv',hval,h1]
     exact xu VI.out he' (mem_left he).1 h3
    rw [h2] at Vd
    exact absurd Vd (by have:=(mem_left he).2;simpa using this)
   rw [hkey,hval] at hrun
   obtain ⟨b1,b2,b3,b4,b5,b6⟩:=fL (o':=.mapIter (some W8.heap.size) clock (seen.push e.born) clock) hat.it hw1
   obtain ⟨W2,hW2⟩:∃W2,W2=setBlock w1 w9.heap.size (.mapIter (some W8.heap.size) clock (seen.push e.born) clock):=⟨_,rfl⟩
   rw [←hW2] at hrun b1 b2 b3 b4 b5 b6
   have hB:Below w9.heap.size wr W2:=⟨b5,b4,b6,Nat.le_of_eq b3.symm,fun b hb=>b2 b (by omega)⟩
   have xq:W2.heap[W8.heap.size]? =some (.map es clock):=(hB.block _ hz9).trans hmap
   have qf:∀ty,(Instr.next (.pointer (some ⟨w9.heap.size,0,none⟩)) false ty).run Tryz.prog wr=_:=fun _=>hrun
   have hen:=run_entry_at (P:=Tryz.prog) W2 w9.heap.size W8.heap.size clock seen es clock e b1 xq (mem_left he).1 cN.out
   rw [hkey,hval] at hen
   obtain ⟨k1,k2⟩:=nj ho
   obtain ⟨W3,hput,Wm,_,hk3⟩:=zl (k:=o.2) (hat.map.below hB (by omega)) (fun p hp=>by
    rcases List.mem_append.1 hp with hp|hp
    ·exact xr p hp
    ·obtain ⟨o',Vy,rfl⟩:=List.mem_map.1 hp
     obtain ⟨q1,q2⟩:=nj (hat.sub o' Vy)
     exact ⟨o'.2,⟨by omega,by omega⟩,rfl⟩) ⟨by omega,by omega⟩ (fun p hp e1=>by
    rcases List.mem_append.1 hp with hp|hp
    ·exact xt k1 k2 p hp e1
    ·obtain ⟨o',Vy,rfl⟩:=List.mem_map.1 hp
     exact hnew o' Vy (by injection e1)) (jE (o.1,3,4,4))
   have abo:(Instr.mapUpdate 102 (.map (some w.heap.size)) (.int .i64 o.2) (.agg #[.string (ae o.1),.int .i64 3,.int .i64 4,.int .i64 4])).run Tryz.prog W2=.ok () W3:=hput
   have y_:=aa (show Ml w9 w.heap.size W8.heap.size w9.heap.size clock W3 (seen.push e.born) clock (D++[o]) from
    ⟨(hat.keeps.over hB).trans hk3,(hk3.block _ (Array.getElem?_eq_some_iff.1 b1).1 (by show¬w9.heap.size=w.heap.size;omega)).trans b1,Nat.le_refl _,by rw [List.map_append,←List.append_assoc];exact Wm,fun a ha=>by
     rcases List.mem_append.1 ha with ha|ha
     ·exact hat.sub a ha
     ·rw [List.mem_singleton.1 ha];exact ho,List.pairwise_append.2 ⟨hat.once,List.pairwise_singleton _ _,fun a ha b hb=>by rw [List.mem_singleton.1 hb];exact hnew a ha⟩⟩)
   have U4:=aa (show ∀e'∈es.toList,e'.born∈seen.push e.born→∃a∈D++[o],e'.val=.int .i64 a.2 from fun e' he' hs=>by
    rcases Array.mem_push.1 hs with h1|h1
    ·obtain ⟨a,ha,hv⟩:=hin e' he' h1
     exact ⟨a,List.mem_append_left _ ha,hv⟩
    ·have:e'=e:=by
      have h2:=find_born e es.toList cN.out (mem_left he).1
      have h3:=find_born e' es.toList cN.out he'
      rw [h1] at h3
      exact Option.some.inj (h3.symm.trans h2)
     subst this
     exact ⟨o,List.mem_append_right _ (List.mem_singleton.2 rfl),hval⟩)
   have ZE:=aa (show ∀a∈D++[o],∃e'∈es.toList,e'.born∈seen.push e.born∧e'.val=.int .i64 a.2 from fun a ha=>by
    rcases List.mem_append.1 ha with ha|ha
    ·obtain ⟨e',he',hs,hv⟩:=hout a ha
     exact ⟨e',he',Array.mem_push.2 (.inl hs),hv⟩
    ·rw [List.mem_singleton.1 ha];exact ⟨e,(mem_left he).1,Array.mem_push.2 (.inr rfl),hval⟩)
   have HE:=aa he
   have Ka:=aa hat.it
   clear b1 b2 b3 b4 b5 b6 hW2 hB he hkey hval hin hout hrun hat hw1 hmap xq hput Wm hk3 hnew k1 k2 ho
   go_wp2
   go_roundw
   case rel=>exact ⟨seen.push e.born,clock,D++[o],y_.out,U4.out,ZE.out⟩
   case measure=>
    have e1:W3.iterSeen w9.heap.size=seen.push e.born:=by unfold World.iterSeen;rw [y_.out.it]
    have e2:wr.iterSeen w9.heap.size=seen:=by unfold World.iterSeen;rw [Ka.out]
    rw [e1,e2]
    exact left_shrinks es seen e HE.out
end Go.Proofs.YtddoehnkgcbboaaGreatDoor
namespace Go.Proofs.YtddoehnkgcbboaaGreatDoor
open Go.RowKit Go.Shelf
theorem sS {B g:Nat} {w5 W6:World} {n x:Nd} {cs ou:List Value} (hn:cG (fun b=>b<B) w5 n cs) (hx:cG (fun b=>b<B) w5 x ou) (hg:g<B) (hB:B≤w5.heap.size) (hW:W6=w5.alloc (.cells [cs,ou].flatten.toArray 25))
 (kd a0 xa xb xc xd:Int) (nm vl:List UInt8) (cap:Nat) (cI:2≤cap:=by decide):
 nh g (iP W6 g (.int .i64 kd) (.int .i64 a0) (.string (ae nm)) (.string (ae vl)) (.int .i64 xa) (.int .i64 xb) (.int .i64 xc) (.int .i64 xd) (.slice (some ⟨w5.heap.size,0,none⟩) 2 cap)) (.mk kd a0 nm vl xa xb xc xd [n,x])
  (.agg #[.int .i64 kd,.int .i64 a0,.string (ae nm),.string (ae vl),.int .i64 xa,.int .i64 xb,.int .i64 xc,.int .i64 xd,.slice (some ⟨w5.heap.size,0,none⟩) 2 cap]):=
 BK (ks:=[n,x]) (bF:=[cs,ou]) rfl (fun i h h'=>by
  match i,h with
  |0,_=>exact hn
  |1,_=>exact hx
  |i+2,h=>exact absurd h (by simp)) hg hB hW kd a0 xa xb xc xd nm vl cap cI
theorem bR.below {p:PS} {w W W':World} {g7:Nat} {n:Nd} {cs:List Value} {k:Nat} (h:bR p w g7 W n cs k) (hb:p.b<w.heap.size) (hg:w.heap.size<g7) (hk:Below W.heap.size W W'):bR p w g7 W' n cs k:=
 h.keep hb hg (h.at_.below hk) (af.of_below hk (Nat.le_refl _))
theorem uB (p:PS) (F:Nat) (dm:Nat→PR Nd) (hc:bQ p 127 dm F) (hp:Prog dm):bQ p 77 (vQ p.L p.en dm) F:=by
 intro k w hF h
 have aN:p.b<w.heap.size:=h.row.lt
 have H:=aa h
 have fO:Row (w.alloc (.cells bJ 25)) w.heap.size 25 bJ:=Row.new _ _ _
 have hb0:Below w.heap.size w (w.alloc (.cells bJ 25)):=(Below.refl _ _).alloc (Nat.le_refl _) _
 have C0:=aa (hc k _ hF (h.below hb0))
 have lN:=aa fO
 have ke:=aa hb0
 have HC:=aa hc
 unfold vQ
 cases hR:dm k with
 |err a er=>
  rw [hR] at C0
  show Calls _ _ _ _ (bO p w (nh w.heap.size) (.err a er))
  clear hR h hc hp fO hb0 HC lN
  go_enter Tryz.func77,Tryz.ntmps77
  go_wp2_with fail
  refine C0.out.mono ?_
  rintro e w1 ⟨rfl,hk⟩
  go_wp2
  exact ⟨rfl,rfl,(af.of_below ke.out (Nat.le_refl _)).trans hk⟩
 |ok n1 k1=>
  rw [hR] at C0
  have fo:=hp _ _ _ hR
  show Calls _ _ _ _ (bO p w (nh w.heap.size) (match iO p.L cP k1 with
   |none=>.ok n1 k1
   |some q=>(dm (k1+1)).bind fun x k2=>.ok (.mk q (dy p.L p.en k1) [] [] 0 0 0 0 [n1,x]) k2))
  have CM:=aa (fun (W:World)=>lL W)
  have OP:=aa (fun (W:World) (bm:Nat) (h:bc p W k1) (hm:iU W bm cP) (hb:bm≠p.b)=>fZ p k1 bm cP W h hm hb (by unfold cD;decide))
  clear hR h hc fO hb0
  cases hO:iO p.L cP k1 with
  |none=>
   have hE:rL p.L p.en cP k1=.returned (.tuple #[.int .i64 0,.int .i64 0]):=by unfold rL;rw [hO]
   have hN:rM p.L cP k1=k1:=by unfold rM;rw [hO]
   rw [hE,hN] at OP
   show Calls _ _ _ _ (bO p w (nh w.heap.size) (.ok n1 k1))
   clear hE hN hO
   go_enter Tryz.func77,Tryz.ntmps77
   go_wp2_with fail
   refine C0.out.mono ?_
   rintro e w1 ⟨⟨v,rfl,cs,rfl,aB⟩,h1,hk⟩
   have hr1:Row w1 w.heap.size 25 bJ:=lN.out.keep hk (by show¬w.heap.size=p.b;omega)
   have hB1:w.heap.size<w1.heap.size:=hr1.lt
   have Iq:bR p w w1.heap.size (w1.alloc (.cells cs.toArray 25)) n1 cs k1:=
    ⟨h1.below ((Below.refl _ w1).alloc (Nat.le_refl _) _),((af.of_below ke.out (Nat.le_refl _)).trans hk).trans (af.of_below ((Below.refl _ w1).alloc (Nat.le_refl _) _) (Nat.le_refl _)),hr1.alloc _,Row.new w1 _ _,
     (aB.ge ((Below.refl _ w1).alloc (Nat.le_refl _) _)).mono (fun b hb=>by
      rcases hb with hb|rfl
      ·exact .inl (by rw [World.size_alloc];omega)
      ·exact .inr (Nat.le_refl _))⟩
   have I4:=aa Iq
   cases aB with
   |mk kd a0 nm vl xa xb xc xd ks A cap bF hl iG hr=>
    clear hl iG hr Iq hr1 hk h1
    generalize hW1:w1.alloc (.cells (aw kd a0 nm vl xa xb xc xd (.slice A ks.length cap)).toArray 25)=W1 at I4
    have dG:w1.alloc (.cells #[.int .i64 kd,.int .i64 a0,.string (ae nm),.string (ae vl),.int .i64 xa,.int .i64 xb,.int .i64 xc,.int .i64 xd,.slice A ks.length cap] 25)=W1:=hW1
    clear hW1
    unfold aw
    go_wp2_with fail
    clear dG
    refine (CM.out W1).mono ?_
    rintro e W2 ⟨rfl,rq,hb2⟩
    have hl2:bR p w w1.heap.size W2 _ _ k1:=I4.out.below aN hB1 hb2
    have XW:=aa (OP.out W2 _ hl2.at_ rq (by have:=I4.out.at_.row.lt;omega))
    have Tw:=aa hl2
    clear hb2 rq hl2
    go_wp2_with fail
    refine XW.out.mono ?_
    rintro e W3 ⟨rfl,h3,hk3⟩
    have hl3:=Tw.out.keep aN hB1 h3 hk3
    have zf:=aa hl3
    obtain ⟨h3,bS,hres,hrow,aB⟩:=hl3
    obtain ⟨d0,d1,d2,d3,d4,d5,d6,d7,d8⟩:=aj hrow
    obtain ⟨e0,e1,e2,e3,e4,e5,e6,e7,e8⟩:=aj hres
    obtain ⟨Gr,Gs,EO,Gt,Gu,Gv,Gw,Gx,Gy⟩:=aA hres
    have cN:=aa aB
    clear hrow aB
    go_wp2_with fail
    refine bodyPost_ret (v:=.agg #[.int .i64 kd,.int .i64 a0,.string (ae nm),.string (ae vl),.int .i64 xa,.int .i64 xb,.int .i64 xc,.int .i64 xd,.slice A ks.length cap]) (ag rfl _ _ w.heap.size 25 _ _ _ rfl (av hres _ _ _ _ _ _ _ _ _) Tryz.underlying25 rfl (by kernel_rfl)) rfl ?_
    have hbl:=ak (W:=W3) (Nat.le_refl w.heap.size) (.int .i64 kd) (.int .i64 a0) (.string (ae nm)) (.string (ae vl)) (.int .i64 xa) (.int .i64 xb) (.int .i64 xc) (.int .i64 xd) (.slice A ks.length cap)
    exact ⟨⟨_,rfl,_,rfl,(cN.out.keeps (ax (C:=fun b=>b≤w.heap.size∨b=w1.heap.size) (.inl (Nat.le_refl _)) _ _ _ _ _ _ _ _ _)).mono (fun b hb'=>.inl (Nat.le_of_lt hb'))⟩,H.out.above h3 hbl,bS.over hbl⟩
  |some q=>
   obtain ⟨⟨o,ho,Gp⟩,hlt⟩:=pJ hO
   have zZ:(q !=0)=true:=by
    have h1:∀o∈cP,(o.2 !=0)=true:=by decide
    rw [←Gp];exact h1 o ho
   have hE:rL p.L p.en cP k1=.returned (.tuple #[.int .i64 q,.int .i64 (dy p.L p.en k1)]):=by unfold rL;rw [hO]
   have hN:rM p.L cP k1=k1+1:=by unfold rM;rw [hO]
   rw [hE,hN] at OP
   clear hE hN ho Gp hO
   cases hx:dm (k1+1) with
   |err a er=>
    have TF:=aa (fun (W:World) (h:bc p W (k1+1))=>show Calls _ _ _ _ (bO p W (nh W.heap.size) (.err a er)) from by rw [←hx];exact HC.out (k1+1) W (by omega) h)
    show Calls _ _ _ _ (bO p w (nh w.heap.size) (.err a er))
    clear hx
    generalize dy p.L p.en k1=pl at*
    go_enter Tryz.func77,Tryz.ntmps77
    go_wp2_with fail
    refine C0.out.mono ?_
    rintro e w1 ⟨⟨v,rfl,cs,rfl,aB⟩,h1,hk⟩
    have hr1:Row w1 w.heap.size 25 bJ:=lN.out.keep hk (by show¬w.heap.size=p.b;omega)
    have hB1:w.heap.size<w1.heap.size:=hr1.lt
    have Iq:bR p w w1.heap.size (w1.alloc (.cells cs.toArray 25)) n1 cs k1:=
     ⟨h1.below ((Below.refl _ w1).alloc (Nat.le_refl _) _),((af.of_below ke.out (Nat.le_refl _)).trans hk).trans (af.of_below ((Below.refl _ w1).alloc (Nat.le_refl _) _) (Nat.le_refl _)),hr1.alloc _,Row.new w1 _ _,
      (aB.ge ((Below.refl _ w1).alloc (Nat.le_refl _) _)).mono (fun b hb=>by
       rcases hb with hb|rfl
       ·exact .inl (by rw [World.size_alloc];omega)
       ·exact .inr (Nat.le_refl _))⟩
    have I4:=aa Iq
    cases aB with
    |mk kd a0 nm vl xa xb xc xd ks A cap bF hl iG hr=>
     clear hl iG hr Iq hr1 hk h1
     generalize hW1:w1.alloc (.cells (aw kd a0 nm vl xa xb xc xd (.slice A ks.length cap)).toArray 25)=W1 at I4
     have dG:w1.alloc (.cells #[.int .i64 kd,.int .i64 a0,.string (ae nm),.string (ae vl),.int .i64 xa,.int .i64 xb,.int .i64 xc,.int .i64 xd,.slice A ks.length cap] 25)=W1:=hW1
     clear hW1
     unfold aw
     go_wp2_with fail
     clear dG
     refine (CM.out W1).mono ?_
     rintro e W2 ⟨rfl,rq,hb2⟩
     have hl2:bR p w w1.heap.size W2 _ _ k1:=I4.out.below aN hB1 hb2
     have XW:=aa (OP.out W2 _ hl2.at_ rq (by have:=I4.out.at_.row.lt;omega))
     have Tw:=aa hl2
     clear hb2 rq hl2
     go_wp2_with fail
     refine XW.out.mono ?_
     rintro e W3 ⟨rfl,h3,hk3⟩
     have hl3:=Tw.out.keep aN hB1 h3 hk3
     have zf:=aa hl3
     obtain ⟨h3,bS,hres,hrow,aB⟩:=hl3
     obtain ⟨d0,d1,d2,d3,d4,d5,d6,d7,d8⟩:=aj hrow
     have CX:=aa (TF.out W3.drew (h3.below ((Below.refl _ W3).drew)))
     have sQ:=aa (fun (W:World) (hk:af (fun c=>c=p.b) W3.drew W)=>show bO p w (nh w.heap.size) (PR.err a er) (.panicked [{v:=kE a er,recovered:=false}]) W from ⟨rfl,(bS.drew).trans hk⟩)
     clear hrow hres aB
     go_wp2_with fail
     refine wp_region_any (by kernel_rfl) ?_
     change wpAny _ _ _ _ _ _ _ (World.drew _)
     refine wpAny_take (i:=0) (v:=?_) rfl (by kernel_rfl) (by kernel_rfl) (by kernel_rfl) (fun _ _ _ h=>h) (Or.inl ⟨by rfl,?_⟩) ?_
     rotate_left
     ·intro w;go_simp;with_reducible rfl
     refine wpAny_take (i:=1) (v:=?_) rfl (by kernel_rfl) (by kernel_rfl) (by kernel_rfl) (fun _ _ _ h=>h) (Or.inl ⟨by rfl,?_⟩) ?_
     rotate_left
     ·intro w;go_simp;with_reducible rfl
     refine wpAny_take (i:=3) (v:=?_) rfl (by kernel_rfl) (by kernel_rfl) (by kernel_rfl) (fun _ _ _ h=>h) (Or.inl ⟨by rfl,?_⟩) ?_
     rotate_left
     ·intro w;go_simp;with_reducible rfl
     refine wpAny_ready (rs:=[2,4]) (by kernel_rfl) (by simp) ?_
     refine AllReady.cons rfl (fun K hK=>?_) (AllReady.cons rfl (fun K hK=>?_) AllReady.nil)
     ·go_simp
      refine hK _ _ ?_
      clear hK K
      refine wpAny_ready (rs:=[4]) (by kernel_rfl) (by simp) ?_
      refine AllReady.cons rfl (fun K hK=>?_) AllReady.nil
      go_simp
      refine CX.out.mono ?_
      rintro e w5 ⟨rfl,hk5⟩
      exact ⟨rfl,sQ.out _ hk5⟩
     ·go_simp
      refine CX.out.mono ?_
      rintro e w5 ⟨rfl,hk5⟩
      exact ⟨rfl,sQ.out _ hk5⟩
   |ok x k3=>
    have TF:=aa (fun (W:World) (h:bc p W (k1+1))=>show Calls _ _ _ _ (bO p W (nh W.heap.size) (.ok x k3)) from by rw [←hx];exact HC.out (k1+1) W (by omega) h)
    show Calls _ _ _ _ (bO p w (nh w.heap.size) (.ok (.mk q (dy p.L p.en k1) [] [] 0 0 0 0 [n1,x]) k3))
    clear hx
    generalize dy p.L p.en k1=pl at*
    go_enter Tryz.func77,Tryz.ntmps77
    go_wp2_with fail
    refine C0.out.mono ?_
    rintro e w1 ⟨⟨v,rfl,cs,rfl,aB⟩,h1,hk⟩
    have hr1:Row w1 w.heap.size 25 bJ:=lN.out.keep hk (by show¬w.heap.size=p.b;omega)
    have hB1:w.heap.size<w1.heap.size:=hr1.lt
    have Iq:bR p w w1.heap.size (w1.alloc (.cells cs.toArray 25)) n1 cs k1:=
     ⟨h1.below ((Below.refl _ w1).alloc (Nat.le_refl _) _),((af.of_below ke.out (Nat.le_refl _)).trans hk).trans (af.of_below ((Below.refl _ w1).alloc (Nat.le_refl _) _) (Nat.le_refl _)),hr1.alloc _,Row.new w1 _ _,
      (aB.ge ((Below.refl _ w1).alloc (Nat.le_refl _) _)).mono (fun b hb=>by
       rcases hb with hb|rfl
       ·exact .inl (by rw [World.size_alloc];omega)
       ·exact .inr (Nat.le_refl _))⟩
    have I4:=aa Iq
    cases aB with
    |mk kd a0 nm vl xa xb xc xd ks A cap bF hl iG hr=>
     clear hl iG hr Iq hr1 hk h1
     generalize hW1:w1.alloc (.cells (aw kd a0 nm vl xa xb xc xd (.slice A ks.length cap)).toArray 25)=W1 at I4
     have dG:w1.alloc (.cells #[.int .i64 kd,.int .i64 a0,.string (ae nm),.string (ae vl),.int .i64 xa,.int .i64 xb,.int .i64 xc,.int .i64 xd,.slice A ks.length cap] 25)=W1:=hW1
     clear hW1
     unfold aw
     go_wp2_with fail
     clear dG
     refine (CM.out W1).mono ?_
     rintro e W2 ⟨rfl,rq,hb2⟩
     have hl2:bR p w w1.heap.size W2 _ _ k1:=I4.out.below aN hB1 hb2
     have XW:=aa (OP.out W2 _ hl2.at_ rq (by have:=I4.out.at_.row.lt;omega))
     have Tw:=aa hl2
     clear hb2 rq hl2
     go_wp2_with fail
     refine XW.out.mono ?_
     rintro e W3 ⟨rfl,h3,hk3⟩
     have hl3:=Tw.out.keep aN hB1 h3 hk3
     have zf:=aa hl3
     obtain ⟨h3,bS,hres,hrow,aB⟩:=hl3
     obtain ⟨d0,d1,d2,d3,d4,d5,d6,d7,d8⟩:=aj hrow
     have CX:=aa (TF.out W3.drew (h3.below ((Below.refl _ W3).drew)))
     have Rk:¬(w1.heap.size=p.b):=by omega
     have I5:=aa hres
     have sk:=aa hrow
     have cN:=aa aB
     clear hrow hres aB
     go_wp2_with fail
     refine wp_region_any (by kernel_rfl) ?_
     change wpAny _ _ _ _ _ _ _ (World.drew _)
     refine wpAny_take (i:=0) (v:=?_) rfl (by kernel_rfl) (by kernel_rfl) (by kernel_rfl) (fun _ _ _ h=>h) (Or.inl ⟨by rfl,?_⟩) ?_
     rotate_left
     ·intro w;go_simp;with_reducible rfl
     refine wpAny_take (i:=1) (v:=?_) rfl (by kernel_rfl) (by kernel_rfl) (by kernel_rfl) (fun _ _ _ h=>h) (Or.inl ⟨by rfl,?_⟩) ?_
     rotate_left
     ·intro w;go_simp;with_reducible rfl
     refine wpAny_take (i:=3) (v:=?_) rfl (by kernel_rfl) (by kernel_rfl) (by kernel_rfl) (fun _ _ _ h=>h) (Or.inl ⟨by rfl,?_⟩) ?_
     rotate_left
     ·intro w;go_simp;with_reducible rfl
     refine wpAny_ready (rs:=[2,4]) (by kernel_rfl) (by simp) ?_
     refine AllReady.cons rfl (fun K hK=>?_) (AllReady.cons rfl (fun K hK=>?_) AllReady.nil)
     ·go_simp
      refine hK _ _ ?_
      clear hK K
      refine wpAny_ready (rs:=[4]) (by kernel_rfl) (by simp) ?_
      refine AllReady.cons rfl (fun K hK=>?_) AllReady.nil
      go_simp
      refine CX.out.mono ?_
      rintro e w5 ⟨⟨v,rfl,ou,rfl,gO⟩,h5,hk5⟩
      refine hK _ _ ?_
      clear hK K
      have cO:af (fun c=>c=p.b) W3 w5:=⟨hk5.os,hk5.tape,hk5.output,hk5.size,hk5.block⟩
      have lV:=sk.out.keep cO Rk
      have kG:Row w5 w.heap.size 25 bJ:=I5.out.keep cO (by show¬w.heap.size=p.b;omega)
      have Me:=aa gO
      have H5:=aa h5
      have uw:=aa cO
      cases gO with
      |mk yk y0 yn yv ya yb yc yd yks yA dp TG TH TI TJ=>
       unfold aw
       clear h5 hk5 cO TH TI TJ
       refine wpAny_ready (rs:=[5]) (by kernel_rfl) (by simp) ?_
       refine AllReady.cons rfl (fun K hK=>?_) AllReady.nil
       go_simp
       refine hK _ _ ?_
       clear hK K
       generalize kf:World.alloc w5 _=W6
       have lA:Row W6 w.heap.size 25 bJ:=by rw [←kf];exact kG.alloc _
       have bA:Below w5.heap.size w5 W6:=by rw [←kf];exact (Below.refl _ _).alloc (Nat.le_refl _) _
       have mg:=uw.out.size
       have hz3:w1.heap.size<W3.heap.size:=sk.out.lt
       have NK:=aa (sS (B:=w.heap.size+1) (((cN.out.keeps (uw.out.mono (fun b hb=>.inl (by show b≤_;have:b=p.b:=hb;omega)))).mono (fun b hb=>.inl (Nat.le_of_lt_succ hb)))) (Me.out.mono (fun b hb=>Nat.lt_of_lt_of_le hb (show w.heap.size+1≤W3.heap.size by omega))) (Nat.lt_succ_self _) (by omega) kf.symm q pl 0 0 0 0 [] [] 2)
       obtain ⟨e0,e1,e2,e3,e4,e5,e6,e7,e8⟩:=aj lA
       obtain ⟨Gr,Gs,EO,Gt,Gu,Gv,Gw,Gx,Gy⟩:=aA lA
       clear lV kG kf
       refine wpAny_ready (rs:=[6]) (by kernel_rfl) (by simp) ?_
       refine AllReady.cons rfl (fun K hK=>?_) AllReady.nil
       go_simp
       refine hK _ _ ?_
       clear hK K
       refine wpAny_ready (rs:=[7]) (by kernel_rfl) (by simp) ?_
       refine AllReady.cons rfl (fun K hK=>?_) AllReady.nil
       go_simp
       refine hK _ _ ?_
       clear hK K
       refine wpAny_done (by kernel_rfl) ?_ _
       go_wp2_with fail
       refine bodyPost_ret (v:=.agg #[.int .i64 q,.int .i64 pl,.string {data:=#[]},.string {data:=#[]},.int .i64 0,.int .i64 0,.int .i64 0,.int .i64 0,.slice (some ⟨w5.heap.size,0,none⟩) 2 2]) (ag rfl _ _ w.heap.size 25 _ _ _ rfl (av lA _ _ _ _ _ _ _ _ _) Tryz.underlying25 rfl (by kernel_rfl)) rfl ?_
       have hbl:=ak (W:=W6) (Nat.le_refl w.heap.size) (.int .i64 q) (.int .i64 pl) (.string {data:=#[]}) (.string {data:=#[]}) (.int .i64 0) (.int .i64 0) (.int .i64 0) (.int .i64 0) (.slice (some ⟨w5.heap.size,0,none⟩) 2 2)
       exact ⟨⟨_,rfl,NK.out⟩,H.out.above (H5.out.below bA) hbl,((bS.trans uw.out).trans (af.of_below bA (Nat.le_refl _))).over hbl⟩
     ·go_simp
      refine CX.out.mono ?_
      rintro e w5 ⟨⟨v,rfl,ou,rfl,gO⟩,h5,hk5⟩
      refine hK _ _ ?_
      clear hK K
      have cO:af (fun c=>c=p.b) W3 w5:=⟨hk5.os,hk5.tape,hk5.output,hk5.size,hk5.block⟩
      have lV:=sk.out.keep cO Rk
      have kG:Row w5 w.heap.size 25 bJ:=I5.out.keep cO (by show¬w.heap.size=p.b;omega)
      have Me:=aa gO
      have H5:=aa h5
      have uw:=aa cO
      cases gO with
      |mk yk y0 yn yv ya yb yc yd yks yA dp TG TH TI TJ=>
       unfold aw
       clear h5 hk5 cO TH TI TJ
       obtain ⟨c0,c1,c2,c3,c4,c5,c6,c7,c8⟩:=aj lV
       refine wpAny_ready (rs:=[2]) (by kernel_rfl) (by simp) ?_
       refine AllReady.cons rfl (fun K hK=>?_) AllReady.nil
       go_simp
       refine hK _ _ ?_
       clear hK K
       refine wpAny_ready (rs:=[5]) (by kernel_rfl) (by simp) ?_
       refine AllReady.cons rfl (fun K hK=>?_) AllReady.nil
       go_simp
       refine hK _ _ ?_
       clear hK K
       generalize kf:World.alloc w5 _=W6
       have lA:Row W6 w.heap.size 25 bJ:=by rw [←kf];exact kG.alloc _
       have bA:Below w5.heap.size w5 W6:=by rw [←kf];exact (Below.refl _ _).alloc (Nat.le_refl _) _
       have mg:=uw.out.size
       have hz3:w1.heap.size<W3.heap.size:=sk.out.lt
       have NK:=aa (sS (B:=w.heap.size+1) (((cN.out.keeps (uw.out.mono (fun b hb=>.inl (by show b≤_;have:b=p.b:=hb;omega)))).mono (fun b hb=>.inl (Nat.le_of_lt_succ hb)))) (Me.out.mono (fun b hb=>Nat.lt_of_lt_of_le hb (show w.heap.size+1≤W3.heap.size by omega))) (Nat.lt_succ_self _) (by omega) kf.symm q pl 0 0 0 0 [] [] 2)
       obtain ⟨e0,e1,e2,e3,e4,e5,e6,e7,e8⟩:=aj lA
       obtain ⟨Gr,Gs,EO,Gt,Gu,Gv,Gw,Gx,Gy⟩:=aA lA
       clear lV kG kf
       refine wpAny_ready (rs:=[6]) (by kernel_rfl) (by simp) ?_
       refine AllReady.cons rfl (fun K hK=>?_) AllReady.nil
       go_simp
       refine hK _ _ ?_
       clear hK K
       refine wpAny_ready (rs:=[7]) (by kernel_rfl) (by simp) ?_
       refine AllReady.cons rfl (fun K hK=>?_) AllReady.nil
       go_simp
       refine hK _ _ ?_
       clear hK K
       refine wpAny_done (by kernel_rfl) ?_ _
       go_wp2_with fail
       refine bodyPost_ret (v:=.agg #[.int .i64 q,.int .i64 pl,.string {data:=#[]},.string {data:=#[]},.int .i64 0,.int .i64 0,.int .i64 0,.int .i64 0,.slice (some ⟨w5.heap.size,0,none⟩) 2 2]) (ag rfl _ _ w.heap.size 25 _ _ _ rfl (av lA _ _ _ _ _ _ _ _ _) Tryz.underlying25 rfl (by kernel_rfl)) rfl ?_
       have hbl:=ak (W:=W6) (Nat.le_refl w.heap.size) (.int .i64 q) (.int .i64 pl) (.string {data:=#[]}) (.string {data:=#[]}) (.int .i64 0) (.int .i64 0) (.int .i64 0) (.int .i64 0) (.slice (some ⟨w5.heap.size,0,none⟩) 2 2)
       exact ⟨⟨_,rfl,NK.out⟩,H.out.above (H5.out.below bA) hbl,((bS.trans uw.out).trans (af.of_below bA (Nat.le_refl _))).over hbl⟩
def sq (p:PS):Prop:=∀x∈p.L,x.kind=4→∀W:World,Gl W→Calls Tryz.prog 183 #[.string (ae x.text)] W fun e w'=>e=.returned (.string (ae (yV x.text)))∧Below W.heap.size W w'
theorem bR.new {p:PS} {w w1:World} {n:Nd} {cs:List Value} {k B:Nat} (h1:bc p w1 k) (hk:af (fun c=>c=p.b) w w1) (hr:Row w1 w.heap.size 25 bJ) (aB:cG (fun b=>b<B) w1 n cs) (hB:w.heap.size<B):
 bR p w w1.heap.size (w1.alloc (.cells cs.toArray 25)) n cs k:=
 ⟨h1.below ((Below.refl _ w1).alloc (Nat.le_refl _) _),hk.trans (af.of_below ((Below.refl _ w1).alloc (Nat.le_refl _) _) (Nat.le_refl _)),hr.alloc _,Row.new w1 _ _,
  (aB.ge ((Below.refl _ w1).alloc (Nat.le_refl _) _)).mono (fun b hb=>by
   rcases hb with hb|rfl
   ·exact .inl (by omega)
   ·exact .inr (Nat.le_refl _))⟩
theorem bR.wrap {p:PS} {w W W6:World} {g k k0:Nat} {n:Nd} {cs:List Value} (H:bc p w k0) (aN:p.b<w.heap.size) (hB1:w.heap.size<g) (h:bR p w g W n cs k) (hW:W6=W.alloc (.cells [cs].flatten.toArray 25)) (q pl:Int):
 bR p w g (iP W6 g (.int .i64 q) (.int .i64 pl) (.string {data:=#[]}) (.string {data:=#[]}) (.int .i64 0) (.int .i64 0) (.int .i64 0) (.int .i64 0) (.slice (some ⟨W.heap.size,0,none⟩) 1 1)) (.mk q pl [] [] 0 0 0 0 [n]) (aw q pl [] [] 0 0 0 0 (.slice (some ⟨W.heap.size,0,none⟩) 1 1)) k:=by
 have hg:g<W.heap.size:=h.row.lt
 have bA:Below W.heap.size W W6:=by rw [hW];exact (Below.refl _ _).alloc (Nat.le_refl _) _
 have hnew:Row W6 W.heap.size 25 [cs].flatten.toArray:=by rw [hW];exact Row.new _ _ _
 have lA:Row W6 g 25 cs.toArray:=h.row.below bA hg
 have Gn:Row W6 w.heap.size 25 bJ:=h.res.below bA (by omega)
 have Rj:=ak (W:=W6) (Nat.le_of_lt hB1) (.int .i64 q) (.int .i64 pl) (.string {data:=#[]}) (.string {data:=#[]}) (.int .i64 0) (.int .i64 0) (.int .i64 0) (.int .i64 0) (.slice (some ⟨W.heap.size,0,none⟩) 1 1)
 have XO:=ak (W:=W6) (Nat.le_refl g) (.int .i64 q) (.int .i64 pl) (.string {data:=#[]}) (.string {data:=#[]}) (.int .i64 0) (.int .i64 0) (.int .i64 0) (.int .i64 0) (.slice (some ⟨W.heap.size,0,none⟩) 1 1)
 have Pa:=ax (C:=fun b=>b≤w.heap.size∨b=g) (W:=W6) (.inr rfl) (.int .i64 q) (.int .i64 pl) (.string {data:=#[]}) (.string {data:=#[]}) (.int .i64 0) (.int .i64 0) (.int .i64 0) (.int .i64 0) (.slice (some ⟨W.heap.size,0,none⟩) 1 1)
 have XX:=(af.of_below (C:=fun b=>b≤w.heap.size∨b=g) bA (Nat.le_refl _)).trans Pa
 refine ⟨H.above (h.at_.below bA) Rj,(h.keeps.trans (af.of_below bA (Nat.le_refl _))).over Rj,Gn.below XO hB1,?_,?_⟩
 ·have aB:=h.nd
  cases aB
  exact av lA _ _ _ _ _ _ _ _ _
 ·refine .mk q pl [] [] 0 0 0 0 [n] _ 1 [cs] rfl (fun i hi hi'=>?_) ?_ (Nat.le_refl _)
  ·match i,hi,hi' with
   |0,_,_=>exact h.nd.keeps XX
  ·exact zb (hnew.keep Pa (by rintro (h1|h1)<;>omega)) (fun c hc=>by rw [List.mem_singleton.1 hc];exact h.nd.len) (by rintro (h1|h1)<;>omega)
theorem bR.uC {p:PS} {w W:World} {g k k0:Nat} {kd a0 a b c d:Int} {nm vl:List UInt8} {ks:List Nd} {A:Option Addr} {cap:Nat} (H:bc p w k0) (hB1:w.heap.size<g) (h:bR p w g W (.mk kd a0 nm vl a b c d ks) (aw kd a0 nm vl a b c d (.slice A ks.length cap)) k) (v:Int):
 bR p w g (W.setCell ⟨g,4,none⟩ (.int .i64 v)) (.mk kd a0 nm vl v b c d ks) (aw kd a0 nm vl v b c d (.slice A ks.length cap)) k:=by
 have hb:Below w.heap.size W (W.setCell ⟨g,4,none⟩ (.int .i64 v)):=(Below.refl _ W).setCell (p:=⟨g,4,none⟩) (Nat.le_of_lt hB1) _
 have hk:af (fun b=>b≤w.heap.size∨b=g) W (W.setCell ⟨g,4,none⟩ (.int .i64 v)):=(af.refl _ W).set (.inl (.inr rfl)) 4 _
 refine ⟨H.above h.at_ hb,h.keeps.over hb,h.res.off (by omega) _ _,h.row.bg 4 _,?_⟩
 have aB:=h.nd.keeps hk
 generalize hcs:aw kd a0 nm vl a b c d (.slice A ks.length cap)=cs at aB
 cases aB with
 |mk _ _ _ _ _ _ _ _ _ A' cap' bF hl iG hr cI=>
  have e:Value.slice A ks.length cap=.slice A' ks.length cap':=by
   unfold aw at hcs
   simp only [List.cons.injEq] at hcs
   exact hcs.2.2.2.2.2.2.2.2.1
  injection e with e1 e2 e3
  subst e1;subst e3
  exact .mk _ _ _ _ _ _ _ _ _ _ _ bF hl iG hr cI
theorem bR.sr {p:PS} {w W:World} {g k k0:Nat} {kd a0 a b c d:Int} {nm vl:List UInt8} {ks:List Nd} {A:Option Addr} {cap:Nat} (H:bc p w k0) (hB1:w.heap.size<g) (h:bR p w g W (.mk kd a0 nm vl a b c d ks) (aw kd a0 nm vl a b c d (.slice A ks.length cap)) k) (v:Int):
 bR p w g (W.setCell ⟨g,5,none⟩ (.int .i64 v)) (.mk kd a0 nm vl a v c d ks) (aw kd a0 nm vl a v c d (.slice A ks.length cap)) k:=by
 have hb:Below w.heap.size W (W.setCell ⟨g,5,none⟩ (.int .i64 v)):=(Below.refl _ W).setCell (p:=⟨g,5,none⟩) (Nat.le_of_lt hB1) _
 have hk:af (fun b=>b≤w.heap.size∨b=g) W (W.setCell ⟨g,5,none⟩ (.int .i64 v)):=(af.refl _ W).set (.inl (.inr rfl)) 5 _
 refine ⟨H.above h.at_ hb,h.keeps.over hb,h.res.off (by omega) _ _,h.row.bg 5 _,?_⟩
 have aB:=h.nd.keeps hk
 generalize hcs:aw kd a0 nm vl a b c d (.slice A ks.length cap)=cs at aB
 cases aB with
 |mk _ _ _ _ _ _ _ _ _ A' cap' bF hl iG hr cI=>
  have e:Value.slice A ks.length cap=.slice A' ks.length cap':=by
   unfold aw at hcs
   simp only [List.cons.injEq] at hcs
   exact hcs.2.2.2.2.2.2.2.2.1
  injection e with e1 e2 e3
  subst e1;subst e3
  exact .mk _ _ _ _ _ _ _ _ _ _ _ bF hl iG hr cI
theorem bR.XY {p:PS} {w W:World} {g k k0:Nat} {kd a0 a b c d:Int} {nm vl:List UInt8} {ks:List Nd} {A:Option Addr} {cap:Nat} (H:bc p w k0) (hB1:w.heap.size<g) (h:bR p w g W (.mk kd a0 nm vl a b c d ks) (aw kd a0 nm vl a b c d (.slice A ks.length cap)) k) (v:Int):
 bR p w g (W.setCell ⟨g,6,none⟩ (.int .i64 v)) (.mk kd a0 nm vl a b v d ks) (aw kd a0 nm vl a b v d (.slice A ks.length cap)) k:=by
 have hb:Below w.heap.size W (W.setCell ⟨g,6,none⟩ (.int .i64 v)):=(Below.refl _ W).setCell (p:=⟨g,6,none⟩) (Nat.le_of_lt hB1) _
 have hk:af (fun b=>b≤w.heap.size∨b=g) W (W.setCell ⟨g,6,none⟩ (.int .i64 v)):=(af.refl _ W).set (.inl (.inr rfl)) 6 _
 refine ⟨H.above h.at_ hb,h.keeps.over hb,h.res.off (by omega) _ _,h.row.bg 6 _,?_⟩
 have aB:=h.nd.keeps hk
 generalize hcs:aw kd a0 nm vl a b c d (.slice A ks.length cap)=cs at aB
 cases aB with
 |mk _ _ _ _ _ _ _ _ _ A' cap' bF hl iG hr cI=>
  have e:Value.slice A ks.length cap=.slice A' ks.length cap':=by
   unfold aw at hcs
   simp only [List.cons.injEq] at hcs
   exact hcs.2.2.2.2.2.2.2.2.1
  injection e with e1 e2 e3
  subst e1;subst e3
  exact .mk _ _ _ _ _ _ _ _ _ _ _ bF hl iG hr cI
theorem bR.Tq {p:PS} {w W:World} {g k k0:Nat} {kd a0 a b c d:Int} {nm vl:List UInt8} {ks:List Nd} {A:Option Addr} {cap:Nat} (H:bc p w k0) (hB1:w.heap.size<g) (h:bR p w g W (.mk kd a0 nm vl a b c d ks) (aw kd a0 nm vl a b c d (.slice A ks.length cap)) k) (v:Int):
 bR p w g (W.setCell ⟨g,7,none⟩ (.int .i64 v)) (.mk kd a0 nm vl a b c v ks) (aw kd a0 nm vl a b c v (.slice A ks.length cap)) k:=by
 have hb:Below w.heap.size W (W.setCell ⟨g,7,none⟩ (.int .i64 v)):=(Below.refl _ W).setCell (p:=⟨g,7,none⟩) (Nat.le_of_lt hB1) _
 have hk:af (fun b=>b≤w.heap.size∨b=g) W (W.setCell ⟨g,7,none⟩ (.int .i64 v)):=(af.refl _ W).set (.inl (.inr rfl)) 7 _
 refine ⟨H.above h.at_ hb,h.keeps.over hb,h.res.off (by omega) _ _,h.row.bg 7 _,?_⟩
 have aB:=h.nd.keeps hk
 generalize hcs:aw kd a0 nm vl a b c d (.slice A ks.length cap)=cs at aB
 cases aB with
 |mk _ _ _ _ _ _ _ _ _ A' cap' bF hl iG hr cI=>
  have e:Value.slice A ks.length cap=.slice A' ks.length cap':=by
   unfold aw at hcs
   simp only [List.cons.injEq] at hcs
   exact hcs.2.2.2.2.2.2.2.2.1
  injection e with e1 e2 e3
  subst e1;subst e3
  exact .mk _ _ _ _ _ _ _ _ _ _ _ bF hl iG hr cI
end Go.Proofs.YtddoehnkgcbboaaGreatDoor
