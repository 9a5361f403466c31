/- A part of the proof that the last file tells. -/
import Derived.Test.YtddoehnkgcbboaaGreatDoorAgM
import Derived.Maps.Keyed
import Derived.DeepKeys4
set_option maxHeartbeats 16000000
set_option maxRecDepth 100000
set_option linter.unusedVariables false
set_option linter.unusedSimpArgs false
namespace Go
open Go.RowKit Go.Maps
def In64 (n:Int):Prop:=-9223372036854775808≤n∧n≤9223372036854775807
def xn (W:World) (r:Nat) (l:List (Value×Value)):Prop:=∃es clock,W.heap[r]? =some (.map es clock)∧es.toList.map (fun e=>(e.key,e.val))=l
theorem xn.lt {W:World} {r:Nat} {l:List (Value×Value)} (h:xn W r l):r<W.heap.size:=by
 obtain ⟨es,c,h,_⟩:=h;exact (Array.getElem?_eq_some_iff.1 h).1
theorem xn.below {W W':World} {r B:Nat} {l:List (Value×Value)} (h:xn W r l) (hb:Below B W W') (hr:r<B):xn W' r l:=by
 obtain ⟨es,c,h,hl⟩:=h;exact ⟨es,c,(hb.block r hr).trans h,hl⟩
theorem xn.keep {C:Nat→Prop} {W W':World} {r:Nat} {l:List (Value×Value)} (h:xn W r l) (hk:ah C W W') (hr:¬C r):xn W' r l:=by
 obtain ⟨es,c,h,hl⟩:=h;exact ⟨es,c,(hk.block r ((Array.getElem?_eq_some_iff.1 h).1) hr).trans h,hl⟩
theorem xn.made (W:World):xn (W.alloc (.map #[] 0)) W.heap.size []:=⟨#[],0,(MapKept.heap_alloc W _).1,rfl⟩
section
variable {P : Program} {W : World} {r : Nat} {l : List (Value × Value)} {mt kt et : TypeId}
theorem nU (K:Keyed P kt) (h:xn W r l) (hk:∀p∈l,∃y,keyOf P kt p.1=some y) {x:Value} {lx:Lit} (hx:keyOf P kt x=some lx):
 ∃es clock,W.heap[r]? =some (.map es clock)∧es.toList.map (fun e=>(e.key,e.val))=l∧
  (((Instr.findKey kt x es.toList).run P W=.ok none W∧∀p∈l,p.1≠x)∨∃j e,(Instr.findKey kt x es.toList).run P W=.ok (some (j,e.val)) W∧es.toList[j]? =some e∧e.key=x∧l[j]? =some (x,e.val)):=by
 obtain ⟨es,clock,hh,hl⟩:=h;refine ⟨es,clock,hh,hl,?_⟩;have hke:∀e∈es.toList,∃y,keyOf P kt e.key=some y:=fun e he=>hk (e.key,e.val) (by rw [←hl];exact List.mem_map.2 ⟨e,he,rfl⟩)
 rcases K.find W hx es.toList hke with ⟨h1,h2⟩|⟨j,e,h1,h2,h3⟩
 ·left;refine ⟨h1,fun p hp=>?_⟩;rw [←hl] at hp;obtain ⟨e,he,rfl⟩:=List.mem_map.1 hp;exact h2 e he
 ·right;refine ⟨j,e,h1,h2,h3,?_⟩;rw [←hl,List.getElem?_map,h2];simp [h3]
theorem vV (K:Keyed P kt) (hm:P.underlying mt=some (.map kt et)) (h:xn W r l) (hk:∀p∈l,∃y,keyOf P kt p.1=some y) (hd:l.Pairwise fun p q=>p.1≠q.1) {x v:Value} {lx:Lit} (hx:keyOf P kt x=some lx) (hin:(x,v)∈l) (ok:Bool):
 (Instr.lookup mt (.map (some r)) x ok).run P W=.ok (if ok then .tuple #[v,.bool true] else v) W:=by
 obtain ⟨es,clock,hh,hl,hf⟩:=nU K h hk hx
 rcases hf with ⟨_,h2⟩|⟨j,e,h1,h2,h3,h4⟩
 ·exact absurd rfl (h2 (x,v) hin)
 ·have hv:e.val=v:=by
   obtain ⟨i,hi⟩:=List.mem_iff_getElem?.1 hin
   rcases Nat.lt_trichotomy i j with hij|hij|hij
   ·obtain ⟨a1,a2⟩:=List.getElem?_eq_some_iff.1 hi;obtain ⟨b1,b2⟩:=List.getElem?_eq_some_iff.1 h4;have:=List.pairwise_iff_getElem.1 hd i j a1 b1 hij;rw [a2,b2] at this;exact absurd rfl this
   ·subst hij;rw [hi] at h4;exact (congrArg Prod.snd (au h4)).symm
   ·obtain ⟨a1,a2⟩:=List.getElem?_eq_some_iff.1 hi;obtain ⟨b1,b2⟩:=List.getElem?_eq_some_iff.1 h4;have:=List.pairwise_iff_getElem.1 hd j i b1 a1 hij;rw [a2,b2] at this;exact absurd rfl this
  have hc:=K.check W es.isEmpty hx;subst hv
  cases ok<;>simp [Instr.lookup,run_underlying hm,MapKept.run_getObj_map hh,hc,h1,Result.andThen]
theorem CR (K:Keyed P kt) (hm:P.underlying mt=some (.map kt et)) (h:xn W r l) (hk:∀p∈l,∃y,keyOf P kt p.1=some y) {x z:Value} {lx:Lit} (hx:keyOf P kt x=some lx) (hout:∀p∈l,p.1≠x) (hz:(zeroValue et).run P W=.ok z W) (ok:Bool):
 (Instr.lookup mt (.map (some r)) x ok).run P W=.ok (if ok then .tuple #[z,.bool false] else z) W:=by
 obtain ⟨es,clock,hh,hl,hf⟩:=nU K h hk hx
 rcases hf with ⟨h1,_⟩|⟨j,e,_,_,_,h4⟩
 ·have hc:=K.check W es.isEmpty hx
  cases ok<;>simp [Instr.lookup,run_underlying hm,MapKept.run_getObj_map hh,hc,h1,hz,Result.andThen]
 ·exact absurd rfl (hout _ (List.mem_of_getElem? h4))
theorem pD (K:Keyed P kt) (hm:P.underlying mt=some (.map kt et)) (h:xn W r l) (hk:∀p∈l,∃y,keyOf P kt p.1=some y) {x:Value} {lx:Lit} (hx:keyOf P kt x=some lx) (hout:∀p∈l,p.1≠x) (v:Value):
 ∃W',(Instr.mapUpdate mt (.map (some r)) x v).run P W=.ok () W'∧xn W' r (l++[(x,v)])∧ah (fun b=>b=r) W W'∧W'.heap.size=W.heap.size:=by
 obtain ⟨es,clock,hh,hl,hf⟩:=nU K h hk hx
 rcases hf with ⟨h1,_⟩|⟨j,e,_,_,_,h4⟩
 ·have hc:=K.check W false hx;refine ⟨{W with heap:=W.heap.setIfInBounds r (.map (es.push {key:=x,val:=v,born:=clock}) (clock+1))},by simp [Instr.mapUpdate,run_underlying hm,MapKept.run_getObj_map hh,hc,h1,MapKept.run_setObj_map _ hh,Result.andThen],⟨_,_,(MapKept.heap_set hh).1,by simp [hl]⟩,⟨rfl,rfl,rfl,by simp,fun b hb hn=>(MapKept.heap_set hh).2 b hn⟩,by simp⟩
 ·exact absurd rfl (hout _ (List.mem_of_getElem? h4))
end
end Go
namespace Go.Proofs.YtddoehnkgcbboaaGreatDoor
open Go.RowKit Go.Shelf Go.Maps
open Go.ChangeMaps (setBlock)
theorem mO:Keyed Tryz.prog 3:=int_keyed Tryz.underlying3
theorem acN {n:Int} (h:In64 n):(Lit.int .i64 n).wf=true:=by
 first
  |exact WalkArith.wf_i64 h.1 h.2
  |exact WalkArith.wf_i64 ⟨h.1,h.2⟩
  |(obtain ⟨h1,h2⟩:=h;simp [Lit.wf,IntKind.wrap_i64];omega)
theorem mq {n:Int} (h:In64 n):keyOf Tryz.prog 3 (.int .i64 n)=some (.int .i64 n):=keyOf_int_mk Tryz.underlying3 (acN h)
def l7 (ops:List (List UInt8×Int)) (kind:Int):Option (List UInt8):=(ops.find? fun o=>o.2=kind).map (·.1)
def Qw:Option (List UInt8)→Ending
 |some s=>.returned (.tuple #[.string (ag s),.bool true])
 |none=>.returned (.tuple #[.string {data:=#[]},.bool false])
def gF (ops:List (List UInt8×Int)):Prop:=∀a∈ops,∀b∈ops,a.2=b.2→a.1=b.1
theorem IK {ops:List (List UInt8×Int)} {o:List UInt8×Int} (hu:gF ops) (ho:o∈ops):l7 ops o.2=some o.1:=by
 unfold l7
 cases hf:ops.find? (fun p=>decide (p.2=o.2)) with
 |none=>exact absurd (decide_eq_true rfl) (List.find?_eq_none.1 hf o ho)
 |some x=>
  have hx:x.2=o.2:=by simpa using List.find?_some hf
  show some x.1=some o.1;rw [hu x (List.mem_of_find?_eq_some hf) o ho hx]
theorem IL {ops:List (List UInt8×Int)} {k:Int} (h:∀o∈ops,o.2≠k):l7 ops k=none:=by
 unfold l7;rw [List.find?_eq_none.2 (fun o ho=>by rw [decide_eq_false (h o ho)];decide)];rfl
structure YM (w:World) (bm:Nat) (r:Nat) (clock:Nat) (W:World) (seen:Array Nat) (c0:Nat):Prop where
 below:Below w.heap.size w W
 it:W.heap[r]? =some (.mapIter (some bm) clock seen c0)
 since:clock≤c0
theorem nV (bm:Nat) (ops:List (List UInt8×Int)) (kind:Int) (w:World) (hm:nR w bm ops) (hu:gF ops):
 Calls Tryz.prog 70 #[.map (some bm),.int .i64 kind] w fun e w'=>e=Qw (l7 ops kind)∧Below w.heap.size w w':=by
 obtain ⟨es,clock,hes,km,vS,hnd⟩:=hm;have Wv:bm<w.heap.size:=(Array.getElem?_eq_some_iff.1 hes).1;have hrg:=run_range_map (P:=Tryz.prog) w 63 9 3 bm es clock Tryz.underlying63 hes
 have KV:=hide (fun (e:MapEntry) (he:e∈es.toList)=>show ∃o∈ops,e.key=.string (ag o.1)∧e.val=.int .i64 o.2 from by
  have h1:(e.key,e.val)∈es.toList.map fun e=>(e.key,e.val):=List.mem_map.2 ⟨e,he,rfl⟩;rw [km] at h1;obtain ⟨o,ho,Ae⟩:=List.mem_map.1 h1
  exact ⟨o,ho,(congrArg Prod.fst Ae).symm,(congrArg Prod.snd Ae).symm⟩)
 have VK:=hide (fun (o:List UInt8×Int) (ho:o∈ops)=>show ∃e∈es.toList,e.val=.int .i64 o.2 from by
  have h1:(Value.string (ag o.1),Value.int .i64 o.2)∈ops.map (fun o=>(Value.string (ag o.1),Value.int .i64 o.2)):=List.mem_map.2 ⟨o,ho,rfl⟩;rw [←km] at h1;obtain ⟨e,he,Ae⟩:=List.mem_map.1 h1
  exact ⟨e,he,congrArg Prod.snd Ae⟩)
 have HU:=hide hu;have HBN:=hide vS;have fR:=hide hnd;have YE:=hide hes
 have HA:=hide (show YM w bm w.heap.size clock (w.alloc (.mapIter (some bm) clock #[] clock)) #[] clock from
  ⟨(af _ w).alloc (aa _) _,heap_alloc_new w _,aa _⟩)
 obtain ⟨RR,lM⟩:∃RR,l7 ops kind=RR:=⟨_,rfl⟩
 have vU:=hide lM;rw [lM];clear km vS hnd hes hu lM;go_enter Tryz.func70,Tryz.ntmps70;go_wp2_with fail;clear hrg
 go_loopw [] (fun W=>∃(seen:Array Nat) (c0:Nat),YM w bm w.heap.size clock W seen c0∧∀e∈es.toList,e.born∈seen→e.val≠.int .i64 kind) (fun W=>(leftOf es (W.iterSeen w.heap.size)).size)
 case atStart=>exact ⟨#[],clock,HA.o,fun e _ he=>absurd he (by simp)⟩
 case round=>
  obtain ⟨seen,c0,hat,hno⟩:=hrel;have hmap:wr.heap[bm]? =some (.map es clock):=(hat.below.block bm Wv).trans YE.o;have law:=run_next_at (P:=Tryz.prog) wr 0 w.heap.size bm clock c0 seen es clock hat.it hmap HBN.o hat.since
  rcases law with ⟨h0,hrun⟩|⟨e,he,w1,hw1,hrun⟩
  ·have hnx:∀ty,(Instr.next (.pointer (some ⟨w.heap.size,0,none⟩)) false ty).run Tryz.prog wr=_:=fun _=>hrun
   have hall:∀e∈es.toList,e.born∈seen:=fun e he=>by
    by_cases hc:e.born∈seen
    ·exact hc
    ·exfalso
     have:e∈leftOf es seen:=by
      unfold leftOf;rw [Array.mem_filter];exact ⟨by simpa using he,by simpa using hc⟩
     have h1:=Array.size_pos_of_mem this;omega
   have hnone:l7 ops kind=none:=IL fun o ho e1=>by
    obtain ⟨e,he,hk⟩:=VK.o o ho;exact hno e he (hall e he) (by rw [hk,e1])
   have HF:=ae (RR=none∧Below w.heap.size w wr) (⟨vU.o.symm.trans hnone,hat.below⟩);clear hno hall hnone hat hrun hmap;go_wp2
   go_ret2
   exact ⟨by rw [HF.o.1];rfl,HF.o.2⟩
  ·obtain ⟨o,ho,hkey,hval⟩:=KV.o e (mem_left he).1;rw [hkey,hval] at hrun;obtain ⟨b1,b2,b3,b4,b5,b6⟩:=jX (o':=.mapIter (some bm) clock (seen.push e.born) clock) hat.it hw1
   obtain ⟨W2,hW2⟩:∃W2,W2=setBlock w1 w.heap.size (.mapIter (some bm) clock (seen.push e.born) clock):=⟨_,rfl⟩
   rw [←hW2] at hrun b1 b2 b3 b4 b5 b6
   have hB:Below w.heap.size wr W2:=⟨b5,b4,b6,Nat.le_of_eq b3.symm,fun b hb=>b2 b (by omega)⟩
   have tP:YM w bm w.heap.size clock W2 (seen.push e.born) clock:=⟨hat.below.trans hB,b1,aa _⟩
   have hmap2:W2.heap[bm]? =some (.map es clock):=(tP.below.block bm Wv).trans YE.o;have hnx:∀ty,(Instr.next (.pointer (some ⟨w.heap.size,0,none⟩)) false ty).run Tryz.prog wr=_:=fun _=>hrun;have hen:=run_entry_at (P:=Tryz.prog) W2 w.heap.size bm clock seen es clock e b1 hmap2 (mem_left he).1 fR.o;rw [hkey,hval] at hen;have HE:=hide he;have HV:=hide hval;have CG:=hide tP;have Ti:=hide hno;have HIT:=hide hat.it;by_cases hq:o.2=kind
   ·have h1:l7 ops kind=some o.1:=by rw [←hq];exact IK HU.o ho
    have HF:=hide (vU.o.symm.trans h1);have hq1:(o.2==kind)=true:=beq_iff_eq.2 hq;clear b1 b2 b3 b4 b5 b6 hW2 hB he hkey hval hno hrun hat hw1 tP hmap hmap2 h1 hq;go_wp2
    go_ret2
    exact ⟨by rw [HF.o];rfl,CG.o.below⟩
   ·have hq1:(o.2==kind)=false:=aP.2 hq;have HQ:=hide hq;clear b1 b2 b3 b4 b5 b6 hW2 hB he hkey hval hno hrun hat hw1 tP hmap hmap2 hq;go_wp2;go_roundw
    case rel=>exact ⟨seen.push e.born,clock,CG.o,fun e' he' hs hv=>by
     rcases Array.mem_push.1 hs with h1|h1
     ·exact Ti.o e' he' h1 hv
     ·have:e'=e:=by
       have h2:=find_born e es.toList fR.o (mem_left HE.o).1;have h3:=find_born e' es.toList fR.o he';rw [h1] at h3;exact au (h3.symm.trans h2)
      subst this;have h5:=HV.o.symm.trans hv;injection h5 with _ h5
      exact HQ.o h5⟩
    case measure=>
     have e1:W2.iterSeen w.heap.size=seen.push e.born:=by unfold World.iterSeen;rw [CG.o.it]
     have e2:wr.iterSeen w.heap.size=seen:=by unfold World.iterSeen;rw [HIT.o]
     rw [e1,e2];exact left_shrinks es seen e HE.o
end Go.Proofs.YtddoehnkgcbboaaGreatDoor
namespace Go.Proofs.YtddoehnkgcbboaaGreatDoor
open Go.RowKit Go.Shelf Go.Maps
open Go.ChangeMaps (setBlock)
def lQ (x:List UInt8×Int×Int×Int):Value:=.agg #[.string (ag x.1),.int .i64 x.2.1,.int .i64 x.2.2.1,.int .i64 x.2.2.2]
def mP (o:List UInt8×Int):Value×Value:=(.int .i64 o.2,lQ (o.1,3,4,4))
def gy:List (Value×Value):=[(.int .i64 30,lQ ([124,124],0,0,1)),(.int .i64 29,lQ ([38,38],1,1,2)),(.int .i64 10,lQ ([124],4,4,5)),(.int .i64 11,lQ ([94],5,5,6)),(.int .i64 9,lQ ([38],6,6,7)),(.int .i64 12,lQ ([43],7,7,8)),(.int .i64 13,lQ ([45],7,7,8)),(.int .i64 46,lQ ([111,114],10,10,11))]
def nW (l:List (Value×Value)):Prop:=∀p∈l,∃n:Int,In64 n∧p.1=.int .i64 n
def pE (W:World) (r:Nat):Prop:=∃l,xn W r l∧nW l∧(l.Pairwise fun p q=>p.1≠q.1)∧∀k x,(Value.int .i64 k,x)∈l↔(gq k).map lQ=some x
theorem pE.below {W W':World} {r:Nat} (h:pE W r) (hb:Below W.heap.size W W'):pE W' r:=by
 obtain ⟨l,h1,h2⟩:=h;exact ⟨l,h1.below hb h1.lt,h2⟩
theorem nW.key {l:List (Value×Value)} (h:nW l):∀p∈l,∃y,keyOf Tryz.prog 3 p.1=some y:=fun p hp=>by
 obtain ⟨n,hn,e⟩:=h p hp;rw [e];exact ⟨_,mq hn⟩
theorem UX (W:World):(zeroValue 100).run Tryz.prog W=.ok (.agg #[.string {data:=#[]},.int .i64 0,.int .i64 0,.int .i64 0]) W:=by kernel_rfl
def MJ (k:Int):Value:=match gq k with|some x=>.tuple #[lQ x,.bool true]|none=>.tuple #[.agg #[.string {data:=#[]},.int .i64 0,.int .i64 0,.int .i64 0],.bool false]
theorem E6 {W:World} {r:Nat} (h:pE W r) {k:Int} (hk:In64 k):(Instr.lookup 102 (.map (some r)) (.int .i64 k) true).run Tryz.prog W=.ok (MJ k) W:=by
 obtain ⟨l,h1,h2,h3,h4⟩:=h;unfold MJ
 cases hq:gq k with
 |some x=>
  exact vV mO Tryz.underlying102 h1 h2.key h3 (mq hk) ((h4 k (lQ x)).2 (by rw [hq];rfl)) true
 |none=>
  refine CR mO Tryz.underlying102 h1 h2.key (mq hk) (fun p hp e=>?_) (UX W) true;have h5:=(h4 k p.2).1 (by rw [←e];exact hp);rw [hq] at h5;cases h5
theorem CU {W:World} {r:Nat} {l:List (Value×Value)} (h:xn W r l) (hk:nW l) {k:Int} (hn:In64 k) (hout:∀p∈l,p.1≠.int .i64 k) (x:Value):
 ∃W',(Instr.mapUpdate 102 (.map (some r)) (.int .i64 k) x).run Tryz.prog W=.ok () W'∧xn W' r (l++[(.int .i64 k,x)])∧nW (l++[(.int .i64 k,x)])∧ah (fun b=>b=r) W W':=by
 obtain ⟨W',h1,h2,h3,_⟩:=pD mO Tryz.underlying102 h hk.key (mq hn) hout x;refine ⟨W',h1,h2,fun p hp=>?_,h3⟩
 rcases List.mem_append.1 hp with hp|hp
 ·exact hk p hp
 ·rw [List.mem_singleton.1 hp];exact ⟨k,hn,rfl⟩
theorem Bh:nW gy:=by
 intro p hp;simp only [gy,List.mem_cons,List.not_mem_nil,or_false] at hp
 rcases hp with rfl|rfl|rfl|rfl|rfl|rfl|rfl|rfl
 all_goals exact ⟨_,⟨by decide,by decide⟩,rfl⟩
theorem Bi {k:Int} (h0:18<k) (h1:k<27):∀p∈gy,p.1≠.int .i64 k:=by
 intro p hp e;simp only [gy,List.mem_cons,List.not_mem_nil,or_false] at hp
 rcases hp with rfl|rfl|rfl|rfl|rfl|rfl|rfl|rfl
 all_goals (injection e with _ e;omega)
theorem qm {o:List UInt8×Int} (h:o∈eK):18<o.2∧o.2<27:=by
 simp only [eK,List.mem_cons,List.not_mem_nil,or_false] at h
 rcases h with rfl|rfl|rfl|rfl|rfl|rfl|rfl|rfl
 all_goals exact ⟨by decide,by decide⟩
theorem MK:gF eK:=by unfold gF eK;decide
theorem Qx {a b:List UInt8×Int} (ha:a∈eK) (hb:b∈eK) (h:a.2=b.2):a=b:=Prod.ext (MK a ha b hb h) h
theorem UY (k:Int) (x:Value):(Value.int .i64 k,x)∈gy++eK.map mP↔(gq k).map lQ=some x:=by
 constructor
 ·intro h;simp only [gy,eK,mP,List.map_cons,List.map_nil,List.cons_append,List.nil_append,List.mem_cons,List.not_mem_nil,or_false,Prod.mk.injEq,Value.int.injEq,true_and] at h
  rcases h with ⟨rfl,rfl⟩|⟨rfl,rfl⟩|⟨rfl,rfl⟩|⟨rfl,rfl⟩|⟨rfl,rfl⟩|⟨rfl,rfl⟩|⟨rfl,rfl⟩|⟨rfl,rfl⟩|⟨rfl,rfl⟩|⟨rfl,rfl⟩|⟨rfl,rfl⟩|⟨rfl,rfl⟩|⟨rfl,rfl⟩|⟨rfl,rfl⟩|⟨rfl,rfl⟩|⟨rfl,rfl⟩
  all_goals rfl
 ·intro h;obtain ⟨y,hy,rfl⟩:=Option.map_eq_some_iff.1 h;unfold gq at hy;by_cases UZ:k=30
  ·rw [if_pos UZ] at hy;cases hy;subst UZ;simp [gy,eK,mP]
  rw [if_neg UZ] at hy;by_cases U0:k=29
  ·rw [if_pos U0] at hy;cases hy;subst U0;simp [gy,eK,mP]
  rw [if_neg U0] at hy;by_cases e10:k=10
  ·rw [if_pos e10] at hy;cases hy;subst e10;simp [gy,eK,mP]
  rw [if_neg e10] at hy;by_cases e11:k=11
  ·rw [if_pos e11] at hy;cases hy;subst e11;simp [gy,eK,mP]
  rw [if_neg e11] at hy;by_cases e9:k=9
  ·rw [if_pos e9] at hy;cases hy;subst e9;simp [gy,eK,mP]
  rw [if_neg e9] at hy;by_cases e12:k=12
  ·rw [if_pos e12] at hy;cases hy;subst e12;simp [gy,eK,mP]
  rw [if_neg e12] at hy;by_cases Qy:k=13
  ·rw [if_pos Qy] at hy;cases hy;subst Qy;simp [gy,eK,mP]
  rw [if_neg Qy] at hy;by_cases Lm:k=46
  ·rw [if_pos Lm] at hy;cases hy;subst Lm;simp [gy,eK,mP]
  rw [if_neg Lm] at hy;by_cases e19:k=19
  ·rw [if_pos e19] at hy;cases hy;subst e19;simp [gy,eK,mP]
  rw [if_neg e19] at hy;by_cases U1:k=20
  ·rw [if_pos U1] at hy;cases hy;subst U1;simp [gy,eK,mP]
  rw [if_neg U1] at hy;by_cases U2:k=21
  ·rw [if_pos U2] at hy;cases hy;subst U2;simp [gy,eK,mP]
  rw [if_neg U2] at hy;by_cases U3:k=22
  ·rw [if_pos U3] at hy;cases hy;subst U3;simp [gy,eK,mP]
  rw [if_neg U3] at hy;by_cases U4:k=23
  ·rw [if_pos U4] at hy;cases hy;subst U4;simp [gy,eK,mP]
  rw [if_neg U4] at hy;by_cases U5:k=24
  ·rw [if_pos U5] at hy;cases hy;subst U5;simp [gy,eK,mP]
  rw [if_neg U5] at hy;by_cases U6:k=25
  ·rw [if_pos U6] at hy;cases hy;subst U6;simp [gy,eK,mP]
  rw [if_neg U6] at hy;by_cases U7:k=26
  ·rw [if_pos U7] at hy;cases hy;subst U7;simp [gy,eK,mP]
  rw [if_neg U7] at hy;cases hy
theorem Bj {α β:Type} {f:α→β}:∀{l:List α},(l.map f).Nodup→∀{a b:α},a∈l→b∈l→f a=f b→a=b
 |[],_,a,b,ha,_,_=>by cases ha
 |x::r,h,a,b,ha,hb,e=>by
  rw [List.map_cons,List.nodup_cons] at h
  rcases List.mem_cons.1 ha with ha1|ha1<;>rcases List.mem_cons.1 hb with hb1|hb1
  ·rw [ha1,hb1]
  ·exact absurd (List.mem_map.2 ⟨b,hb1,by rw [←e,ha1]⟩) h.1
  ·exact absurd (List.mem_map.2 ⟨a,ha1,by rw [e,hb1]⟩) h.1
  ·exact Bj h.2 ha1 hb1 e
structure Qz (w:World) (r bm it clock:Nat) (W:World) (seen:Array Nat) (c0:Nat) (D:List (List UInt8×Int)):Prop where
 keeps:ah (fun b=>b=r) w W
 it:W.heap[it]? =some (.mapIter (some bm) clock seen c0)
 since:clock≤c0
 map:xn W r (gy++D.map mP)
 sub:∀o∈D,o∈eK
 once:D.Pairwise fun a b=>a.2≠b.2
theorem Qz.done {w:World} {r bm it clock:Nat} {W:World} {seen:Array Nat} {c0:Nat} {D:List (List UInt8×Int)} (h:Qz w r bm it clock W seen c0 D) (hall:∀o∈eK,o∈D):pE W r:=by
 refine ⟨_,h.map,fun p hp=>?_,?_,fun k x=>?_⟩
 ·rcases List.mem_append.1 hp with hp|hp
  ·exact Bh p hp
  ·obtain ⟨o,ho,rfl⟩:=List.mem_map.1 hp;obtain ⟨h1,h2⟩:=qm (h.sub o ho);exact ⟨o.2,⟨by omega,by omega⟩,rfl⟩
 ·refine List.pairwise_append.2 ⟨?_,?_,?_⟩
  ·unfold gy;simp only [List.pairwise_cons,List.mem_cons,List.not_mem_nil,or_false];refine ⟨?_,?_,?_,?_,?_,?_,?_,?_,List.Pairwise.nil⟩
   all_goals (intro q hq e;revert e;first|(rcases hq with rfl|rfl|rfl|rfl|rfl|rfl|rfl)|(rcases hq with rfl|rfl|rfl|rfl|rfl|rfl)|(rcases hq with rfl|rfl|rfl|rfl|rfl)|(rcases hq with rfl|rfl|rfl|rfl)|(rcases hq with rfl|rfl|rfl)|(rcases hq with rfl|rfl)|(subst hq)|(cases hq))
   all_goals (intro e;injection e with _ e;exact absurd e (by decide))
  ·rw [List.pairwise_map];exact h.once.imp (fun hne e=>hne (by injection e))
  ·intro p hp q hq;obtain ⟨o,ho,rfl⟩:=List.mem_map.1 hq;obtain ⟨h1,h2⟩:=qm (h.sub o ho);exact Bi h1 h2 p hp
 ·rw [←UY];constructor
  ·intro hm
   rcases List.mem_append.1 hm with hm|hm
   ·exact List.mem_append_left _ hm
   ·obtain ⟨o,ho,e⟩:=List.mem_map.1 hm;exact List.mem_append_right _ (List.mem_map.2 ⟨o,h.sub o ho,e⟩)
  ·intro hm
   rcases List.mem_append.1 hm with hm|hm
   ·exact List.mem_append_left _ hm
   ·obtain ⟨o,ho,e⟩:=List.mem_map.1 hm;exact List.mem_append_right _ (List.mem_map.2 ⟨o,hall o ho,e⟩)
theorem vW (w:World):Calls Tryz.prog 68 #[] w fun e w'=>e=.returned (.map (some w.heap.size))∧pE w' w.heap.size∧Below w.heap.size w w':=by
 have hmm:=@run_makeMap Tryz.prog;have m0:xn (w.alloc (.map #[] 0)) w.heap.size []:=xn.made w
 have n0:nW []:=fun p hp=>by cases hp
 obtain ⟨W1,r1,m1,n1,b1⟩:=CU m0 n0 (k:=30) ⟨by decide,by decide⟩ (fun p hp=>by cases hp) (lQ ([124,124],0,0,1));obtain ⟨W2,r2,m2,n2,b2⟩:=CU m1 n1 (k:=29) ⟨by decide,by decide⟩ (by simp) (lQ ([38,38],1,1,2));obtain ⟨W3,r3,m3,n3,b3⟩:=CU m2 n2 (k:=10) ⟨by decide,by decide⟩ (by simp) (lQ ([124],4,4,5));obtain ⟨W4,r4,m4,n4,b4⟩:=CU m3 n3 (k:=11) ⟨by decide,by decide⟩ (by simp) (lQ ([94],5,5,6));obtain ⟨W5,r5,m5,n5,b5⟩:=CU m4 n4 (k:=9) ⟨by decide,by decide⟩ (by simp) (lQ ([38],6,6,7));obtain ⟨W6,r6,m6,n6,b6⟩:=CU m5 n5 (k:=12) ⟨by decide,by decide⟩ (by simp) (lQ ([43],7,7,8));obtain ⟨W7,r7,m7,n7,b7⟩:=CU m6 n6 (k:=13) ⟨by decide,by decide⟩ (by simp) (lQ ([45],7,7,8));obtain ⟨W8,r8,m8,n8,b8⟩:=CU m7 n7 (k:=46) ⟨by decide,by decide⟩ (by simp) (lQ ([111,114],10,10,11));have u1:(Instr.mapUpdate 102 (.map (some w.heap.size)) (.int .i64 30) (.agg #[.string {data:=#[124,124]},.int .i64 0,.int .i64 0,.int .i64 1])).run Tryz.prog (w.alloc (.map #[] 0))=.ok () W1:=r1;have u2:(Instr.mapUpdate 102 (.map (some w.heap.size)) (.int .i64 29) (.agg #[.string {data:=#[38,38]},.int .i64 1,.int .i64 1,.int .i64 2])).run Tryz.prog W1=.ok () W2:=r2;have u3:(Instr.mapUpdate 102 (.map (some w.heap.size)) (.int .i64 10) (.agg #[.string {data:=#[124]},.int .i64 4,.int .i64 4,.int .i64 5])).run Tryz.prog W2=.ok () W3:=r3;have u4:(Instr.mapUpdate 102 (.map (some w.heap.size)) (.int .i64 11) (.agg #[.string {data:=#[94]},.int .i64 5,.int .i64 5,.int .i64 6])).run Tryz.prog W3=.ok () W4:=r4;have u5:(Instr.mapUpdate 102 (.map (some w.heap.size)) (.int .i64 9) (.agg #[.string {data:=#[38]},.int .i64 6,.int .i64 6,.int .i64 7])).run Tryz.prog W4=.ok () W5:=r5;have u6:(Instr.mapUpdate 102 (.map (some w.heap.size)) (.int .i64 12) (.agg #[.string {data:=#[43]},.int .i64 7,.int .i64 7,.int .i64 8])).run Tryz.prog W5=.ok () W6:=r6;have u7:(Instr.mapUpdate 102 (.map (some w.heap.size)) (.int .i64 13) (.agg #[.string {data:=#[45]},.int .i64 7,.int .i64 7,.int .i64 8])).run Tryz.prog W6=.ok () W7:=r7;have u8:(Instr.mapUpdate 102 (.map (some w.heap.size)) (.int .i64 46) (.agg #[.string {data:=#[111,114]},.int .i64 10,.int .i64 10,.int .i64 11])).run Tryz.prog W7=.ok () W8:=r8;have Oo:ah (fun b=>b=w.heap.size) (w.alloc (.map #[] 0)) W8:=((((((b1.trans b2).trans b3).trans b4).trans b5).trans b6).trans b7).trans b8;have UI:Below w.heap.size w W8:=((af w.heap.size w).alloc (aa _) _).trans (Oo.below (fun b hb=>by rw [hb];exact aa _) (by simp));have HM8:=ae (xn W8 w.heap.size (gy++([]:List (List UInt8×Int)).map mP)) m8;have HB8:=hide UI;have CM:=hide (fun W:World=>ou W);have hz8:=m8.lt;clear m0 n0 m1 n1 b1 r1 m2 n2 b2 r2 m3 n3 b3 r3 m4 n4 b4 r4 m5 n5 b5 r5 m6 n6 b6 r6 m7 n7 b7 r7 m8 n8 b8 r8 Oo UI;go_enter Tryz.func68,Tryz.ntmps68;go_wp2_with fail;clear u1 u2 u3 u4 u5 u6 u7 u8;refine (CM.o _).mono ?_;rintro e w9 ⟨rfl,hm9,iK⟩;obtain ⟨es,clock,hes,km,vS,hnd⟩:=hm9;have hrg:=run_range_map (P:=Tryz.prog) w9 63 9 3 W8.heap.size es clock Tryz.underlying63 hes
 have KV:=hide (fun (e:MapEntry) (he:e∈es.toList)=>show ∃o∈eK,e.key=.string (ag o.1)∧e.val=.int .i64 o.2 from by
  have h1:(e.key,e.val)∈es.toList.map fun e=>(e.key,e.val):=List.mem_map.2 ⟨e,he,rfl⟩;rw [km] at h1;obtain ⟨o,ho,Ae⟩:=List.mem_map.1 h1
  exact ⟨o,ho,(congrArg Prod.fst Ae).symm,(congrArg Prod.snd Ae).symm⟩)
 have VK:=hide (fun (o:List UInt8×Int) (ho:o∈eK)=>show ∃e∈es.toList,e.val=.int .i64 o.2 from by
  have h1:(Value.string (ag o.1),Value.int .i64 o.2)∈eK.map (fun o=>(Value.string (ag o.1),Value.int .i64 o.2)):=List.mem_map.2 ⟨o,ho,rfl⟩;rw [←km] at h1;obtain ⟨e,he,Ae⟩:=List.mem_map.1 h1
  exact ⟨e,he,congrArg Prod.snd Ae⟩)
 have VI:=ae ((es.toList.map (·.val)).Nodup) (by
  have h1:es.toList.map (·.val)=eK.map fun o=>Value.int .i64 o.2:=by
   have:=congrArg (List.map Prod.snd) km;rwa [List.map_map,List.map_map] at this
  rw [h1];unfold eK
  simp)
 have hz9:W8.heap.size<w9.heap.size:=(Array.getElem?_eq_some_iff.1 hes).1
 have HA:=hide (show Qz w9 w.heap.size W8.heap.size w9.heap.size clock (w9.alloc (.mapIter (some W8.heap.size) clock #[] clock)) #[] clock [] from
  ⟨(ah.refl _ _).alloc _,heap_alloc_new w9 _,aa _,(HM8.o.below iK hz8).below ((af _ w9).alloc (aa _) _) (by omega),(fun o ho=>(by cases ho)),List.Pairwise.nil⟩)
 have HB9:=hide (HB8.o.trans (iK.mono HB8.o.size));have HBN:=hide vS;have fR:=hide hnd;have YE:=hide hes;clear km vS hnd hes iK;go_wp2_with fail;clear hrg
 go_loopw [] (fun W=>∃(seen:Array Nat) (c0:Nat) (D:List (List UInt8×Int)),Qz w9 w.heap.size W8.heap.size w9.heap.size clock W seen c0 D∧(∀e∈es.toList,e.born∈seen→∃o∈D,e.val=.int .i64 o.2)∧∀o∈D,∃e∈es.toList,e.born∈seen∧e.val=.int .i64 o.2) (fun W=>(leftOf es (W.iterSeen w9.heap.size)).size)
 case atStart=>exact ⟨#[],clock,[],HA.o,fun e _ he=>absurd he (by simp),fun o ho=>by cases ho⟩
 case round=>
  obtain ⟨seen,c0,D,hat,hin,hout⟩:=hrel;have hmap:wr.heap[W8.heap.size]? =some (.map es clock):=(hat.keeps.block _ hz9 (by show¬W8.heap.size=w.heap.size;omega)).trans YE.o;have law:=run_next_at (P:=Tryz.prog) wr 0 w9.heap.size W8.heap.size clock c0 seen es clock hat.it hmap HBN.o hat.since
  rcases law with ⟨h0,hrun⟩|⟨e,he,w1,hw1,hrun⟩
  ·have hnx:∀ty,(Instr.next (.pointer (some ⟨w9.heap.size,0,none⟩)) false ty).run Tryz.prog wr=_:=fun _=>hrun
   have hall:∀e∈es.toList,e.born∈seen:=fun e he=>by
    by_cases hc:e.born∈seen
    ·exact hc
    ·exfalso
     have:e∈leftOf es seen:=by
      unfold leftOf;rw [Array.mem_filter];exact ⟨by simpa using he,by simpa using hc⟩
     have h1:=Array.size_pos_of_mem this;omega
   have HF:=ae (pE wr w.heap.size) (hat.done (fun o ho=>by
    obtain ⟨e,he,hv⟩:=VK.o o ho;obtain ⟨o',ho',hv'⟩:=hin e he (hall e he)
    have:o.2=o'.2:=by rw [hv] at hv';injection hv'
    rw [Qx ho (hat.sub o' ho') this];exact ho'))
   have HG:=hide (HB9.o.trans (hat.keeps.below (fun b hb=>by rw [hb];exact aa _) (by omega)));clear hin hout hall hat hrun hmap;go_wp2;go_ret;exact ⟨rfl,HF.o,HG.o⟩
  ·obtain ⟨o,ho,hkey,hval⟩:=KV.o e (mem_left he).1
   have hnew:∀a∈D,a.2≠o.2:=fun a ha h1=>by
    obtain ⟨e',he',hs',hv'⟩:=hout a ha
    have h2:e'=e:=by
     have h3:e'.val=e.val:=by rw [hv',hval,h1]
     exact Bj VI.o he' (mem_left he).1 h3
    rw [h2] at hs';exact absurd hs' (by have:=(mem_left he).2;simpa using this)
   rw [hkey,hval] at hrun;obtain ⟨b1,b2,b3,b4,b5,b6⟩:=jX (o':=.mapIter (some W8.heap.size) clock (seen.push e.born) clock) hat.it hw1
   obtain ⟨W2,hW2⟩:∃W2,W2=setBlock w1 w9.heap.size (.mapIter (some W8.heap.size) clock (seen.push e.born) clock):=⟨_,rfl⟩
   rw [←hW2] at hrun b1 b2 b3 b4 b5 b6
   have hB:Below w9.heap.size wr W2:=⟨b5,b4,b6,Nat.le_of_eq b3.symm,fun b hb=>b2 b (by omega)⟩
   have hmap2:W2.heap[W8.heap.size]? =some (.map es clock):=(hB.block _ hz9).trans hmap;have hnx:∀ty,(Instr.next (.pointer (some ⟨w9.heap.size,0,none⟩)) false ty).run Tryz.prog wr=_:=fun _=>hrun;have hen:=run_entry_at (P:=Tryz.prog) W2 w9.heap.size W8.heap.size clock seen es clock e b1 hmap2 (mem_left he).1 fR.o;rw [hkey,hval] at hen;obtain ⟨k1,k2⟩:=qm ho
   obtain ⟨W3,hput,XV,_,hk3⟩:=CU (k:=o.2) (hat.map.below hB (by omega)) (fun p hp=>by
    rcases List.mem_append.1 hp with hp|hp
    ·exact Bh p hp
    ·obtain ⟨o',ho',rfl⟩:=List.mem_map.1 hp;obtain ⟨q1,q2⟩:=qm (hat.sub o' ho')
     exact ⟨o'.2,⟨by omega,by omega⟩,rfl⟩) ⟨by omega,by omega⟩ (fun p hp e1=>by
    rcases List.mem_append.1 hp with hp|hp
    ·exact Bi k1 k2 p hp e1
    ·obtain ⟨o',ho',rfl⟩:=List.mem_map.1 hp
     exact hnew o' ho' (by injection e1)) (lQ (o.1,3,4,4))
   have adj:(Instr.mapUpdate 102 (.map (some w.heap.size)) (.int .i64 o.2) (.agg #[.string (ag o.1),.int .i64 3,.int .i64 4,.int .i64 4])).run Tryz.prog W2=.ok () W3:=hput
   have CI:=hide (show Qz w9 w.heap.size W8.heap.size w9.heap.size clock W3 (seen.push e.born) clock (D++[o]) from
    ⟨(hat.keeps.over hB).trans hk3,(hk3.block _ (Array.getElem?_eq_some_iff.1 b1).1 (by show¬w9.heap.size=w.heap.size;omega)).trans b1,aa _,by rw [List.map_append,←cT];exact XV,fun a ha=>by
     rcases List.mem_append.1 ha with ha|ha
     ·exact hat.sub a ha
     ·rw [List.mem_singleton.1 ha];exact ho,List.pairwise_append.2 ⟨hat.once,List.pairwise_singleton _ _,fun a ha b hb=>by rw [List.mem_singleton.1 hb];exact hnew a ha⟩⟩)
   have HI3:=ae (∀e'∈es.toList,e'.born∈seen.push e.born→∃a∈D++[o],e'.val=.int .i64 a.2) (fun e' he' hs=>by
    rcases Array.mem_push.1 hs with h1|h1
    ·obtain ⟨a,ha,hv⟩:=hin e' he' h1;exact ⟨a,List.mem_append_left _ ha,hv⟩
    ·have:e'=e:=by
      have h2:=find_born e es.toList fR.o (mem_left he).1;have h3:=find_born e' es.toList fR.o he';rw [h1] at h3;exact au (h3.symm.trans h2)
     subst this
     exact ⟨o,List.mem_append_right _ (List.mem_singleton.2 rfl),hval⟩)
   have HO3:=ae (∀a∈D++[o],∃e'∈es.toList,e'.born∈seen.push e.born∧e'.val=.int .i64 a.2) (fun a ha=>by
    rcases List.mem_append.1 ha with ha|ha
    ·obtain ⟨e',he',hs,hv⟩:=hout a ha;exact ⟨e',he',Array.mem_push.2 (.inl hs),hv⟩
    ·rw [List.mem_singleton.1 ha];exact ⟨e,(mem_left he).1,Array.mem_push.2 (.inr rfl),hval⟩)
   have HE:=hide he;have HIT:=hide hat.it;clear b1 b2 b3 b4 b5 b6 hW2 hB he hkey hval hin hout hrun hat hw1 hmap hmap2 hput XV hk3 hnew k1 k2 ho;go_wp2;go_roundw
   case rel=>exact ⟨seen.push e.born,clock,D++[o],CI.o,HI3.o,HO3.o⟩
   case measure=>
    have e1:W3.iterSeen w9.heap.size=seen.push e.born:=by unfold World.iterSeen;rw [CI.o.it]
    have e2:wr.iterSeen w9.heap.size=seen:=by unfold World.iterSeen;rw [HIT.o]
    rw [e1,e2];exact left_shrinks es seen e HE.o
end Go.Proofs.YtddoehnkgcbboaaGreatDoor
namespace Go.Proofs.YtddoehnkgcbboaaGreatDoor
open Go.RowKit Go.Shelf
theorem xo {B g:Nat} {w5 W6:World} {n x:Nd} {cs rP:List Value} (hn:cK (fun b=>b<B) w5 n cs) (hx:cK (fun b=>b<B) w5 x rP) (hg:g<B) (hB:B≤w5.heap.size) (hW:W6=w5.alloc (.cells [cs,rP].flatten.toArray 25))
 (kd a0 xa xb xc xd:Int) (nm vl:List UInt8) (cap:Nat) (hcap:2≤cap:=by decide):
 qI g (kH W6 g (.int .i64 kd) (.int .i64 a0) (.string (ag nm)) (.string (ag vl)) (.int .i64 xa) (.int .i64 xb) (.int .i64 xc) (.int .i64 xd) (.slice (some ⟨w5.heap.size,0,none⟩) 2 cap)) (.mk kd a0 nm vl xa xb xc xd [n,x])
  (.agg #[.int .i64 kd,.int .i64 a0,.string (ag nm),.string (ag vl),.int .i64 xa,.int .i64 xb,.int .i64 xc,.int .i64 xd,.slice (some ⟨w5.heap.size,0,none⟩) 2 cap]):=
 E2 (ks:=[n,x]) (bH:=[cs,rP]) rfl (fun i h h'=>by
  match i,h with
  |0,_=>exact hn
  |1,_=>exact hx
  |i+2,h=>exact absurd h (by simp)) hg hB hW kd a0 xa xb xc xd nm vl cap hcap
theorem cU.below {p:PS} {w W W':World} {g7:Nat} {n:Nd} {cs:List Value} {k:Nat} (h:cU p w g7 W n cs k) (hb:p.b<w.heap.size) (hg:w.heap.size<g7) (hk:Below W.heap.size W W'):cU p w g7 W' n cs k:=
 h.keep hb hg (h.at_.below hk) (ah.of_below hk (aa _))
theorem yU (p:PS) (F:Nat) (fo:Nat→PR Nd) (hc:cY p 127 fo F) (hp:Prog fo):cY p 77 (Aj p.L p.en fo) F:=by
 intro k w hF h;have hbz:p.b<w.heap.size:=h.row.lt;have H:=hide h;have iX:Row (w.alloc (.cells cG 25)) w.heap.size 25 cG:=Row.new _ _ _;have hb0:Below w.heap.size w (w.alloc (.cells cG 25)):=(af _ _).alloc (aa _) _;have C0:=hide (hc k _ hF (h.below hb0));have oF:=hide iX;have mi:=hide hb0;have HC:=hide hc;unfold Aj
 cases hR:fo k with
 |err a er=>
  rw [hR] at C0;show Calls _ _ _ _ (cQ p w (qI w.heap.size) (.err a er));clear hR h hc hp iX hb0 HC oF;go_enter Tryz.func77,Tryz.ntmps77;go_wp2_with fail;refine C0.o.mono ?_;rintro e w1 ⟨rfl,hk⟩;go_wp2;exact ⟨rfl,rfl,(ah.of_below mi.o (aa _)).trans hk⟩
 |ok n1 k1=>
  rw [hR] at C0;have hk1:=hp _ _ _ hR
  show Calls _ _ _ _ (cQ p w (qI w.heap.size) (match kj p.L eK k1 with
   |none=>.ok n1 k1
   |some q=>(fo (k1+1)).bind fun x k2=>.ok (.mk q (eO p.L p.en k1) [] [] 0 0 0 0 [n1,x]) k2))
  have CM:=hide (fun (W:World)=>ou W);have OP:=hide (fun (W:World) (bm:Nat) (h:bQ p W k1) (hm:nR W bm eK) (hb:bm≠p.b)=>jg p k1 bm eK W h hm hb (by unfold dQ;decide));clear hR h hc iX hb0
  cases hO:kj p.L eK k1 with
  |none=>
   have hE:vQ p.L p.en eK k1=.returned (.tuple #[.int .i64 0,.int .i64 0]):=by unfold vQ;rw [hO]
   have hN:vR p.L eK k1=k1:=by unfold vR;rw [hO]
   rw [hE,hN] at OP;show Calls _ _ _ _ (cQ p w (qI w.heap.size) (.ok n1 k1));clear hE hN hO;go_enter Tryz.func77,Tryz.ntmps77;go_wp2_with fail;refine C0.o.mono ?_;rintro e w1 ⟨⟨v,rfl,cs,rfl,hnd⟩,h1,hk⟩;have hr1:Row w1 w.heap.size 25 cG:=oF.o.keep hk (by show¬w.heap.size=p.b;omega);have mz:w.heap.size<w1.heap.size:=hr1.lt
   have Ma:cU p w w1.heap.size (w1.alloc (.cells cs.toArray 25)) n1 cs k1:=
    ⟨h1.below ((af _ w1).alloc (aa _) _),((ah.of_below mi.o (aa _)).trans hk).trans (ah.of_below ((af _ w1).alloc (aa _) _) (aa _)),hr1.alloc _,Row.new w1 _ _,
     (hnd.ge ((af _ w1).alloc (aa _) _)).mono (fun b hb=>by
      rcases hb with hb|rfl
      ·exact .inl (by rw [aF];omega)
      ·exact .inr (aa _))⟩
   have ME:=hide Ma
   cases hnd with
   |mk kd a0 nm vl xa xb xc xd ks A cap bH hl hks hr=>
    clear hl hks hr Ma hr1 hk h1;generalize hW1:w1.alloc (.cells (aB kd a0 nm vl xa xb xc xd (.slice A ks.length cap)).toArray 25)=W1 at ME;have jq:w1.alloc (.cells #[.int .i64 kd,.int .i64 a0,.string (ag nm),.string (ag vl),.int .i64 xa,.int .i64 xb,.int .i64 xc,.int .i64 xd,.slice A ks.length cap] 25)=W1:=hW1;clear hW1;unfold aB;go_wp2_with fail;clear jq;refine (CM.o W1).mono ?_;rintro e W2 ⟨rfl,hm2,hb2⟩;have hl2:cU p w w1.heap.size W2 _ _ k1:=ME.o.below hbz mz hb2;have OP2:=hide (OP.o W2 _ hl2.at_ hm2 (by have:=ME.o.at_.row.lt;omega));have YA:=hide hl2;clear hb2 hm2 hl2;go_wp2_with fail;refine OP2.o.mono ?_;rintro e W3 ⟨rfl,h3,hk3⟩;have nL:=YA.o.keep hbz mz h3 hk3;have HL3:=hide nL;obtain ⟨h3,dL,hres,hrow,hnd⟩:=nL;obtain ⟨d0,d1,d2,d3,d4,d5,d6,d7,d8⟩:=ak hrow;obtain ⟨e0,e1,e2,e3,e4,e5,e6,e7,e8⟩:=ak hres;obtain ⟨Kr,Ks,IJ,Kt,Ku,Kv,Kw,Ky,Kz⟩:=aU hres;have fR:=hide hnd;clear hrow hnd;go_wp2_with fail;refine bodyPost_ret (v:=.agg #[.int .i64 kd,.int .i64 a0,.string (ag nm),.string (ag vl),.int .i64 xa,.int .i64 xb,.int .i64 xc,.int .i64 xd,.slice A ks.length cap]) (ai rfl _ _ w.heap.size 25 _ _ _ rfl (aJ hres _ _ _ _ _ _ _ _ _) Tryz.underlying25 rfl (by kernel_rfl)) rfl ?_;have hbl:=ay (W:=W3) (aa w.heap.size) (.int .i64 kd) (.int .i64 a0) (.string (ag nm)) (.string (ag vl)) (.int .i64 xa) (.int .i64 xb) (.int .i64 xc) (.int .i64 xd) (.slice A ks.length cap);exact ⟨⟨_,rfl,_,rfl,(fR.o.keeps (aN (C:=fun b=>b≤w.heap.size∨b=w1.heap.size) (.inl (aa _)) _ _ _ _ _ _ _ _ _)).mono (fun b hb'=>.inl (Nat.le_of_lt hb'))⟩,H.o.above h3 hbl,dL.over hbl⟩
  |some q=>
   obtain ⟨⟨o,ho,Kp⟩,hlt⟩:=tR hO
   have hq0:(q !=0)=true:=by
    have h1:∀o∈eK,(o.2 !=0)=true:=by decide
    rw [←Kp];exact h1 o ho
   have hE:vQ p.L p.en eK k1=.returned (.tuple #[.int .i64 q,.int .i64 (eO p.L p.en k1)]):=by unfold vQ;rw [hO]
   have hN:vR p.L eK k1=k1+1:=by unfold vR;rw [hO]
   rw [hE,hN] at OP;clear hE hN ho Kp hO
   cases hx:fo (k1+1) with
   |err a er=>
    have YH:=hide (fun (W:World) (h:bQ p W (k1+1))=>show Calls _ _ _ _ (cQ p W (qI W.heap.size) (.err a er)) from by rw [←hx];exact HC.o (k1+1) W (by omega) h);show Calls _ _ _ _ (cQ p w (qI w.heap.size) (.err a er));clear hx;generalize eO p.L p.en k1=pl at*;go_enter Tryz.func77,Tryz.ntmps77;go_wp2_with fail;refine C0.o.mono ?_;rintro e w1 ⟨⟨v,rfl,cs,rfl,hnd⟩,h1,hk⟩;have hr1:Row w1 w.heap.size 25 cG:=oF.o.keep hk (by show¬w.heap.size=p.b;omega);have mz:w.heap.size<w1.heap.size:=hr1.lt
    have Ma:cU p w w1.heap.size (w1.alloc (.cells cs.toArray 25)) n1 cs k1:=
     ⟨h1.below ((af _ w1).alloc (aa _) _),((ah.of_below mi.o (aa _)).trans hk).trans (ah.of_below ((af _ w1).alloc (aa _) _) (aa _)),hr1.alloc _,Row.new w1 _ _,
      (hnd.ge ((af _ w1).alloc (aa _) _)).mono (fun b hb=>by
       rcases hb with hb|rfl
       ·exact .inl (by rw [aF];omega)
       ·exact .inr (aa _))⟩
    have ME:=hide Ma
    cases hnd with
    |mk kd a0 nm vl xa xb xc xd ks A cap bH hl hks hr=>
     clear hl hks hr Ma hr1 hk h1;generalize hW1:w1.alloc (.cells (aB kd a0 nm vl xa xb xc xd (.slice A ks.length cap)).toArray 25)=W1 at ME;have jq:w1.alloc (.cells #[.int .i64 kd,.int .i64 a0,.string (ag nm),.string (ag vl),.int .i64 xa,.int .i64 xb,.int .i64 xc,.int .i64 xd,.slice A ks.length cap] 25)=W1:=hW1;clear hW1;unfold aB;go_wp2_with fail;clear jq;refine (CM.o W1).mono ?_;rintro e W2 ⟨rfl,hm2,hb2⟩;have hl2:cU p w w1.heap.size W2 _ _ k1:=ME.o.below hbz mz hb2;have OP2:=hide (OP.o W2 _ hl2.at_ hm2 (by have:=ME.o.at_.row.lt;omega));have YA:=hide hl2;clear hb2 hm2 hl2;go_wp2_with fail;refine OP2.o.mono ?_;rintro e W3 ⟨rfl,h3,hk3⟩;have nL:=YA.o.keep hbz mz h3 hk3;have HL3:=hide nL;obtain ⟨h3,dL,hres,hrow,hnd⟩:=nL;obtain ⟨d0,d1,d2,d3,d4,d5,d6,d7,d8⟩:=ak hrow;have CX:=hide (YH.o W3.drew (h3.below ((af _ W3).drew)));have Ak:=hide (fun (W:World) (hk:ah (fun c=>c=p.b) W3.drew W)=>show cQ p w (qI w.heap.size) (PR.err a er) (.panicked [{v:=ot a er,recovered:=false}]) W from ⟨rfl,(dL.drew).trans hk⟩);clear hrow hres hnd;go_wp2_with fail;refine wp_region_any (by kernel_rfl) ?_;change wpAny _ _ _ _ _ _ _ (World.drew _);refine wpAny_take (i:=0) (v:=?_) rfl (by kernel_rfl) (by kernel_rfl) (by kernel_rfl) (fun _ _ _ h=>h) (Or.inl ⟨by rfl,?_⟩) ?_;rotate_left
     ·intro w;go_simp;with_reducible rfl
     refine wpAny_take (i:=1) (v:=?_) rfl (by kernel_rfl) (by kernel_rfl) (by kernel_rfl) (fun _ _ _ h=>h) (Or.inl ⟨by rfl,?_⟩) ?_;rotate_left
     ·intro w;go_simp;with_reducible rfl
     refine wpAny_take (i:=3) (v:=?_) rfl (by kernel_rfl) (by kernel_rfl) (by kernel_rfl) (fun _ _ _ h=>h) (Or.inl ⟨by rfl,?_⟩) ?_;rotate_left
     ·intro w;go_simp;with_reducible rfl
     refine oD (i:=2) (j:=4) (by kernel_rfl) rfl rfl (fun K hK=>?_) fun K hK=>?_
     ·go_simp;refine hK _ _ ?_;clear hK K;refine bK (i:=4) (by kernel_rfl) rfl fun K hK=>?_;go_simp;refine CX.o.mono ?_;rintro e w5 ⟨rfl,cC⟩;exact ⟨rfl,Ak.o _ cC⟩
     ·go_simp;refine CX.o.mono ?_;rintro e w5 ⟨rfl,cC⟩;exact ⟨rfl,Ak.o _ cC⟩
   |ok x k3=>
    have YH:=hide (fun (W:World) (h:bQ p W (k1+1))=>show Calls _ _ _ _ (cQ p W (qI W.heap.size) (.ok x k3)) from by rw [←hx];exact HC.o (k1+1) W (by omega) h);show Calls _ _ _ _ (cQ p w (qI w.heap.size) (.ok (.mk q (eO p.L p.en k1) [] [] 0 0 0 0 [n1,x]) k3));clear hx;generalize eO p.L p.en k1=pl at*;go_enter Tryz.func77,Tryz.ntmps77;go_wp2_with fail;refine C0.o.mono ?_;rintro e w1 ⟨⟨v,rfl,cs,rfl,hnd⟩,h1,hk⟩;have hr1:Row w1 w.heap.size 25 cG:=oF.o.keep hk (by show¬w.heap.size=p.b;omega);have mz:w.heap.size<w1.heap.size:=hr1.lt
    have Ma:cU p w w1.heap.size (w1.alloc (.cells cs.toArray 25)) n1 cs k1:=
     ⟨h1.below ((af _ w1).alloc (aa _) _),((ah.of_below mi.o (aa _)).trans hk).trans (ah.of_below ((af _ w1).alloc (aa _) _) (aa _)),hr1.alloc _,Row.new w1 _ _,
      (hnd.ge ((af _ w1).alloc (aa _) _)).mono (fun b hb=>by
       rcases hb with hb|rfl
       ·exact .inl (by rw [aF];omega)
       ·exact .inr (aa _))⟩
    have ME:=hide Ma
    cases hnd with
    |mk kd a0 nm vl xa xb xc xd ks A cap bH hl hks hr=>
     clear hl hks hr Ma hr1 hk h1;generalize hW1:w1.alloc (.cells (aB kd a0 nm vl xa xb xc xd (.slice A ks.length cap)).toArray 25)=W1 at ME;have jq:w1.alloc (.cells #[.int .i64 kd,.int .i64 a0,.string (ag nm),.string (ag vl),.int .i64 xa,.int .i64 xb,.int .i64 xc,.int .i64 xd,.slice A ks.length cap] 25)=W1:=hW1;clear hW1;unfold aB;go_wp2_with fail;clear jq;refine (CM.o W1).mono ?_;rintro e W2 ⟨rfl,hm2,hb2⟩;have hl2:cU p w w1.heap.size W2 _ _ k1:=ME.o.below hbz mz hb2;have OP2:=hide (OP.o W2 _ hl2.at_ hm2 (by have:=ME.o.at_.row.lt;omega));have YA:=hide hl2;clear hb2 hm2 hl2;go_wp2_with fail;refine OP2.o.mono ?_;rintro e W3 ⟨rfl,h3,hk3⟩;have nL:=YA.o.keep hbz mz h3 hk3;have HL3:=hide nL;obtain ⟨h3,dL,hres,hrow,hnd⟩:=nL;obtain ⟨d0,d1,d2,d3,d4,d5,d6,d7,d8⟩:=ak hrow;have CX:=hide (YH.o W3.drew (h3.below ((af _ W3).drew)))
     have WW:¬(w1.heap.size=p.b):=by omega
     have yN:=hide hres;have wQ:=hide hrow;have fR:=hide hnd;clear hrow hres hnd;go_wp2_with fail;refine wp_region_any (by kernel_rfl) ?_;change wpAny _ _ _ _ _ _ _ (World.drew _);refine wpAny_take (i:=0) (v:=?_) rfl (by kernel_rfl) (by kernel_rfl) (by kernel_rfl) (fun _ _ _ h=>h) (Or.inl ⟨by rfl,?_⟩) ?_;rotate_left
     ·intro w;go_simp;with_reducible rfl
     refine wpAny_take (i:=1) (v:=?_) rfl (by kernel_rfl) (by kernel_rfl) (by kernel_rfl) (fun _ _ _ h=>h) (Or.inl ⟨by rfl,?_⟩) ?_;rotate_left
     ·intro w;go_simp;with_reducible rfl
     refine wpAny_take (i:=3) (v:=?_) rfl (by kernel_rfl) (by kernel_rfl) (by kernel_rfl) (fun _ _ _ h=>h) (Or.inl ⟨by rfl,?_⟩) ?_;rotate_left
     ·intro w;go_simp;with_reducible rfl
     refine oD (i:=2) (j:=4) (by kernel_rfl) rfl rfl (fun K hK=>?_) fun K hK=>?_
     ·go_simp;refine hK _ _ ?_;clear hK K;refine bK (i:=4) (by kernel_rfl) rfl fun K hK=>?_;go_simp;refine CX.o.mono ?_;rintro e w5 ⟨⟨v,rfl,rP,rfl,jC⟩,h5,cC⟩;refine hK _ _ ?_;clear hK K
      have fO:ah (fun c=>c=p.b) W3 w5:=⟨cC.os,cC.tape,cC.output,cC.size,cC.block⟩
      have oM:=wQ.o.keep fO WW;have mM:Row w5 w.heap.size 25 cG:=yN.o.keep fO (by show¬w.heap.size=p.b;omega);have Qr:=hide jC;have H5:=hide h5;have yO:=hide fO
      cases jC with
      |mk yk y0 yn yv ya yb yc yd yks yA cv YI YJ YK YL=>
       unfold aB;clear h5 cC fO YJ YK YL;refine bK (i:=5) (by kernel_rfl) rfl fun K hK=>?_;go_simp;refine hK _ _ ?_;clear hK K;generalize mj:World.alloc w5 _=W6
       have nS:Row W6 w.heap.size 25 cG:=by rw [←mj];exact mM.alloc _
       have fV:Below w5.heap.size w5 W6:=by rw [←mj];exact (af _ _).alloc (aa _) _
       have wZ:=yO.o.size;have hz3:w1.heap.size<W3.heap.size:=wQ.o.lt;have NK:=hide (xo (B:=w.heap.size+1) (((fR.o.keeps (yO.o.mono (fun b hb=>.inl (by show b≤_;have:b=p.b:=hb;omega)))).mono (fun b hb=>.inl (Nat.le_of_lt_succ hb)))) (Qr.o.mono (fun b hb=>cJ hb (show w.heap.size+1≤W3.heap.size by omega))) (Nat.lt_succ_self _) (by omega) mj.symm q pl 0 0 0 0 [] [] 2);obtain ⟨e0,e1,e2,e3,e4,e5,e6,e7,e8⟩:=ak nS;obtain ⟨Kr,Ks,IJ,Kt,Ku,Kv,Kw,Ky,Kz⟩:=aU nS;clear oM mM mj;refine bK (i:=6) (by kernel_rfl) rfl fun K hK=>?_;go_simp;refine hK _ _ ?_;clear hK K;refine bK (i:=7) (by kernel_rfl) rfl fun K hK=>?_;go_simp;refine hK _ _ ?_;clear hK K;refine wpAny_done (by kernel_rfl) ?_ _;go_wp2_with fail;refine bodyPost_ret (v:=.agg #[.int .i64 q,.int .i64 pl,.string {data:=#[]},.string {data:=#[]},.int .i64 0,.int .i64 0,.int .i64 0,.int .i64 0,.slice (some ⟨w5.heap.size,0,none⟩) 2 2]) (ai rfl _ _ w.heap.size 25 _ _ _ rfl (aJ nS _ _ _ _ _ _ _ _ _) Tryz.underlying25 rfl (by kernel_rfl)) rfl ?_;have hbl:=ay (W:=W6) (aa w.heap.size) (.int .i64 q) (.int .i64 pl) (.string {data:=#[]}) (.string {data:=#[]}) (.int .i64 0) (.int .i64 0) (.int .i64 0) (.int .i64 0) (.slice (some ⟨w5.heap.size,0,none⟩) 2 2);exact ⟨⟨_,rfl,NK.o⟩,H.o.above (H5.o.below fV) hbl,((dL.trans yO.o).trans (ah.of_below fV (aa _))).over hbl⟩
     ·go_simp;refine CX.o.mono ?_;rintro e w5 ⟨⟨v,rfl,rP,rfl,jC⟩,h5,cC⟩;refine hK _ _ ?_;clear hK K
      have fO:ah (fun c=>c=p.b) W3 w5:=⟨cC.os,cC.tape,cC.output,cC.size,cC.block⟩
      have oM:=wQ.o.keep fO WW;have mM:Row w5 w.heap.size 25 cG:=yN.o.keep fO (by show¬w.heap.size=p.b;omega);have Qr:=hide jC;have H5:=hide h5;have yO:=hide fO
      cases jC with
      |mk yk y0 yn yv ya yb yc yd yks yA cv YI YJ YK YL=>
       unfold aB;clear h5 cC fO YJ YK YL;obtain ⟨c0,c1,c2,c3,c4,c5,c6,c7,c8⟩:=ak oM;refine bK (i:=2) (by kernel_rfl) rfl fun K hK=>?_;go_simp;refine hK _ _ ?_;clear hK K;refine bK (i:=5) (by kernel_rfl) rfl fun K hK=>?_;go_simp;refine hK _ _ ?_;clear hK K;generalize mj:World.alloc w5 _=W6
       have nS:Row W6 w.heap.size 25 cG:=by rw [←mj];exact mM.alloc _
       have fV:Below w5.heap.size w5 W6:=by rw [←mj];exact (af _ _).alloc (aa _) _
       have wZ:=yO.o.size;have hz3:w1.heap.size<W3.heap.size:=wQ.o.lt;have NK:=hide (xo (B:=w.heap.size+1) (((fR.o.keeps (yO.o.mono (fun b hb=>.inl (by show b≤_;have:b=p.b:=hb;omega)))).mono (fun b hb=>.inl (Nat.le_of_lt_succ hb)))) (Qr.o.mono (fun b hb=>cJ hb (show w.heap.size+1≤W3.heap.size by omega))) (Nat.lt_succ_self _) (by omega) mj.symm q pl 0 0 0 0 [] [] 2);obtain ⟨e0,e1,e2,e3,e4,e5,e6,e7,e8⟩:=ak nS;obtain ⟨Kr,Ks,IJ,Kt,Ku,Kv,Kw,Ky,Kz⟩:=aU nS;clear oM mM mj;refine bK (i:=6) (by kernel_rfl) rfl fun K hK=>?_;go_simp;refine hK _ _ ?_;clear hK K;refine bK (i:=7) (by kernel_rfl) rfl fun K hK=>?_;go_simp;refine hK _ _ ?_;clear hK K;refine wpAny_done (by kernel_rfl) ?_ _;go_wp2_with fail;refine bodyPost_ret (v:=.agg #[.int .i64 q,.int .i64 pl,.string {data:=#[]},.string {data:=#[]},.int .i64 0,.int .i64 0,.int .i64 0,.int .i64 0,.slice (some ⟨w5.heap.size,0,none⟩) 2 2]) (ai rfl _ _ w.heap.size 25 _ _ _ rfl (aJ nS _ _ _ _ _ _ _ _ _) Tryz.underlying25 rfl (by kernel_rfl)) rfl ?_;have hbl:=ay (W:=W6) (aa w.heap.size) (.int .i64 q) (.int .i64 pl) (.string {data:=#[]}) (.string {data:=#[]}) (.int .i64 0) (.int .i64 0) (.int .i64 0) (.int .i64 0) (.slice (some ⟨w5.heap.size,0,none⟩) 2 2);exact ⟨⟨_,rfl,NK.o⟩,H.o.above (H5.o.below fV) hbl,((dL.trans yO.o).trans (ah.of_below fV (aa _))).over hbl⟩
def wR (p:PS):Prop:=∀x∈p.L,x.kind=4→∀W:World,Gl W→Calls Tryz.prog 183 #[.string (ag x.text)] W fun e w'=>e=.returned (.string (ag (lN x.text)))∧Below W.heap.size W w'
theorem cU.new {p:PS} {w w1:World} {n:Nd} {cs:List Value} {k B:Nat} (h1:bQ p w1 k) (hk:ah (fun c=>c=p.b) w w1) (hr:Row w1 w.heap.size 25 cG) (hnd:cK (fun b=>b<B) w1 n cs) (hB:w.heap.size<B):
 cU p w w1.heap.size (w1.alloc (.cells cs.toArray 25)) n cs k:=
 ⟨h1.below ((af _ w1).alloc (aa _) _),hk.trans (ah.of_below ((af _ w1).alloc (aa _) _) (aa _)),hr.alloc _,Row.new w1 _ _,
  (hnd.ge ((af _ w1).alloc (aa _) _)).mono (fun b hb=>by
   rcases hb with hb|rfl
   ·exact .inl (by omega)
   ·exact .inr (aa _))⟩
theorem cU.wrap {p:PS} {w W W6:World} {g k k0:Nat} {n:Nd} {cs:List Value} (H:bQ p w k0) (hbz:p.b<w.heap.size) (mz:w.heap.size<g) (h:cU p w g W n cs k) (hW:W6=W.alloc (.cells [cs].flatten.toArray 25)) (q pl:Int):
 cU p w g (kH W6 g (.int .i64 q) (.int .i64 pl) (.string {data:=#[]}) (.string {data:=#[]}) (.int .i64 0) (.int .i64 0) (.int .i64 0) (.int .i64 0) (.slice (some ⟨W.heap.size,0,none⟩) 1 1)) (.mk q pl [] [] 0 0 0 0 [n]) (aB q pl [] [] 0 0 0 0 (.slice (some ⟨W.heap.size,0,none⟩) 1 1)) k:=by
 have hg:g<W.heap.size:=h.row.lt
 have fV:Below W.heap.size W W6:=by rw [hW];exact (af _ _).alloc (aa _) _
 have hnew:Row W6 W.heap.size 25 [cs].flatten.toArray:=by rw [hW];exact Row.new _ _ _
 have nS:Row W6 g 25 cs.toArray:=h.row.below fV hg;have Ko:Row W6 w.heap.size 25 cG:=h.res.below fV (by omega);have WV:=ay (W:=W6) (Nat.le_of_lt mz) (.int .i64 q) (.int .i64 pl) (.string {data:=#[]}) (.string {data:=#[]}) (.int .i64 0) (.int .i64 0) (.int .i64 0) (.int .i64 0) (.slice (some ⟨W.heap.size,0,none⟩) 1 1);have hbG:=ay (W:=W6) (aa g) (.int .i64 q) (.int .i64 pl) (.string {data:=#[]}) (.string {data:=#[]}) (.int .i64 0) (.int .i64 0) (.int .i64 0) (.int .i64 0) (.slice (some ⟨W.heap.size,0,none⟩) 1 1);have UM:=aN (C:=fun b=>b≤w.heap.size∨b=g) (W:=W6) (.inr rfl) (.int .i64 q) (.int .i64 pl) (.string {data:=#[]}) (.string {data:=#[]}) (.int .i64 0) (.int .i64 0) (.int .i64 0) (.int .i64 0) (.slice (some ⟨W.heap.size,0,none⟩) 1 1);have hk7:=(ah.of_below (C:=fun b=>b≤w.heap.size∨b=g) fV (aa _)).trans UM;refine ⟨H.above (h.at_.below fV) WV,(h.keeps.trans (ah.of_below fV (aa _))).over WV,Ko.below hbG mz,?_,?_⟩
 ·have hnd:=h.nd;cases hnd;exact aJ nS _ _ _ _ _ _ _ _ _
 ·refine .mk q pl [] [] 0 0 0 0 [n] _ 1 [cs] rfl (fun i hi hi'=>?_) ?_ (aa _)
  ·match i,hi,hi' with
   |0,_,_=>exact h.nd.keeps hk7
  ·exact CJ (hnew.keep UM (by rintro (h1|h1)<;>omega)) (fun c hc=>by rw [List.mem_singleton.1 hc];exact h.nd.len) (by rintro (h1|h1)<;>omega)
theorem cU.QA {p:PS} {w W:World} {g k k0:Nat} {kd a0 a b c d:Int} {nm vl:List UInt8} {ks:List Nd} {A:Option Addr} {cap:Nat} (H:bQ p w k0) (mz:w.heap.size<g) (h:cU p w g W (.mk kd a0 nm vl a b c d ks) (aB kd a0 nm vl a b c d (.slice A ks.length cap)) k) (v:Int):
 cU p w g (W.setCell ⟨g,4,none⟩ (.int .i64 v)) (.mk kd a0 nm vl v b c d ks) (aB kd a0 nm vl v b c d (.slice A ks.length cap)) k:=by
 have hb:Below w.heap.size W (W.setCell ⟨g,4,none⟩ (.int .i64 v)):=(af _ W).setCell (p:=⟨g,4,none⟩) (Nat.le_of_lt mz) _;have hk:ah (fun b=>b≤w.heap.size∨b=g) W (W.setCell ⟨g,4,none⟩ (.int .i64 v)):=(ah.refl _ W).set (.inl (.inr rfl)) 4 _;refine ⟨H.above h.at_ hb,h.keeps.over hb,h.res.off (by omega) _ _,h.row.bU 4 _,?_⟩;have hnd:=h.nd.keeps hk;generalize hcs:aB kd a0 nm vl a b c d (.slice A ks.length cap)=cs at hnd
 cases hnd with
 |mk _ _ _ _ _ _ _ _ _ A' cap' bH hl hks hr hcap=>
  have e:Value.slice A ks.length cap=.slice A' ks.length cap':=by
   unfold aB at hcs;simp only [List.cons.injEq] at hcs;exact hcs.2.2.2.2.2.2.2.2.1
  injection e with e1 e2 e3;subst e1;subst e3;exact .mk _ _ _ _ _ _ _ _ _ _ _ bH hl hks hr hcap
theorem cU.ML {p:PS} {w W:World} {g k k0:Nat} {kd a0 a b c d:Int} {nm vl:List UInt8} {ks:List Nd} {A:Option Addr} {cap:Nat} (H:bQ p w k0) (mz:w.heap.size<g) (h:cU p w g W (.mk kd a0 nm vl a b c d ks) (aB kd a0 nm vl a b c d (.slice A ks.length cap)) k) (v:Int):
 cU p w g (W.setCell ⟨g,5,none⟩ (.int .i64 v)) (.mk kd a0 nm vl a v c d ks) (aB kd a0 nm vl a v c d (.slice A ks.length cap)) k:=by
 have hb:Below w.heap.size W (W.setCell ⟨g,5,none⟩ (.int .i64 v)):=(af _ W).setCell (p:=⟨g,5,none⟩) (Nat.le_of_lt mz) _;have hk:ah (fun b=>b≤w.heap.size∨b=g) W (W.setCell ⟨g,5,none⟩ (.int .i64 v)):=(ah.refl _ W).set (.inl (.inr rfl)) 5 _;refine ⟨H.above h.at_ hb,h.keeps.over hb,h.res.off (by omega) _ _,h.row.bU 5 _,?_⟩;have hnd:=h.nd.keeps hk;generalize hcs:aB kd a0 nm vl a b c d (.slice A ks.length cap)=cs at hnd
 cases hnd with
 |mk _ _ _ _ _ _ _ _ _ A' cap' bH hl hks hr hcap=>
  have e:Value.slice A ks.length cap=.slice A' ks.length cap':=by
   unfold aB at hcs;simp only [List.cons.injEq] at hcs;exact hcs.2.2.2.2.2.2.2.2.1
  injection e with e1 e2 e3;subst e1;subst e3;exact .mk _ _ _ _ _ _ _ _ _ _ _ bH hl hks hr hcap
theorem cU.abe {p:PS} {w W:World} {g k k0:Nat} {kd a0 a b c d:Int} {nm vl:List UInt8} {ks:List Nd} {A:Option Addr} {cap:Nat} (H:bQ p w k0) (mz:w.heap.size<g) (h:cU p w g W (.mk kd a0 nm vl a b c d ks) (aB kd a0 nm vl a b c d (.slice A ks.length cap)) k) (v:Int):
 cU p w g (W.setCell ⟨g,6,none⟩ (.int .i64 v)) (.mk kd a0 nm vl a b v d ks) (aB kd a0 nm vl a b v d (.slice A ks.length cap)) k:=by
 have hb:Below w.heap.size W (W.setCell ⟨g,6,none⟩ (.int .i64 v)):=(af _ W).setCell (p:=⟨g,6,none⟩) (Nat.le_of_lt mz) _;have hk:ah (fun b=>b≤w.heap.size∨b=g) W (W.setCell ⟨g,6,none⟩ (.int .i64 v)):=(ah.refl _ W).set (.inl (.inr rfl)) 6 _;refine ⟨H.above h.at_ hb,h.keeps.over hb,h.res.off (by omega) _ _,h.row.bU 6 _,?_⟩;have hnd:=h.nd.keeps hk;generalize hcs:aB kd a0 nm vl a b c d (.slice A ks.length cap)=cs at hnd
 cases hnd with
 |mk _ _ _ _ _ _ _ _ _ A' cap' bH hl hks hr hcap=>
  have e:Value.slice A ks.length cap=.slice A' ks.length cap':=by
   unfold aB at hcs;simp only [List.cons.injEq] at hcs;exact hcs.2.2.2.2.2.2.2.2.1
  injection e with e1 e2 e3;subst e1;subst e3;exact .mk _ _ _ _ _ _ _ _ _ _ _ bH hl hks hr hcap
theorem cU.Yz {p:PS} {w W:World} {g k k0:Nat} {kd a0 a b c d:Int} {nm vl:List UInt8} {ks:List Nd} {A:Option Addr} {cap:Nat} (H:bQ p w k0) (mz:w.heap.size<g) (h:cU p w g W (.mk kd a0 nm vl a b c d ks) (aB kd a0 nm vl a b c d (.slice A ks.length cap)) k) (v:Int):
 cU p w g (W.setCell ⟨g,7,none⟩ (.int .i64 v)) (.mk kd a0 nm vl a b c v ks) (aB kd a0 nm vl a b c v (.slice A ks.length cap)) k:=by
 have hb:Below w.heap.size W (W.setCell ⟨g,7,none⟩ (.int .i64 v)):=(af _ W).setCell (p:=⟨g,7,none⟩) (Nat.le_of_lt mz) _;have hk:ah (fun b=>b≤w.heap.size∨b=g) W (W.setCell ⟨g,7,none⟩ (.int .i64 v)):=(ah.refl _ W).set (.inl (.inr rfl)) 7 _;refine ⟨H.above h.at_ hb,h.keeps.over hb,h.res.off (by omega) _ _,h.row.bU 7 _,?_⟩;have hnd:=h.nd.keeps hk;generalize hcs:aB kd a0 nm vl a b c d (.slice A ks.length cap)=cs at hnd
 cases hnd with
 |mk _ _ _ _ _ _ _ _ _ A' cap' bH hl hks hr hcap=>
  have e:Value.slice A ks.length cap=.slice A' ks.length cap':=by
   unfold aB at hcs;simp only [List.cons.injEq] at hcs;exact hcs.2.2.2.2.2.2.2.2.1
  injection e with e1 e2 e3;subst e1;subst e3;exact .mk _ _ _ _ _ _ _ _ _ _ _ bH hl hks hr hcap
end Go.Proofs.YtddoehnkgcbboaaGreatDoor
