/- Packed by program: a part of the proof; the last file says what is proved. -/
import Derived.Test.YtddoehnkgcbboaaGreatDoorPrK
import Derived.Test.YtddoehnkgcbboaaGreatDoorPrJ
import Derived.Test.YtddoehnkgcbboaaGreatDoorPrN
import Derived.Test.YtddoehnkgcbboaaGreatDoorPrG
set_option maxHeartbeats 16000000
set_option maxRecDepth 100000
set_option linter.unusedVariables false
set_option linter.unusedSimpArgs false
namespace Go.Proofs.YtddoehnkgcbboaaGreatDoor
open Go.RowKit Go.Shelf
theorem Pm {c:UInt8} {r:List UInt8} (c2:aZ c=true) (h:(dE (c::r)).err=0):
 ((dE (c::r)).kind=1→(∀d∈(dE (c::r)).text,aZ d=true)∧1≤(dE (c::r)).text.length∧(dE (c::r)).text.length≤15)∧
 ((dE (c::r)).kind=4→∃l,(∀d,l.head? =some d→aZ d=true)∧(cz l).2=0∧(dE (c::r)).text=(cz l).1):=by
 have yi:1≤aQ aZ (c::r):=by rw [eu c2];omega
 have hnl:=dz aZ (c::r)
 have Tr:=kA (p:=aZ) (c::r)
 have Al:∀k,0<k→∀d,((c::r).take k).head? =some d→aZ d=true:=by
  intro k hk d hd
  cases k with
  |zero=>exact absurd hk (by decide)
  |succ k=>rw [List.take_succ_cons] at hd;cases hd;exact c2
 unfold dE tN at h⊢
 generalize c::r=l at*
 generalize aQ aZ l=n at*
 generalize bN l n=C at*
 generalize fC l (jB l n)=e2 at*
 generalize hk:fW (l.drop n)=k at*
 by_cases h1:0<C
 ·rw [if_pos h1] at h⊢
  by_cases h2:bC l C=true
  ·rw [if_pos h2]
   exact ⟨fun e=>absurd e (show (3:Int)≠1 by decide),fun e=>absurd e (show (3:Int)≠4 by decide)⟩
  ·rw [if_neg h2] at h;exact absurd (aR h) (by decide)
 ·rw [if_neg h1] at h⊢
  by_cases h3:n<e2
  ·rw [if_pos h3] at h⊢
   by_cases h2:bC l e2=true
   ·rw [if_pos h2] at h⊢
    exact ⟨fun e=>absurd e (show (4:Int)≠1 by decide),fun _=>⟨l.take e2,Al e2 (by omega),h,rfl⟩⟩
   ·rw [if_neg h2] at h;exact absurd (aR h) (by decide)
  ·rw [if_neg h3] at h⊢
   by_cases h4:bC l (n+k)=false
   ·rw [if_pos h4] at h;exact absurd (aR h) (by decide)
   ·rw [if_neg h4] at h⊢
    by_cases h5:15<(bI (l.take n)).length
    ·rw [if_pos h5] at h;exact absurd (aR h) (by decide)
    ·rw [if_neg h5]
     have Tu:l.take n≠[]:=fun e=>by
      have:=congrArg List.length e
      rw [List.length_take,List.length_nil] at this;omega
     refine ⟨fun e=>?_,fun e=>?_⟩
     ·have hk0:k=0:=by
       have e:(if k=0 then 1 else 2:Int)=1:=e
       by_cases h0:k=0
       ·exact h0
       ·rw [if_neg h0] at e;exact absurd e (by decide)
      subst hk0
      show (∀d∈bI (l.take n)++(l.drop n).take 0,aZ d=true)∧1≤(bI (l.take n)++(l.drop n).take 0).length∧(bI (l.take n)++(l.drop n).take 0).length≤15
      rw [List.take_zero,List.append_nil]
      refine ⟨fun d hd=>?_,List.length_pos_iff.2 (xg _),by omega⟩
      rcases tY Tu d hd with rfl|hd
      ·rfl
      ·exact Tr d hd
     ·exfalso
      have e:(if k=0 then 1 else 2:Int)=4:=e
      split at e<;>exact absurd e (by decide)
theorem Mm {l:List UInt8} (h:(aV l).err=0):
 ((aV l).kind=1→(∀d∈(aV l).text,aZ d=true)∧1≤(aV l).text.length∧(aV l).text.length≤15)∧
 ((aV l).kind=4→∃m,(∀d,m.head? =some d→aZ d=true)∧(cz m).2=0∧(aV l).text=(cz m).1):=by
 cases l with
 |nil=>exact absurd (aR h) (by decide)
 |cons c r=>
  rw [gL] at h⊢
  by_cases c1:sF c=true∨c=92
  ·rw [if_pos c1] at h⊢
   have hk:=(xf h).1
   exact ⟨fun e=>absurd (hk.symm.trans e) (by decide),fun e=>absurd (hk.symm.trans e) (by decide)⟩
  ·rw [if_neg c1] at h⊢
   by_cases c2:aZ c=true
   ·rw [if_pos c2] at h⊢
    exact Pm c2 h
   ·rw [if_neg c2] at h⊢
    by_cases c3:c=34
    ·rw [if_pos c3,jl] at h⊢
     unfold iQ at h⊢
     split at h
     ·exact absurd (aR h) (by decide)
     ·rename_i hc
      rw [if_neg hc]
      exact ⟨fun e=>absurd e (show (5:Int)≠1 by decide),fun e=>absurd e (show (5:Int)≠4 by decide)⟩
    ·rw [if_neg c3] at h⊢
     cases hs:ek eA (c::r) with
     |none=>rw [hs] at h;exact absurd (aR h) (by decide)
     |some u=>exact ⟨fun e=>absurd e (show (6:Int)≠1 by decide),fun e=>absurd e (show (6:Int)≠4 by decide)⟩
theorem BP:∀(ws:List (Nat×Wq)) (out:List Lx) (res:List Lx) (a:Nat) (P:Lx→Prop),(∀x∈out,P x)→(∀w∈ws,w.2.err=0→P ⟨w.2.kind,w.2.text,w.1⟩)→oa ws out=(res,a,0)→∀x∈res,P x
 |[],out,res,a,P,h1,_,h=>by unfold oa at h;cases h;exact h1
 |(b,w)::r,out,res,a,P,h1,h2,h=>by
  unfold oa at h
  split at h
  ·rename_i he
   split at h
   ·cases h
   ·refine BP r _ res a P (fun x hx=>?_) (fun w hw=>h2 w (List.mem_cons_of_mem _ hw)) h
    rcases List.mem_append.1 hx with hx|hx
    ·exact h1 x hx
    ·rw [List.mem_singleton.1 hx];exact h2 (b,w) List.mem_cons_self he
  ·rename_i he
   exact absurd (Prod.mk.inj (Prod.mk.inj h).2).2 he
theorem uD (l:List UInt8):∀(k a:Nat),∀w∈iB l k a,w.2=aV (l.drop w.1)
 |0,a,w,h=>by cases h
 |k+1,a,w,h=>by
  unfold iB at h
  split at h
  ·rcases List.mem_cons.1 h with rfl|h
   ·rfl
   ·split at h
    ·exact uD l k _ w h
    ·cases h
  ·cases h
theorem BQ {x:Lx}:∀{out:List Lx},x∈out→(Gh x).length≤IJ out
 |y::r,h=>by
  have e:IJ (y::r)=(Gh y).length+1+IJ r:=rfl
  rw [e]
  rcases List.mem_cons.1 h with rfl|h
  ·omega
  ·have:=BQ h
   omega
theorem Mn (c:UInt8):1≤(dS c).length:=by
 unfold dS
 split
 ·show 1≤2;decide
 ·split
  ·show 1≤4;decide
  ·exact Nat.le_refl 1
theorem GF:∀l:List UInt8,l.length≤(l.flatMap dS).length
 |[]=>Nat.le_refl _
 |c::t=>by
  have:=GF t
  have:=Mn c
  rw [List.flatMap_cons,List.length_append,List.length_cons];omega
theorem Pn (k:Int) (t:List UInt8):t.length≤(bj k t).length:=by
 unfold bj
 split
 ·rw [List.length_append,List.length_cons,List.length_cons];omega
 ·split
  ·rename_i h;rw [h.2];decide
  ·split
   ·have:=mh t
    have:=GF t
    omega
   ·exact Nat.le_refl _
theorem I_ {l:List UInt8} (h:(eo l).2.2=0):∀x∈(eo l).1,LZ x:=by
 obtain ⟨out,a,er,hq⟩:∃out a er,eo l=(out,a,er):=⟨_,_,_,rfl⟩
 rw [hq] at h⊢
 have h:er=0:=h
 subst h
 obtain ⟨_,_,_,hlen,_⟩:=Gi hq
 unfold eo at hq
 by_cases hb:16384<l.length
 ·rw [if_pos hb] at hq
  exact absurd (Prod.mk.inj (Prod.mk.inj hq).2).2 (by decide)
 ·rw [if_neg hb] at hq
  have hP:=BP (iC l) [] out a (fun x=>(x.kind=1→(∀d∈x.text,aZ d=true)∧1≤x.text.length∧x.text.length≤15)∧(x.kind=4→∃m,(∀d,m.head? =some d→aZ d=true)∧(cz m).2=0∧x.text=(cz m).1))
   (fun x hx=>by cases hx) (fun w hw he=>by
    have e:=uD l _ _ w hw
    rw [e] at he⊢
    exact Mm he) hq
  intro x hx
  have hx:x∈out:=hx
  have h1:=BQ hx
  have h2:=Pn x.kind x.text
  have e:Gh x=bj x.kind x.text:=rfl
  rw [e] at h1
  exact ⟨(hP x hx).1,by omega,(hP x hx).2⟩
end Go.Proofs.YtddoehnkgcbboaaGreatDoor
namespace Go.Proofs.YtddoehnkgcbboaaGreatDoor
open Go.RowKit Go.Shelf Go.Sort
theorem uE {c:UInt8} {d:List UInt8} (h:c∈aO d):c∈d:=by
 unfold aO at h
 rw [List.mem_reverse] at h
 have h1:=(List.dropWhile_suffix (p:=(·==(48:UInt8))) (l:=(d.dropWhile (·==48)).reverse)).subset h
 rw [List.mem_reverse] at h1
 exact (List.dropWhile_suffix (p:=(·==(48:UInt8))) (l:=d)).subset h1
theorem BR (s:ByteArray):br s.data.toList=s:=by
 apply ByteArray.ext
 simp [br]
theorem TQ {c:UInt8} (h:iL c=true):c≠45:=by
 rintro rfl
 revert h;decide
theorem mD {neg:Bool} {T v:List UInt8} {fi:Int} (hT:∀c∈T,iL c=true) (h:aX neg T fi=(br v,0)):
 (T=[]∧v=[48])∨(T≠[]∧∃r:List UInt8,2≤r.length∧r.head? ≠some 45∧v=(if neg then 45::r else r)∧aX true T fi=(br (45::r),0)∧aX false T fi=(br r,0)):=by
 by_cases h0:T=[]
 ·unfold aX at h
  rw [if_pos h0] at h
  refine .inl ⟨h0,?_⟩
  have h1:=congrArg (fun p:ByteArray×Int=>p.1.data.toList) h
  exact h1.symm
 ·by_cases h1:17<T.length∨fi< -400∨400<fi
  ·unfold aX at h
   rw [if_neg h0,if_pos h1] at h
   exact absurd (congrArg Prod.snd h) (by show¬(9:Int)=0;decide)
  ·have key:∀b:Bool,aX b T fi=(br ((if b then [45] else [])++(T.take 1++(if 1<T.length then 46::T.drop 1 else [])++[101]++(k_ fi).data.toList)),0):=by
    intro b
    unfold aX
    rw [if_neg h0,if_neg h1]
    congr 1
    rw [show (⟨#[101]⟩:ByteArray)=br [101] from rfl,tL]
    conv=>lhs;rhs;rw [←BR (k_ fi)]
    rw [tL]
    simp only [List.append_assoc]
   refine .inr ⟨h0,T.take 1++(if 1<T.length then 46::T.drop 1 else [])++[101]++(k_ fi).data.toList,?_,?_,?_,by rw [key];rfl,by rw [key];rfl⟩
   ·have:1≤T.length:=List.length_pos_iff.2 h0
    simp only [List.length_append,List.length_take,List.length_cons,List.length_nil]
    omega
   ·cases T with
    |nil=>exact absurd rfl h0
    |cons c t=>
     have:=TQ (hT c List.mem_cons_self)
     simp only [List.take_succ_cons,List.take_zero,List.cons_append,List.nil_append,List.head?_cons]
     intro e
     exact this (Option.some.inj e)
   ·have h2:=h.symm.trans (key neg)
    have h3:=congrArg (fun p:ByteArray×Int=>p.1.data.toList) h2
    have h4:v=(if neg then [45] else [])++(T.take 1++(if 1<T.length then 46::T.drop 1 else [])++[101]++(k_ fi).data.toList):=h3
    rw [h4]
    cases neg<;>rfl
def aM (v:List UInt8):Int:=if ku v=true then (if v=[48] then 0 else if v.head? =some 45 then-1 else 1) else 0
def aT (v:List UInt8):List UInt8:=if ku v=true then (if v=[48] then [48] else if v.head? =some 45 then v.tail else 45::v) else []
theorem n48 (r:List UInt8):(45:UInt8)::r≠[48]:=fun e=>absurd (List.cons.inj e).1 (by decide)
theorem ZI {r:List UInt8} (h:2≤r.length):r≠[48]:=fun e=>by rw [e] at h;exact absurd h (by decide)
theorem XZ {neg:Bool} {T v:List UInt8} {fi:Int} (hv:ku v=true) (hT:∀c∈T,iL c=true) (h:aX neg T fi=(br v,0)):
 aM v=if T.length=0 then 0 else if neg then-1 else 1:=by
 unfold aM
 rw [if_pos hv]
 rcases mD hT h with ⟨rfl,rfl⟩|⟨h0,r,hl,hh,TS,_,_⟩
 ·rfl
 ·have Vb:¬T.length=0:=fun e=>h0 (List.eq_nil_of_length_eq_zero e)
  rw [if_neg Vb]
  cases neg with
  |true=>
   have e:v=45::r:=TS
   subst e
   rw [if_neg (n48 r),if_pos (show (45::r).head? =some 45 from rfl),if_pos rfl]
  |false=>
   have e:v=r:=TS
   subst e
   rw [if_neg (ZI hl),if_neg hh,if_neg (by decide)]
theorem X0 {neg:Bool} {T v:List UInt8} {fi:Int} (hv:ku v=true) (hT:∀c∈T,iL c=true) (h:aX neg T fi=(br v,0)):
 aX (!neg&&decide (0<T.length)) T fi=(br (aT v),0):=by
 unfold aT
 rw [if_pos hv]
 rcases mD hT h with ⟨rfl,rfl⟩|⟨h0,r,hl,hh,TS,h1,h2⟩
 ·rw [if_pos rfl];exact (lj _ _ fi).trans (by rw [←lj neg fi fi];exact h)
 ·have Vb:0<T.length:=List.length_pos_iff.2 h0
  rw [decide_eq_true Vb,Bool.and_true]
  cases neg with
  |true=>
   have e:v=45::r:=TS
   subst e
   rw [if_neg (n48 r),if_pos (show (45::r).head? =some 45 from rfl)];exact h2
  |false=>
   have e:v=r:=TS
   subst e
   rw [if_neg (ZI hl),if_neg hh];exact h1
theorem Po {v l:List UInt8} (hd:∀c,l.head? =some c→aZ c=true) (h:(cz l).2=0) (e:v=(cz l).1):ku v=true∧aT v=yV v:=by
 have hv:ku v=true:=by rw [e];exact rC l h
 refine ⟨hv,?_⟩
 have hp:aY 100000 l=(br v,0):=by
  rw [e]
  unfold cz at h⊢
  rw [←h]
  show _=(br (aY 100000 l).1.data.toList,(aY 100000 l).2)
  rw [BR]
 unfold aT yV
 rw [if_pos hv]
 unfold aY at hp
 cases hs:dh l with
 |none=>rw [hs] at hp;exact absurd (congrArg Prod.snd hp) (by show¬(3:Int)=0;decide)
 |some p=>
  rw [hs] at hp
  have hp':aX p.1 (aO (p.2.1++p.2.2.1)) _=(br v,0):=hp
  have K9:p.1=false:=by
   rw [ue hs]
   unfold bq
   rw [if_neg (fun e=>by have:=hd 45 e;revert this;decide)]
   split<;>rfl
  rw [K9] at hp'
  rcases mD (fun c hc=>mV hs c (uE hc)) hp' with ⟨_,rfl⟩|⟨_,r,hl,hh,TS,_,_⟩
  ·rfl
  ·have e:v=r:=TS
   subst e
   rw [if_neg (ZI hl),if_neg hh,if_neg (ZI hl)]
theorem TT (x:UInt8):j_ x≠.bool false∧j_ x≠.slice none 0 0∧j_ x≠.int .i64 0:=by
 unfold j_
 refine ⟨?_,?_,?_⟩<;>(intro e;cases e)
theorem TU {W:World} {A:Option Addr} {l:List UInt8} (h:Sl j_ W A l) {g:Nat} {t:TypeId} (hr:Row W g t #[.bool false,.slice none 0 0,.int .i64 0]) (a b c:Value):
 Sl j_ (((W.setCell ⟨g,0,none⟩ a).setCell ⟨g,1,none⟩ b).setCell ⟨g,2,none⟩ c) A l:=by
 intro hp
 obtain ⟨k,off,rfl,hat⟩:=h hp
 have hne:k≠g:=by
  rintro rfl
  have h0:=hat 0 hp
  rw [hr.cell] at h0
  obtain ⟨x1,x2,x3⟩:=TT l[0]
  match off,h0 with
  |0,h0=>exact x1 (Option.some.inj h0).symm
  |1,h0=>exact x2 (Option.some.inj h0).symm
  |2,h0=>exact x3 (Option.some.inj h0).symm
  |o+3,h0=>simp at h0
 have hf:∀o,(((W.setCell ⟨g,0,none⟩ a).setCell ⟨g,1,none⟩ b).setCell ⟨g,2,none⟩ c).cell? ⟨k,o,none⟩=W.cell? ⟨k,o,none⟩:=fun o=>World.cell?_of_block (((Below.heap_setCell _ _ _ _ hne).trans (Below.heap_setCell _ _ _ _ hne)).trans (Below.heap_setCell _ _ _ _ hne))
 exact ⟨k,off,rfl,fun i hi=>(hf _).trans (hat i hi)⟩
def Pq (v:Bool) (lb:ByteArray) (w:World) (e:Ending) (w':World):Prop:=
 (∃neg A n cap ex,e=.returned (.tuple #[gm neg A n cap ex,.bool v])∧(v=true→∃T:List UInt8,n=T.length∧T.length≤128∧n≤cap∧cap≤maxLen∧-1000000000≤ex∧ex≤1000000000∧Sl j_ w' A T∧(∀c∈T,iL c=true)∧aX neg T (ex+n-1)=(lb,0)))∧Below w.heap.size w w'
theorem mE (l:List UInt8) (w:World) (hz:l.length≤1000000) (hg:Gl w):
 Calls Tryz.prog 104 #[.string (br l)] w (Pq (ku l) (br l) w):=by
 have SC:=aa (fun W:World=>A6 l W hz)
 have G:=aa hg
 clear hg
 have N7:=Eg l
 obtain ⟨R,hR⟩:∃R,aY 100000 l=R:=⟨_,rfl⟩
 have HR:=aa hR
 rw [hR] at N7
 obtain ⟨v,hv⟩:∃v,ku l=v:=⟨_,rfl⟩
 rw [hv] at N7⊢
 have Hcp:=aa N7
 clear hR hv N7
 obtain ⟨lb,tT⟩:∃lb,br l=lb:=⟨_,rfl⟩
 rw [tT] at Hcp SC⊢
 clear tT
 have R0:=aa (Row.new w 131 #[.bool false,.slice none 0 0,.int .i64 0])
 have B0:=aa ((Below.refl w.heap.size w).alloc (Nat.le_refl _) (.cells #[.bool false,.slice none 0 0,.int .i64 0] 131))
 go_enter Tryz.func104,Tryz.ntmps104
 go_wp2_with fail
 refine (SC.out _).mono ?_
 rintro e w1 ⟨hb,neg,A,n,cap,ex,ok,rfl,hno,Lc⟩
 have B1:=aa (B0.out.trans (hb.mono B0.out.size))
 have R1:=aa (R0.out.below hb R0.out.lt)
 have Ld:=aa Lc
 have QN:=aa hno
 clear hb Lc hno R0 B0
 unfold gm
 have B2:=aa (B1.out.alloc B1.out.size (.cells #[.bool neg,.slice A n cap,.int .i64 ex] 131))
 have R2:=aa (R1.out.alloc (.cells #[.bool neg,.slice A n cap,.int .i64 ex] 131))
 have N2:=aa (Row.new w1 131 #[.bool neg,.slice A n cap,.int .i64 ex])
 have hz0:(w1.alloc (.cells #[.bool neg,.slice A n cap,.int .i64 ex] 131)).cell? ⟨w.heap.size,0,none⟩=some (.bool false):=R2.out.cell 0
 have hz1:(w1.alloc (.cells #[.bool neg,.slice A n cap,.int .i64 ex] 131)).cell? ⟨w.heap.size,1,none⟩=some (.slice none 0 0):=R2.out.cell 1
 have hz2:(w1.alloc (.cells #[.bool neg,.slice A n cap,.int .i64 ex] 131)).cell? ⟨w.heap.size,2,none⟩=some (.int .i64 0):=R2.out.cell 2
 have hf0:(w1.alloc (.cells #[.bool neg,.slice A n cap,.int .i64 ex] 131)).frozen? ⟨w.heap.size,0,none⟩=false:=R2.out.frozen 0
 have ZC:(w1.alloc (.cells #[.bool neg,.slice A n cap,.int .i64 ex] 131)).frozen? ⟨w.heap.size,1,none⟩=false:=R2.out.frozen 1
 have hf2:(w1.alloc (.cells #[.bool neg,.slice A n cap,.int .i64 ex] 131)).frozen? ⟨w.heap.size,2,none⟩=false:=R2.out.frozen 2
 cases hsc:dh l with
 |none=>
  obtain rfl:=QN.out hsc
  have Zo:R=(⟨#[]⟩,3):=by rw [←HR.out];unfold aY;rw [hsc]
  have hv:v=false:=by rw [Hcp.out,Zo];rfl
  subst hv
  have RF:=aa (((R2.out.bg 0 (.bool false)).bg 1 (.slice none 0 0)).bg 2 (.int .i64 0))
  have BF:=aa (((B2.out.setCell (p:=⟨w.heap.size,0,none⟩) (Nat.le_refl _) (.bool false)).setCell (p:=⟨w.heap.size,1,none⟩) (Nat.le_refl _) (.slice none 0 0)).setCell (p:=⟨w.heap.size,2,none⟩) (Nat.le_refl _) (.int .i64 0))
  clear hsc Zo
  go_upto_region 3 with fail
  generalize w1.alloc (.cells #[.bool neg,.slice A n cap,.int .i64 ex] 131)=w2 at*
  go_wp2
  exact bodyPost_ret (v:=.tuple #[gm false none 0 0 0,.bool false]) (bY rfl _ _ w.heap.size 131 _ _ _ (.bool false) rfl rfl RF.out Tryz.underlying131 rfl (by kernel_rfl)) rfl ⟨⟨false,none,0,0,0,rfl,fun h=>by cases h⟩,BF.out⟩
 |some p=>
  obtain ⟨rfl,hn,pn,QO,hcm,h1,h2⟩:=Ld.out p hsc
  have heq:=py hsc hn h1
  obtain ⟨x1,x2⟩:=wN hsc hn h1 h2
  have S_:=qC hsc
  obtain ⟨T,hT⟩:∃T,aO (p.2.1++p.2.2.1)=T:=⟨_,rfl⟩
  rw [hT] at hn pn heq S_
  have TX:=aa (fun (W:World) (h:Sl j_ W A T) (hg:Gl W)=>tM neg A n cap T ex W hn (by omega) QO hcm x1 x2 h hg)
  rw [←heq,HR.out] at TX
  have U5:=aa (pn.below ((Below.refl w1.heap.size w1).alloc (Nat.le_refl _) (.cells #[.bool neg,.slice A n cap,.int .i64 ex] 131)))
  unfold gm at TX
  have aaW:=mV hsc
  have Pr:=aa (heq.symm.trans HR.out)
  have Hn2:=aa hn
  have Hx:=aa (And.intro x1 x2)
  have Hc2:=aa (And.intro QO hcm)
  have Hd:=aa (show ∀c∈T,iL c=true from by rw [←hT];exact fun c hc=>aaW c (uE hc))
  obtain ⟨R1b,Re⟩:=R
  clear hsc hn pn heq h1 h2 hT Ld QN
  go_wp2_with fail
  refine (TX.out _ U5.out (G.out.below B2.out)).mono ?_
  rintro e w3 ⟨rfl,hb⟩
  have B3:=aa (B2.out.trans (hb.mono B2.out.size))
  have Hs3:=aa (U5.out.below hb)
  have R3:=aa (R2.out.below hb R2.out.lt)
  have N3:=aa (N2.out.below hb N2.out.lt)
  clear hb hz0 hz1 hz2 hf0 ZC hf2
  have n0:w3.cell? ⟨w1.heap.size,0,none⟩=some (.bool neg):=N3.out.cell 0
  have n1:w3.cell? ⟨w1.heap.size,1,none⟩=some (.slice A n cap):=N3.out.cell 1
  have n2:w3.cell? ⟨w1.heap.size,2,none⟩=some (.int .i64 ex):=N3.out.cell 2
  have hz0:w3.cell? ⟨w.heap.size,0,none⟩=some (.bool false):=R3.out.cell 0
  have hz1:w3.cell? ⟨w.heap.size,1,none⟩=some (.slice none 0 0):=R3.out.cell 1
  have hz2:w3.cell? ⟨w.heap.size,2,none⟩=some (.int .i64 0):=R3.out.cell 2
  have hf0:w3.frozen? ⟨w.heap.size,0,none⟩=false:=R3.out.frozen 0
  have ZC:w3.frozen? ⟨w.heap.size,1,none⟩=false:=R3.out.frozen 1
  have hf2:w3.frozen? ⟨w.heap.size,2,none⟩=false:=R3.out.frozen 2
  have RF:=aa (((R3.out.bg 0 (.bool neg)).bg 1 (.slice A n cap)).bg 2 (.int .i64 ex))
  have BF:=aa (((B3.out.setCell (p:=⟨w.heap.size,0,none⟩) (Nat.le_refl _) (.bool neg)).setCell (p:=⟨w.heap.size,1,none⟩) (Nat.le_refl _) (.slice A n cap)).setCell (p:=⟨w.heap.size,2,none⟩) (Nat.le_refl _) (.int .i64 ex))
  have N7:v=(decide (Re=0)&&decide (R1b=lb)):=Hcp.out
  by_cases ZJ:Re=0
  ·rw [decide_eq_true ZJ,Bool.true_and] at N7
   have X6:=aa N7
   subst ZJ
   clear N7
   go_wp2
   exact bodyPost_ret (v:=.tuple #[gm neg A n cap ex,.bool v]) (bY rfl _ _ w.heap.size 131 _ _ _ (.bool v) (by rw [X6.out,←Ef];simp) rfl RF.out Tryz.underlying131 rfl (by kernel_rfl)) rfl ⟨⟨neg,A,n,cap,ex,rfl,fun hv=>⟨T,Hn2.out,S_,Hc2.out.1,Hc2.out.2,Hx.out.1,Hx.out.2,TU Hs3.out R3.out _ _ _,Hd.out,by rw [Pr.out,of_decide_eq_true (X6.out.symm.trans hv)]⟩⟩,BF.out⟩
  ·rw [decide_eq_false ZJ,Bool.false_and] at N7
   subst N7
   have ab2:(Re==0)=false:=beq_eq_false_iff_ne.2 ZJ
   go_wp2
   exact bodyPost_ret (v:=.tuple #[gm neg A n cap ex,.bool false]) (bY rfl _ _ w.heap.size 131 _ _ _ (.bool false) rfl rfl RF.out Tryz.underlying131 rfl (by kernel_rfl)) rfl ⟨⟨neg,A,n,cap,ex,rfl,fun h=>by cases h⟩,BF.out⟩
theorem BS (neg:Bool) (A:Option Addr) (n cap:Nat) (ex:Int) (w:World):
 Calls Tryz.prog 105 #[gm neg A n cap ex] w fun e w'=>e=.returned (.int .i64 (if n=0 then 0 else if neg then-1 else 1))∧Below w.heap.size w w':=by
 have hb:=(Below.refl w.heap.size w).alloc (Nat.le_refl _) (.cells #[.bool neg,.slice A n cap,.int .i64 ex] 131)
 have B:=aa hb
 clear hb
 unfold gm
 by_cases h0:n=0
 ·subst h0
  go_enter Tryz.func105,Tryz.ntmps105
  go_wp2
  go_ret
  exact ⟨rfl,B.out⟩
 ·have h1:((n:Int)==0)=false:=beq_eq_false_iff_ne.2 (by omega)
  rw [if_neg h0]
  cases neg with
  |true=>
   go_enter Tryz.func105,Tryz.ntmps105
   go_wp2
   go_ret
   exact ⟨rfl,B.out⟩
  |false=>
   go_enter Tryz.func105,Tryz.ntmps105
   go_wp2
   go_ret
   exact ⟨rfl,B.out⟩
theorem I' (neg:Bool) (A:Option Addr) (n cap:Nat) (ex:Int) (w:World):
 Calls Tryz.prog 210 #[gm neg A n cap ex] w fun e w'=>e=.returned (gm (!neg&&decide (0<n)) A n cap ex)∧Below w.heap.size w w':=by
 have B:=aa (((Below.refl w.heap.size w).alloc (Nat.le_refl _) (.cells #[.bool neg,.slice A n cap,.int .i64 ex] 131)).alloc (by simp) (.cells #[.bool false,.slice none 0 0,.int .i64 0] 131))
 unfold gm
 go_enter Tryz.func210,Tryz.ntmps210
 cases neg with
 |true=>
  go_wp2
  exact bodyPost_ret (v:=.agg #[.bool false,.slice A n cap,.int .i64 ex]) (ag rfl _ _ (w.heap.size+1) 131 _ _ _ rfl (heap_alloc2_new w _ _) Tryz.underlying131 rfl (by kernel_rfl)) rfl ⟨rfl,((Below.refl w.heap.size w).alloc (Nat.le_refl _) _).alloc (by simp) _⟩
 |false=>
  go_wp2
  exact bodyPost_ret (v:=.agg #[.bool (decide (0<n)),.slice A n cap,.int .i64 ex]) (ag rfl _ _ (w.heap.size+1) 131 _ _ _ rfl (heap_alloc2_new w _ _) Tryz.underlying131 rfl (by kernel_rfl)) rfl ⟨rfl,((Below.refl w.heap.size w).alloc (Nat.le_refl _) _).alloc (by simp) _⟩
theorem BU (l:List UInt8) (w:World) (hz:l.length≤1000000) (hg:Gl w):
 Calls Tryz.prog 69 #[.string (br l)] w fun e w'=>e=.returned (.int .i64 (aM l))∧Below w.heap.size w w':=by
 have CN:=aa (mE l w hz hg)
 have SE:=aa (fun (hv:ku l=true) (neg:Bool) (T:List UInt8) (fi:Int) (hT:∀c∈T,iL c=true) (h:aX neg T fi=(br l,0))=>XZ hv hT h)
 have S0:=aa (fun (hv:ku l=false)=>show aM l=0 from by unfold aM;rw [if_neg (by rw [hv];decide)])
 clear hg
 generalize aM l=R at*
 generalize ku l=v at*
 generalize br l=lb at*
 go_enter Tryz.func69,Tryz.ntmps69
 go_wp2_with fail
 refine CN.out.mono ?_
 rintro e w1 ⟨⟨neg,A,n,cap,ex,rfl,hT⟩,hb⟩
 have B1:=aa hb
 have HT:=aa hT
 clear hb hT
 cases v with
 |false=>
  have HR:=aa (S0.out rfl)
  clear S0 SE HT
  unfold gm
  go_wp2
  go_ret
  exact ⟨by rw [HR.out];rfl,B1.out.alloc B1.out.size _⟩
 |true=>
  obtain ⟨T,hn,_,_,_,_,_,_,hd,hx⟩:=HT.out rfl
  have HR:=aa (SE.out rfl neg T _ hd hx)
  have HN:=aa hn
  have B2:=aa (fun o=>B1.out.alloc B1.out.size o)
  have SG:=aa (fun W:World=>BS neg A n cap ex W)
  rw [←HN.out] at HR
  obtain ⟨sv,hsv⟩:∃sv:Int,(if n=0 then (0:Int) else if neg then-1 else 1)=sv:=⟨_,rfl⟩
  rw [hsv] at SG HR
  clear S0 SE HT hn hd hx hsv
  unfold gm at SG⊢
  go_wp2_with fail
  refine (SG.out _).mono ?_
  rintro e w2 ⟨rfl,hb2⟩
  have iz:=aa ((B2.out _).trans (hb2.mono (B2.out _).size))
  clear hb2
  go_wp2
  go_ret
  exact ⟨by rw [HR.out];rfl,iz.out⟩
theorem ET (l:List UInt8) (w:World) (hz:l.length≤1000000) (hg:Gl w):
 Calls Tryz.prog 183 #[.string (br l)] w fun e w'=>e=.returned (.string (br (aT l)))∧Below w.heap.size w w':=by
 have CN:=aa (mE l w hz hg)
 have SE:=aa (fun (hv:ku l=true) (neg:Bool) (T:List UInt8) (fi:Int) (hT:∀c∈T,iL c=true) (h:aX neg T fi=(br l,0))=>X0 hv hT h)
 have S0:=aa (fun (hv:ku l=false)=>show aT l=[] from by unfold aT;rw [if_neg (by rw [hv];decide)])
 have G:=aa hg
 clear hg
 generalize aT l=R at*
 generalize ku l=v at*
 generalize br l=lb at*
 go_enter Tryz.func183,Tryz.ntmps183
 go_wp2_with fail
 refine CN.out.mono ?_
 rintro e w1 ⟨⟨neg,A,n,cap,ex,rfl,hT⟩,hb⟩
 have B1:=aa hb
 have HT:=aa hT
 clear hb hT
 cases v with
 |false=>
  have HR:=aa (S0.out rfl)
  clear S0 SE HT
  unfold gm
  go_wp2
  go_ret
  exact ⟨by rw [HR.out];rfl,B1.out.alloc B1.out.size _⟩
 |true=>
  obtain ⟨T,hn,hT1,hc,hcm,x1,x2,pn,hd,hx⟩:=HT.out rfl
  have HR:=aa (SE.out rfl neg T _ hd hx)
  have HS:=aa pn
  have B2:=aa (fun o=>B1.out.alloc B1.out.size o)
  have MN:=aa (fun W:World=>I' neg A n cap ex W)
  have TX:=aa (fun (W:World) (h:Sl j_ W A T) (hg:Gl W)=>tM (!neg&&decide (0<n)) A n cap T ex W hn (by omega) hc hcm x1 x2 h hg)
  rw [←hn] at HR
  rw [HR.out] at TX
  obtain ⟨ng',mA⟩:∃b,(!neg&&decide (0<n))=b:=⟨_,rfl⟩
  rw [mA] at MN TX
  clear S0 SE HT hn hd hx hT1 hc hcm x1 x2 pn HR mA
  unfold gm at MN TX⊢
  go_wp2_with fail
  refine (MN.out _).mono ?_
  rintro e w2 ⟨rfl,hb2⟩
  have iz:=aa ((B2.out _).trans (hb2.mono (B2.out _).size))
  have qb:=aa ((HS.out.below ((Below.refl w1.heap.size w1).alloc (Nat.le_refl _) (.cells #[.bool neg,.slice A n cap,.int .i64 ex] 131))).below hb2)
  clear hb2
  go_wp2_with fail
  refine (TX.out _ qb.out (G.out.below iz.out)).mono ?_
  rintro e w3 ⟨rfl,hb3⟩
  have g_:=aa (iz.out.trans (hb3.mono iz.out.size))
  clear hb3
  go_wp2
  go_ret
  exact ⟨rfl,g_.out⟩
theorem Ps {p:PS} (h:∀x∈p.L,LZ x):sq p:=fun x hx hk W hg=>by
 obtain ⟨l,hd,h2,e⟩:=(h x hx).real hk
 have h3:=(Po hd h2 e).2
 have:=ET x.text W (h x hx).len hg
 rw [h3] at this
 exact this
end Go.Proofs.YtddoehnkgcbboaaGreatDoor
