/- Packed by program: a part of the proof; the last file says what is proved. -/
import Derived.Test.YtddoehnkgcbboaaGreatDoorPrQ
import Derived.Test.YtddoehnkgcbboaaGreatDoorPrN
import Derived.Test.YtddoehnkgcbboaaGreatDoorPrC
import Derived.Test.YtddoehnkgcbboaaGreatDoorProg
import Derived.Test.YtddoehnkgcbboaaGreatDoorPrA
import Derived.Test.YtddoehnkgcbboaaGreatDoorPrB
import Derived.Test.YtddoehnkgcbboaaGreatDoorPrL
import Derived.Maps.AppendAt
import Derived.Lib.QuietBelow
import Derived.Deep.QuietTactic
import Derived.BigQuiet
import Derived.IntWalk
import Derived.Lib.ReplaceLaws
import Derived.Lib.ItoaLen
set_option maxHeartbeats 16000000
set_option maxRecDepth 100000
set_option linter.unusedVariables false
set_option linter.unusedSimpArgs false
namespace Go.Proofs.YtddoehnkgcbboaaGreatDoor
open Go.RowKit Go.Shelf
def kP (f:Nat→PR Nd):Prop:=∀k x k',f k=.ok x k'→k+aS x≤k'
def aaX (f:Nat→PR (List Nd)):Prop:=∀k x k',f k=.ok x k'→k+aC x≤k'
theorem pO:∀(l:List Nd) (x:Nd),aC (l++[x])=aC l+aS x
 |[],x=>by simp [aC]
 |y::r,x=>by rw [List.cons_append,aC,aC,pO r x];omega
section
variable {L : List Lx} {en : Int} {rd : List UInt8 → Int × Int}
theorem xD {ops:List (List UInt8×Int)} {f:Nat→PR Nd} (hf:kP f):∀(m:Nat) (n:Nd) (k:Nat) (x:Nd) (k':Nat),eI L en ops f m n k=.ok x k'→k+aS x≤k'+aS n
 |0,n,k,x,k',h=>by cases h;exact Nat.le_refl _
 |m+1,n,k,x,k',h=>by
  unfold eI at h
  split at h
  ·cases h;exact Nat.le_refl _
  ·obtain ⟨y,k1,h1,h2⟩:=ai h
   have a:=hf _ _ _ h1
   have b:=xD hf m _ _ _ _ h2
   simp only [aS,aC] at b⊢
   omega
theorem gR {ops:List (List UInt8×Int)} {f:Nat→PR Nd} (hf:kP f):kP (cA L en ops f):=fun k x k' h=>by
 obtain ⟨y,k1,h1,h2⟩:=ai h
 have a:=hf _ _ _ h1
 have b:=xD hf _ _ _ _ _ h2
 omega
theorem MD {ng cmp:Nat→PR Nd} (h1:kP ng) (h2:kP cmp):kP (ui L en ng cmp):=fun k x k' h=>by
 unfold ui at h
 split at h
 ·obtain ⟨y,k1,h3,h4⟩:=ai h
  cases h4
  have:=h1 _ _ _ h3
  simp only [aS,aC];omega
 ·exact h2 _ _ _ h
theorem ME {dm:Nat→PR Nd} (h1:kP dm):kP (vQ L en dm):=fun k x k' h=>by
 obtain ⟨y,k1,h2,h3⟩:=ai h
 have a:=h1 _ _ _ h2
 split at h3
 ·cases h3;exact a
 ·obtain ⟨z,k2,h4,h5⟩:=ai h3
  cases h5
  have:=h1 _ _ _ h4
  simp only [aS,aC];omega
theorem E2 {n:Nd} {k:Nat} {x:Nd} {k':Nat} (h:mn L en n k=.ok x k'):k+aS x≤k'+aS n:=by
 obtain ⟨a,k1,h1,h2⟩:=ai h
 have e1:=iV h1
 split at h2
 ·obtain ⟨b,k2,h3,h4⟩:=ai h2
  obtain ⟨_,k3,h5,h6⟩:=ai h4
  cases h6
  have e2:=iV h3
  have e3:=(aF h5).1
  simp only [aS,aC];omega
 ·obtain ⟨_,k3,h5,h6⟩:=ai h2
  cases h6
  have e3:=(aF h5).1
  simp only [aS,aC];omega
theorem PB {un qK:Nat→PR Nd} (h1:kP un) (h2:kP qK):kP (Gj L en un qK):=fun k x k' h=>by
 unfold Gj at h
 split at h
 ·obtain ⟨y,k1,h3,h4⟩:=ai h
  cases h4
  have:=h1 _ _ _ h3
  simp only [aS,aC];omega
 ·split at h
  ·split at h
   ·cases h;simp only [aS,aC];omega
   ·cases h
  ·obtain ⟨y,k1,h3,h4⟩:=ai h
   have a:=h2 _ _ _ h3
   split at h4
   ·have:=E2 h4;omega
   ·cases h4;exact a
theorem xE {dm:Nat→PR Nd} (hb:kP dm):∀(m:Nat) (l:List Nd) (k:Nat) (x:List Nd) (k':Nat),h_ L dm m l k=.ok x k'→k+aC x≤k'+aC l
 |0,l,k,x,k',h=>by cases h;exact Nat.le_refl _
 |m+1,l,k,x,k',h=>by
  unfold h_ at h
  split at h
  ·obtain ⟨y,k1,h1,h2⟩:=ai h
   have a:=hb _ _ _ h1
   have b:=xE hb m _ _ _ _ h2
   rw [pO] at b
   omega
  ·cases h;exact Nat.le_refl _
theorem Jl {cond:Nat→PR Nd} (hc:kP cond) (q aJ:Int) (k:Nat) (x:Nd) (k':Nat) (h:jn L en rd cond q aJ k=.ok x k'):k+aS x≤k':=by
 obtain ⟨_,k1,h1,h2⟩:=ai h
 obtain ⟨y,k2,h3,h4⟩:=ai h2
 obtain ⟨_,k3,h5,h6⟩:=ai h4
 have e1:=(aF h1).1
 have e2:=hc _ _ _ h3
 have e3:=(aF h5).1
 split at h6
 ·obtain ⟨z,k4,h7,h8⟩:=ai h6
  obtain ⟨_,k5,h9,h10⟩:=ai h8
  obtain ⟨a,b,h11⟩:=sP h10
  obtain ⟨_,k6,Ab,za⟩:=ai h11
  cases za
  have e4:=hc _ _ _ h7
  have e5:=(aF h9).1
  have e6:=(aF Ab).1
  simp only [aS,aC];omega
 ·obtain ⟨a,b,h11⟩:=sP h6
  obtain ⟨_,k6,Ab,za⟩:=ai h11
  cases za
  have e6:=(aF Ab).1
  simp only [aS,aC];omega
theorem E3 {k:Nat} {n:Nd} (h:iF L en k=some n):aS n=1:=by
 unfold iF at h
 repeat' split at h
 all_goals first|(cases h;rfl)|cases h
theorem Jm {cond dm:Nat→PR Nd} (hc:kP cond) (hb:kP dm):kP (gA L en rd cond dm):=fun k x k' h=>by
 unfold gA at h
 split at h
 ·rename_i n hn;cases h;have:=E3 hn;omega
 ·split at h
  ·cases h;simp only [aS,aC];omega
  ·split at h
   ·cases h;simp only [aS,aC];omega
   ·split at h
    ·obtain ⟨y,k1,h1,h2⟩:=ai h
     obtain ⟨_,k2,h3,h4⟩:=ai h2
     cases h4
     have:=hc _ _ _ h1
     have:=(aF h3).1
     omega
    ·split at h
     ·obtain ⟨y,k1,h1,h2⟩:=ai h
      obtain ⟨l,k2,h3,h4⟩:=ai h2
      obtain ⟨_,k3,h5,h6⟩:=ai h4
      cases h6
      have:=hb _ _ _ h1
      have:=xE hb _ _ _ _ _ h3
      have:=(aF h5).1
      simp only [aS,aC] at*;omega
     ·split at h
      ·obtain ⟨_,k1,h1,h2⟩:=ai h
       obtain ⟨y,k2,h3,h4⟩:=ai h2
       obtain ⟨_,k3,h5,h6⟩:=ai h4
       cases h6
       have:=(aF h1).1
       have:=hc _ _ _ h3
       have:=(aF h5).1
       simp only [aS,aC];omega
      ·split at h
       ·have:=Jl hc _ _ _ _ _ h;omega
       ·cases h
theorem MF {un:Nat→PR Nd} (h:kP un):kP (Tx L en un):=gR (gR (gR (gR h)))
structure TY (F:Fns):Prop where
 cond:kP F.cond
 ng:kP F.ng
 dm:kP F.dm
 un:kP F.un
theorem Cb:∀F,TY (cV L en rd F)
 |0=>⟨fun k x k' h=>(by cases h),fun k x k' h=>(by cases h),fun k x k' h=>(by cases h),fun k x k' h=>(by cases h)⟩
 |F+1=>by
  have ih:=Cb F
  have XN:kP (Gj L en (cV L en rd F).un (gA L en rd (cV L en rd F).cond (cV L en rd F).dm)):=PB ih.un (Jm ih.cond ih.dm)
  have Mc:=MF (L:=L) (en:=en) XN
  have mA:=MD (L:=L) (en:=en) ih.ng (ME (L:=L) (en:=en) Mc)
  exact ⟨gR (gR mA),mA,Mc,XN⟩
theorem xF:kP (cM L en rd):=(Cb (L.length+1)).cond
theorem uH {cond:Nat→PR Nd} (hc:kP cond):aaX (cF L cond):=fun k x k' h=>by
 unfold cF at h
 split at h
 ·obtain ⟨c,k1,h1,h2⟩:=ai h
  cases h2
  have:=hc _ _ _ h1
  simp only [aC];omega
 ·cases h;simp only [aC];omega
theorem uI {α:Type} {k:Nat} {f:Int→Int→Nat→PR α} {x:α} {k':Nat} (h:fY L en rd k f=.ok x k'):∃a b,f a b (k+5)=.ok x k':=by
 obtain ⟨_,k1,h1,h2⟩:=ai h
 obtain ⟨a,k2,h3,h4⟩:=ai h2
 obtain ⟨_,k3,h5,h6⟩:=ai h4
 obtain ⟨b,k4,h7,h8⟩:=ai h6
 obtain ⟨_,k5,h9,h10⟩:=ai h8
 have e1:=(aF h1).1
 have e2:=ic h3
 have e3:=(aF h5).1
 have e4:=ic h7
 have e5:=(aF h9).1
 subst e1 e2 e3 e4 e5
 exact ⟨a,b,h10⟩
theorem E4 {cond:Nat→PR Nd} (hc:kP cond):kP (kh L en cond):=fun k x k' h=>by
 unfold kh at h
 split at h
 ·obtain ⟨_,k1,h1,h2⟩:=ai h
  have e1:=(aF h1).1
  split at h2
  ·obtain ⟨_,k2,h3,h4⟩:=ai h2
   have e2:=(aF h3).1
   cases h4
   simp only [aS,aC];omega
  ·cases h2
 ·split at h
  ·obtain ⟨_,k1,h1,h2⟩:=ai h
   obtain ⟨y,k2,h3,h4⟩:=ai h2
   obtain ⟨_,k3,h5,h6⟩:=ai h4
   cases h6
   have:=(aF h1).1
   have:=hc _ _ _ h3
   have:=(aF h5).1
   simp only [aS,aC];omega
  ·cases h
theorem Jn {cond pat:Nat→PR Nd} (hc:kP cond) (hp:kP pat):kP (mo L en cond pat):=fun k x k' h=>by
 unfold mo at h
 split at h
 ·obtain ⟨y,k1,h1,h2⟩:=ai h
  obtain ⟨_,k2,h3,h4⟩:=ai h2
  cases h4
  have:=hp _ _ _ h1
  have:=(aF h3).1
  omega
 ·obtain ⟨y,k1,h1,h2⟩:=ai h
  have a:=E4 hc _ _ _ h1
  split at h2
  ·obtain ⟨c,k2,h3,h4⟩:=ai h2
   cases h4
   have:=hc _ _ _ h3
   simp only [aS,aC];omega
  ·cases h2;exact a
theorem xG {cond pat:Nat→PR Nd} (hc:kP cond) (hp:kP pat):kP (fK L en rd cond pat):=fun k x k' h=>by
 obtain ⟨y,k1,h1,h2⟩:=ai h
 have a:=Jn hc hp _ _ _ h1
 split at h2
 ·obtain ⟨_,k2,h3,h4⟩:=ai h2
  obtain ⟨_,k3,h5,h6⟩:=ai h4
  obtain ⟨_,k4,h7,h8⟩:=ai h6
  obtain ⟨_,k5,h9,h10⟩:=ai h8
  obtain ⟨_,_,h11⟩:=uI h10
  obtain ⟨l,k6,Ab,za⟩:=ai h11
  obtain ⟨_,k7,h14,Sy⟩:=ai za
  cases Sy
  have:=iV h3
  have:=(aF h5).1
  have:=iV h7
  have:=(aF h9).1
  have:=uH hc _ _ _ Ab
  have:=(aF h14).1
  simp only [aS,aC];omega
 ·cases h2;exact a
theorem Cc {cond pat:Nat→PR Nd} (hc:kP cond) (hp:kP pat):∀(m:Nat) (n:Nd) (k:Nat) (x:Nd) (k':Nat),iR L en rd cond pat m n k=.ok x k'→k+aS x≤k'+aS n
 |0,n,k,x,k',h=>by cases h;exact Nat.le_refl _
 |m+1,n,k,x,k',h=>by
  unfold iR at h
  split at h
  ·obtain ⟨_,_,h1⟩:=uI h
   obtain ⟨l,k2,h2,h3⟩:=ai h1
   obtain ⟨y,k3,h4,h5⟩:=ai h3
   have:=uH hc _ _ _ h2
   have:=xG hc hp _ _ _ h4
   have b:=Cc hc hp m _ _ _ _ h5
   simp only [aS,aC] at b⊢
   omega
  ·cases h;exact Nat.le_refl _
theorem MG {cond pat:Nat→PR Nd} (hc:kP cond) (hp:kP pat):kP (Bz L en rd cond pat):=fun k x k' h=>by
 obtain ⟨y,k1,h1,h2⟩:=ai h
 have a:=xG hc hp _ _ _ h1
 have b:=Cc hc hp _ _ _ _ _ h2
 omega
theorem Ce:∀F,kP (nC L en rd F)
 |0=>fun k x k' h=>by cases h
 |F+1=>gR (MG xF (Ce F))
theorem MH:kP (IW L en rd):=Ce _
end
theorem jU:∀{l:List Nd} {x:Nd},x∈l→aS x≤aC l
 |y::r,x,h=>by
  rw [aC]
  rcases List.mem_cons.1 h with rfl|h
  ·omega
  ·have:=jU h;omega
theorem Cf:∀n:Nd,1≤aS n
 |.mk _ _ _ _ _ _ _ _ ks=>by rw [aS];omega
theorem uJ:∀l:List Nd,l.length≤aC l
 |[]=>Nat.zero_le _
 |x::r=>by have h1:=Cf x;have h2:=uJ r;rw [List.length_cons,aC];omega
theorem xH:∀(l:List Nd) (x:Nd),lQ (l++[x])=max (lQ l) (iE x)
 |[],x=>by simp [lQ]
 |y::r,x=>by rw [List.cons_append,lQ,lQ,xH r x];omega
mutual
theorem uK:∀n:Nd,iE n≤aS n
 |.mk _ _ _ _ _ _ _ _ ks=>by have:=mF ks;rw [iE,aS];omega
theorem mF:∀l:List Nd,lQ l≤aC l
 |[]=>Nat.le_refl _
 |x::r=>by have h1:=uK x;have h2:=mF r;rw [lQ,aC];omega
end
end Go.Proofs.YtddoehnkgcbboaaGreatDoor
namespace Go.Proofs.YtddoehnkgcbboaaGreatDoor
open Go.RowKit Go.Shelf Go.Maps
theorem cG.fresh {C:Nat→Prop} {W:World} {n:Nd} {cs:List Value} (h:cG C W n cs):cG (fun b=>C b∨W.heap.size≤b) W n cs:=h.ge (Below.refl _ _)
structure bV (C:Nat→Prop) (W:World) (base gk n c:Nat) (ks:List Nd) (bF:List (List Value)):Prop where
 own:W.ownsRow base 25 9 (.slice (some ⟨gk,0,none⟩) n c) n bF.flatten
 len:bF.length=ks.length
 num:ks.length=n
 kids:∀i (h:i<ks.length) (h':i<bF.length),cG (fun b=>C b∨b=gk) W ks[i] bF[i]
 not:¬C gk
theorem bV.cur {C:Nat→Prop} {W:World} {base gk n c:Nat} {ks:List Nd} {bF:List (List Value)} (h:bV C W base gk n c ks bF):
 base≤gk∧∃cur,W.heap[gk]? =some (.cells cur 25 (0,0))∧n≤c∧c≤maxLen∧cur.size=c*9∧cur.toList.take (n*9)=bF.flatten:=by
 rcases h.own.2 with ⟨h1,_⟩|⟨g,cap,cur,h1,h2,h3,h4,h5,h6,h7⟩
 ·cases h1
 ·cases h1;exact ⟨h2,cur,h3,h4,h5,h6,h7⟩
theorem bV.keep {C D:Nat→Prop} {W W':World} {base gk n c:Nat} {ks:List Nd} {bF:List (List Value)} (h:bV C W base gk n c ks bF) (hk:af D W W') (hD:∀b,D b→C b):bV C W' base gk n c ks bF:=by
 obtain ⟨hb,cur,h3,h4,h5,h6,h7⟩:=h.cur
 have hlt:gk<W.heap.size:=(Array.getElem?_eq_some_iff.1 h3).1
 exact ⟨⟨h.own.1,.inr ⟨gk,c,cur,rfl,hb,(hk.block gk hlt (fun e=>h.not (hD _ e))).trans h3,h4,h5,h6,h7⟩⟩,h.len,h.num,fun i hi hi'=>(h.kids i hi hi').keeps (hk.mono (fun b hb=>.inl (hD b hb))),h.not⟩
theorem bV.lt {C:Nat→Prop} {W:World} {base gk n c:Nat} {ks:List Nd} {bF:List (List Value)} (h:bV C W base gk n c ks bF):gk<W.heap.size:=by
 obtain ⟨hb,cur,h3,_⟩:=h.cur
 exact (Array.getElem?_eq_some_iff.1 h3).1
theorem bV.node {C:Nat→Prop} {W:World} {base gk n c:Nat} {ks:List Nd} {bF:List (List Value)} (h:bV C W base gk n c ks bF) (kd a0 xa xb xc xd:Int) (nm vl:List UInt8):
 cG C W (.mk kd a0 nm vl xa xb xc xd ks) (aw kd a0 nm vl xa xb xc xd (.slice (some ⟨gk,0,none⟩) n c)):=by
 obtain ⟨hb,cur,h3,h4,h5,h6,h7⟩:=h.cur
 have e:=h.num
 rw [←e]
 refine .mk kd a0 nm vl xa xb xc xd ks _ c bF h.len (fun i hi hi'=>(h.kids i hi hi').mono (fun b hb=>.inl hb)) (fun _=>⟨gk,0,rfl,h.not,h.lt,fun i hi j hj=>?_⟩) (by omega)
 have h9:∀d∈bF,d.length=9:=fun d hd=>by
  obtain ⟨m,hm,rfl⟩:=List.getElem_of_mem hd
  exact (h.kids m (by rw [←h.len];exact hm) hm).len
 have hf:=uu bF i j h9 hi hj
 have V4:i*9+j<n*9:=by have:=h.len;omega
 have hc:W.cell? ⟨gk,0+i*9+j,none⟩=cur[i*9+j]? :=by
  rw [Nat.zero_add];simp [World.cell?,h3]
 rw [hc,←hf,←h7,List.getElem?_take_of_lt V4]
 simp
theorem E5:(Tryz.prog.info? 25).map (fun i=>(i.zero.map (fun z=>z.cells.size),i.size))=some (some 9,9):=by kernel_rfl
theorem TZ {C:Nat→Prop} {W:World} {x:Nd} {cs:List Value} (h:cG C W x cs):∀u∈cs,u.oneCell'=true:=by
 cases h
 intro u hu
 simp only [aw,List.mem_cons,List.not_mem_nil,or_false] at hu
 rcases hu with rfl|rfl|rfl|rfl|rfl|rfl|rfl|rfl|rfl<;>rfl
theorem bV.app {C:Nat→Prop} {Y:World} {base gk n c gs:Nat} {ks:List Nd} {bF:List (List Value)} {x:Nd} {cs:List Value} (h:bV C Y base gk n c ks bF) (hx:cG (fun b=>C b∨b=gk) Y x cs) (hs:Row Y gs 25 cs.toArray) (hb:base≤Y.heap.size) (hC:∀b,C b→b<Y.heap.size) (hn:n≤100000):
 ∃vw c' W',(Builtin.append_ #[23,23] 23 #[.slice (some ⟨gk,0,none⟩) n c,.slice (some ⟨gs,0,none⟩) 1 1]).run Tryz.prog Y=.ok (.slice (some ⟨vw,0,none⟩) (n+1) c') W'∧bV C W' base vw (n+1) c' (ks++[x]) (bF++[cs])∧Y.grownBy W' (some gk):=by
 obtain ⟨iN,VC,hz⟩:=Option.map_eq_some_iff.1 E5
 have hz2:iN.size=9:=(Prod.mk.inj hz).2
 obtain ⟨z,hz0,hz1⟩:=Option.map_eq_some_iff.1 (Prod.mk.inj hz).1
 have hbt:iN.bytes≤1000000:=by
  have:(Tryz.prog.info? 25).map (fun i=>decide (i.bytes≤1000000))=some true:=by kernel_rfl
  rw [VC] at this
  exact of_decide_eq_true (Option.some.inj this)
 obtain ⟨v',w',hr,h2,h3,h4,h5⟩:=run_append_own_at (P:=Tryz.prog) Y base 23 23 25 iN z 9 iN.bytes Tryz.underlying23 VC hz0 hz2 rfl hz1 (by decide) _ n bF.flatten h.own ⟨gs,0,none⟩ 1 1 cs (by rw [hx.len]) (fun j u hu=>by
  have e:(⟨gs,0,none⟩:Addr).add j=⟨gs,0+j,none⟩:=by unfold Addr.add;split<;>simp_all
  rw [e,Nat.zero_add,hs.cell]
  simpa using hu) (TZ hx) (by unfold maxLen;omega) (by
   have:(n+1)*iN.bytes≤100001*1000000:=Nat.mul_le_mul (by omega) hbt
   omega) hb
 rcases h2.2 with ⟨h6,_⟩|⟨g',c',cur,h6,h7,h8,h9,h10,h11,Ab⟩
 ·have:=(h4.1 h6).1
  cases this
 ·subst h6
  have hg:Y.grownBy w' (some gk):=by simpa [Value.ownBlock] using h3
  have Ro:g'=gk∨g'=Y.heap.size:=by
   rcases h5 with h5|h5
   ·left;simpa [Value.ownBlock] using h5
   ·right;simpa [Value.ownBlock] using h5
  have gM:af (fun b=>C b∨b=gk) Y w':=(af.refl _ Y).grown hg (fun k hk=>by cases hk;exact .inl (.inr rfl))
  have hm:∀{y:Nd} {ds:List Value},cG (fun b=>C b∨b=gk) Y y ds→cG (fun b=>C b∨b=g') w' y ds:=fun {y ds} hy=>by
   rcases Ro with rfl|rfl
   ·exact hy.keeps gM
   ·have hgb:Below Y.heap.size Y (Y.alloc (.cells #[] 0)):=(Below.refl _ _).alloc (Nat.le_refl _) _
    have h1:=hy.fresh
    exact (h1.keeps (gM.mono (fun b hb=>.inl hb))).mono (fun b hb=>by
     rcases hb with hb|rfl
     ·exact .inl (.inl hb)
     ·exact .inr (Nat.le_refl _))
  refine ⟨g',c',w',hr,⟨?_,by rw [List.length_append,List.length_append,h.len];rfl,by rw [List.length_append,h.num];rfl,fun i hi hi'=>?_,?_⟩,hg⟩
  ·rw [List.flatten_append,List.flatten_singleton]
   exact h2
  ·rcases Nat.lt_or_ge i ks.length with hlt|hge
   ·rw [List.getElem_append_left hlt,List.getElem_append_left (by rw [h.len];exact hlt)]
    exact hm (h.kids i hlt (by rw [h.len];exact hlt))
   ·rw [List.length_append,List.length_singleton] at hi
    obtain rfl:i=ks.length:=by omega
    have e1:(ks++[x])[ks.length]'(by simp)=x:=by simp
    have e2:(bF++[cs])[ks.length]'hi'=cs:=by
     rw [List.getElem_append_right (by rw [h.len];exact Nat.le_refl _)]
     simp [h.len]
    rw [e1,e2]
    exact hm hx
  ·rcases Ro with rfl|rfl
   ·exact h.not
   ·exact fun e=>absurd (hC _ e) (Nat.lt_irrefl _)
end Go.Proofs.YtddoehnkgcbboaaGreatDoor
namespace Go.Proofs.YtddoehnkgcbboaaGreatDoor
open Go.RowKit Go.Shelf
def oy:Nat→Int
 |0=>1
 |n+1=>oy n*10
theorem sU (n:Nat):1≤oy n:=by
 induction n with
 |zero=>exact Int.le_refl _
 |succ n ih=>show 1≤oy n*10;omega
theorem MI {a b:Nat} (h:a≤b):oy a≤oy b:=by
 induction h with
 |refl=>exact Int.le_refl _
 |step _ ih=>have:=ih;show oy a≤oy _*10;have:=sU a;omega
theorem zn {n:Nat} (h:n≤18):oy n≤1000000000000000000:=by
 have:=MI h
 have e:oy 18=1000000000000000000:=by decide+kernel
 omega
theorem Jo (b n:Nat) (w:World) (hn:n≤18) (hr:Row w b 3 #[.int .i64 1]):
 Calls Tryz.prog 227 #[.int .i64 n,.pointer (some ⟨b,0,none⟩)] w fun e w'=>e=.returned (.tuple #[])∧Row w' b 3 #[.int .i64 (oy n)]∧af (fun c=>c=b) w w':=by
 have Hr:=aa hr
 clear hr
 go_enter Tryz.func227,Tryz.ntmps227
 go_wp2
 go_loopw [4] (fun v wr=>∃k:Nat,v=.int .i64 k∧k≤n∧Row wr b 3 #[.int .i64 (oy k)]∧af (fun c=>c=b) w wr) (fun v _=>n-(intOf v).toNat)
 case atStart=>exact ⟨0,rfl,Nat.zero_le _,Hr.out,af.refl _ _⟩
 case round=>
  obtain ⟨k,rfl,hk,hrow,Rq⟩:=hrel
  have hc:wr.cell? ⟨b,0,none⟩=some (.int .i64 (oy k)):=hrow.cell 0
  have hf:wr.frozen? ⟨b,0,none⟩=false:=hrow.frozen 0
  have ny:=aa hrow
  have Rs:=aa Rq
  clear hrow Rq
  by_cases hlt:k<n
  ·have h1:=sU k
   have h2:=zn (n:=k) (by omega)
   have h3:=zn (n:=k+1) (by omega)
   have h4:oy (k+1)=oy k*10:=rfl
   have H4:=aa h4
   have h5:oy k*10≤1000000000000000000:=by omega
   clear h3 h4
   generalize oy k=p at hc ny H4 h1 h2 h5
   go_wp2
   go_roundw
   case rel=>
    refine ⟨k+1,by go_num,by omega,?_,Rs.out.set (.inl rfl) 0 _⟩
    rw [H4.out]
    exact ny.out.bg 0 _
   case measure=>simp [intOf];omega
  ·obtain rfl:k=n:=Nat.le_antisymm hk (Nat.le_of_not_lt hlt)
   go_wp2
   go_end0
   exact ⟨rfl,ny.out,Rs.out⟩
theorem PC (n:Nat) (w:World) (hn:n≤18):
 Calls Tryz.prog 205 #[.int .i64 n] w fun e w'=>e=.returned (.int .i64 (oy n))∧Below w.heap.size w w':=by
 go_enter Tryz.func205,Tryz.ntmps205
 go_wp2_with fail
 refine (Jo w.heap.size n _ hn (Row.new w _ _)).mono ?_
 rintro e w1 ⟨rfl,hrow,hk⟩
 have hc:w1.cell? ⟨w.heap.size,0,none⟩=some (.int .i64 (oy n)):=hrow.cell 0
 have HB:=aa (((Below.refl w.heap.size w).alloc (Nat.le_refl _) (.cells #[.int .i64 1] 3)).trans (hk.below (by rintro b rfl;exact Nat.le_refl _) (by rw [World.size_alloc];exact Nat.le_succ _)))
 clear hrow hk
 go_wp2
 go_ret
 exact ⟨rfl,HB.out⟩
theorem Rt (i:Int) (n:Nat) (hi:i=(n:Int)) (hn:n≤18) (w:World):
 Calls Tryz.prog 205 #[.int .i64 i] w fun e w'=>e=.returned (.int .i64 (oy n))∧Below w.heap.size w w':=hi▸PC n w hn
def gS (s:Int):Bool:=decide (-15≤s∧s≤2)
theorem uL (s:Int) (w:World):
 Calls Tryz.prog 29 #[.int .i64 s] w fun e w'=>e=.returned (.bool (gS s))∧w'=w:=by
 go_enter Tryz.func29,Tryz.ntmps29
 go_wp2
 all_goals go_ret
 all_goals refine ⟨V3 ?_,rfl⟩
 all_goals (rw [Bool.eq_iff_iff];simp [gS];omega)
def iH (n di:Int):Int×Bool×Bool:=
 if di<0 then (n / oy (-di).toNat,n % oy (-di).toNat==0,decide (n / oy (-di).toNat≤1099511627776))
 else if 1099511627776 / oy di.toNat<n then (0,false,false) else (n*oy di.toNat,true,true)
def Jp (r:Int×Bool×Bool) (w:World) (e:Ending) (w':World):Prop:=e=.returned (.tuple #[.int .i64 r.1,.bool r.2.1,.bool r.2.2])∧Below w.heap.size w w'
theorem Jq (n di:Int) (w:World) (h0:0≤n) (h1:n≤999999999999999999) (h2:-18≤di) (h3:di≤18):
 Calls Tryz.prog 175 #[.int .i64 n,.int .i64 di] w (Jp (iH n di) w):=by
 by_cases hp:di<0
 ·have T:=aa (fun W:World=>Rt (-di) (-di).toNat (by omega) (by omega) W)
  have hs:iH n di=(n / oy (-di).toNat,n % oy (-di).toNat==0,decide (n / oy (-di).toNat≤1099511627776)):=by unfold iH;rw [if_pos hp]
  rw [hs]
  have p1:=sU (-di).toNat
  have p2:=zn (n:=(-di).toNat) (by omega)
  clear hs
  generalize oy (-di).toNat=p at T p1 p2⊢
  go_enter Tryz.func175,Tryz.ntmps175
  go_wp2_with fail
  refine (T.out _).mono ?_
  rintro e w1 ⟨rfl,hb⟩
  have HB:=aa hb
  clear hb
  have hq:=Int.ediv_nonneg h0 (show 0≤p by omega)
  have UY:n / p≤n:=Int.ediv_le_self p h0
  have hp0:¬p=0:=by omega
  have k1:IntKind.i64.wrap (n.tdiv p)=n / p:=IntWalk.i64_quo _ _ (by omega)
  have k2:n.tmod p=n % p:=IntWalk.rem_in _ _ h0
  go_wp2_with fail
  go_quiet (fail)
  go_wp2
  exact bodyPost_ret (v:=.tuple #[.int .i64 (n / p),.bool (n % p==0),.bool (decide (n / p≤1099511627776))]) (by simp [results,Tryz.results175,go_sem]) rfl ⟨rfl,aq HB.out _⟩
 ·have T:=aa (fun W:World=>Rt di di.toNat (by omega) (by omega) W)
  have p1:=sU di.toNat
  have p2:=zn (n:=di.toNat) (by omega)
  have hs:iH n di=if 1099511627776 / oy di.toNat<n then (0,false,false) else (n*oy di.toNat,true,true):=by unfold iH;rw [if_neg hp]
  rw [hs]
  clear hs
  generalize oy di.toNat=p at T p1 p2⊢
  have hp0:¬p=0:=by omega
  have k1:IntKind.i64.wrap ((1099511627776:Int).tdiv p)=1099511627776 / p:=IntWalk.i64_quo _ _ (by omega)
  by_cases hbig:1099511627776 / p<n
  ·rw [if_pos hbig]
   go_enter Tryz.func175,Tryz.ntmps175
   go_wp2_with fail
   refine (T.out _).mono ?_
   rintro e w1 ⟨rfl,hb⟩
   have HB:=aa hb
   clear hb
   go_wp2
   exact bodyPost_ret (v:=.tuple #[.int .i64 0,.bool false,.bool false]) (by simp [results,Tryz.results175,go_sem]) rfl ⟨rfl,HB.out⟩
  ·rw [if_neg hbig]
   have hm:n*p≤1099511627776:=by
    have h4:n≤1099511627776 / p:=by omega
    have:=Int.mul_le_mul_of_nonneg_right h4 (show 0≤p by omega)
    have h5:=Int.ediv_mul_le 1099511627776 hp0
    omega
   have hm0:0≤n*p:=Int.mul_nonneg h0 (by omega)
   have k2:IntKind.i64.wrap (n*p)=n*p:=IntWalk.i64_in _ (by omega)
   have k3:wrap64 (n*p)=n*p:=IntWalk.wrap64_in _ ⟨by omega,by omega⟩
   go_enter Tryz.func175,Tryz.ntmps175
   go_wp2_with fail
   refine (T.out _).mono ?_
   rintro e w1 ⟨rfl,hb⟩
   have HB:=aa hb
   clear hb
   go_wp2
   exact bodyPost_ret (v:=.tuple #[.int .i64 (n*p),.bool true,.bool true]) (by simp [results,Tryz.results175,go_sem]) rfl ⟨rfl,HB.out⟩
end Go.Proofs.YtddoehnkgcbboaaGreatDoor
namespace Go.Proofs.YtddoehnkgcbboaaGreatDoor
open Go.RowKit Go.Shelf Go.Sort
def uname (i:Nat):ByteArray:=([⟨#[115]⟩,⟨#[109,115]⟩,⟨#[117,115]⟩,⟨#[110,115]⟩,⟨#[112,115]⟩,⟨#[102,115]⟩]:List ByteArray).getD i ⟨#[]⟩
def jg:List Value:=[.string ⟨#[115]⟩,.int .i64 0,.string ⟨#[109,115]⟩,.int .i64 (-3),.string ⟨#[117,115]⟩,.int .i64 (-6),.string ⟨#[110,115]⟩,.int .i64 (-9),.string ⟨#[112,115]⟩,.int .i64 (-12),.string ⟨#[102,115]⟩,.int .i64 (-15)]
theorem zo (i:Nat) (h:i<6):jg[2*i]? =some (.string (uname i))∧jg[2*i+1]? =some (.int .i64 (-(3*(i:Int)))):=by
 have:i=0∨i=1∨i=2∨i=3∨i=4∨i=5:=by omega
 rcases this with rfl|rfl|rfl|rfl|rfl|rfl<;>exact ⟨rfl,rfl⟩
theorem Jr (w:World):
 Calls Tryz.prog 173 #[] w fun e w'=>e=.returned (.slice (some ⟨w.heap.size,0,none⟩) 6 6)∧Row w' w.heap.size 170 jg.toArray∧Below w.heap.size w w':=by
 go_enter Tryz.func173,Tryz.ntmps173
 go_wp2
 go_ret
 exact ⟨rfl,Row.new _ _ _,(Below.refl _ _).alloc (Nat.le_refl _) _⟩
theorem E6 {a b:ByteArray} (h:¬a=b):¬a.toList=b.toList:=fun e=>h (Go.WideShapes.bytes_inj (by rw [←Lib.toList_data,←Lib.toList_data,e]))
def trimB (t:ByteArray):ByteArray:=⟨(Lib.trimPrefix t.data.toList [32]).toArray⟩
def gD (r:ByteArray) (s:Int):Nat→Int×Bool
 |0=>(s,decide (r=⟨#[]⟩))
 |i+1=>if trimB r=uname i then (-(3*(i:Int)),true) else gD r s i
def MJ (text:ByteArray):Bool:=decide (nd text.data.toList<1∨15<nd text.data.toList∨(text.data.toList[0]? =some 48∧1<nd text.data.toList))
def oz (text:ByteArray):Int:=(dv (text.data.toList.take (nd text.data.toList)):Nat)
def ij (text:ByteArray):ByteArray:=text.extract (nd text.data.toList) text.size
def dI (text:ByteArray) (s:Int):Int×Int:=
 if gS s then
  (if MJ text then (0,3)
   else if (gD (ij text) s 6).2 then
    (if (iH (oz text) ((gD (ij text) s 6).1-s)).2.1&&(iH (oz text) ((gD (ij text) s 6).1-s)).2.2 then ((iH (oz text) ((gD (ij text) s 6).1-s)).1,0) else (0,2))
   else (0,3))
 else (0,1)
theorem MK (r:ByteArray) (s:Int) (hs1:-15≤s) (hs2:s≤2):∀i,i≤6→-15≤(gD r s i).1∧(gD r s i).1≤2:=by
 intro i
 induction i with
 |zero=>intro _;exact ⟨hs1,hs2⟩
 |succ i ih=>
  intro h
  have:=ih (by omega)
  unfold gD
  split
  ·exact ⟨by simp only;omega,by simp only;omega⟩
  ·exact this
theorem T_ (text:ByteArray) (h:nd text.data.toList≤15):0≤oz text∧oz text≤999999999999999:=by
 have h1:=V1 text.data.toList (nd text.data.toList) (tr _) (tq _)
 have h2:=Nat.pow_le_pow_right (n:=10) (by decide) h
 have e:(10:Nat) ^ 15=1000000000000000:=by decide
 unfold oz
 omega
theorem ndB (text:ByteArray):nd text.data.toList≤text.size∧(∀j (h:j<text.size),j<nd text.data.toList→48≤(text[j]'h).toNat∧(text[j]'h).toNat≤57)∧(∀h:nd text.data.toList<text.size,¬(48≤(text[nd text.data.toList]'h).toNat∧(text[nd text.data.toList]'h).toNat≤57)):=by
 have hsz:text.data.toList.length=text.size:=(Lib.size_eq text).symm
 refine ⟨hsz▸tq _,fun j h hj=>?_,fun h=>?_⟩
 ·have:=tr text.data.toList j (by omega) hj
  rw [Array.getElem_toList] at this
  simp only [iL,decide_eq_true_eq] at this
  exact this
 ·have:=Ks text.data.toList (by omega)
  simp only [iL,decide_eq_false_iff_not] at this
  rw [Array.getElem_toList] at this
  exact this
theorem Cg {w:World} {e:TypeId} {t:ByteArray}:Below w.heap.size w (Lib.bytesWorld w e t):=⟨rfl,rfl,rfl,by rw [Lib.bytesWorld_size];omega,fun k hk=>Lib.bytesWorld_at_old w _ _ k hk⟩
theorem ML (text:ByteArray) (N:Nat) (hN:nd text.data.toList=N) (h1:1≤N) (h2:N≤15) (w:World):
 Calls Tryz.prog 139 #[.string (text.extract 0 N)] w fun e w'=>e=.returned (.tuple #[.int .i64 (oz text),.nilIface])∧Below w.heap.size w w':=by
 have hl:(text.extract 0 N).data.toList=text.data.toList.take N:=Lib.extract_from_zero text N
 refine (Tryz.strconv_Atoi (text.extract 0 N) (oz text) (by rw [ByteArray.size_extract];omega) ?_ w).mono ?_
 ·rw [hl]
  unfold oz
  rw [hN]
  exact FT _ N (fun j h hj=>tr _ j h (by omega)) (by rw [←hN];exact tq _) h1
 ·rintro e w' ⟨rfl,t,rfl⟩
  exact ⟨rfl,Cg⟩
theorem Js (t:ByteArray) (w:World):
 Calls Tryz.prog 174 #[.string t,.string ⟨#[32]⟩] w fun e w'=>e=.returned (.string (trimB t))∧w'=w:=Tryz.strings_TrimPrefix t ⟨#[32]⟩ w
theorem Ch (t:ByteArray):t.toList.isEmpty=decide (t=⟨#[]⟩):=by
 rw [Bool.eq_iff_iff,decide_eq_true_eq,List.isEmpty_iff]
 constructor
 ·intro h;exact Go.WideShapes.bytes_inj (by rw [←Lib.toList_data,h])
 ·intro h;rw [h,Lib.toList_data]
theorem MM (text:ByteArray) (s:Int) (w:World) (hz:text.size≤1000000) (hg:Gl w):
 Calls Tryz.prog 143 #[.string text,.int .i64 s] w fun e w'=>e=.returned (.tuple #[.int .i64 (dI text s).1,.int .i64 (dI text s).2])∧Below w.heap.size w w':=by
 have V:=aa (fun W:World=>uL s W)
 cases hv:gS s with
 |false=>
  have hS:dI text s=(0,1):=by unfold dI;rw [hv];rfl
  rw [hv] at V
  rw [hS]
  clear hS hv
  go_enter Tryz.func143,Tryz.ntmps143
  go_wp2_with fail
  refine (V.out _).mono ?_
  rintro e w1 ⟨rfl,rfl⟩
  go_wp2
  go_ret2
  exact ⟨rfl,Below.refl _ _⟩
 |true=>
  rw [hv] at V
  have hr:-15≤s∧s≤2:=by simpa [gS] using hv
  obtain ⟨n1,n2,n3⟩:=ndB text
  have N2:=aa n2
  have N3:=aa n3
  have hN:∃N,nd text.data.toList=N:=⟨_,rfl⟩
  obtain ⟨N,hN⟩:=hN
  rw [hN] at n1 N2
  have N3:Hid (∀h:N<text.size,¬(48≤(text[N]'h).toNat∧(text[N]'h).toNat≤57)):=by subst hN;exact N3
  have HN:=aa hN
  clear n2 n3 hN
  go_enter Tryz.func143,Tryz.ntmps143
  go_wp2_with fail
  refine (V.out _).mono ?_
  rintro e w1 ⟨rfl,rfl⟩
  go_wp2
  go_loop [6] (fun v=>∃k:Nat,v=.int .i64 k∧k≤N) (fun v=>N-(intOf v).toNat)
  case atStart=>exact ⟨0,rfl,Nat.zero_le _⟩
  case round=>
   obtain ⟨k,rfl,hk⟩:=hrel
   by_cases hlt:k<N
   ·have iG:k<text.size:=by omega
    have hd:=N2.out k iG hlt
    have ab3:(k:Int)<(text.size:Int):=by omega
    have DF:(48:Int)≤((text[k]'iG).toNat:Int):=by omega
    have Vg:((text[k]'iG).toNat:Int)≤57:=by omega
    go_wp2
    go_round
    case rel=>exact ⟨k+1,by go_num,by omega⟩
    case measure=>simp [intOf];omega
   ·obtain rfl:k=N:=Nat.le_antisymm hk (Nat.le_of_not_lt hlt)
    have EX:(¬(k:Int)<(text.size:Int))∨(∃h:k<text.size,(k:Int)<(text.size:Int)∧((text[k]'h).toNat:Int)<48)∨(∃h:k<text.size,(k:Int)<(text.size:Int)∧(48:Int)≤((text[k]'h).toNat:Int)∧(57:Int)<((text[k]'h).toNat:Int)):=by
     by_cases h:k<text.size
     ·have:=N3.out h
      by_cases h2:48≤(text[k]'h).toNat
      ·exact .inr (.inr ⟨h,by omega,by omega,by omega⟩)
      ·exact .inr (.inl ⟨h,by omega,by omega⟩)
     ·exact .inl (by omega)
    by_cases a1:k<1
    ·have hb:MJ text=true:=decide_eq_true (.inl (by rw [HN.out];exact a1))
     have hS:dI text s=(0,3):=by unfold dI;rw [hv,if_pos rfl,hb,if_pos rfl]
     have HS:=aa hS
     clear hS hb hv
     rcases EX with e1|⟨h1,e1,e2⟩|⟨h1,e1,e2,e3⟩
     all_goals (go_wp2;go_ret2;exact ⟨by rw [HS.out];rfl,Below.refl _ _⟩)
    by_cases a2:15<k
    ·have hb:MJ text=true:=decide_eq_true (.inr (.inl (by rw [HN.out];exact a2)))
     have hS:dI text s=(0,3):=by unfold dI;rw [hv,if_pos rfl,hb,if_pos rfl]
     have HS:=aa hS
     clear hS hb hv
     rcases EX with e1|⟨h1,e1,e2⟩|⟨h1,e1,e2,e3⟩
     all_goals (go_wp2;go_ret2;exact ⟨by rw [HS.out];rfl,Below.refl _ _⟩)
    have z0:0<text.size:=by omega
    have z0':(0:Int)<(text.size:Int):=by omega
    have ZO:text.data.toList[0]? =some (text[0]'z0):=by
     rw [List.getElem?_eq_getElem (by rw [←Lib.size_eq];exact z0),Array.getElem_toList];rfl
    by_cases a3:text[0]'z0=48∧1<k
    ·have hb:MJ text=true:=decide_eq_true (.inr (.inr (by rw [HN.out,ZO,a3.1];exact ⟨rfl,a3.2⟩)))
     have hS:dI text s=(0,3):=by unfold dI;rw [hv,if_pos rfl,hb,if_pos rfl]
     have HS:=aa hS
     have m1:((text[0]'z0).toNat:Int)=48:=by rw [a3.1];rfl
     have a4:(1:Int)<(k:Int):=by omega
     clear hS hb hv ZO
     rcases EX with e1|⟨h1,e1,e2⟩|⟨h1,e1,e2,e3⟩
     all_goals (go_wp2;go_ret2;exact ⟨by rw [HS.out];rfl,Below.refl _ _⟩)
    ·have hb:MJ text=false:=decide_eq_false (by rw [HN.out,ZO];exact fun h=>h.elim a1 fun h=>h.elim a2 fun h=>a3 ⟨Option.some.inj h.1,h.2⟩)
     have hS:dI text s=(if (gD (ij text) s 6).2 then
      (if (iH (oz text) ((gD (ij text) s 6).1-s)).2.1&&(iH (oz text) ((gD (ij text) s 6).1-s)).2.2 then ((iH (oz text) ((gD (ij text) s 6).1-s)).1,0) else (0,2))
      else (0,3)):=by unfold dI;rw [hv,if_pos rfl,hb,if_neg Bool.false_ne_true]
     have HS:=aa hS
     have Oa:ij text=text.extract k text.size:=by unfold ij;rw [HN.out]
     have HR:=aa Oa
     have AT:=aa (fun W:World=>ML text k HN.out (by omega) (by omega) W)
     have m:(¬((text[0]'z0).toNat:Int)=48)∨(((text[0]'z0).toNat:Int)=48∧¬(1:Int)<(k:Int)):=by
      by_cases h:text[0]'z0=48
      ·exact .inr ⟨by rw [h];rfl,by have:¬1<k:=fun h'=>a3 ⟨h,h'⟩;omega⟩
      ·exact .inl (fun e=>h (UInt8.toNat_inj.1 (by have:((48:UInt8).toNat:Int)=48:=rfl;omega)))
     have ks:(k:Int)≤(text.size:Int):=by omega
     clear hS hb hv ZO Oa a3
     rcases EX with e1|⟨h1,e1,e2⟩|⟨h1,e1,e2,e3⟩
     all_goals rcases m with m1|⟨m1,m2⟩
     all_goals
      go_wp2_with fail
      refine (AT.out _).mono ?_
      rintro e w2 ⟨rfl,hb2⟩
      have H2:=aa hb2
      clear hb2
      go_wp2_with fail
      refine Kl (by kernel_rfl) (by kernel_rfl) ?_
      repeat still_step
      refine wpStill_nil ?_
      go_wp2_with fail
      refine (Jr _).mono ?_
      rintro e w3 ⟨rfl,hrow,hb3⟩
      have H3:=aa (H2.out.trans (Below.mono (show Below w2.heap.size w2 w3 from ⟨hb3.os,hb3.tape,hb3.output,hb3.size,hb3.block⟩) H2.out.size))
      have aaY:=aa (show Row w3 w2.heap.size 170 jg.toArray from hrow)
      have hE:(text.extract k text.size).toList.isEmpty=(gD (ij text) s 0).2:=by rw [HR.out];exact Ch _
      rw [hE]
      clear hrow hb3 hE
      go_wp2
      go_loopw [9,10,66] (fun vp vf vi wr=>∃i:Nat,vi=.int .i64 i∧i≤6∧vp=.int .i64 (gD (ij text) s i).1∧vf=.bool (gD (ij text) s i).2∧Row wr w2.heap.size 170 jg.toArray∧Below w1.heap.size w1 wr) (fun _ _ vi _=>6-(intOf vi).toNat)
      case atStart=>exact ⟨0,rfl,by omega,rfl,rfl,aaY.out,H3.out⟩
      case round=>
       obtain ⟨i,rfl,hi,rfl,rfl,hr',hb'⟩:=hrel
       have Hr:=aa hr'
       have Hb:=aa hb'
       by_cases hi6:i<6
       ·obtain ⟨x1,x2⟩:=zo i hi6
        have y1:wr.cell? ⟨w2.heap.size,2*i,none⟩=some (.string (uname i)):=by rw [hr'.cell];simpa using x1
        have y2:wr.cell? ⟨w2.heap.size,2*i+1,none⟩=some (.int .i64 (-(3*(i:Int)))):=by rw [hr'.cell];simpa using x2
        rw [show 2*i=i*2 by omega] at y1 y2
        have hstep:gD (ij text) s (i+1)=if trimB (text.extract k text.size)=uname i then (-(3*(i:Int)),true) else gD (ij text) s i:=by rw [←HR.out];rfl
        have GK:=aa hstep
        have Aa:=hr'.lt
        have ab4:(i:Int)<6:=by omega
        clear hr' hb' x1 x2 hstep hi
        go_wp2_with fail
        have hW:∃W,wr.alloc (Obj.cells #[Value.string (uname i),Value.int IntKind.i64 (-(3*(i:Int)))] 170)=W:=⟨_,rfl⟩
        obtain ⟨W,hW⟩:=hW
        rw [hW]
        have hu:Row W wr.heap.size 170 #[Value.string (uname i),Value.int IntKind.i64 (-(3*(i:Int)))]:=hW▸Row.new _ _ _
        have OK:=aa (show Row W w2.heap.size 170 jg.toArray from hW▸Hr.out.alloc _)
        have jX:=aa (show Below w1.heap.size w1 W from hW▸Hb.out.alloc Hb.out.size _)
        have q1:W.cell? ⟨wr.heap.size,0,none⟩=some (.string (uname i)):=hu.cell 0
        have q2:W.cell? ⟨wr.heap.size,1,none⟩=some (.int .i64 (-(3*(i:Int)))):=hu.cell 1
        have TR:=aa (fun V:World=>Js (text.extract k text.size) V)
        clear hW hu y1 y2 Aa
        generalize trimB (text.extract k text.size)=T at TR GK
        generalize sV:uname i=nm at q1 GK
        by_cases hT:T=nm
        ·have hs2:=GK.out
         rw [if_pos hT] at hs2
         have qb:=aa hs2
         clear hs2
         subst hT
         go_quiet (exact Calls.quiet_of_same (TR.out _))
         go_wp2
         go_roundw
         case rel=>exact ⟨i+1,by go_num,by omega,by rw [qb.out],by rw [qb.out],OK.out.drewN nq,aq jX.out nq⟩
         case measure=>simp [intOf];omega
        ·have hs2:=GK.out
         rw [if_neg hT] at hs2
         have qb:=aa hs2
         have e9:(T.toList==nm.toList)=false:=beq_eq_false_iff_ne.2 (E6 hT)
         clear hs2
         go_quiet (exact Calls.quiet_of_same (TR.out _))
         go_wp2
         go_roundw
         case rel=>exact ⟨i+1,by go_num,by omega,by rw [qb.out],by rw [qb.out],OK.out.drewN nq,aq jX.out nq⟩
         case measure=>simp [intOf];omega
       ·obtain rfl:i=6:=by omega
        obtain ⟨b1,b2⟩:=MK (ij text) s hr.1 hr.2 6 (Nat.le_refl _)
        obtain ⟨b3,b4⟩:=T_ text (by rw [HN.out];omega)
        generalize gD (ij text) s 6=pf at b1 b2 HS⊢
        obtain ⟨p,f⟩:=pf
        simp only at b1 b2 HS
        clear hr' hb' hi hi6
        cases f with
        |false=>
         rw [if_neg Bool.false_ne_true] at HS
         go_wp2
         go_ret2
         exact ⟨by rw [HS.out];rfl,Hb.out⟩
        |true=>
         rw [if_pos rfl] at HS
         have SH:=aa (fun W:World=>Jq (oz text) (p-s) W b3 (by omega) (by omega) (by omega))
         generalize iH (oz text) (p-s)=r at SH HS
         obtain ⟨o,x,ok⟩:=r
         simp only at HS
         have qw:IntKind.i64.wrap (p-s)=p-s:=IntWalk.i64_in _ (by omega)
         generalize oz text=num at*
         go_wp2_with fail
         refine (SH.out _).mono ?_
         rintro e w5 ⟨rfl,hb5⟩
         have H5:=aa (Hb.out.trans (hb5.mono Hb.out.size))
         clear hb5
         cases x<;>cases ok
         all_goals (go_wp2;go_ret2;exact ⟨by rw [HS.out];rfl,H5.out⟩)
end Go.Proofs.YtddoehnkgcbboaaGreatDoor
namespace Go.Proofs.YtddoehnkgcbboaaGreatDoor
open Go.RowKit Go.Shelf
def bX (p:PS):List UInt8→Int×Int:=fun t=>dI (ae t) p.sc
theorem E7 (L:List Lx) (en:Int) (rd:List UInt8→Int×Int) (k:Nat) (h:bT L k 2=true):aP L en rd k=(nK L en k 2).bind fun x k'=>if (rd x.text).2=0 then .ok (rd x.text).1 k' else .err (x.aJ:Int) (rd x.text).2:=by
 unfold aP
 rw [if_pos h,ia h]
 have hk:=dc h
 unfold fX
 rw [List.getElem?_eq_getElem hk,yX hk]
 rfl
theorem Ci (p:PS) (k:Nat) (w:World) (h:bc p w k):
 Calls Tryz.prog 102 #[.pointer (some ⟨p.b,0,none⟩)] w (bO p w L8 (aP p.L p.en (bX p) k)):=by
 have KD:=aa (uj p k 2 w h)
 have H:=aa h
 cases hR:bT p.L k 2 with
 |false=>
  rw [hR] at KD
  have NM:=aa (fun (W:World) (h:bc p W k)=>oq p k 1099511627776 W h)
  have hT:aP p.L p.en (bX p) k=eC p.L p.en k 1099511627776:=by unfold aP;rw [if_neg (by rw [hR];decide)]
  rw [hT]
  clear hT hR h
  generalize eC p.L p.en k 1099511627776=R at*
  cases R with
  |err a er=>
   go_enter Tryz.func102,Tryz.ntmps102
   go_wp2_with fail
   refine KD.out.mono ?_
   rintro e w1 ⟨rfl,hb1⟩
   have NM2:=aa (NM.out w1 (H.out.below hb1))
   have fu:=aa hb1
   clear hb1
   go_wp2_with fail
   refine NM2.out.mono ?_
   rintro e w2 ⟨rfl,hk⟩
   go_wp2
   exact ⟨rfl,rfl,(af.of_below fu.out (Nat.le_refl _)).trans hk⟩
  |ok n k'=>
   go_enter Tryz.func102,Tryz.ntmps102
   go_wp2_with fail
   refine KD.out.mono ?_
   rintro e w1 ⟨rfl,hb1⟩
   have NM2:=aa (NM.out w1 (H.out.below hb1))
   have fu:=aa hb1
   clear hb1
   go_wp2_with fail
   refine NM2.out.mono ?_
   rintro e w2 ⟨⟨v,rfl,rfl⟩,h2,hk⟩
   go_wp2
   go_ret
   exact ⟨⟨_,rfl,rfl⟩,h2,(af.of_below fu.out (Nat.le_refl _)).trans hk⟩
 |true=>
  rw [hR] at KD
  rw [E7 _ _ _ _ hR,ia hR]
  have TK:=aa (fun (W:World) (h:bc p W k)=>mz p k 2 W h)
  rw [ia hR] at TK
  have hl:=(h.good _ (List.getElem_mem (dc hR))).len
  generalize p.L[k]'_=x at*
  have RD:=aa (fun (W:World) (hg:Gl W)=>show Calls Tryz.prog 143 #[.string (ae x.text),.int .i64 p.sc] W fun e w'=>e=.returned (.tuple #[.int .i64 (bX p x.text).1,.int .i64 (bX p x.text).2])∧Below W.heap.size W w' from MM (ae x.text) p.sc W (by rw [aD];omega) hg)
  show Calls _ _ _ _ (bO p w L8 (if (bX p x.text).2=0 then .ok (bX p x.text).1 (k+1) else .err (x.aJ:Int) (bX p x.text).2))
  generalize bX p x.text=rv at*
  obtain ⟨rn,re⟩:=rv
  simp only at RD⊢
  clear hR h hl
  by_cases ZP:re=0
  ·rw [if_pos ZP]
   have e1:(re !=0)=false:=by rw [ZP];rfl
   go_enter Tryz.func102,Tryz.ntmps102
   go_wp2_with fail
   refine KD.out.mono ?_
   rintro e w1 ⟨rfl,hb1⟩
   have TK2:=aa (TK.out w1 (H.out.below hb1))
   have fu:=aa hb1
   clear hb1
   go_wp2_with fail
   refine TK2.out.mono ?_
   rintro e w2 ⟨⟨v,rfl,rfl⟩,h2,hk⟩
   have HK:=aa ((af.of_below (C:=fun c=>c=p.b) fu.out (Nat.le_refl _)).trans hk)
   have hr3:=Row.new w2 66 #[.int .i64 x.kind,.string (ae x.text),.int .i64 (x.aJ:Int)]
   have hb3:Below w2.heap.size w2 (w2.alloc (.cells #[.int .i64 x.kind,.string (ae x.text),.int .i64 (x.aJ:Int)] 66)):=(Below.refl _ w2).alloc (Nat.le_refl _) _
   generalize hW3:w2.alloc (.cells #[.int .i64 x.kind,.string (ae x.text),.int .i64 (x.aJ:Int)] 66)=W3 at hr3 hb3
   have h3:=h2.below hb3
   have Kc:=aa (HK.out.trans (af.of_below hb3 (Nat.le_refl _)))
   have g1:W3.cell? ⟨w2.heap.size,1,none⟩=some (.string (ae x.text)):=hr3.cell 1
   have g2:W3.cell? ⟨w2.heap.size,2,none⟩=some (.int .i64 (x.aJ:Int)):=hr3.cell 2
   obtain ⟨_,_,_,c3,_⟩:=h3.cells
   have RD3:=aa (RD.out W3.drew (h3.gl.below ((Below.refl _ W3).drew)))
   have H3:=aa h3
   have X':w2.heap.size<W3.heap.size:=hr3.lt
   clear h2 hk h3 hb3 hr3
   go_wp2_with fail
   go_region_held3 (fun w'=>w'.cell? ⟨w2.heap.size,1,none⟩=some (.string (ae x.text))∧w'.cell? ⟨w2.heap.size,2,none⟩=some (.int .i64 (x.aJ:Int))∧w'.cell? ⟨p.b,3,none⟩=some (.int .i64 p.sc)) (go_keep) ((go_at_call 143;refine RD3.out.mono ?_;rintro e w5 ⟨rfl,kF⟩;have hb5:Below W3.heap.size W3 w5:=⟨kF.os,kF.tape,kF.output,kF.size,kF.block⟩;clear kF;have hs0:w5.cell? ⟨w2.heap.size,1,none⟩=some (.string (ae x.text)):=(hb5.cell (p:=⟨w2.heap.size,1,none⟩) X').trans g1;have hs1:w5.cell? ⟨w2.heap.size,2,none⟩=some (.int .i64 (x.aJ:Int)):=(hb5.cell (p:=⟨w2.heap.size,2,none⟩) X').trans g2;have hs2:w5.cell? ⟨p.b,3,none⟩=some (.int .i64 p.sc):=(hb5.cell (p:=⟨p.b,3,none⟩) (World.block_lt_of_cell? W3 _ c3)).trans c3;have iA:=aa hb5;clear hb5))
   go_wp2
   go_ret
   exact ⟨⟨_,rfl,rfl⟩,H3.out.below iA.out,Kc.out.trans (af.of_below iA.out (Nat.le_refl _))⟩
  ·rw [if_neg ZP]
   have e1:(re !=0)=true:=by rw [bne,beq_eq_false_iff_ne.2 ZP];rfl
   go_enter Tryz.func102,Tryz.ntmps102
   go_wp2_with fail
   refine KD.out.mono ?_
   rintro e w1 ⟨rfl,hb1⟩
   have TK2:=aa (TK.out w1 (H.out.below hb1))
   have fu:=aa hb1
   clear hb1
   go_wp2_with fail
   refine TK2.out.mono ?_
   rintro e w2 ⟨⟨v,rfl,rfl⟩,h2,hk⟩
   have HK:=aa ((af.of_below (C:=fun c=>c=p.b) fu.out (Nat.le_refl _)).trans hk)
   have hr3:=Row.new w2 66 #[.int .i64 x.kind,.string (ae x.text),.int .i64 (x.aJ:Int)]
   have hb3:Below w2.heap.size w2 (w2.alloc (.cells #[.int .i64 x.kind,.string (ae x.text),.int .i64 (x.aJ:Int)] 66)):=(Below.refl _ w2).alloc (Nat.le_refl _) _
   generalize hW3:w2.alloc (.cells #[.int .i64 x.kind,.string (ae x.text),.int .i64 (x.aJ:Int)] 66)=W3 at hr3 hb3
   have h3:=h2.below hb3
   have Kc:=aa (HK.out.trans (af.of_below hb3 (Nat.le_refl _)))
   have g1:W3.cell? ⟨w2.heap.size,1,none⟩=some (.string (ae x.text)):=hr3.cell 1
   have g2:W3.cell? ⟨w2.heap.size,2,none⟩=some (.int .i64 (x.aJ:Int)):=hr3.cell 2
   obtain ⟨_,_,_,c3,_⟩:=h3.cells
   have RD3:=aa (RD.out W3.drew (h3.gl.below ((Below.refl _ W3).drew)))
   have H3:=aa h3
   have X':w2.heap.size<W3.heap.size:=hr3.lt
   clear h2 hk h3 hb3 hr3
   go_wp2_with fail
   go_region_held3 (fun w'=>w'.cell? ⟨w2.heap.size,1,none⟩=some (.string (ae x.text))∧w'.cell? ⟨w2.heap.size,2,none⟩=some (.int .i64 (x.aJ:Int))∧w'.cell? ⟨p.b,3,none⟩=some (.int .i64 p.sc)) (go_keep) ((go_at_call 143;refine RD3.out.mono ?_;rintro e w5 ⟨rfl,kF⟩;have hb5:Below W3.heap.size W3 w5:=⟨kF.os,kF.tape,kF.output,kF.size,kF.block⟩;clear kF;have hs0:w5.cell? ⟨w2.heap.size,1,none⟩=some (.string (ae x.text)):=(hb5.cell (p:=⟨w2.heap.size,1,none⟩) X').trans g1;have hs1:w5.cell? ⟨w2.heap.size,2,none⟩=some (.int .i64 (x.aJ:Int)):=(hb5.cell (p:=⟨w2.heap.size,2,none⟩) X').trans g2;have hs2:w5.cell? ⟨p.b,3,none⟩=some (.int .i64 p.sc):=(hb5.cell (p:=⟨p.b,3,none⟩) (World.block_lt_of_cell? W3 _ c3)).trans c3;have iA:=aa hb5;clear hb5))
   go_wp2
   exact ⟨rfl,rfl,Kc.out.trans (af.of_below iA.out (Nat.le_refl _))⟩
end Go.Proofs.YtddoehnkgcbboaaGreatDoor
namespace Go.Proofs.YtddoehnkgcbboaaGreatDoor
open Go.RowKit Go.Shelf Go.Maps
theorem bV.one {C:Nat→Prop} {W W6:World} {base:Nat} {x:Nd} {cs:List Value} (hx:cG (fun b=>C b∨b=W.heap.size) W6 x cs) (hW:W6=W.alloc (.cells [cs].flatten.toArray 25)) (hb:base≤W.heap.size) (hC:¬C W.heap.size):
 bV C W6 base W.heap.size 1 1 [x] [cs]:=by
 have hl:=hx.len
 have h9:[cs].flatten.length=9:=by rw [List.flatten_singleton];exact hl
 have hrow:W6.heap[W.heap.size]? =some (.cells [cs].flatten.toArray 25 (0,0)):=by rw [hW];exact heap_alloc_new W _
 refine ⟨⟨h9,.inr ⟨W.heap.size,1,_,rfl,hb,hrow,Nat.le_refl _,by decide,?_,?_⟩⟩,rfl,rfl,fun i hi hi'=>?_,hC⟩
 ·rw [List.size_toArray,h9]
 ·rw [List.toList_toArray];exact List.take_of_length_le (by rw [h9];decide)
 ·match i,hi,hi' with
  |0,_,_=>exact hx
structure kj (p:PS) (w:World) (g:Nat) (W:World) (kd a0:Int) (gk n c:Nat) (ks:List Nd) (bF:List (List Value)) (k:Nat):Prop where
 at_:bc p W k
 keeps:af (fun c=>c=p.b) w W
 res:Row W w.heap.size 25 bJ
 row:Row W g 25 (aw kd a0 [] [] 0 0 0 0 (.slice (some ⟨gk,0,none⟩) n c)).toArray
 kids:bV (fun b=>b≤w.heap.size∨b=g) W (w.heap.size+1) gk n c ks bF
theorem kj.keep {p:PS} {w W W':World} {g gk n c k k':Nat} {kd a0:Int} {ks:List Nd} {bF:List (List Value)} (h:kj p w g W kd a0 gk n c ks bF k) (hb:p.b<w.heap.size) (hg:w.heap.size<g) (ha:bc p W' k') (hk:af (fun c=>c=p.b) W W'):kj p w g W' kd a0 gk n c ks bF k':=
 ⟨ha,h.keeps.trans hk,h.res.keep hk (by show¬w.heap.size=p.b;omega),h.row.keep hk (by show¬g=p.b;omega),h.kids.keep hk (fun b hb'=>.inl (by show b≤_;have:b=p.b:=hb';omega))⟩
theorem kj.lf {p:PS} {w W:World} {g gk n c k:Nat} {kd a0:Int} {ks:List Nd} {bF:List (List Value)} (h:kj p w g W kd a0 gk n c ks bF k):bR p w g W (.mk kd a0 [] [] 0 0 0 0 ks) (aw kd a0 [] [] 0 0 0 0 (.slice (some ⟨gk,0,none⟩) ks.length c)) k:=by
 have e:=h.kids.num
 have h1:=h.row
 have h2:=h.kids.node kd a0 0 0 0 0 [] []
 rw [←e] at h1 h2
 exact ⟨h.at_,h.keeps,h.res,h1,h2⟩
theorem kj.new {p:PS} {w w3 W4 W5:World} {k B:Nat} {kd a0:Int} {x:Nd} {cs:List Value} (h3:bc p w3 k) (hk:af (fun c=>c=p.b) w w3) (hr:Row w3 w.heap.size 25 bJ) (aB:cG (fun b=>b<B) w3 x cs) (hB:w.heap.size<B)
 (jA:W4=w3.alloc (.cells [cs].flatten.toArray 25)) (pA:W5=W4.alloc (.cells (aw kd a0 [] [] 0 0 0 0 (.slice (some ⟨w3.heap.size,0,none⟩) 1 1)).toArray 25)):kj p w (w3.heap.size+1) W5 kd a0 w3.heap.size 1 1 [x] [cs] k:=by
 have b4:Below w3.heap.size w3 W4:=by rw [jA];exact (Below.refl _ _).alloc (Nat.le_refl _) _
 have s4:W4.heap.size=w3.heap.size+1:=by rw [jA,World.size_alloc]
 have b5:Below W4.heap.size W4 W5:=by rw [pA];exact (Below.refl _ _).alloc (Nat.le_refl _) _
 have b35:Below w3.heap.size w3 W5:=b4.trans (b5.mono (by omega))
 have hz:w.heap.size<w3.heap.size:=hr.lt
 have r5:Row W5 (w3.heap.size+1) 25 (aw kd a0 [] [] 0 0 0 0 (.slice (some ⟨w3.heap.size,0,none⟩) 1 1)).toArray:=by
  rw [pA,←s4];exact Row.new _ _ _
 have hx4:cG (fun b=>b≤w.heap.size∨b=w3.heap.size+1∨b=w3.heap.size) W4 x cs:=(aB.ge b4).mono (fun b hb=>by
  rcases hb with hb|rfl|rfl
  ·exact .inl (by omega)
  ·exact .inr (Nat.le_succ _)
  ·exact .inr (Nat.le_refl _))
 have hk4:=bV.one (C:=fun b=>b≤w.heap.size∨b=w3.heap.size+1) (base:=w.heap.size+1) (hx4.mono (fun b hb=>by
  rcases hb with (hb|hb)|hb
  ·exact .inl hb
  ·exact .inr (.inl hb)
  ·exact .inr (.inr hb))) jA hz (by rintro (h|h)<;>omega)
 exact ⟨h3.below b35,hk.trans (af.of_below b35 (Nat.le_refl _)),hr.below b35 hz,r5,hk4.keep (D:=fun _=>False) (af.of_below b5 (Nat.le_refl _)) (fun b h=>h.elim)⟩
theorem kj.app {p:PS} {w Y W':World} {g gk n c k k0 vw c':Nat} {kd a0:Int} {ks ks':List Nd} {bF Yd:List (List Value)} (H:bc p w k0) (hg:w.heap.size<g) (h:kj p w g Y kd a0 gk n c ks bF k) (gM:bV (fun b=>b≤w.heap.size∨b=g) W' (w.heap.size+1) vw (n+1) c' ks' Yd) (hgr:Y.grownBy W' (some gk)):
 kj p w g (W'.setCell ⟨g,8,none⟩ (.slice (some ⟨vw,0,none⟩) (n+1) c')) kd a0 vw (n+1) c' ks' Yd k:=by
 have hb0:=h.kids.cur.1
 have hne:g≠gk:=fun e=>h.kids.not (.inr e.symm)
 have hB:Below (w.heap.size+1) Y W':=⟨hgr.os,hgr.tape,hgr.output,hgr.size,fun b hb=>hgr.block b (Nat.lt_of_lt_of_le hb (by have:=h.res.lt;omega)) (by intro e;cases e;omega)⟩
 have hB2:Below (w.heap.size+1) W' (W'.setCell ⟨g,8,none⟩ (.slice (some ⟨vw,0,none⟩) (n+1) c')):=(Below.refl _ W').setCell (p:=⟨g,8,none⟩) hg _
 have E8:=hB.trans hB2
 have hk2:af (fun b=>b≤w.heap.size∨b=g) W' (W'.setCell ⟨g,8,none⟩ (.slice (some ⟨vw,0,none⟩) (n+1) c')):=(af.refl _ W').set (.inl (.inr rfl)) 8 _
 refine ⟨H.above h.at_ ⟨E8.os,E8.tape,E8.output,E8.size,fun b hb=>E8.block b (Nat.lt_succ_of_lt hb)⟩,h.keeps.over ⟨E8.os,E8.tape,E8.output,E8.size,fun b hb=>E8.block b (Nat.lt_succ_of_lt hb)⟩,h.res.below E8 (Nat.lt_succ_self _),?_,gM.keep hk2 (fun b hb=>hb)⟩
 exact (h.row.grown hgr (fun e=>hne (Option.some.inj e))).bg 8 _
end Go.Proofs.YtddoehnkgcbboaaGreatDoor
