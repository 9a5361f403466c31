/- A part of the proof that the last file tells. -/
import Derived.Test.YtddoehnkgcbboaaGreatDoorAgP
import Derived.Lib.ReplaceLaws
set_option maxHeartbeats 16000000
set_option maxRecDepth 100000
set_option linter.unusedVariables false
set_option linter.unusedSimpArgs false
namespace Go.Proofs.YtddoehnkgcbboaaGreatDoor
open Go.RowKit Go.Shelf
def mW (f:Nat→PR Nd):Prop:=∀k x k',f k=.ok x k'→k+aC x≤k'
def acQ (f:Nat→PR (List Nd)):Prop:=∀k x k',f k=.ok x k'→k+ax x≤k'
theorem tV:∀(l:List Nd) (x:Nd),ax (l++[x])=ax l+aC x
 |[],x=>by simp [ax]
 |y::r,x=>by rw [List.cons_append,ax,ax,tV r x];omega
section
variable {L : List Lx} {en : Int} {rd : List UInt8 → Int × Int}
theorem Bq {ops:List (List UInt8×Int)} {f:Nat→PR Nd} (hf:mW f):∀(m:Nat) (n:Nd) (k:Nat) (x:Nd) (k':Nat),g_ L en ops f m n k=.ok x k'→k+aC x≤k'+aC n
 |0,n,k,x,k',h=>by cases h;exact aa _
 |m+1,n,k,x,k',h=>by
  unfold g_ at h
  split at h
  ·cases h;exact aa _
  ·obtain ⟨y,k1,h1,h2⟩:=bind_ok h;have a:=hf _ _ _ h1;have b:=Bq hf m _ _ _ _ h2;simp only [aC,ax] at b⊢;omega
theorem jG {ops:List (List UInt8×Int)} {f:Nat→PR Nd} (hf:mW f):mW (dN L en ops f):=fun k x k' h=>by
 obtain ⟨y,k1,h1,h2⟩:=bind_ok h;have a:=hf _ _ _ h1;have b:=Bq hf _ _ _ _ _ h2;omega
theorem QM {ng cmp:Nat→PR Nd} (h1:mW ng) (h2:mW cmp):mW (yE L en ng cmp):=fun k x k' h=>by
 unfold yE at h
 split at h
 ·obtain ⟨y,k1,h3,h4⟩:=bind_ok h;cases h4;have:=h1 _ _ _ h3;simp only [aC,ax];omega
 ·exact h2 _ _ _ h
theorem QN {fo:Nat→PR Nd} (h1:mW fo):mW (Aj L en fo):=fun k x k' h=>by
 obtain ⟨y,k1,h2,h3⟩:=bind_ok h;have a:=h1 _ _ _ h2
 split at h3
 ·cases h3;exact a
 ·obtain ⟨z,k2,h4,h5⟩:=bind_ok h3;cases h5;have:=h1 _ _ _ h4;simp only [aC,ax];omega
theorem IX {n:Nd} {k:Nat} {x:Nd} {k':Nat} (h:ky L en n k=.ok x k'):k+aC x≤k'+aC n:=by
 obtain ⟨a,k1,h1,h2⟩:=bind_ok h;have e1:=kK h1
 split at h2
 ·obtain ⟨b,k2,h3,h4⟩:=bind_ok h2;obtain ⟨_,k3,h5,h6⟩:=bind_ok h4;cases h6;have e2:=kK h3;have e3:=(aS h5).1;simp only [aC,ax];omega
 ·obtain ⟨_,k3,h5,h6⟩:=bind_ok h2;cases h6;have e3:=(aS h5).1;simp only [aC,ax];omega
theorem Vh {un uW:Nat→PR Nd} (h1:mW un) (h2:mW uW):mW (zP L en un uW):=fun k x k' h=>by
 unfold zP at h
 split at h
 ·obtain ⟨y,k1,h3,h4⟩:=bind_ok h;cases h4;have:=h1 _ _ _ h3;simp only [aC,ax];omega
 ·split at h
  ·split at h
   ·cases h;simp only [aC,ax];omega
   ·cases h
  ·obtain ⟨y,k1,h3,h4⟩:=bind_ok h;have a:=h2 _ _ _ h3
   split at h4
   ·have:=IX h4;omega
   ·cases h4;exact a
theorem Br {fo:Nat→PR Nd} (hb:mW fo):∀(m:Nat) (l:List Nd) (k:Nat) (x:List Nd) (k':Nat),il L fo m l k=.ok x k'→k+ax x≤k'+ax l
 |0,l,k,x,k',h=>by cases h;exact aa _
 |m+1,l,k,x,k',h=>by
  unfold il at h
  split at h
  ·obtain ⟨y,k1,h1,h2⟩:=bind_ok h;have a:=hb _ _ _ h1;have b:=Br hb m _ _ _ _ h2;rw [tV] at b;omega
  ·cases h;exact aa _
theorem MT {cond:Nat→PR Nd} (hc:mW cond) (q az:Int) (k:Nat) (x:Nd) (k':Nat) (h:jU L en rd cond q az k=.ok x k'):k+aC x≤k':=by
 obtain ⟨_,k1,h1,h2⟩:=bind_ok h;obtain ⟨y,k2,h3,h4⟩:=bind_ok h2;obtain ⟨_,k3,h5,h6⟩:=bind_ok h4;have e1:=(aS h1).1;have e2:=hc _ _ _ h3;have e3:=(aS h5).1
 split at h6
 ·obtain ⟨z,k4,h7,h8⟩:=bind_ok h6;obtain ⟨_,k5,h9,h10⟩:=bind_ok h8;obtain ⟨a,b,h11⟩:=xk h10;obtain ⟨_,k6,h12,tQ⟩:=bind_ok h11;cases tQ;have e4:=hc _ _ _ h7;have e5:=(aS h9).1;have e6:=(aS h12).1;simp only [aC,ax];omega
 ·obtain ⟨a,b,h11⟩:=xk h6;obtain ⟨_,k6,h12,tQ⟩:=bind_ok h11;cases tQ;have e6:=(aS h12).1;simp only [aC,ax];omega
theorem IY {k:Nat} {n:Nd} (h:iU L en k=some n):aC n=1:=by
 unfold iU at h
 repeat' split at h
 all_goals first|(cases h;rfl)|cases h
theorem MU {cond fo:Nat→PR Nd} (hc:mW cond) (hb:mW fo):mW (eJ L en rd cond fo):=fun k x k' h=>by
 unfold eJ at h
 split at h
 ·rename_i n hn;cases h;have:=IY hn;omega
 ·split at h
  ·cases h;simp only [aC,ax];omega
  ·split at h
   ·cases h;simp only [aC,ax];omega
   ·split at h
    ·obtain ⟨y,k1,h1,h2⟩:=bind_ok h;obtain ⟨_,k2,h3,h4⟩:=bind_ok h2;cases h4;have:=hc _ _ _ h1;have:=(aS h3).1;omega
    ·split at h
     ·obtain ⟨y,k1,h1,h2⟩:=bind_ok h;obtain ⟨l,k2,h3,h4⟩:=bind_ok h2;obtain ⟨_,k3,h5,h6⟩:=bind_ok h4;cases h6;have:=hb _ _ _ h1;have:=Br hb _ _ _ _ _ h3;have:=(aS h5).1;simp only [aC,ax] at*;omega
     ·split at h
      ·obtain ⟨_,k1,h1,h2⟩:=bind_ok h;obtain ⟨y,k2,h3,h4⟩:=bind_ok h2;obtain ⟨_,k3,h5,h6⟩:=bind_ok h4;cases h6;have:=(aS h1).1;have:=hc _ _ _ h3;have:=(aS h5).1;simp only [aC,ax];omega
      ·split at h
       ·have:=MT hc _ _ _ _ _ h;omega
       ·cases h
theorem QO {un:Nat→PR Nd} (h:mW un):mW (YB L en un):=jG (jG (jG (jG h)))
structure YX (F:Fns):Prop where
 cond:mW F.cond
 ng:mW F.ng
 fo:mW F.fo
 un:mW F.un
theorem Fk:∀F,YX (cF L en rd F)
 |0=>⟨fun k x k' h=>(by cases h),fun k x k' h=>(by cases h),fun k x k' h=>(by cases h),fun k x k' h=>(by cases h)⟩
 |F+1=>by
  have ih:=Fk F;have hun:mW (zP L en (cF L en rd F).un (eJ L en rd (cF L en rd F).cond (cF L en rd F).fo)):=Vh ih.un (MU ih.cond ih.fo);have Qq:=QO (L:=L) (en:=en) hun;have ko:=QM (L:=L) (en:=en) ih.ng (QN (L:=L) (en:=en) Qq);exact ⟨jG (jG ko),ko,Qq,hun⟩
theorem Bt:mW (cX L en rd):=(Fk (L.length+1)).cond
theorem y9 {cond:Nat→PR Nd} (hc:mW cond):acQ (dW L cond):=fun k x k' h=>by
 unfold dW at h
 split at h
 ·obtain ⟨c,k1,h1,h2⟩:=bind_ok h;cases h2;have:=hc _ _ _ h1;simp only [ax];omega
 ·cases h;simp only [ax];omega
theorem y_ {α:Type} {k:Nat} {f:Int→Int→Nat→PR α} {x:α} {k':Nat} (h:jf L en rd k f=.ok x k'):∃a b,f a b (k+5)=.ok x k':=by
 obtain ⟨_,k1,h1,h2⟩:=bind_ok h;obtain ⟨a,k2,h3,h4⟩:=bind_ok h2;obtain ⟨_,k3,h5,h6⟩:=bind_ok h4;obtain ⟨b,k4,h7,h8⟩:=bind_ok h6;obtain ⟨_,k5,h9,h10⟩:=bind_ok h8;have e1:=(aS h1).1;have e2:=jY h3;have e3:=(aS h5).1;have e4:=jY h7;have e5:=(aS h9).1;subst e1 e2 e3 e4 e5;exact ⟨a,b,h10⟩
theorem IZ {cond:Nat→PR Nd} (hc:mW cond):mW (jB L en cond):=fun k x k' h=>by
 unfold jB at h
 split at h
 ·obtain ⟨_,k1,h1,h2⟩:=bind_ok h;have e1:=(aS h1).1
  split at h2
  ·obtain ⟨_,k2,h3,h4⟩:=bind_ok h2;have e2:=(aS h3).1;cases h4;simp only [aC,ax];omega
  ·cases h2
 ·split at h
  ·obtain ⟨_,k1,h1,h2⟩:=bind_ok h;obtain ⟨y,k2,h3,h4⟩:=bind_ok h2;obtain ⟨_,k3,h5,h6⟩:=bind_ok h4;cases h6;have:=(aS h1).1;have:=hc _ _ _ h3;have:=(aS h5).1;simp only [aC,ax];omega
  ·cases h
theorem MV {cond pat:Nat→PR Nd} (hc:mW cond) (hp:mW pat):mW (jt L en cond pat):=fun k x k' h=>by
 unfold jt at h
 split at h
 ·obtain ⟨y,k1,h1,h2⟩:=bind_ok h;obtain ⟨_,k2,h3,h4⟩:=bind_ok h2;cases h4;have:=hp _ _ _ h1;have:=(aS h3).1;omega
 ·obtain ⟨y,k1,h1,h2⟩:=bind_ok h;have a:=IZ hc _ _ _ h1
  split at h2
  ·obtain ⟨c,k2,h3,h4⟩:=bind_ok h2;cases h4;have:=hc _ _ _ h3;simp only [aC,ax];omega
  ·cases h2;exact a
theorem Bu {cond pat:Nat→PR Nd} (hc:mW cond) (hp:mW pat):mW (im L en rd cond pat):=fun k x k' h=>by
 obtain ⟨y,k1,h1,h2⟩:=bind_ok h;have a:=MV hc hp _ _ _ h1
 split at h2
 ·obtain ⟨_,k2,h3,h4⟩:=bind_ok h2;obtain ⟨_,k3,h5,h6⟩:=bind_ok h4;obtain ⟨_,k4,h7,h8⟩:=bind_ok h6;obtain ⟨_,k5,h9,h10⟩:=bind_ok h8;obtain ⟨_,_,h11⟩:=y_ h10;obtain ⟨l,k6,h12,tQ⟩:=bind_ok h11;obtain ⟨_,k7,h14,Ta⟩:=bind_ok tQ;cases Ta;have:=kK h3;have:=(aS h5).1;have:=kK h7;have:=(aS h9).1;have:=y9 hc _ _ _ h12;have:=(aS h14).1;simp only [aC,ax];omega
 ·cases h2;exact a
theorem Fl {cond pat:Nat→PR Nd} (hc:mW cond) (hp:mW pat):∀(m:Nat) (n:Nd) (k:Nat) (x:Nd) (k':Nat),kJ L en rd cond pat m n k=.ok x k'→k+aC x≤k'+aC n
 |0,n,k,x,k',h=>by cases h;exact aa _
 |m+1,n,k,x,k',h=>by
  unfold kJ at h
  split at h
  ·obtain ⟨_,_,h1⟩:=y_ h;obtain ⟨l,k2,h2,h3⟩:=bind_ok h1;obtain ⟨y,k3,h4,h5⟩:=bind_ok h3;have:=y9 hc _ _ _ h2;have:=Bu hc hp _ _ _ h4;have b:=Fl hc hp m _ _ _ _ h5;simp only [aC,ax] at b⊢;omega
  ·cases h;exact aa _
theorem QP {cond pat:Nat→PR Nd} (hc:mW cond) (hp:mW pat):mW (ES L en rd cond pat):=fun k x k' h=>by
 obtain ⟨y,k1,h1,h2⟩:=bind_ok h;have a:=Bu hc hp _ _ _ h1;have b:=Fl hc hp _ _ _ _ _ h2;omega
theorem Fm:∀F,mW (lO L en rd F)
 |0=>fun k x k' h=>by cases h
 |F+1=>jG (QP Bt (Fm F))
theorem QQ:mW (Mz L en rd):=Fm _
end
theorem ez:∀{l:List Nd} {x:Nd},x∈l→aC x≤ax l
 |y::r,x,h=>by
  rw [ax]
  rcases List.mem_cons.1 h with rfl|h
  ·omega
  ·have:=ez h;omega
theorem mX:∀n:Nd,1≤aC n
 |.mk _ _ _ _ _ _ _ _ ks=>by rw [aC];omega
theorem j_:∀l:List Nd,l.length≤ax l
 |[]=>bj _
 |x::r=>by have h1:=mX x;have h2:=j_ r;rw [aj,ax];omega
theorem Bv:∀(l:List Nd) (x:Nd),ml (l++[x])=max (ml l) (iF x)
 |[],x=>by simp [ml]
 |y::r,x=>by rw [List.cons_append,ml,ml,Bv r x];omega
mutual
theorem ze:∀n:Nd,iF n≤aC n
 |.mk _ _ _ _ _ _ _ _ ks=>by have:=pI ks;rw [iF,aC];omega
theorem pI:∀l:List Nd,ml l≤ax l
 |[]=>aa _
 |x::r=>by have h1:=ze x;have h2:=pI r;rw [ml,ax];omega
end
end Go.Proofs.YtddoehnkgcbboaaGreatDoor
namespace Go.Proofs.YtddoehnkgcbboaaGreatDoor
open Go.RowKit Go.Shelf Go.Maps
theorem cK.fresh {C:Nat→Prop} {W:World} {n:Nd} {cs:List Value} (h:cK C W n cs):cK (fun b=>C b∨W.heap.size≤b) W n cs:=h.ge (af _ _)
structure dm (C:Nat→Prop) (W:World) (base gk n c:Nat) (ks:List Nd) (bH:List (List Value)):Prop where
 own:W.ownsRow base 25 9 (.slice (some ⟨gk,0,none⟩) n c) n bH.flatten
 len:bH.length=ks.length
 num:ks.length=n
 kids:∀i (h:i<ks.length) (h':i<bH.length),cK (fun b=>C b∨b=gk) W ks[i] bH[i]
 not:¬C gk
theorem dm.cur {C:Nat→Prop} {W:World} {base gk n c:Nat} {ks:List Nd} {bH:List (List Value)} (h:dm C W base gk n c ks bH):
 base≤gk∧∃cur,W.heap[gk]? =some (.cells cur 25 (0,0))∧n≤c∧c≤maxLen∧cur.size=c*9∧cur.toList.take (n*9)=bH.flatten:=by
 rcases h.own.2 with ⟨h1,_⟩|⟨g,cap,cur,h1,h2,h3,h4,h5,h6,h7⟩
 ·cases h1
 ·cases h1;exact ⟨h2,cur,h3,h4,h5,h6,h7⟩
theorem dm.keep {C D:Nat→Prop} {W W':World} {base gk n c:Nat} {ks:List Nd} {bH:List (List Value)} (h:dm C W base gk n c ks bH) (hk:ah D W W') (hD:∀b,D b→C b):dm C W' base gk n c ks bH:=by
 obtain ⟨hb,cur,h3,h4,h5,h6,h7⟩:=h.cur;have hlt:gk<W.heap.size:=(Array.getElem?_eq_some_iff.1 h3).1;exact ⟨⟨h.own.1,.inr ⟨gk,c,cur,rfl,hb,(hk.block gk hlt (fun e=>h.not (hD _ e))).trans h3,h4,h5,h6,h7⟩⟩,h.len,h.num,fun i hi hi'=>(h.kids i hi hi').keeps (hk.mono (fun b hb=>.inl (hD b hb))),h.not⟩
theorem dm.lt {C:Nat→Prop} {W:World} {base gk n c:Nat} {ks:List Nd} {bH:List (List Value)} (h:dm C W base gk n c ks bH):gk<W.heap.size:=by
 obtain ⟨hb,cur,h3,_⟩:=h.cur;exact (Array.getElem?_eq_some_iff.1 h3).1
theorem dm.node {C:Nat→Prop} {W:World} {base gk n c:Nat} {ks:List Nd} {bH:List (List Value)} (h:dm C W base gk n c ks bH) (kd a0 xa xb xc xd:Int) (nm vl:List UInt8):
 cK C W (.mk kd a0 nm vl xa xb xc xd ks) (aB kd a0 nm vl xa xb xc xd (.slice (some ⟨gk,0,none⟩) n c)):=by
 obtain ⟨hb,cur,h3,h4,h5,h6,h7⟩:=h.cur;have e:=h.num;rw [←e];refine .mk kd a0 nm vl xa xb xc xd ks _ c bH h.len (fun i hi hi'=>(h.kids i hi hi').mono (fun b hb=>.inl hb)) (fun _=>⟨gk,0,rfl,h.not,h.lt,fun i hi j hj=>?_⟩) (by omega)
 have h9:∀d∈bH,d.length=9:=fun d hd=>by
  obtain ⟨m,hm,rfl⟩:=List.getElem_of_mem hd;exact (h.kids m (by rw [←h.len];exact hm) hm).len
 have hf:=yM bH i j h9 hi hj
 have hil:i*9+j<n*9:=by have:=h.len;omega
 have hc:W.cell? ⟨gk,0+i*9+j,none⟩=cur[i*9+j]? :=by
  rw [Nat.zero_add];simp [World.cell?,h3]
 rw [hc,←hf,←h7,List.getElem?_take_of_lt hil];simp
theorem I0:(Tryz.prog.info? 25).map (fun i=>(i.zero.map (fun z=>z.cells.size),i.size))=some (some 9,9):=by kernel_rfl
theorem YY {C:Nat→Prop} {W:World} {x:Nd} {cs:List Value} (h:cK C W x cs):∀u∈cs,u.oneCell'=true:=by
 cases h;intro u hu;simp only [aB,List.mem_cons,List.not_mem_nil,or_false] at hu
 rcases hu with rfl|rfl|rfl|rfl|rfl|rfl|rfl|rfl|rfl<;>rfl
theorem dm.app {C:Nat→Prop} {Y:World} {base gk n c gs:Nat} {ks:List Nd} {bH:List (List Value)} {x:Nd} {cs:List Value} (h:dm C Y base gk n c ks bH) (hx:cK (fun b=>C b∨b=gk) Y x cs) (hs:Row Y gs 25 cs.toArray) (hb:base≤Y.heap.size) (hC:∀b,C b→b<Y.heap.size) (hn:n≤100000):
 ∃gk' c' W',(Builtin.append_ #[23,23] 23 #[.slice (some ⟨gk,0,none⟩) n c,.slice (some ⟨gs,0,none⟩) 1 1]).run Tryz.prog Y=.ok (.slice (some ⟨gk',0,none⟩) (n+1) c') W'∧dm C W' base gk' (n+1) c' (ks++[x]) (bH++[cs])∧Y.grownBy W' (some gk):=by
 obtain ⟨iN,hiN,hz⟩:=Option.map_eq_some_iff.1 I0;have hz2:iN.size=9:=(Prod.mk.inj hz).2;obtain ⟨z,hz0,hz1⟩:=Option.map_eq_some_iff.1 (Prod.mk.inj hz).1
 have hbt:iN.bytes≤1000000:=by
  have:(Tryz.prog.info? 25).map (fun i=>decide (i.bytes≤1000000))=some true:=by kernel_rfl
  rw [hiN] at this;exact of_decide_eq_true (au this)
 obtain ⟨v',w',hr,h2,h3,h4,h5⟩:=run_append_own_at (P:=Tryz.prog) Y base 23 23 25 iN z 9 iN.bytes Tryz.underlying23 hiN hz0 hz2 rfl hz1 (by decide) _ n bH.flatten h.own ⟨gs,0,none⟩ 1 1 cs (by rw [hx.len]) (fun j u hu=>by
  have e:(⟨gs,0,none⟩:Addr).add j=⟨gs,0+j,none⟩:=by unfold Addr.add;split<;>simp_all
  rw [e,Nat.zero_add,hs.cell]
  simpa using hu) (YY hx) (by unfold maxLen;omega) (by
   have:(n+1)*iN.bytes≤100001*1000000:=Nat.mul_le_mul (by omega) hbt
   omega) hb
 rcases h2.2 with ⟨h6,_⟩|⟨g',c',cur,h6,h7,h8,h9,h10,h11,h12⟩
 ·have:=(h4.1 h6).1;cases this
 ·subst h6
  have hg:Y.grownBy w' (some gk):=by simpa [Value.ownBlock] using h3
  have hg':g'=gk∨g'=Y.heap.size:=by
   rcases h5 with h5|h5
   ·left;simpa [Value.ownBlock] using h5
   ·right;simpa [Value.ownBlock] using h5
  have hkk:ah (fun b=>C b∨b=gk) Y w':=(ah.refl _ Y).grown hg (fun k hk=>by cases hk;exact .inl (.inr rfl))
  have hm:∀{y:Nd} {ds:List Value},cK (fun b=>C b∨b=gk) Y y ds→cK (fun b=>C b∨b=g') w' y ds:=fun {y ds} hy=>by
   rcases hg' with rfl|rfl
   ·exact hy.keeps hkk
   ·have hgb:Below Y.heap.size Y (Y.alloc (.cells #[] 0)):=(af _ _).alloc (aa _) _;have h1:=hy.fresh
    exact (h1.keeps (hkk.mono (fun b hb=>.inl hb))).mono (fun b hb=>by
     rcases hb with hb|rfl
     ·exact .inl (.inl hb)
     ·exact .inr (aa _))
  refine ⟨g',c',w',hr,⟨?_,by rw [aw,aw,h.len];rfl,by rw [aw,h.num];rfl,fun i hi hi'=>?_,?_⟩,hg⟩
  ·rw [List.flatten_append,List.flatten_singleton];exact h2
  ·rcases Nat.lt_or_ge i ks.length with hlt|hge
   ·rw [uw hlt,uw (by rw [h.len];exact hlt)];exact hm (h.kids i hlt (by rw [h.len];exact hlt))
   ·rw [aw,List.length_singleton] at hi
    obtain rfl:i=ks.length:=by omega
    have e1:(ks++[x])[ks.length]'(by simp)=x:=by simp
    have e2:(bH++[cs])[ks.length]'hi'=cs:=by
     rw [List.getElem_append_right (by rw [h.len];exact aa _)];simp [h.len]
    rw [e1,e2];exact hm hx
  ·rcases hg' with rfl|rfl
   ·exact h.not
   ·exact fun e=>absurd (hC _ e) (Nat.lt_irrefl _)
end Go.Proofs.YtddoehnkgcbboaaGreatDoor
namespace Go.Proofs.YtddoehnkgcbboaaGreatDoor
open Go.RowKit Go.Shelf
def rV:Nat→Int
 |0=>1
 |n+1=>rV n*10
theorem xp (n:Nat):1≤rV n:=by
 induction n with
 |zero=>exact Int.le_refl _
 |succ n ih=>show 1≤rV n*10;omega
theorem QR {a b:Nat} (h:a≤b):rV a≤rV b:=by
 induction h with
 |refl=>exact Int.le_refl _
 |step _ ih=>have:=ih;show rV a≤rV _*10;have:=xp a;omega
theorem CZ {n:Nat} (h:n≤18):rV n≤1000000000000000000:=by
 have:=QR h
 have e:rV 18=1000000000000000000:=by decide+kernel
 omega
theorem MW (b n:Nat) (w:World) (hn:n≤18) (hr:Row w b 3 #[.int .i64 1]):
 Calls Tryz.prog 227 #[.int .i64 n,.pointer (some ⟨b,0,none⟩)] w fun e w'=>e=.returned (.tuple #[])∧Row w' b 3 #[.int .i64 (rV n)]∧ah (fun c=>c=b) w w':=by
 have Hr:=hide hr;clear hr;go_enter Tryz.func227,Tryz.ntmps227;go_wp2
 go_loopw [4] (fun v wr=>∃k:Nat,v=.int .i64 k∧k≤n∧Row wr b 3 #[.int .i64 (rV k)]∧ah (fun c=>c=b) w wr) (fun v _=>n-(intOf v).toNat)
 case atStart=>exact ⟨0,rfl,bj _,Hr.o,ah.refl _ _⟩
 case round=>
  obtain ⟨k,rfl,hk,hrow,WY⟩:=hrel;have hc:wr.cell? ⟨b,0,none⟩=some (.int .i64 (rV k)):=hrow.cell 0;have hf:wr.frozen? ⟨b,0,none⟩=false:=hrow.frozen 0;have qF:=hide hrow;have WZ:=hide WY;clear hrow WY;by_cases hlt:k<n
  ·have h1:=xp k;have h2:=CZ (n:=k) (by omega);have h3:=CZ (n:=k+1) (by omega);have h4:rV (k+1)=rV k*10:=rfl;have H4:=hide h4
   have h5:rV k*10≤1000000000000000000:=by omega
   clear h3 h4;generalize rV k=p at hc qF H4 h1 h2 h5;go_wp2;go_roundw
   case rel=>
    refine ⟨k+1,by go_num,by omega,?_,WZ.o.set (.inl rfl) 0 _⟩;rw [H4.o];exact qF.o.bU 0 _
   case measure=>simp [intOf];omega
  ·obtain rfl:k=n:=Nat.le_antisymm hk (Nat.le_of_not_lt hlt);go_wp2;go_end0;exact ⟨rfl,qF.o,WZ.o⟩
theorem Vi (n:Nat) (w:World) (hn:n≤18):
 Calls Tryz.prog 205 #[.int .i64 n] w fun e w'=>e=.returned (.int .i64 (rV n))∧Below w.heap.size w w':=by
 go_enter Tryz.func205,Tryz.ntmps205;go_wp2_with fail;refine (MW w.heap.size n _ hn (Row.new w _ _)).mono ?_;rintro e w1 ⟨rfl,hrow,hk⟩;have hc:w1.cell? ⟨w.heap.size,0,none⟩=some (.int .i64 (rV n)):=hrow.cell 0;have HB:=hide (((af w.heap.size w).alloc (aa _) (.cells #[.int .i64 1] 3)).trans (hk.below (by rintro b rfl;exact aa _) (by rw [aF];exact Nat.le_succ _)));clear hrow hk;go_wp2;go_ret;exact ⟨rfl,HB.o⟩
theorem W_ (i:Int) (n:Nat) (hi:i=(n:Int)) (hn:n≤18) (w:World):
 Calls Tryz.prog 205 #[.int .i64 i] w fun e w'=>e=.returned (.int .i64 (rV n))∧Below w.heap.size w w':=hi▸Vi n w hn
def jH (s:Int):Bool:=decide (-15≤s∧s≤2)
theorem zf (s:Int) (w:World):
 Calls Tryz.prog 29 #[.int .i64 s] w fun e w'=>e=.returned (.bool (jH s))∧w'=w:=by
 go_enter Tryz.func29,Tryz.ntmps29;go_wp2
 all_goals go_ret
 all_goals refine ⟨aam ?_,rfl⟩
 all_goals (rw [Bool.eq_iff_iff];simp [jH];omega)
def kD (n fy:Int):Int×Bool×Bool:=
 if fy<0 then (n / rV (-fy).toNat,n % rV (-fy).toNat==0,decide (n / rV (-fy).toNat≤1099511627776))
 else if 1099511627776 / rV fy.toNat<n then (0,false,false) else (n*rV fy.toNat,true,true)
def MX (r:Int×Bool×Bool) (w:World) (e:Ending) (w':World):Prop:=e=.returned (.tuple #[.int .i64 r.1,.bool r.2.1,.bool r.2.2])∧Below w.heap.size w w'
theorem MZ (n fy:Int) (w:World) (h0:0≤n) (h1:n≤999999999999999999) (h2:-18≤fy) (h3:fy≤18):
 Calls Tryz.prog 175 #[.int .i64 n,.int .i64 fy] w (MX (kD n fy) w):=by
 by_cases hp:fy<0
 ·have T:=hide (fun W:World=>W_ (-fy) (-fy).toNat (by omega) (by omega) W)
  have hs:kD n fy=(n / rV (-fy).toNat,n % rV (-fy).toNat==0,decide (n / rV (-fy).toNat≤1099511627776)):=by unfold kD;rw [if_pos hp]
  rw [hs];have p1:=xp (-fy).toNat;have p2:=CZ (n:=(-fy).toNat) (by omega);clear hs;generalize rV (-fy).toNat=p at T p1 p2⊢;go_enter Tryz.func175,Tryz.ntmps175;go_wp2_with fail;refine (T.o _).mono ?_;rintro e w1 ⟨rfl,hb⟩;have HB:=hide hb;clear hb;have hq:=Int.ediv_nonneg h0 (show 0≤p by omega);have hq2:n / p≤n:=Int.ediv_le_self p h0
  have hp0:¬p=0:=by omega
  have k1:IntKind.i64.wrap (n.tdiv p)=n / p:=IntWalk.i64_quo _ _ (by omega);have k2:n.tmod p=n % p:=IntWalk.rem_in _ _ h0;go_wp2_with fail;go_quiet (fail);go_wp2;exact bodyPost_ret (v:=.tuple #[.int .i64 (n / p),.bool (n % p==0),.bool (decide (n / p≤1099511627776))]) (by simp [results,Tryz.results175,go_sem]) rfl ⟨rfl,aX HB.o _⟩
 ·have T:=hide (fun W:World=>W_ fy fy.toNat (by omega) (by omega) W);have p1:=xp fy.toNat;have p2:=CZ (n:=fy.toNat) (by omega)
  have hs:kD n fy=if 1099511627776 / rV fy.toNat<n then (0,false,false) else (n*rV fy.toNat,true,true):=by unfold kD;rw [if_neg hp]
  rw [hs];clear hs;generalize rV fy.toNat=p at T p1 p2⊢
  have hp0:¬p=0:=by omega
  have k1:IntKind.i64.wrap ((1099511627776:Int).tdiv p)=1099511627776 / p:=IntWalk.i64_quo _ _ (by omega);by_cases hbig:1099511627776 / p<n
  ·rw [if_pos hbig];go_enter Tryz.func175,Tryz.ntmps175;go_wp2_with fail;refine (T.o _).mono ?_;rintro e w1 ⟨rfl,hb⟩;have HB:=hide hb;clear hb;go_wp2;exact bodyPost_ret (v:=.tuple #[.int .i64 0,.bool false,.bool false]) (by simp [results,Tryz.results175,go_sem]) rfl ⟨rfl,HB.o⟩
  ·rw [if_neg hbig]
   have hm:n*p≤1099511627776:=by
    have h4:n≤1099511627776 / p:=by omega
    have:=Int.mul_le_mul_of_nonneg_right h4 (show 0≤p by omega);have h5:=Int.ediv_mul_le 1099511627776 hp0;omega
   have hm0:0≤n*p:=Int.mul_nonneg h0 (by omega);have k2:IntKind.i64.wrap (n*p)=n*p:=bI _ (by omega);have k3:wrap64 (n*p)=n*p:=IntWalk.wrap64_in _ ⟨by omega,by omega⟩;go_enter Tryz.func175,Tryz.ntmps175;go_wp2_with fail;refine (T.o _).mono ?_;rintro e w1 ⟨rfl,hb⟩;have HB:=hide hb;clear hb;go_wp2;exact bodyPost_ret (v:=.tuple #[.int .i64 (n*p),.bool true,.bool true]) (by simp [results,Tryz.results175,go_sem]) rfl ⟨rfl,HB.o⟩
end Go.Proofs.YtddoehnkgcbboaaGreatDoor
namespace Go.Proofs.YtddoehnkgcbboaaGreatDoor
open Go.RowKit Go.Shelf Go.Sort
def uname (i:Nat):ByteArray:=([⟨#[115]⟩,⟨#[109,115]⟩,⟨#[117,115]⟩,⟨#[110,115]⟩,⟨#[112,115]⟩,⟨#[102,115]⟩]:List ByteArray).getD i ⟨#[]⟩
def kW:List Value:=[.string ⟨#[115]⟩,.int .i64 0,.string ⟨#[109,115]⟩,.int .i64 (-3),.string ⟨#[117,115]⟩,.int .i64 (-6),.string ⟨#[110,115]⟩,.int .i64 (-9),.string ⟨#[112,115]⟩,.int .i64 (-12),.string ⟨#[102,115]⟩,.int .i64 (-15)]
theorem C7 (i:Nat) (h:i<6):kW[2*i]? =some (.string (uname i))∧kW[2*i+1]? =some (.int .i64 (-(3*(i:Int)))):=by
 have:i=0∨i=1∨i=2∨i=3∨i=4∨i=5:=by omega
 rcases this with rfl|rfl|rfl|rfl|rfl|rfl<;>exact ⟨rfl,rfl⟩
theorem M0 (w:World):
 Calls Tryz.prog 173 #[] w fun e w'=>e=.returned (.slice (some ⟨w.heap.size,0,none⟩) 6 6)∧Row w' w.heap.size 170 kW.toArray∧Below w.heap.size w w':=by
 go_enter Tryz.func173,Tryz.ntmps173;go_wp2;go_ret;exact ⟨rfl,Row.new _ _ _,(af _ _).alloc (aa _) _⟩
theorem I1 {a b:ByteArray} (h:¬a=b):¬a.toList=b.toList:=fun e=>h (Go.WideShapes.bytes_inj (by rw [←Lib.toList_data,←Lib.toList_data,e]))
def trimB (t:ByteArray):ByteArray:=⟨(Lib.trimPrefix t.data.toList [32]).toArray⟩
def ju (r:ByteArray) (s:Int):Nat→Int×Bool
 |0=>(s,decide (r=⟨#[]⟩))
 |i+1=>if trimB r=uname i then (-(3*(i:Int)),true) else ju r s i
def QS (text:ByteArray):Bool:=decide (nd text.data.toList<1∨15<nd text.data.toList∨(text.data.toList[0]? =some 48∧1<nd text.data.toList))
def rW (text:ByteArray):Int:=(dv (text.data.toList.take (nd text.data.toList)):Nat)
def kf (text:ByteArray):ByteArray:=text.extract (nd text.data.toList) text.size
def fX (text:ByteArray) (s:Int):Int×Int:=
 if jH s then
  (if QS text then (0,3)
   else if (ju (kf text) s 6).2 then
    (if (kD (rW text) ((ju (kf text) s 6).1-s)).2.1&&(kD (rW text) ((ju (kf text) s 6).1-s)).2.2 then ((kD (rW text) ((ju (kf text) s 6).1-s)).1,0) else (0,2))
   else (0,3))
 else (0,1)
theorem QV (r:ByteArray) (s:Int) (hs1:-15≤s) (hs2:s≤2):∀i,i≤6→-15≤(ju r s i).1∧(ju r s i).1≤2:=by
 intro i
 induction i with
 |zero=>intro _;exact ⟨hs1,hs2⟩
 |succ i ih=>
  intro h;have:=ih (by omega);unfold ju
  split
  ·exact ⟨by simp only;omega,by simp only;omega⟩
  ·exact this
theorem YZ (text:ByteArray) (h:nd text.data.toList≤15):0≤rW text∧rW text≤999999999999999:=by
 have h1:=aak text.data.toList (nd text.data.toList) (xI _) (xH _);have h2:=Nat.pow_le_pow_right (n:=10) (by decide) h
 have e:(10:Nat) ^ 15=1000000000000000:=by decide
 unfold rW;omega
theorem ndB (text:ByteArray):nd text.data.toList≤text.size∧(∀j (h:j<text.size),j<nd text.data.toList→48≤(text[j]'h).toNat∧(text[j]'h).toNat≤57)∧(∀h:nd text.data.toList<text.size,¬(48≤(text[nd text.data.toList]'h).toNat∧(text[nd text.data.toList]'h).toNat≤57)):=by
 have hsz:text.data.toList.length=text.size:=(Lib.size_eq text).symm;refine ⟨hsz▸xH _,fun j h hj=>?_,fun h=>?_⟩
 ·have:=xI text.data.toList j (by omega) hj;rw [Array.getElem_toList] at this;simp only [kq,decide_eq_true_eq] at this;exact this
 ·have:=OQ text.data.toList (by omega);simp only [kq,decide_eq_false_iff_not] at this;rw [Array.getElem_toList] at this;exact this
theorem Fp {w:World} {e:TypeId} {t:ByteArray}:Below w.heap.size w (Lib.bytesWorld w e t):=⟨rfl,rfl,rfl,by rw [Lib.bytesWorld_size];omega,fun k hk=>Lib.bytesWorld_at_old w _ _ k hk⟩
theorem QW (text:ByteArray) (N:Nat) (hN:nd text.data.toList=N) (h1:1≤N) (h2:N≤15) (w:World):
 Calls Tryz.prog 139 #[.string (text.extract 0 N)] w fun e w'=>e=.returned (.tuple #[.int .i64 (rW text),.nilIface])∧Below w.heap.size w w':=by
 have hl:(text.extract 0 N).data.toList=text.data.toList.take N:=Lib.extract_from_zero text N;refine (Tryz.strconv_Atoi (text.extract 0 N) (rW text) (by rw [ByteArray.size_extract];omega) ?_ w).mono ?_
 ·rw [hl];unfold rW;rw [hN];exact JY _ N (fun j h hj=>xI _ j h (by omega)) (by rw [←hN];exact xH _) h1
 ·rintro e w' ⟨rfl,t,rfl⟩;exact ⟨rfl,Fp⟩
theorem M3 (t:ByteArray) (w:World):
 Calls Tryz.prog 174 #[.string t,.string ⟨#[32]⟩] w fun e w'=>e=.returned (.string (trimB t))∧w'=w:=Tryz.strings_TrimPrefix t ⟨#[32]⟩ w
theorem Fq (t:ByteArray):t.toList.isEmpty=decide (t=⟨#[]⟩):=by
 rw [Bool.eq_iff_iff,decide_eq_true_eq,List.isEmpty_iff];constructor
 ·intro h;exact Go.WideShapes.bytes_inj (by rw [←Lib.toList_data,h])
 ·intro h;rw [h,Lib.toList_data]
theorem QX (text:ByteArray) (s:Int) (w:World) (hz:text.size≤1000000) (hg:Gl w):
 Calls Tryz.prog 143 #[.string text,.int .i64 s] w fun e w'=>e=.returned (.tuple #[.int .i64 (fX text s).1,.int .i64 (fX text s).2])∧Below w.heap.size w w':=by
 have V:=hide (fun W:World=>zf s W)
 cases hv:jH s with
 |false=>
  have hS:fX text s=(0,1):=by unfold fX;rw [hv];rfl
  rw [hv] at V;rw [hS];clear hS hv;go_enter Tryz.func143,Tryz.ntmps143;go_wp2_with fail;refine (V.o _).mono ?_;rintro e w1 ⟨rfl,rfl⟩;go_wp2
  go_ret2
  exact ⟨rfl,af _ _⟩
 |true=>
  rw [hv] at V
  have hr:-15≤s∧s≤2:=by simpa [jH] using hv
  obtain ⟨n1,n2,n3⟩:=ndB text;have N2:=hide n2;have N3:=hide n3
  have hN:∃N,nd text.data.toList=N:=⟨_,rfl⟩
  obtain ⟨N,hN⟩:=hN;rw [hN] at n1 N2
  have N3:Hid (∀h:N<text.size,¬(48≤(text[N]'h).toNat∧(text[N]'h).toNat≤57)):=by subst hN;exact N3
  have HN:=hide hN;clear n2 n3 hN;go_enter Tryz.func143,Tryz.ntmps143;go_wp2_with fail;refine (V.o _).mono ?_;rintro e w1 ⟨rfl,rfl⟩;go_wp2
  go_loop [6] (fun v=>∃k:Nat,v=.int .i64 k∧k≤N) (fun v=>N-(intOf v).toNat)
  case atStart=>exact ⟨0,rfl,bj _⟩
  case round=>
   obtain ⟨k,rfl,hk⟩:=hrel;by_cases hlt:k<N
   ·have hks:k<text.size:=by omega
    have hd:=N2.o k hks hlt
    have Ao:(k:Int)<(text.size:Int):=by omega
    have hd1:(48:Int)≤((text[k]'hks).toNat:Int):=by omega
    have hd2:((text[k]'hks).toNat:Int)≤57:=by omega
    go_wp2;go_round
    case rel=>exact ⟨k+1,by go_num,by omega⟩
    case measure=>simp [intOf];omega
   ·obtain rfl:k=N:=Nat.le_antisymm hk (Nat.le_of_not_lt hlt)
    have EX:(¬(k:Int)<(text.size:Int))∨(∃h:k<text.size,(k:Int)<(text.size:Int)∧((text[k]'h).toNat:Int)<48)∨(∃h:k<text.size,(k:Int)<(text.size:Int)∧(48:Int)≤((text[k]'h).toNat:Int)∧(57:Int)<((text[k]'h).toNat:Int)):=by
     by_cases h:k<text.size
     ·have:=N3.o h;by_cases h2:48≤(text[k]'h).toNat
      ·exact .inr (.inr ⟨h,by omega,by omega,by omega⟩)
      ·exact .inr (.inl ⟨h,by omega,by omega⟩)
     ·exact .inl (by omega)
    by_cases a1:k<1
    ·have hb:QS text=true:=decide_eq_true (.inl (by rw [HN.o];exact a1))
     have hS:fX text s=(0,3):=by unfold fX;rw [hv,if_pos rfl,hb,if_pos rfl]
     have HS:=hide hS;clear hS hb hv
     rcases EX with e1|⟨h1,e1,e2⟩|⟨h1,e1,e2,e3⟩
     all_goals (go_wp2;go_ret2;exact ⟨by rw [HS.o];rfl,af _ _⟩)
    by_cases a2:15<k
    ·have hb:QS text=true:=decide_eq_true (.inr (.inl (by rw [HN.o];exact a2)))
     have hS:fX text s=(0,3):=by unfold fX;rw [hv,if_pos rfl,hb,if_pos rfl]
     have HS:=hide hS;clear hS hb hv
     rcases EX with e1|⟨h1,e1,e2⟩|⟨h1,e1,e2,e3⟩
     all_goals (go_wp2;go_ret2;exact ⟨by rw [HS.o];rfl,af _ _⟩)
    have z0:0<text.size:=by omega
    have z0':(0:Int)<(text.size:Int):=by omega
    have hh0:text.data.toList[0]? =some (text[0]'z0):=by
     rw [List.getElem?_eq_getElem (by rw [←Lib.size_eq];exact z0),Array.getElem_toList];rfl
    by_cases a3:text[0]'z0=48∧1<k
    ·have hb:QS text=true:=decide_eq_true (.inr (.inr (by rw [HN.o,hh0,a3.1];exact ⟨rfl,a3.2⟩)))
     have hS:fX text s=(0,3):=by unfold fX;rw [hv,if_pos rfl,hb,if_pos rfl]
     have HS:=hide hS
     have m1:((text[0]'z0).toNat:Int)=48:=by rw [a3.1];rfl
     have a4:(1:Int)<(k:Int):=by omega
     clear hS hb hv hh0
     rcases EX with e1|⟨h1,e1,e2⟩|⟨h1,e1,e2,e3⟩
     all_goals (go_wp2;go_ret2;exact ⟨by rw [HS.o];rfl,af _ _⟩)
    ·have hb:QS text=false:=decide_eq_false (by rw [HN.o,hh0];exact fun h=>h.elim a1 fun h=>h.elim a2 fun h=>a3 ⟨au h.1,h.2⟩)
     have hS:fX text s=(if (ju (kf text) s 6).2 then
      (if (kD (rW text) ((ju (kf text) s 6).1-s)).2.1&&(kD (rW text) ((ju (kf text) s 6).1-s)).2.2 then ((kD (rW text) ((ju (kf text) s 6).1-s)).1,0) else (0,2))
      else (0,3)):=by unfold fX;rw [hv,if_pos rfl,hb,if_neg Bool.false_ne_true]
     have HS:=hide hS
     have hrs:kf text=text.extract k text.size:=by unfold kf;rw [HN.o]
     have HR:=hide hrs;have AT:=hide (fun W:World=>QW text k HN.o (by omega) (by omega) W)
     have m:(¬((text[0]'z0).toNat:Int)=48)∨(((text[0]'z0).toNat:Int)=48∧¬(1:Int)<(k:Int)):=by
      by_cases h:text[0]'z0=48
      ·exact .inr ⟨by rw [h];rfl,by have:¬1<k:=fun h'=>a3 ⟨h,h'⟩;omega⟩
      ·exact .inl (fun e=>h (UInt8.toNat_inj.1 (by have:((48:UInt8).toNat:Int)=48:=rfl;omega)))
     have ks:(k:Int)≤(text.size:Int):=by omega
     clear hS hb hv hh0 hrs a3
     rcases EX with e1|⟨h1,e1,e2⟩|⟨h1,e1,e2,e3⟩
     all_goals rcases m with m1|⟨m1,m2⟩
     all_goals
      go_wp2_with fail;refine (AT.o _).mono ?_;rintro e w2 ⟨rfl,hb2⟩;have H2:=hide hb2;clear hb2;go_wp2_with fail;refine OE (by kernel_rfl) (by kernel_rfl) ?_
      repeat still_step
      refine wpStill_nil ?_;go_wp2_with fail;refine (M0 _).mono ?_;rintro e w3 ⟨rfl,hrow,hb3⟩;have H3:=hide (H2.o.trans (Below.mono (show Below w2.heap.size w2 w3 from ⟨hb3.os,hb3.tape,hb3.output,hb3.size,hb3.block⟩) H2.o.size));have n9:=ae (Row w3 w2.heap.size 170 kW.toArray) hrow
      have hE:(text.extract k text.size).toList.isEmpty=(ju (kf text) s 0).2:=by rw [HR.o];exact Fq _
      rw [hE];clear hrow hb3 hE;go_wp2
      go_loopw [9,10,66] (fun vp vf vi wr=>∃i:Nat,vi=.int .i64 i∧i≤6∧vp=.int .i64 (ju (kf text) s i).1∧vf=.bool (ju (kf text) s i).2∧Row wr w2.heap.size 170 kW.toArray∧Below w1.heap.size w1 wr) (fun _ _ vi _=>6-(intOf vi).toNat)
      case atStart=>exact ⟨0,rfl,by omega,rfl,rfl,n9.o,H3.o⟩
      case round=>
       obtain ⟨i,rfl,hi,rfl,rfl,hr',hb'⟩:=hrel;have Hr:=hide hr';have Hb:=hide hb';by_cases hi6:i<6
       ·obtain ⟨x1,x2⟩:=C7 i hi6
        have y1:wr.cell? ⟨w2.heap.size,2*i,none⟩=some (.string (uname i)):=by rw [hr'.cell];simpa using x1
        have y2:wr.cell? ⟨w2.heap.size,2*i+1,none⟩=some (.int .i64 (-(3*(i:Int)))):=by rw [hr'.cell];simpa using x2
        rw [show 2*i=i*2 by omega] at y1 y2
        have hstep:ju (kf text) s (i+1)=if trimB (text.extract k text.size)=uname i then (-(3*(i:Int)),true) else ju (kf text) s i:=by rw [←HR.o];rfl
        have KH:=hide hstep;have hgl:=hr'.lt
        have adV:(i:Int)<6:=by omega
        clear hr' hb' x1 x2 hstep hi;go_wp2_with fail
        have hW:∃W,wr.alloc (Obj.cells #[Value.string (uname i),Value.int IntKind.i64 (-(3*(i:Int)))] 170)=W:=⟨_,rfl⟩
        obtain ⟨W,hW⟩:=hW;rw [hW];have hu:Row W wr.heap.size 170 #[Value.string (uname i),Value.int IntKind.i64 (-(3*(i:Int)))]:=hW▸Row.new _ _ _;have Um:=ae (Row W w2.heap.size 170 kW.toArray) (hW▸Hr.o.alloc _);have lK:=ae (Below w1.heap.size w1 W) (hW▸Hb.o.alloc Hb.o.size _);have q1:W.cell? ⟨wr.heap.size,0,none⟩=some (.string (uname i)):=hu.cell 0;have q2:W.cell? ⟨wr.heap.size,1,none⟩=some (.int .i64 (-(3*(i:Int)))):=hu.cell 1;have TR:=hide (fun V:World=>M3 (text.extract k text.size) V);clear hW hu y1 y2 hgl;generalize trimB (text.extract k text.size)=T at TR KH;generalize hnm:uname i=nm at q1 KH;by_cases hT:T=nm
        ·have hs2:=KH.o;rw [if_pos hT] at hs2;have ur:=hide hs2;clear hs2;subst hT;go_quiet (exact Calls.quiet_of_same (TR.o _));go_wp2;go_roundw
         case rel=>exact ⟨i+1,by go_num,by omega,by rw [ur.o],by rw [ur.o],Um.o.drewN nq,aX lK.o nq⟩
         case measure=>simp [intOf];omega
        ·have hs2:=KH.o;rw [if_neg hT] at hs2;have ur:=hide hs2;have e9:(T.toList==nm.toList)=false:=aP.2 (I1 hT);clear hs2;go_quiet (exact Calls.quiet_of_same (TR.o _));go_wp2;go_roundw
         case rel=>exact ⟨i+1,by go_num,by omega,by rw [ur.o],by rw [ur.o],Um.o.drewN nq,aX lK.o nq⟩
         case measure=>simp [intOf];omega
       ·obtain rfl:i=6:=by omega
        obtain ⟨b1,b2⟩:=QV (kf text) s hr.1 hr.2 6 (aa _);obtain ⟨b3,b4⟩:=YZ text (by rw [HN.o];omega);generalize ju (kf text) s 6=pf at b1 b2 HS⊢;obtain ⟨p,f⟩:=pf;simp only at b1 b2 HS;clear hr' hb' hi hi6
        cases f with
        |false=>
         rw [if_neg Bool.false_ne_true] at HS;go_wp2
         go_ret2
         exact ⟨by rw [HS.o];rfl,Hb.o⟩
        |true=>
         rw [if_pos rfl] at HS;have SH:=hide (fun W:World=>MZ (rW text) (p-s) W b3 (by omega) (by omega) (by omega));generalize kD (rW text) (p-s)=r at SH HS;obtain ⟨o,x,ok⟩:=r;simp only at HS;have qw:IntKind.i64.wrap (p-s)=p-s:=bI _ (by omega);generalize rW text=num at*;go_wp2_with fail;refine (SH.o _).mono ?_;rintro e w5 ⟨rfl,eG⟩;have H5:=hide (Hb.o.trans (eG.mono Hb.o.size));clear eG
         cases x<;>cases ok
         all_goals (go_wp2;go_ret2;exact ⟨by rw [HS.o];rfl,H5.o⟩)
end Go.Proofs.YtddoehnkgcbboaaGreatDoor
namespace Go.Proofs.YtddoehnkgcbboaaGreatDoor
open Go.RowKit Go.Shelf
def fq (p:PS):List UInt8→Int×Int:=fun t=>fX (ag t) p.sc
theorem I4 (L:List Lx) (en:Int) (rd:List UInt8→Int×Int) (k:Nat) (h:cW L k 2=true):dE L en rd k=(qO L en k 2).bind fun x k'=>if (rd x.text).2=0 then .ok (rd x.text).1 k' else .err (x.az:Int) (rd x.text).2:=by
 unfold dE;rw [if_pos h,jW h];have hk:=fp h;unfold kx;rw [List.getElem?_eq_getElem hk,CE hk];rfl
theorem Fs (p:PS) (k:Nat) (w:World) (h:bQ p w k):
 Calls Tryz.prog 102 #[.pointer (some ⟨p.b,0,none⟩)] w (cQ p w Qk (dE p.L p.en (fq p) k)):=by
 have KD:=hide (yG p k 2 w h);have H:=hide h
 cases hR:cW p.L k 2 with
 |false=>
  rw [hR] at KD;have NM:=hide (fun (W:World) (h:bQ p W k)=>rN p k 1099511627776 W h)
  have hT:dE p.L p.en (fq p) k=gN p.L p.en k 1099511627776:=by unfold dE;rw [if_neg (by rw [hR];decide)]
  rw [hT];clear hT hR h;generalize gN p.L p.en k 1099511627776=R at*
  cases R with
  |err a er=>
   go_enter Tryz.func102,Tryz.ntmps102;go_wp2_with fail;refine KD.o.mono ?_;rintro e w1 ⟨rfl,hb1⟩;have NM2:=hide (NM.o w1 (H.o.below hb1));have dX:=hide hb1;clear hb1;go_wp2_with fail;refine NM2.o.mono ?_;rintro e w2 ⟨rfl,hk⟩;go_wp2;exact ⟨rfl,rfl,(ah.of_below dX.o (aa _)).trans hk⟩
  |ok n k'=>
   go_enter Tryz.func102,Tryz.ntmps102;go_wp2_with fail;refine KD.o.mono ?_;rintro e w1 ⟨rfl,hb1⟩;have NM2:=hide (NM.o w1 (H.o.below hb1));have dX:=hide hb1;clear hb1;go_wp2_with fail;refine NM2.o.mono ?_;rintro e w2 ⟨⟨v,rfl,rfl⟩,h2,hk⟩;go_wp2;go_ret;exact ⟨⟨_,rfl,rfl⟩,h2,(ah.of_below dX.o (aa _)).trans hk⟩
 |true=>
  rw [hR] at KD;rw [I4 _ _ _ _ hR,jW hR];have TK:=hide (fun (W:World) (h:bQ p W k)=>pC p k 2 W h);rw [jW hR] at TK;have hl:=(h.good _ (cI (fp hR))).len;generalize p.L[k]'_=x at*;have RD:=hide (fun (W:World) (hg:Gl W)=>show Calls Tryz.prog 143 #[.string (ag x.text),.int .i64 p.sc] W fun e w'=>e=.returned (.tuple #[.int .i64 (fq p x.text).1,.int .i64 (fq p x.text).2])∧Below W.heap.size W w' from QX (ag x.text) p.sc W (by rw [aO];omega) hg);show Calls _ _ _ _ (cQ p w Qk (if (fq p x.text).2=0 then .ok (fq p x.text).1 (k+1) else .err (x.az:Int) (fq p x.text).2));generalize fq p x.text=rv at*;obtain ⟨rn,re⟩:=rv;simp only at RD⊢;clear hR h hl;by_cases hre:re=0
  ·rw [if_pos hre]
   have e1:(re !=0)=false:=by rw [hre];rfl
   go_enter Tryz.func102,Tryz.ntmps102;go_wp2_with fail;refine KD.o.mono ?_;rintro e w1 ⟨rfl,hb1⟩;have TK2:=hide (TK.o w1 (H.o.below hb1));have dX:=hide hb1;clear hb1;go_wp2_with fail;refine TK2.o.mono ?_;rintro e w2 ⟨⟨v,rfl,rfl⟩,h2,hk⟩;have HK:=hide ((ah.of_below (C:=fun c=>c=p.b) dX.o (aa _)).trans hk);have hr3:=Row.new w2 66 #[.int .i64 x.kind,.string (ag x.text),.int .i64 (x.az:Int)];have hb3:Below w2.heap.size w2 (w2.alloc (.cells #[.int .i64 x.kind,.string (ag x.text),.int .i64 (x.az:Int)] 66)):=(af _ w2).alloc (aa _) _;generalize hW3:w2.alloc (.cells #[.int .i64 x.kind,.string (ag x.text),.int .i64 (x.az:Int)] 66)=W3 at hr3 hb3;have h3:=h2.below hb3;have Ov:=hide (HK.o.trans (ah.of_below hb3 (aa _)));have g1:W3.cell? ⟨w2.heap.size,1,none⟩=some (.string (ag x.text)):=hr3.cell 1;have g2:W3.cell? ⟨w2.heap.size,2,none⟩=some (.int .i64 (x.az:Int)):=hr3.cell 2;obtain ⟨_,_,_,c3,_⟩:=h3.cells;have RD3:=hide (RD.o W3.drew (h3.gl.below ((af _ W3).drew)));have H3:=hide h3;have g1z:w2.heap.size<W3.heap.size:=hr3.lt;clear h2 hk h3 hb3 hr3;go_wp2_with fail
   go_region_held3 (fun w'=>w'.cell? ⟨w2.heap.size,1,none⟩=some (.string (ag x.text))∧w'.cell? ⟨w2.heap.size,2,none⟩=some (.int .i64 (x.az:Int))∧w'.cell? ⟨p.b,3,none⟩=some (.int .i64 p.sc)) (go_keep) ((go_at_call 143;refine RD3.o.mono ?_;rintro e w5 ⟨rfl,mL⟩;have eG:Below W3.heap.size W3 w5:=⟨mL.os,mL.tape,mL.output,mL.size,mL.block⟩;clear mL;have hs0:w5.cell? ⟨w2.heap.size,1,none⟩=some (.string (ag x.text)):=(eG.cell (p:=⟨w2.heap.size,1,none⟩) g1z).trans g1;have hs1:w5.cell? ⟨w2.heap.size,2,none⟩=some (.int .i64 (x.az:Int)):=(eG.cell (p:=⟨w2.heap.size,2,none⟩) g1z).trans g2;have hs2:w5.cell? ⟨p.b,3,none⟩=some (.int .i64 p.sc):=(eG.cell (p:=⟨p.b,3,none⟩) (World.block_lt_of_cell? W3 _ c3)).trans c3;have mI:=hide eG;clear eG))
   go_wp2;go_ret;exact ⟨⟨_,rfl,rfl⟩,H3.o.below mI.o,Ov.o.trans (ah.of_below mI.o (aa _))⟩
  ·rw [if_neg hre]
   have e1:(re !=0)=true:=by rw [bne,aP.2 hre];rfl
   go_enter Tryz.func102,Tryz.ntmps102;go_wp2_with fail;refine KD.o.mono ?_;rintro e w1 ⟨rfl,hb1⟩;have TK2:=hide (TK.o w1 (H.o.below hb1));have dX:=hide hb1;clear hb1;go_wp2_with fail;refine TK2.o.mono ?_;rintro e w2 ⟨⟨v,rfl,rfl⟩,h2,hk⟩;have HK:=hide ((ah.of_below (C:=fun c=>c=p.b) dX.o (aa _)).trans hk);have hr3:=Row.new w2 66 #[.int .i64 x.kind,.string (ag x.text),.int .i64 (x.az:Int)];have hb3:Below w2.heap.size w2 (w2.alloc (.cells #[.int .i64 x.kind,.string (ag x.text),.int .i64 (x.az:Int)] 66)):=(af _ w2).alloc (aa _) _;generalize hW3:w2.alloc (.cells #[.int .i64 x.kind,.string (ag x.text),.int .i64 (x.az:Int)] 66)=W3 at hr3 hb3;have h3:=h2.below hb3;have Ov:=hide (HK.o.trans (ah.of_below hb3 (aa _)));have g1:W3.cell? ⟨w2.heap.size,1,none⟩=some (.string (ag x.text)):=hr3.cell 1;have g2:W3.cell? ⟨w2.heap.size,2,none⟩=some (.int .i64 (x.az:Int)):=hr3.cell 2;obtain ⟨_,_,_,c3,_⟩:=h3.cells;have RD3:=hide (RD.o W3.drew (h3.gl.below ((af _ W3).drew)));have H3:=hide h3;have g1z:w2.heap.size<W3.heap.size:=hr3.lt;clear h2 hk h3 hb3 hr3;go_wp2_with fail
   go_region_held3 (fun w'=>w'.cell? ⟨w2.heap.size,1,none⟩=some (.string (ag x.text))∧w'.cell? ⟨w2.heap.size,2,none⟩=some (.int .i64 (x.az:Int))∧w'.cell? ⟨p.b,3,none⟩=some (.int .i64 p.sc)) (go_keep) ((go_at_call 143;refine RD3.o.mono ?_;rintro e w5 ⟨rfl,mL⟩;have eG:Below W3.heap.size W3 w5:=⟨mL.os,mL.tape,mL.output,mL.size,mL.block⟩;clear mL;have hs0:w5.cell? ⟨w2.heap.size,1,none⟩=some (.string (ag x.text)):=(eG.cell (p:=⟨w2.heap.size,1,none⟩) g1z).trans g1;have hs1:w5.cell? ⟨w2.heap.size,2,none⟩=some (.int .i64 (x.az:Int)):=(eG.cell (p:=⟨w2.heap.size,2,none⟩) g1z).trans g2;have hs2:w5.cell? ⟨p.b,3,none⟩=some (.int .i64 p.sc):=(eG.cell (p:=⟨p.b,3,none⟩) (World.block_lt_of_cell? W3 _ c3)).trans c3;have mI:=hide eG;clear eG))
   go_wp2;exact ⟨rfl,rfl,Ov.o.trans (ah.of_below mI.o (aa _))⟩
end Go.Proofs.YtddoehnkgcbboaaGreatDoor
namespace Go.Proofs.YtddoehnkgcbboaaGreatDoor
open Go.RowKit Go.Shelf Go.Maps
theorem dm.one {C:Nat→Prop} {W W6:World} {base:Nat} {x:Nd} {cs:List Value} (hx:cK (fun b=>C b∨b=W.heap.size) W6 x cs) (hW:W6=W.alloc (.cells [cs].flatten.toArray 25)) (hb:base≤W.heap.size) (hC:¬C W.heap.size):
 dm C W6 base W.heap.size 1 1 [x] [cs]:=by
 have hl:=hx.len
 have h9:[cs].flatten.length=9:=by rw [List.flatten_singleton];exact hl
 have hrow:W6.heap[W.heap.size]? =some (.cells [cs].flatten.toArray 25 (0,0)):=by rw [hW];exact heap_alloc_new W _
 refine ⟨⟨h9,.inr ⟨W.heap.size,1,_,rfl,hb,hrow,aa _,by decide,?_,?_⟩⟩,rfl,rfl,fun i hi hi'=>?_,hC⟩
 ·rw [List.size_toArray,h9]
 ·rw [List.toList_toArray];exact List.take_of_length_le (by rw [h9];decide)
 ·match i,hi,hi' with
  |0,_,_=>exact hx
structure n_ (p:PS) (w:World) (g:Nat) (W:World) (kd a0:Int) (gk n c:Nat) (ks:List Nd) (bH:List (List Value)) (k:Nat):Prop where
 at_:bQ p W k
 keeps:ah (fun c=>c=p.b) w W
 res:Row W w.heap.size 25 cG
 row:Row W g 25 (aB kd a0 [] [] 0 0 0 0 (.slice (some ⟨gk,0,none⟩) n c)).toArray
 kids:dm (fun b=>b≤w.heap.size∨b=g) W (w.heap.size+1) gk n c ks bH
theorem n_.keep {p:PS} {w W W':World} {g gk n c k k':Nat} {kd a0:Int} {ks:List Nd} {bH:List (List Value)} (h:n_ p w g W kd a0 gk n c ks bH k) (hb:p.b<w.heap.size) (hg:w.heap.size<g) (ha:bQ p W' k') (hk:ah (fun c=>c=p.b) W W'):n_ p w g W' kd a0 gk n c ks bH k':=
 ⟨ha,h.keeps.trans hk,h.res.keep hk (by show¬w.heap.size=p.b;omega),h.row.keep hk (by show¬g=p.b;omega),h.kids.keep hk (fun b hb'=>.inl (by show b≤_;have:b=p.b:=hb';omega))⟩
theorem n_.lf {p:PS} {w W:World} {g gk n c k:Nat} {kd a0:Int} {ks:List Nd} {bH:List (List Value)} (h:n_ p w g W kd a0 gk n c ks bH k):cU p w g W (.mk kd a0 [] [] 0 0 0 0 ks) (aB kd a0 [] [] 0 0 0 0 (.slice (some ⟨gk,0,none⟩) ks.length c)) k:=by
 have e:=h.kids.num;have h1:=h.row;have h2:=h.kids.node kd a0 0 0 0 0 [] [];rw [←e] at h1 h2;exact ⟨h.at_,h.keeps,h.res,h1,h2⟩
theorem n_.new {p:PS} {w w3 W4 W5:World} {k B:Nat} {kd a0:Int} {x:Nd} {cs:List Value} (h3:bQ p w3 k) (hk:ah (fun c=>c=p.b) w w3) (hr:Row w3 w.heap.size 25 cG) (hnd:cK (fun b=>b<B) w3 x cs) (hB:w.heap.size<B)
 (lJ:W4=w3.alloc (.cells [cs].flatten.toArray 25)) (tG:W5=W4.alloc (.cells (aB kd a0 [] [] 0 0 0 0 (.slice (some ⟨w3.heap.size,0,none⟩) 1 1)).toArray 25)):n_ p w (w3.heap.size+1) W5 kd a0 w3.heap.size 1 1 [x] [cs] k:=by
 have b4:Below w3.heap.size w3 W4:=by rw [lJ];exact (af _ _).alloc (aa _) _
 have s4:W4.heap.size=w3.heap.size+1:=by rw [lJ,aF]
 have b5:Below W4.heap.size W4 W5:=by rw [tG];exact (af _ _).alloc (aa _) _
 have b35:Below w3.heap.size w3 W5:=b4.trans (b5.mono (by omega));have hz:w.heap.size<w3.heap.size:=hr.lt
 have r5:Row W5 (w3.heap.size+1) 25 (aB kd a0 [] [] 0 0 0 0 (.slice (some ⟨w3.heap.size,0,none⟩) 1 1)).toArray:=by
  rw [tG,←s4];exact Row.new _ _ _
 have hx4:cK (fun b=>b≤w.heap.size∨b=w3.heap.size+1∨b=w3.heap.size) W4 x cs:=(hnd.ge b4).mono (fun b hb=>by
  rcases hb with hb|rfl|rfl
  ·exact .inl (by omega)
  ·exact .inr (Nat.le_succ _)
  ·exact .inr (aa _))
 have hk4:=dm.one (C:=fun b=>b≤w.heap.size∨b=w3.heap.size+1) (base:=w.heap.size+1) (hx4.mono (fun b hb=>by
  rcases hb with (hb|hb)|hb
  ·exact .inl hb
  ·exact .inr (.inl hb)
  ·exact .inr (.inr hb))) lJ hz (by rintro (h|h)<;>omega)
 exact ⟨h3.below b35,hk.trans (ah.of_below b35 (aa _)),hr.below b35 hz,r5,hk4.keep (D:=fun _=>False) (ah.of_below b5 (aa _)) (fun b h=>h.elim)⟩
theorem n_.app {p:PS} {w Y W':World} {g gk n c k k0 gk' c':Nat} {kd a0:Int} {ks ks':List Nd} {bH pJ:List (List Value)} (H:bQ p w k0) (hg:w.heap.size<g) (h:n_ p w g Y kd a0 gk n c ks bH k) (hkk:dm (fun b=>b≤w.heap.size∨b=g) W' (w.heap.size+1) gk' (n+1) c' ks' pJ) (hgr:Y.grownBy W' (some gk)):
 n_ p w g (W'.setCell ⟨g,8,none⟩ (.slice (some ⟨gk',0,none⟩) (n+1) c')) kd a0 gk' (n+1) c' ks' pJ k:=by
 have hb0:=h.kids.cur.1;have hne:g≠gk:=fun e=>h.kids.not (.inr e.symm)
 have hB:Below (w.heap.size+1) Y W':=⟨hgr.os,hgr.tape,hgr.output,hgr.size,fun b hb=>hgr.block b (cJ hb (by have:=h.res.lt;omega)) (by intro e;cases e;omega)⟩
 have QY:Below (w.heap.size+1) W' (W'.setCell ⟨g,8,none⟩ (.slice (some ⟨gk',0,none⟩) (n+1) c')):=(af _ W').setCell (p:=⟨g,8,none⟩) hg _;have I5:=hB.trans QY;have hk2:ah (fun b=>b≤w.heap.size∨b=g) W' (W'.setCell ⟨g,8,none⟩ (.slice (some ⟨gk',0,none⟩) (n+1) c')):=(ah.refl _ W').set (.inl (.inr rfl)) 8 _;refine ⟨H.above h.at_ ⟨I5.os,I5.tape,I5.output,I5.size,fun b hb=>I5.block b (Nat.lt_succ_of_lt hb)⟩,h.keeps.over ⟨I5.os,I5.tape,I5.output,I5.size,fun b hb=>I5.block b (Nat.lt_succ_of_lt hb)⟩,h.res.below I5 (Nat.lt_succ_self _),?_,hkk.keep hk2 (fun b hb=>hb)⟩;exact (h.row.grown hgr (fun e=>hne (au e))).bU 8 _
end Go.Proofs.YtddoehnkgcbboaaGreatDoor
