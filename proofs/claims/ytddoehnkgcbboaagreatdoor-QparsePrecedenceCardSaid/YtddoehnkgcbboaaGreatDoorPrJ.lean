/- Packed by program: a part of the proof; the last file says what is proved. -/
import Derived.Test.YtddoehnkgcbboaaGreatDoorPrI
import Derived.Lib.QuietBelow
import Derived.BigQuiet
set_option maxHeartbeats 16000000
set_option maxRecDepth 100000
set_option linter.unusedVariables false
set_option linter.unusedSimpArgs false
namespace Go.Proofs.YtddoehnkgcbboaaGreatDoor
open Go.RowKit Go.Shelf
def bj (k:Int) (t:List UInt8):List UInt8:=
 if k=3 then Lib.decDigits t.length++39::98::t else if k=4∧t=[48] then [48,46,48] else if k=5 then oI t else t
def kB (R:List UInt8):Prop:=R=[]∨∃r,R=32::r∧r.head? ≠some 46
def xe (l:List UInt8):Prop:=∃c r,l=c::r∧Di c=false∧c≠35∧c≠46
def jO (k:Int) (t:List UInt8):Prop:=
 xe (bj k t)∧∀R,kB R→∃n,aV (bj k t++R)=⟨k,t,n,0⟩∧(n=(bj k t).length∨n=(bj k t).length+1∧R≠[])
theorem kB.none {R:List UInt8} (h:kB R) {p:UInt8→Bool} (hp:p 32=false):aQ p R=0:=by
 rcases h with rfl|⟨r,rfl,_⟩
 ·rfl
 ·exact iw hp
theorem fA {p:UInt8→Bool}:∀(T X:List UInt8),(∀c∈T,p c=true)→aQ p X=0→aQ p (T++X)=T.length
 |[],X,_,h=>h
 |c::T,X,h,hx=>by
  show aQ p (c::(T++X))=T.length+1
  rw [eu (h c List.mem_cons_self),fA T X (fun d hd=>h d (List.mem_cons_of_mem _ hd)) hx]
inductive Bi:List UInt8→Bool→Prop where
 |plain {c:UInt8} {t:List UInt8} {b:Bool} (h:sF c=true) (ht:∀d∈c::t,kW d=true):Bi (c::t) b
 |mid {t:List UInt8} (ht:∀d∈t,qc d=true) (h:t≠[]):Bi (92::(t++[32])) true
 |last {t:List UInt8} (ht:∀d∈t,qc d=true) (h:t≠[]):Bi (92::t) false
theorem Bj {l T:List UInt8} {n:Nat} (h:fk l=some (T,n)) (b:Bool) (hb:b=true↔(l.drop n).head? =some 46):Bi T b∧T.length≤n+1:=by
 cases l with
 |nil=>cases h
 |cons c r=>
  rw [fk] at h
  by_cases hf:sF c=true
  ·rw [if_pos hf] at h
   cases h
   have h1:aQ kW (c::r)=aQ kW r+1:=eu (by unfold kW;rw [hf];rfl)
   have h2:=kA (p:=kW) (c::r)
   rw [h1,List.take_succ_cons] at h2
   refine ⟨?_,by rw [List.length_take];omega⟩
   rw [h1,List.take_succ_cons]
   exact .plain hf h2
  ·rw [if_neg hf] at h
   by_cases G9:c=92
   ·subst G9
    rw [if_pos rfl] at h
    by_cases h0:aQ qc r=0
    ·rw [if_pos h0] at h;cases h
    ·rw [if_neg h0] at h
     have h2:=kA (p:=qc) r
     have h3:=dz qc r
     have hne:r.take (aQ qc r)≠[]:=fun e=>by
      have:=congrArg List.length e
      rw [List.length_take,List.length_nil] at this;omega
     split at h
     ·rename_i he
      cases h
      have:b=false:=by
       cases b with
       |false=>rfl
       |true=>
        have:=hb.1 rfl
        rw [List.drop_eq_nil_of_le (by show r.length+1≤r.length+1;omega)] at this;cases this
      subst this
      have hl:r.length≤aQ qc r:=by
       have:=congrArg List.length he
       rw [List.length_drop,List.length_nil] at this;omega
      rw [List.take_of_length_le hl] at h2 hne
      exact ⟨.last h2 hne,by show r.length+1≤r.length+1+1;omega⟩
     ·rename_i d r2 he
      split at h
      ·cases h
       have Vg:(92::r).drop (aQ qc r+2)=r2:=by
        show r.drop (aQ qc r+1)=r2
        rw [←List.drop_drop,he];rfl
       rw [Vg] at hb
       by_cases sJ:r2.head? =some 46
       ·rw [if_pos sJ]
        have:b=true:=hb.2 sJ
        subst this
        refine ⟨.mid h2 hne,?_⟩
        rw [List.length_append,List.length_cons,List.length_take]
        show _+1+1≤aQ qc r+2+1;omega
       ·rw [if_neg sJ,List.append_nil]
        have:b=false:=by
         cases b with
         |false=>rfl
         |true=>exact absurd (hb.1 rfl) sJ
        subst this
        refine ⟨.last h2 hne,?_⟩
        rw [List.length_cons,List.length_take]
        show _+1≤aQ qc r+2+1;omega
      ·cases h
   ·rw [if_neg G9] at h;cases h
theorem LB {T:List UInt8} (h:Bi T true) (X:List UInt8):fk (T++46::X)=some (T,T.length):=by
 generalize hb:true=b at h
 cases h with
 |plain hf ht=>
  rename_i c t
  have hs:=fA (p:=kW) (c::t) (46::X) ht (iw (by decide))
  show fk (c::(t++46::X))=_
  rw [fk,if_pos hf]
  show some (((c::t)++46::X).take (aQ kW ((c::t)++46::X)),aQ kW ((c::t)++46::X))=_
  rw [hs,List.take_left]
 |mid ht hne=>
  rename_i t
  have hs:=fA (p:=qc) t (32::46::X) ht (iw (by decide))
  have h0:t.length≠0:=fun e=>hne (List.eq_nil_of_length_eq_zero e)
  have e:(92::(t++[32]))++46::X=92::(t++32::46::X):=by simp
  rw [e,fk,if_neg (by decide),if_pos rfl,hs,if_neg h0,List.drop_left,List.take_left]
  show (if Di 32=true then some ((92::t)++(if (46::X).head? =some 46 then [32] else []),t.length+2) else none)=_
  rw [if_pos (by decide),List.head?_cons,if_pos rfl]
  simp
 |last ht hne=>cases hb
theorem IC {T:List UInt8} (h:Bi T false) {R:List UInt8} (hR:kB R):∃n,fk (T++R)=some (T,n)∧(n=T.length∨n=T.length+1∧R≠[])∧((T++R).drop n).head? ≠some 46:=by
 generalize hb:false=b at h
 cases h with
 |plain hf ht=>
  rename_i c t
  have hs:=fA (p:=kW) (c::t) R ht (hR.none (by decide))
  refine ⟨(c::t).length,?_,.inl rfl,?_⟩
  ·show fk (c::(t++R))=_
   rw [fk,if_pos hf]
   show some (((c::t)++R).take (aQ kW ((c::t)++R)),aQ kW ((c::t)++R))=_
   rw [hs,List.take_left]
  ·rw [List.drop_left]
   rcases hR with rfl|⟨r,rfl,_⟩
   ·exact fun e=>by cases e
   ·exact fun e=>by cases e
 |mid ht hne=>cases hb
 |last ht hne=>
  rename_i t
  have hs:=fA (p:=qc) t R ht (hR.none (by decide))
  have h0:t.length≠0:=fun e=>hne (List.eq_nil_of_length_eq_zero e)
  rcases hR with rfl|⟨r,rfl,hr⟩
  ·refine ⟨(92::t).length,?_,.inl rfl,?_⟩
   ·show fk (92::(t++[]))=_
    rw [fk,if_neg (by decide),if_pos rfl,hs,if_neg h0,List.append_nil,List.drop_length]
    rfl
   ·rw [List.append_nil,List.drop_length];exact fun e=>by cases e
  ·refine ⟨(92::t).length+1,?_,.inr ⟨rfl,fun e=>by cases e⟩,?_⟩
   ·show fk (92::(t++32::r))=_
    rw [fk,if_neg (by decide),if_pos rfl,hs,if_neg h0,List.drop_left,List.take_left]
    show (if Di 32=true then some ((92::t)++(if r.head? =some 46 then [32] else []),t.length+2) else none)=_
    rw [if_pos (by decide),if_neg hr,List.append_nil]
    rfl
   ·have:((92::t)++32::r).drop ((92::t).length+1)=r:=by
     rw [←List.drop_drop,List.drop_left];rfl
    rw [this];exact hr
theorem Bi.head {T:List UInt8} {b:Bool} (h:Bi T b):∃c r,T=c::r∧(sF c=true∨c=92):=by
 cases h with
 |plain hf ht=>exact ⟨_,_,rfl,.inl hf⟩
 |mid ht hne=>exact ⟨_,_,rfl,.inr rfl⟩
 |last ht hne=>exact ⟨_,_,rfl,.inr rfl⟩
theorem tX:∀(k:Nat) (l:List UInt8) (F:List UInt8) (n:Nat),l.length≤k→gz l=some (F,n)→
 F.length≤2*n∧(∃c r,F=c::r∧(sF c=true∨c=92))∧∀R,kB R→∃m,gz (F++R)=some (F,m)∧(m=F.length∨m=F.length+1∧R≠[])
 |0,l,F,n,hk,h=>by
  obtain rfl:=List.eq_nil_of_length_eq_zero (Nat.le_zero.1 hk)
  cases h
 |k+1,l,F,n,hk,h=>by
  rw [eE] at h
  obtain ⟨⟨T,j⟩,hs,h⟩:=Option.bind_eq_some_iff.1 h
  obtain ⟨hj1,U9⟩:=oT hs
  simp only at hj1 U9 h
  by_cases sJ:(l.drop j).head? =some 46
  ·rw [if_pos sJ] at h
   obtain ⟨⟨F2,n2⟩,hp,h⟩:=Option.map_eq_some_iff.1 h
   cases h
   obtain ⟨hT,Vb⟩:=Bj hs true ⟨fun _=>sJ,fun _=>rfl⟩
   obtain ⟨hlen,_,hR⟩:=tX k (l.drop (j+1)) F2 n2 (by rw [List.length_drop];omega) hp
   refine ⟨by show (T++46::F2).length≤2*(j+1+n2);rw [List.length_append,List.length_cons];omega,?_,fun R hr=>?_⟩
   ·obtain ⟨c,r,rfl,hc⟩:=hT.head
    exact ⟨c,r++46::F2,rfl,hc⟩
   ·obtain ⟨m,hm,rq⟩:=hR R hr
    refine ⟨T.length+1+m,?_,?_⟩
    ·show gz ((T++46::F2)++R)=_
     have e:(T++46::F2)++R=T++46::(F2++R):=by simp
     rw [e,eE,LB hT]
     simp only [Option.bind_some]
     have hd:(T++46::(F2++R)).drop (T.length+1)=F2++R:=by rw [←List.drop_drop,List.drop_left];rfl
     rw [List.drop_left,List.head?_cons,if_pos rfl,hd,hm];rfl
    ·show _=(T++46::F2).length∨_=(T++46::F2).length+1∧_
     rw [List.length_append,List.length_cons]
     rcases rq with rq|⟨rq,hne⟩
     ·exact .inl (by omega)
     ·exact .inr ⟨by omega,hne⟩
  ·rw [if_neg sJ] at h
   cases h
   obtain ⟨hT,Vb⟩:=Bj hs false ⟨(fun e=>absurd e (by decide)),(fun e=>absurd e sJ)⟩
   refine ⟨by omega,hT.head,fun R hr=>?_⟩
   obtain ⟨m,hm,rq,Wm⟩:=IC hT hr
   refine ⟨m,?_,rq⟩
   rw [eE,hm]
   simp only [Option.bind_some]
   rw [if_neg Wm]
theorem og (t:List UInt8):bj 0 t=t:=by unfold bj;rw [if_neg (by decide),if_neg (by rintro ⟨h,_⟩;revert h;decide),if_neg (by decide)]
theorem Bk (l:List UInt8):fQ l=QF (gz l):=rfl
theorem O5:∀c:UInt8,(sF c=true∨c=92)→Di c=false∧c≠35∧c≠46:=fun c=>gH (p:=fun c=>(sF c=true∨c=92)→Di c=false∧c≠35∧c≠46) (by decide+kernel) c
theorem xf {l:List UInt8} (h:(fQ l).err=0):(fQ l).kind=0∧jO 0 (fQ l).text∧(bj 0 (fQ l).text).length+1≤40*(fQ l).size:=by
 rw [Bk] at h⊢
 cases hp:gz l with
 |none=>rw [hp] at h;exact absurd h (by decide)
 |some p=>
  obtain ⟨F,n⟩:=p
  obtain ⟨h1,⟨c,r,hF,hc⟩,h3⟩:=tX l.length l F n (Nat.le_refl _) hp
  have yi:1≤n:=by
   have:0<F.length:=by rw [hF];simp
   omega
  obtain ⟨g1,g2,g3⟩:=O5 c hc
  refine ⟨rfl,⟨?_,fun R hR=>?_⟩,?_⟩
  ·show xe (bj 0 F)
   rw [og];exact ⟨c,r,hF,g1,g2,g3⟩
  ·show ∃n,aV (bj 0 F++R)=⟨0,F,n,0⟩∧_
   rw [og]
   obtain ⟨m,hm,rq⟩:=h3 R hR
   refine ⟨m,?_,rq⟩
   have e:F++R=c::(r++R):=by rw [hF];rfl
   rw [e,gL,if_pos hc,←e,Bk,hm];rfl
  ·show (bj 0 F).length+1≤40*n
   rw [og];omega
theorem lJ {p:UInt8→Bool}:∀l:List UInt8,(l.dropWhile p).dropWhile p=l.dropWhile p
 |[]=>rfl
 |c::t=>by
  rw [List.dropWhile_cons]
  cases h:p c with
  |true=>rw [if_pos rfl];exact lJ t
  |false=>rw [if_neg (by decide),List.dropWhile_cons,h,if_neg (by decide)]
theorem yO (l:List UInt8):bI (bI l)=bI l:=by
 unfold bI
 by_cases h:l.dropWhile (·==48)=[]
 ·rw [if_pos h];decide
 ·rw [if_neg h,lJ,if_neg h]
theorem tY {l:List UInt8} (h:l≠[]):∀c∈bI l,c=48∨c∈l:=by
 intro c hc
 unfold bI at hc
 by_cases h:l.dropWhile (·==48)=[]
 ·rw [if_pos h] at hc;exact .inl (by simpa using hc)
 ·rw [if_neg h] at hc;exact .inr ((List.dropWhile_suffix _).subset hc)
theorem xg (l:List UInt8):bI l≠[]:=by
 unfold bI
 by_cases h:l.dropWhile (·==48)=[]
 ·rw [if_pos h];decide
 ·rw [if_neg h];exact h
theorem yP:∀c:UInt8,aZ c=true→Di c=false∧c≠35∧c≠46∧sF c=false∧c≠92:=fun c=>gH (p:=fun c=>aZ c=true→Di c=false∧c≠35∧c≠46∧sF c=false∧c≠92) (by decide+kernel) c
theorem pD {c:UInt8} {r:List UInt8} (h:aZ c=true):aV (c::r)=dE (c::r):=by
 obtain ⟨_,_,_,h1,h2⟩:=yP c h
 rw [gL,if_neg (by rintro (h3|h3);rw [h1] at h3;cases h3;exact h2 h3),if_pos h]
def yQ (X:List UInt8):Prop:=X=[]∨∃d x,X=d::x∧aZ d=false∧d≠39∧d≠46∧aU d≠101
theorem yQ.of {U R:List UInt8} (hU:U=[]∨U∈cq) (hR:kB R):yQ (U++R):=by
 rcases hU with rfl|hU
 ·rcases hR with rfl|⟨r,rfl,_⟩
  ·exact .inl rfl
  ·exact .inr ⟨32,r,rfl,by decide,by decide,by decide,by decide⟩
 ·right
  simp only [cq,List.mem_cons,List.not_mem_nil,or_false] at hU
  rcases hU with rfl|rfl|rfl|rfl|rfl|rfl<;>exact ⟨_,_,rfl,by decide,by decide,by decide,by decide⟩
theorem yQ.aQ {X:List UInt8} (h:yQ X):aQ aZ X=0:=by
 rcases h with rfl|⟨d,x,rfl,h,_⟩
 ·rfl
 ·exact iw h
theorem yQ.get {S X:List UInt8} (h:yQ X):(S++X).getD S.length 0≠39:=by
 rw [List.getD_eq_getElem?_getD,List.getElem?_append_right (Nat.le_refl _),Nat.sub_self]
 rcases h with rfl|⟨d,x,rfl,_,h,_⟩
 ·decide
 ·exact h
theorem yQ.exp {S X:List UInt8} (h:yQ X):fC (S++X) (jB (S++X) S.length)=S.length:=by
 rcases h with rfl|⟨d,x,rfl,_,_,h1,h2⟩
 ·rw [List.append_nil,A7 (by omega),oP (Nat.le_refl _)]
 ·have hlt:S.length<(S++d::x).length:=by rw [List.length_append,List.length_cons];omega
  have hd:(S++d::x)[S.length]'hlt=d:=by rw [List.getElem_append_right (Nat.le_refl _)];simp
  rw [yJ hlt (by rw [hd];exact h1),sG hlt (by rw [hd];exact h2)]
theorem O6 {R:List UInt8} (hR:kB R):aQ wY R=0:=hR.none (by decide)
theorem LC {S U R:List UInt8} (hS:∀c∈S,aZ c=true) (hne:S≠[]) (hst:bI S=S) (Sy:S.length≤15) (hU:U=[]∨U∈cq) (hR:kB R):
 aV ((S++U)++R)=⟨if U=[] then 1 else 2,S++U,(S++U).length,0⟩:=by
 have hE:=yQ.of hU hR
 have hn:=fA S (U++R) hS hE.aQ
 have h0:S.length≠0:=fun e=>hne (List.eq_nil_of_length_eq_zero e)
 have hUt:∀c∈U,wY c=true:=by
  rcases hU with rfl|hU
  ·intro c hc;cases hc
  ·exact Gf U hU
 have hsp:=fA U R hUt (O6 hR)
 have hdr:(S++(U++R)).drop S.length=U++R:=List.drop_left
 have Tr:(S++(U++R)).take S.length=S:=List.take_left
 obtain ⟨c,r,rfl⟩:∃c r,S=c::r:=by
  cases S with
  |nil=>exact absurd rfl hne
  |cons c r=>exact ⟨c,r,rfl⟩
 have e:(c::r++U)++R=c::r++(U++R):=List.append_assoc _ _ _
 rw [e]
 have e2:aV (c::r++(U++R))=dE (c::r++(U++R)):=pD (hS c List.mem_cons_self)
 rw [e2,Iy hn h0 hE.get hE.exp (by omega),hdr,Tr,hsp,List.take_left,qF _ hne,hst]
 have hz:U.length=0↔U=[]:=List.length_eq_zero_iff
 by_cases hu:U=[]
 ·rw [if_pos (.inl (hz.2 hu)),if_neg (by omega),if_pos (hz.2 hu),if_pos hu]
  rw [List.length_append];rfl
 ·rw [if_pos (.inr (hU.resolve_left hu)),if_neg (by omega),if_neg (fun e=>hu (hz.1 e)),if_neg hu]
  rw [List.length_append];rfl
theorem hZ {k:Int} (h:k=0∨k=1∨k=2∨k=6) (t:List UInt8):bj k t=t:=by
 rcases h with rfl|rfl|rfl|rfl<;>(unfold bj;rw [if_neg (by decide),if_neg (by rintro ⟨h,_⟩;revert h;decide),if_neg (by decide)])
theorem xe.dg {l:List UInt8} (h1:l≠[]) (h2:∀c∈l,aZ c=true) (x:List UInt8):xe (l++x):=by
 cases l with
 |nil=>exact absurd rfl h1
 |cons c r=>
  obtain ⟨a,b,d,_⟩:=yP c (h2 c List.mem_cons_self)
  exact ⟨c,r++x,rfl,a,b,d⟩
theorem Bl {S U:List UInt8} (hS:∀c∈S,aZ c=true) (hne:S≠[]) (hst:bI S=S) (Sy:S.length≤15) (hU:U=[]∨U∈cq):jO (if U=[] then 1 else 2) (S++U):=by
 have hk:(if U=[] then 1 else 2:Int)=0∨(if U=[] then 1 else 2:Int)=1∨(if U=[] then 1 else 2:Int)=2∨(if U=[] then 1 else 2:Int)=6:=by
  by_cases h:U=[]
  ·rw [if_pos h];exact .inr (.inl rfl)
  ·rw [if_neg h];exact .inr (.inr (.inl rfl))
 refine ⟨?_,fun R hR=>?_⟩
 ·rw [hZ hk];exact xe.dg hne hS U
 ·rw [hZ hk];exact ⟨_,LC hS hne hst Sy hU hR,.inl rfl⟩
def Ep (c:UInt8):Bool:=c==48||c==49||c==120||c==122
theorem yR (c:UInt8) (h:dn c≠0):Ep (dn c)=true:=by
 unfold dn at h⊢
 by_cases hx:aU c=120∨aU c=122
 ·rw [if_pos hx]
  rcases hx with hx|hx<;>rw [hx]<;>rfl
 ·rw [if_neg hx] at h;exact absurd rfl h
theorem sN:∀(n v:Nat),∀c∈dA n v,Ep c=true
 |0,_,c,h=>by cases h
 |n+1,v,c,h=>by
  rw [eN] at h
  rcases List.mem_append.1 h with h|h
  ·exact sN n _ c h
  ·have:c=iy v:=by simpa using h
   rw [this];unfold iy
   split<;>rfl
theorem qG (k:Nat):∀l:List UInt8,∀c∈eD k l,Ep c=true
 |[],c,h=>by cases h
 |x::t,c,h=>by
  by_cases hx:dn x≠0
  ·rw [ld k t hx] at h
   rcases List.mem_append.1 h with h|h
   ·rw [List.eq_of_mem_replicate h];exact yR x hx
   ·exact qG k t c h
  ·rw [mW k t (by simpa using hx)] at h
   rcases List.mem_append.1 h with h|h
   ·exact sN _ _ c h
   ·exact qG k t c h
theorem tZ:∀(ds:List UInt8) (v:Nat),∀c∈bP ds v,Ep c=true
 |[],v,c,h=>sN 140 v c h
 |x::t,v,c,h=>by
  unfold bP at h
  split at h
  ·rcases List.mem_cons.1 h with rfl|h
   ·rfl
   ·exact sN _ _ c h
  ·exact tZ t _ c h
theorem O7 {w:Nat} {u:UInt8} {out:List UInt8} (hu:u≠0→Ep u=true) (ho:∀c∈out,Ep c=true) (h:(vG w u out).2=0):(vG w u out).1.length=w∧∀c∈(vG w u out).1,Ep c=true:=by
 unfold vG at h⊢
 by_cases h1:out.length<w
 ·rw [if_pos h1]
  refine ⟨by rw [List.length_append,List.length_replicate];omega,fun c hc=>?_⟩
  rcases List.mem_append.1 hc with hc|hc
  ·rw [List.eq_of_mem_replicate hc]
   by_cases h2:u≠0
   ·rw [if_pos h2];exact hu h2
   ·rw [if_neg h2];rfl
  ·exact ho c hc
 ·rw [if_neg h1] at h⊢
  by_cases h2:(out.take (out.length-w)).all (·==48)=true
  ·rw [if_pos h2]
   exact ⟨by rw [List.length_drop];omega,fun c hc=>ho c (List.mem_of_mem_drop hc)⟩
  ·rw [if_neg h2] at h;exact absurd h (by decide)
theorem LD {d:List UInt8} {b:UInt8} {ds:List UInt8} (h:(pj d b ds).2=0):1≤(pj d b ds).1.length∧(pj d b ds).1.length≤128∧∀c∈(pj d b ds).1,Ep c=true:=by
 unfold pj at h⊢
 by_cases c1:b=100∧¬(ds.length=1∧dn (ds.headD 0)≠0)∧aQ aZ ds<ds.length
 ·rw [if_pos c1] at h;exact absurd h (by decide)
 ·rw [if_neg c1] at h⊢
  by_cases c2:eh d<1∨128<eh d
  ·rw [if_pos c2] at h;exact absurd h (by decide)
  ·rw [if_neg c2] at h⊢
   by_cases c3:b=100∧ds.length=1∧dn (ds.headD 0)≠0
   ·rw [if_pos c3]
    exact ⟨by show 1≤(List.replicate _ _).length;rw [List.length_replicate];omega,by show (List.replicate _ _).length≤128;rw [List.length_replicate];omega,fun c hc=>by rw [List.eq_of_mem_replicate hc];exact yR _ c3.2.2⟩
   ·rw [if_neg c3] at h⊢
    have ho:∀c∈r_ b ds,Ep c=true:=by
     unfold r_
     by_cases c4:b=100
     ·rw [if_pos c4];exact tZ ds 0
     ·rw [if_neg c4];exact qG _ ds
    obtain ⟨h1,h2⟩:=O7 (yR _) ho h
    exact ⟨by omega,by omega,h2⟩
theorem LG {l:List UInt8} (h:(dB l).2=0):1≤(dB l).1.length∧(dB l).1.length≤128∧∀c∈(dB l).1,Ep c=true:=by
 by_cases h0:aQ aZ l=0
 ·rw [tE h0] at h;exact absurd h (by decide)
 ·by_cases hc:bN l (aQ aZ l)=l.length
  ·rw [tG h0 hc] at h⊢;exact LD h
  ·rw [tF hc] at h;exact absurd h (by decide)
theorem LH:∀c:UInt8,Ep c=true→p_ 98 c=true∧(dn c≠0→dn c=c)∧(dn c=0→dA 1 (cv c).toNat=[c]):=
 fun c=>gH (p:=fun c=>Ep c=true→p_ 98 c=true∧(dn c≠0→dn c=c)∧(dn c=0→dA 1 (cv c).toNat=[c])) (by decide+kernel) c
theorem t_:∀t:List UInt8,(∀c∈t,Ep c=true)→eD 1 t=t
 |[],_=>rfl
 |c::t,h=>by
  obtain ⟨_,h1,h2⟩:=LH c (h c List.mem_cons_self)
  have ih:=t_ t (fun d hd=>h d (List.mem_cons_of_mem _ hd))
  by_cases hu:dn c≠0
  ·rw [ld 1 t hu,ih,h1 hu];rfl
  ·have hu:dn c=0:=by simpa using hu
   rw [mW 1 t hu,ih,h2 hu];rfl
theorem LJ:∀c:UInt8,iL c=true→aZ c=true:=fun c=>gH (p:=fun c=>iL c=true→aZ c=true) (by decide+kernel) c
theorem yS (n:Nat):∀c∈Lib.decDigits n,aZ c=true:=fun c hc=>LJ c ((fz n).1 c hc)
theorem Er (n:Nat):Lib.decDigits n≠[]:=fun e=>by
 have:=(fz n).2.2.1
 rw [e] at this;exact absurd this (by decide)
theorem Es (n:Nat) (h:n≤128):eh (Lib.decDigits n)=n:=by
 have h2:=tW (Lib.decDigits n) 0
 have h3:(Lib.decDigits n).foldl (fun v c=>10*v+(c.toNat-48)) 0=n:=(fz n).2.1
 rw [h3] at h2
 rw [H']
 have h4:(Lib.decDigits n).foldl pk 0=min n 1000:=h2
 rw [h4];omega
theorem Bo {t:List UInt8} (h1:1≤t.length) (h2:t.length≤128) (hc:∀c∈t,Ep c=true):
 dB (Lib.decDigits t.length++39::98::t)=(t,0)∧∀R,kB R→bN (Lib.decDigits t.length++39::98::(t++R)) (Lib.decDigits t.length).length=(Lib.decDigits t.length++39::98::t).length:=by
 have hD:=yS t.length
 have hw:=Es t.length h2
 have QJ:=(fz t.length).2.2.1
 have hne:t≠[]:=fun e=>by rw [e] at h1;exact absurd h1 (by decide)
 generalize Lib.decDigits t.length=D at*
 have hC:∀R,kB R→bN (D++39::98::(t++R)) D.length=(D++39::98::t).length:=by
  intro R hR
  have hs:=fA (p:=p_ (aU 98)) t R (fun c h=>(LH c (hc c h)).1) (hR.none (by decide))
  unfold bN
  rw [List.drop_left]
  show (if t++R=[]∨dH (aU 98)=none∨G3 98=false then 0 else if aQ (p_ (aU 98)) (t++R)=0 then 0 else D.length+2+aQ (p_ (aU 98)) (t++R))=_
  rw [if_neg (by rintro (h|h|h);exact hne (List.append_eq_nil_iff.1 h).1;revert h;decide;revert h;decide),hs,if_neg (by omega)]
  rw [List.length_append,List.length_cons,List.length_cons];omega
 refine ⟨?_,hC⟩
 have hn:aQ aZ (D++39::98::t)=D.length:=fA D _ hD (iw (by decide))
 have hc0:=hC [] (.inl rfl)
 rw [List.append_nil] at hc0
 rw [tG (by rw [hn];omega) (by rw [hn];exact hc0),hn,List.take_left]
 have e1:(D++39::98::t).getD (D.length+1) 0=98:=by
  rw [List.getD_eq_getElem?_getD,List.getElem?_append_right (by omega),Nat.add_sub_cancel_left];rfl
 have e2:(D++39::98::t).drop (D.length+2)=t:=by rw [←List.drop_drop,List.drop_left];rfl
 rw [e1,e2]
 unfold pj
 have h98:aU 98=98:=by decide
 rw [h98,if_neg (by rintro ⟨h,_⟩;revert h;decide),hw,if_neg (by omega),if_neg (by rintro ⟨h,_⟩;revert h;decide)]
 have ho:r_ 98 t=t:=by
  unfold r_
  rw [if_neg (by decide)]
  exact t_ t hc
 rw [ho]
 unfold vG
 rw [if_neg (by omega),Nat.sub_self,List.take_zero,List.drop_zero];rfl
theorem mm {F R:List UInt8} (hR:kB R):bC (F++R) F.length=true:=by
 unfold bC
 rw [List.drop_left]
 rcases hR with rfl|⟨r,rfl,_⟩<;>rfl
theorem oh (t:List UInt8):bj 3 t=Lib.decDigits t.length++39::98::t:=by unfold bj;rw [if_pos rfl]
theorem ID {t:List UInt8} (h1:1≤t.length) (h2:t.length≤128) (hc:∀c∈t,Ep c=true):jO 3 t:=by
 obtain ⟨hb,hC⟩:=Bo h1 h2 hc
 have hD:=yS t.length
 have QJ:=Er t.length
 rw [jO,oh]
 refine ⟨xe.dg QJ hD _,fun R hR=>?_⟩
 have hC:=hC R hR
 generalize Lib.decDigits t.length=D at*
 refine ⟨_,?_,.inl rfl⟩
 have e:(D++39::98::t)++R=D++39::98::(t++R):=by simp
 have e2:aV (D++39::98::(t++R))=dE (D++39::98::(t++R)):=by
  cases D with
  |nil=>exact absurd rfl QJ
  |cons c r=>exact pD (hD c List.mem_cons_self)
 have hn:aQ aZ (D++39::98::(t++R))=D.length:=fA D _ hD (iw (by decide))
 have ha:bC (D++39::98::(t++R)) (D++39::98::t).length=true:=by rw [←e];exact mm hR
 have ht:(D++39::98::(t++R)).take (D++39::98::t).length=D++39::98::t:=by rw [←e,List.take_left]
 rw [e,e2]
 unfold dE tN
 rw [hn,hC,if_pos (by rw [List.length_append,List.length_cons];omega),if_pos ha,ht,hb]
theorem LL {u:List UInt8} (h:u∈eA):jO 6 u:=by
 rw [jO,hZ (.inr (.inr (.inr rfl)))]
 simp only [eA,List.mem_cons,List.not_mem_nil,or_false] at h
 rcases h with rfl|rfl|rfl|rfl|rfl|rfl|rfl|rfl|rfl|rfl|rfl|rfl|rfl|rfl|rfl|rfl|rfl|rfl|rfl|rfl|rfl|rfl|rfl|rfl|rfl|rfl<;>
  (refine ⟨⟨_,_,rfl,by decide,by decide,by decide⟩,fun R hR=>⟨_,?_,.inl rfl⟩⟩
   rcases hR with rfl|⟨r,rfl,_⟩<;>rfl)
theorem Bp:∀(n:Nat) (m o:List UInt8),m.length≤n→nZ m=some o→o.length≤m.length
 |n,[],o,_,h=>by rw [AV] at h;cases h;exact Nat.le_refl _
 |0,c::t,o,hn,_=>absurd hn (by rw [List.length_cons];omega)
 |n+1,c::t,o,hn,h=>by
  cases hs:dT (c::t) with
  |none=>rw [wI hs (by simp)] at h;cases h
  |some p=>
   obtain ⟨d,k⟩:=p
   obtain ⟨h1,h2⟩:=jd hs
   rw [qu hs] at h
   obtain ⟨o2,ho,h⟩:=Option.map_eq_some_iff.1 h
   cases h
   simp only at h1 h2
   have:=Bp n ((c::t).drop k) o2 (by rw [List.length_drop,List.length_cons];rw [List.length_cons] at hn;omega) ho
   rw [List.length_drop] at this
   rw [List.length_cons];omega
theorem O8 {l:List UInt8} (h:(fR l).2=0):(fR l).1.length≤64∧(fR l).1.length+2≤l.length:=by
 by_cases hb:l.length<2∨l.head? ≠some 34∨l.getLast? ≠some 34
 ·rw [pq hb] at h;exact absurd h (by decide)
 ·rw [tH hb] at h⊢
  unfold qx at h⊢
  cases hu:nZ ((l.drop 1).take (l.length-2)) with
  |none=>rw [hu] at h;exact absurd h (by decide)
  |some o=>
   have hl:=Bp _ _ o (Nat.le_refl _) hu
   rw [List.length_take,List.length_drop] at hl
   have h2:¬l.length<2:=fun h3=>hb (.inl h3)
   rw [hu] at h
   simp only at h⊢
   by_cases h6:64<o.length
   ·rw [if_pos h6] at h;exact absurd h (by decide)
   ·rw [if_neg h6];exact ⟨by show o.length≤64;omega,by show o.length+2≤_;omega⟩
theorem rI:∀(l R:List UInt8),bz (l.flatMap dS++34::R)=(l.flatMap dS).length
 |[],R=>n9 R
 |c::t,R=>by rw [qq,List.append_assoc,Be,rI t R,List.length_append]
theorem qH (t:List UInt8):bj 5 t=oI t:=by unfold bj;rw [if_neg (by decide),if_neg (by rintro ⟨h,_⟩;revert h;decide),if_pos rfl]
theorem LM {t:List UInt8} (h:t.length≤64):jO 5 t:=by
 rw [jO,qH]
 have hq:=mY t
 refine ⟨⟨34,_,hq,by decide,by decide,by decide⟩,fun R hR=>⟨_,?_,.inl rfl⟩⟩
 have hlen:=mh t
 have e:oI t++R=34::(t.flatMap dS++34::R):=by rw [hq];simp
 have e2:aV (oI t++R)=dJ (oI t++R):=by
  rw [e,gL,if_neg (by decide),if_neg (by decide),if_pos rfl]
 have hc:bz ((oI t++R).drop 1)=(t.flatMap dS).length:=by rw [e];exact rI t R
 rw [e2,jl,hc]
 unfold iQ
 have hE:1+(t.flatMap dS).length+1=(oI t).length:=by omega
 rw [hE,if_neg (by rw [List.length_append];omega),List.take_left,Ls,if_neg (by omega)]
theorem Et:bj 4 [48]=[48,46,48]:=by decide
theorem ub {t:List UInt8} (h:t≠[48]):bj 4 t=t:=by unfold bj;rw [if_neg (by decide),if_neg (fun e=>h e.2),if_neg (by decide)]
theorem ue {l:List UInt8} {p:Bool×List UInt8×List UInt8×Bool×List UInt8} (h:dh l=some p):p.1=(bq l).1:=by
 unfold dh at h
 split at h
 ·cases h
 ·obtain ⟨f,hf,h⟩:=Option.bind_eq_some_iff.1 h
  obtain ⟨x,hx,h⟩:=Option.bind_eq_some_iff.1 h
  split at h
  ·cases h;rfl
  ·cases h
theorem LN:∀c:UInt8,aZ c=true→iL c=true:=fun c=>gH (p:=fun c=>aZ c=true→iL c=true) (by decide+kernel) c
theorem Bq {l:List UInt8} (hd:∀c,l.head? =some c→aZ c=true) (h:(cz l).2=0):
 (cz l).1=[48]∨∃(t0:UInt8) (t E D:List UInt8),(cz l).1=t0::((if 0<t.length then 46::t else [])++101::E)∧aZ t0=true∧(∀c∈t,aZ c=true)∧t.length≤16∧
  (E=45::D∨E=D)∧D≠[]∧(∀c∈D,aZ c=true)∧E.length≤4∧cz (cz l).1=((cz l).1,0):=by
 have hag:=(KG _).1 (rC l h)
 have aaO:cz (cz l).1=((cz l).1,0):=by
  exact congrArg (fun p:ByteArray×Int=>(p.1.data.toList,p.2)) hag
 cases hs:dh l with
 |none=>
  have e:aY 100000 l=(⟨#[]⟩,3):=by unfold aY;rw [hs]
  have h':(aY 100000 l).2=0:=h
  rw [e] at h';exact absurd h' (by decide)
 |some p=>
  have NN:p.1=false:=by rw [ue hs,nU (fun c hc=>LN c (hd c hc))]
  have e:aY 100000 l=aX p.1 (aO (p.2.1++p.2.2.1)) ((p.2.1.length:Int)-1-jJ (p.2.1++p.2.2.1)+jY p.2.2.2.1 (gY 100000 p.2.2.2.2)):=by
   unfold aY;rw [hs];rfl
  have hT:∀c∈aO (p.2.1++p.2.2.1),aZ c=true:=fun c hc=>LJ c (mV hs c (wA hc))
  rw [NN] at e
  generalize aO (p.2.1++p.2.2.1)=T at*
  generalize ((p.2.1.length:Int)-1-jJ (p.2.1++p.2.2.1)+jY p.2.2.2.1 (gY 100000 p.2.2.2.2))=first at*
  have h':(aY 100000 l).2=0:=h
  rw [e] at h'
  have e1:(cz l).1=(aX false T first).1.data.toList:=by show (aY 100000 l).1.data.toList=_;rw [e]
  by_cases NV:T=[]
  ·left
   rw [e1];unfold aX;rw [if_pos NV]
  ·right
   by_cases hr:17<T.length∨first< -400∨400<first
   ·have e2:aX false T first=(⟨#[]⟩,9):=by unfold aX;rw [if_neg NV,if_pos hr]
    rw [e2] at h';exact absurd h' (by decide)
   ·have e2:aX false T first=(br ((if false then [45] else [])++(T.take 1++(if 1<T.length then 46::T.drop 1 else [])))++⟨#[101]⟩++k_ first,0):=by unfold aX;rw [if_neg NV,if_neg hr]
    obtain ⟨t0,t,rfl⟩:∃t0 t,T=t0::t:=by
     cases T with
     |nil=>exact absurd rfl NV
     |cons a t=>exact ⟨a,t,rfl⟩
    have KF:(aX false (t0::t) first).1.data.toList=t0::((if 0<t.length then 46::t else [])++101::Lib.itoa first):=by
     rw [e2]
     show (br _++⟨#[101]⟩++k_ first).data.toList=_
     rw [o_,o_,dQ]
     have ed:(k_ first).data.toList=Lib.itoa first:=by unfold k_;simp
     rw [ed]
     have ec:(if 1<(t0::t).length then 46::(t0::t).drop 1 else ([]:List UInt8))=if 0<t.length then 46::t else []:=by
      simp only [List.length_cons,List.drop_succ_cons,List.drop_zero]
      by_cases h:0<t.length
      ·rw [if_pos h,if_pos (by omega)]
      ·rw [if_neg h,if_neg (by omega)]
     rw [ec]
     simp
    have hlen:(t0::t).length=t.length+1:=rfl
    have hE:=AE first (by omega) (by omega)
    have hE2:∃D,(Lib.itoa first=45::D∨Lib.itoa first=D)∧D≠[]∧∀c∈D,aZ c=true:=by
     unfold Lib.itoa
     by_cases h:first<0
     ·rw [if_pos h];exact ⟨_,.inl rfl,Er _,yS _⟩
     ·rw [if_neg h];exact ⟨_,.inr rfl,Er _,yS _⟩
    obtain ⟨D,hD1,OZ,hD3⟩:=hE2
    exact ⟨t0,t,Lib.itoa first,D,by rw [e1,KF],hT t0 List.mem_cons_self,fun c hc=>hT c (List.mem_cons_of_mem _ hc),by omega,hD1,OZ,hD3,hE,aaO⟩
theorem IE {R:List UInt8} (hR:kB R):aV ([48,46,48]++R)=⟨4,[48],3,0⟩:=by
 have e:aV ([48,46,48]++R)=dE ([48,46,48]++R):=pD (by decide)
 have hn:aQ aZ ([48,46,48]++R)=1:=rfl
 have h0:=hR.none (p:=aZ) (by decide)
 have hl:([48,46,48]++R).length=R.length+3:=by rw [List.length_append];show 3+R.length=_;omega
 have Ts:jB ([48,46,48]++R) 1=3:=by
  have h1:aQ aZ (([48,46,48]++R).drop 2)=1:=by
   show aQ aZ (48::R)=1
   rw [eu (by decide),h0]
  rw [tO (n:=1) (show 1+1<([48,46,48]++R).length by omega) rfl]
  show (if aZ 48=true then 1+1+aQ aZ (([48,46,48]++R).drop (1+1)) else 1)=3
  rw [if_pos (by decide),h1]
 have Tt:fC ([48,46,48]++R) (jB ([48,46,48]++R) 1)=3:=by
  rw [Ts]
  rcases hR with rfl|⟨r,rfl,_⟩
  ·exact oP (Nat.le_refl _)
  ·exact sG (n:=3) (by rw [hl,List.length_cons];omega) (by show aU 32≠101;decide)
 have ht:([48,46,48]++R).take 3=[48,46,48]:=rfl
 have ha:bC ([48,46,48]++R) 3=true:=mm (F:=[48,46,48]) hR
 have hr:cz [48,46,48]=([48],0):=by decide+kernel
 rw [e,w_ hn (by show (46:UInt8)≠39;decide) Tt (by omega),if_pos ha,ht,hr]
theorem IF {t0:UInt8} {t E D R:List UInt8} (h0:aZ t0=true) (ht:∀c∈t,aZ c=true) (hE:E=45::D∨E=D) (hD:D≠[]) (ZD:∀c∈D,aZ c=true) (hR:kB R) (F:List UInt8)
 (hF:F=t0::((if 0<t.length then 46::t else [])++101::E)) (hr:cz F=(F,0)):aV (F++R)=⟨4,F,F.length,0⟩:=by
 obtain ⟨M,hM⟩:∃M,(if 0<t.length then 46::t else []:List UInt8)=M:=⟨_,rfl⟩
 rw [hM] at hF
 have em:F++R=t0::(M++101::(E++R)):=by rw [hF];simp
 have hRd:=hR.none (p:=aZ) (by decide)
 have hEl:0<E.length:=by
  have:0<D.length:=List.length_pos_iff.2 hD
  rcases hE with rfl|rfl
  ·rw [List.length_cons];omega
  ·exact this
 have Wy:F.length=M.length+2+E.length:=by rw [hF,List.length_cons,List.length_append,List.length_cons];omega
 have FK:(t0::(M++101::(E++R))).length=M.length+2+E.length+R.length:=by
  rw [List.length_cons,List.length_append,List.length_cons,List.length_append];omega
 have hn:aQ aZ (t0::(M++101::(E++R)))=1:=by
  rw [eu h0,←hM]
  split
  ·rw [List.cons_append,iw (by decide)]
  ·rw [List.nil_append,iw (by decide)]
 have JW:(t0::(M++101::(E++R))).getD 1 0≠39:=by
  rw [←hM]
  split
  ·show (46:UInt8)≠39;decide
  ·show (101:UInt8)≠39;decide
 have Ts:jB (t0::(M++101::(E++R))) 1=1+M.length:=by
  by_cases hp:0<t.length
  ·rw [if_pos hp] at hM
   subst hM
   obtain ⟨a,r,rfl⟩:∃a r,t=a::r:=by
    cases t with
    |nil=>exact absurd hp (by decide)
    |cons a r=>exact ⟨a,r,rfl⟩
   have hs:aQ aZ ((a::r)++101::(E++R))=(a::r).length:=fA _ _ ht (iw (by decide))
   rw [tO (n:=1) (by rw [FK];omega) rfl]
   show (if aZ a=true then 1+1+aQ aZ ((a::r)++101::(E++R)) else 1)=_
   rw [if_pos (ht a List.mem_cons_self),hs]
   rw [List.length_cons (a:=46)];omega
  ·rw [if_neg hp] at hM
   subst hM
   rw [yJ (n:=1) (by rw [FK];omega) (by show (101:UInt8)≠46;decide)];rfl
 have hat:∀X:List UInt8,(t0::(M++X)).drop (1+M.length)=X:=fun X=>by
  rw [Nat.add_comm,List.drop_succ_cons,List.drop_left]
 have hge:(t0::(M++101::(E++R)))[1+M.length]'(by rw [FK];omega)=101:=by
  have:=hat (101::(E++R))
  rw [List.drop_eq_getElem_cons (by rw [FK];omega)] at this
  exact (List.cons.inj this).1
 have DF:(t0::(M++101::(E++R))).drop (1+M.length+1)=E++R:=by rw [←List.drop_drop,hat];rfl
 have Tt:fC (t0::(M++101::(E++R))) (1+M.length)=F.length:=by
  have hDl:0<D.length:=List.length_pos_iff.2 hD
  have hDs:aQ aZ (D++R)=D.length:=fA _ _ ZD hRd
  rcases hE with rfl|rfl
  ·have Vg:(t0::(M++101::(45::D++R))).drop (1+M.length+2)=D++R:=by rw [←List.drop_drop,hat];rfl
   rw [oQ (by rw [FK];omega) (by rw [hge];decide) (1+M.length+2) (by rw [DF];exact (if_pos (.inr rfl)).symm),Vg,hDs,if_pos hDl,Wy,List.length_cons];omega
  ·obtain ⟨a,r,rfl⟩:∃a r,E=a::r:=by
    cases E with
    |nil=>exact absurd rfl hD
    |cons a r=>exact ⟨a,r,rfl⟩
   have ha:=ZD a List.mem_cons_self
   have hna:¬(((a::r)++R).head? =some 43∨((a::r)++R).head? =some 45):=by
    rintro (h|h)<;>(have h2:a=_:=Option.some.inj h;subst h2;revert ha;decide)
   rw [oQ (by rw [FK];omega) (by rw [hge];decide) (1+M.length+1) (by rw [DF];exact (if_neg hna).symm),DF,hDs,if_pos hDl,Wy];omega
 have Tr:(t0::(M++101::(E++R))).take F.length=F:=by rw [←em,List.take_left]
 have mQ:bC (t0::(M++101::(E++R))) F.length=true:=by rw [←em];exact mm hR
 rw [em,pD h0,w_ (e:=F.length) hn JW (by rw [Ts];exact Tt) (by omega),if_pos mQ,Tr,hr]
theorem IG {l:List UInt8} (hd:∀c,l.head? =some c→aZ c=true) (h:(cz l).2=0):jO 4 (cz l).1∧(bj 4 (cz l).1).length≤24:=by
 rcases Bq hd h with h0|⟨t0,t,E,D,hF,h0,ht,ab0,hE,hD,ZD,hE4,hr⟩
 ·rw [h0,jO,Et]
  exact ⟨⟨⟨48,_,rfl,by decide,by decide,by decide⟩,fun R hR=>⟨3,IE hR,.inl rfl⟩⟩,by decide⟩
 ·generalize (cz l).1=F at*
  have hne:F≠[48]:=by
   rw [hF];intro e
   have:=(List.cons.inj e).2
   exact absurd (List.append_eq_nil_iff.1 this).2 (by simp)
  rw [jO,ub hne]
  obtain ⟨g1,g2,g3,_⟩:=yP t0 h0
  refine ⟨⟨⟨t0,_,hF,g1,g2,g3⟩,fun R hR=>⟨_,IF h0 ht hE hD ZD hR F hF hr,.inl rfl⟩⟩,?_⟩
  rw [hF,List.length_cons,List.length_append,List.length_cons]
  split
  ·rw [List.length_cons];omega
  ·rw [List.length_nil];omega
theorem Eu {l:List UInt8} {n:Nat} (h:0<bN l n):n+3≤bN l n:=by
 have key:bN l n=0∨n+3≤bN l n:=by
  unfold bN
  split
  ·split
   ·exact .inl rfl
   ·split
    ·exact .inl rfl
    ·right;omega
  ·exact .inl rfl
 omega
theorem II {l:List UInt8} (h:(aV l).err=0):jO (aV l).kind (aV l).text∧(bj (aV l).kind (aV l).text).length+1≤40*(aV l).size∧0≤(aV l).kind∧(aV l).kind≤6:=by
 cases l with
 |nil=>exact absurd (aR h) (by decide)
 |cons c r=>
  rw [gL] at h⊢
  by_cases c1:sF c=true∨c=92
  ·rw [if_pos c1] at h⊢
   obtain ⟨hk,h1,h2⟩:=xf h
   rw [hk];exact ⟨h1,h2,by decide,by decide⟩
  ·rw [if_neg c1] at h⊢
   by_cases c2:aZ c=true
   ·rw [if_pos c2] at h⊢
    have yi:1≤aQ aZ (c::r):=by rw [eu c2];omega
    have hnl:=dz aZ (c::r)
    have Tr:=kA (p:=aZ) (c::r)
    have hC:=Eu (l:=c::r) (n:=aQ aZ (c::r))
    have hum:=lq (us:=cq) (t:=(c::r).drop (aQ aZ (c::r)))
    have Al:∀k,0<k→∀d,((c::r).take k).head? =some d→aZ d=true:=by
     intro k hk d hd
     cases k with
     |zero=>exact absurd hk (by decide)
     |succ k=>rw [List.take_succ_cons] at hd;cases hd;exact c2
    unfold dE tN at h⊢
    generalize c::r=l at*
    generalize aQ aZ l=n at*
    generalize bN l n=C at*
    generalize fC l (jB l n)=e2 at*
    generalize hk:fW (l.drop n)=k at*
    by_cases h1:0<C
    ·rw [if_pos h1] at h⊢
     by_cases h2:bC l C=true
     ·rw [if_pos h2] at h⊢
      obtain ⟨b1,b2,b3⟩:=LG h
      refine ⟨ID b1 b2 b3,?_,(show (0:Int)≤3 by decide),(show (3:Int)≤6 by decide)⟩
      show (bj 3 (dB (l.take C)).1).length+1≤40*C
      have hd3:=(fz (dB (l.take C)).1.length).2.2.2 3 (by decide) (by omega)
      rw [oh,List.length_append,List.length_cons,List.length_cons]
      have:=hC h1
      omega
     ·rw [if_neg h2] at h;exact absurd (aR h) (by decide)
    ·rw [if_neg h1] at h⊢
     by_cases h3:n<e2
     ·rw [if_pos h3] at h⊢
      by_cases h2:bC l e2=true
      ·rw [if_pos h2] at h⊢
       obtain ⟨g1,g2⟩:=IG (Al e2 (by omega)) h
       refine ⟨g1,?_,(show (0:Int)≤4 by decide),(show (4:Int)≤6 by decide)⟩
       show (bj 4 (cz (l.take e2)).1).length+1≤40*e2
       omega
      ·rw [if_neg h2] at h;exact absurd (aR h) (by decide)
     ·rw [if_neg h3] at h⊢
      by_cases h4:bC l (n+k)=false
      ·rw [if_pos h4] at h;exact absurd (aR h) (by decide)
      ·rw [if_neg h4] at h⊢
       by_cases h5:15<(bI (l.take n)).length
       ·rw [if_pos h5] at h;exact absurd (aR h) (by decide)
       ·rw [if_neg h5]
        have Tu:l.take n≠[]:=fun e=>by
         have:=congrArg List.length e
         rw [List.length_take,List.length_nil] at this;omega
        have hS:∀d∈bI (l.take n),aZ d=true:=fun d hd=>by
         rcases tY Tu d hd with rfl|hd
         ·rfl
         ·exact Tr d hd
        have Ky:fq cq (l.drop n)=k:=hk
        have hU:(l.drop n).take k=[]∨(l.drop n).take k∈cq:=by
         by_cases h0:0<k
         ·rw [Ky] at hum;exact .inr (hum h0)
         ·rw [show k=0 by omega,List.take_zero];exact .inl rfl
        have JZ:=pz (l.drop n)
        rw [hk,List.length_drop] at JZ
        have hkU:(l.drop n).take k=[]↔k=0:=by
         refine ⟨fun e=>?_,fun e=>by rw [e,List.take_zero]⟩
         have:=congrArg List.length e
         rw [List.length_take,List.length_drop,List.length_nil] at this;omega
        have yL:(if k=0 then 1 else 2:Int)=if (l.drop n).take k=[] then 1 else 2:=by
         by_cases h0:k=0
         ·rw [if_pos h0,if_pos (hkU.2 h0)]
         ·rw [if_neg h0,if_neg (fun e=>h0 (hkU.1 e))]
        have hg:=Bl hS (xg _) (yO _) (by omega) hU
        rw [←yL] at hg
        have gM:(if k=0 then 1 else 2:Int)=1∨(if k=0 then 1 else 2:Int)=2:=by
         by_cases h0:k=0
         ·exact .inl (if_pos h0)
         ·exact .inr (if_neg h0)
        refine ⟨hg,?_,?_,?_⟩
        ·show (bj (if k=0 then 1 else 2) (bI (l.take n)++(l.drop n).take k)).length+1≤40*(n+k)
         rw [hZ (.inr (by rcases gM with h|h;exact .inl h;exact .inr (.inl h))),List.length_append,List.length_take]
         omega
        ·show (0:Int)≤(if k=0 then 1 else 2);omega
        ·show (if k=0 then 1 else 2:Int)≤6;omega
   ·rw [if_neg c2] at h⊢
    by_cases c3:c=34
    ·rw [if_pos c3] at h⊢
     rw [jl] at h⊢
     unfold iQ at h⊢
     generalize 1+bz ((c::r).drop 1)=E at*
     by_cases h1:(c::r).length≤E
     ·rw [if_pos h1] at h;exact absurd (aR h) (by decide)
     ·rw [if_neg h1] at h⊢
      obtain ⟨h2,h3⟩:=O8 h
      refine ⟨LM h2,?_,(show (0:Int)≤5 by decide),(show (5:Int)≤6 by decide)⟩
      show (bj 5 (fR ((c::r).take (E+1))).1).length+1≤40*(E+1)
      rw [List.length_take] at h3
      have h4:=po (fR ((c::r).take (E+1))).1
      have h5:=mh (fR ((c::r).take (E+1))).1
      rw [qH]
      omega
    ·rw [if_neg c3] at h⊢
     cases hs:ek eA (c::r) with
     |none=>rw [hs] at h;exact absurd (aR h) (by decide)
     |some u=>
      obtain ⟨h1,h2⟩:=ma hs
      refine ⟨LL h1,?_,(show (0:Int)≤6 by decide),(show (6:Int)≤6 by decide)⟩
      show (bj 6 u).length+1≤40*u.length
      have:=Lz u h1
      rw [hZ (.inr (.inr (.inr rfl)))]
      omega
def Gh (y:Lx):List UInt8:=bj y.kind y.text
def IJ (ys:List Lx):Nat:=(ys.map fun y=>(Gh y).length+1).sum
theorem LO (l:List UInt8):∀(k a:Nat) (Ev out:List Lx) (p:Nat),Ev.length≤512→oa (iB l k a) Ev=(out,p,0)→
 p=0∧out.length≤512∧∃ys,out=Ev++ys∧(∀y∈ys,jO y.kind y.text∧0≤y.kind∧y.kind≤6)∧IJ ys≤40*(l.length-a)∧∀y r,ys=y::r→y.aJ=a
 |0,a,Ev,out,p,h5,h=>by
  cases h
  exact ⟨rfl,h5,[],by simp,(fun y hy=>by cases hy),Nat.zero_le _,(fun y r e=>by cases e)⟩
 |k+1,a,Ev,out,p,h5,h=>by
  unfold iB at h
  by_cases hlt:a<l.length
  ·rw [if_pos hlt] at h
   by_cases he:(aV (l.drop a)).err=0
   ·rw [if_pos he] at h
    by_cases hf:Ev.length=512
    ·rw [IA he hf] at h
     have:=(Prod.mk.inj (Prod.mk.inj h).2).2
     exact absurd this (by decide)
    ·rw [IB he hf] at h
     obtain ⟨g1,g2,g3,g4⟩:=II he
     obtain ⟨s1,s2⟩:=n_ (l:=l.drop a) (by rw [List.length_drop];omega) he
     rw [List.length_drop] at s2
     have hn:=tR l (a+(aV (l.drop a)).size)
     have vM:=tQ (l:=l) (a:=a+(aV (l.drop a)).size) (by omega)
     obtain ⟨i1,i2,ys,i3,i4,i5,_⟩:=LO l k _ _ out p (by rw [List.length_append];show Ev.length+1≤512;omega) h
     refine ⟨i1,i2,⟨(aV (l.drop a)).kind,(aV (l.drop a)).text,a⟩::ys,by rw [i3];simp,?_,?_,?_⟩
     ·intro y hy
      rcases List.mem_cons.1 hy with rfl|hy
      ·exact ⟨g1,g3,g4⟩
      ·exact i4 y hy
     ·unfold IJ at i5⊢
      rw [List.map_cons,List.sum_cons]
      show (bj (aV (l.drop a)).kind (aV (l.drop a)).text).length+1+_≤_
      omega
     ·intro y r e;cases e;rfl
   ·rw [LA he] at h
    have:=(Prod.mk.inj (Prod.mk.inj h).2).2
    exact absurd this he
  ·rw [if_neg hlt] at h
   cases h
   exact ⟨rfl,h5,[],by simp,(fun y hy=>by cases hy),Nat.zero_le _,(fun y r e=>by cases e)⟩
theorem Gi {l:List UInt8} {out:List Lx} {p:Nat} (h:eo l=(out,p,0)):
 p=0∧out.length≤512∧(∀y∈out,jO y.kind y.text∧0≤y.kind∧y.kind≤6)∧IJ out≤40*l.length∧∀y r,out=y::r→y.aJ=lI l 0:=by
 unfold eo at h
 by_cases hb:16384<l.length
 ·rw [if_pos hb] at h
  have:=(Prod.mk.inj (Prod.mk.inj h).2).2
  exact absurd this (by decide)
 ·rw [if_neg hb] at h
  obtain ⟨i1,i2,ys,i3,i4,i5,i6⟩:=LO l l.length (lI l 0) [] out p (Nat.zero_le _) h
  rw [List.nil_append] at i3
  subst i3
  exact ⟨i1,i2,i4,by omega,i6⟩
def iD (k:Int) (t:List UInt8):Bool:=
 decide ((eo (bj k t)).2.2=0)&&match (eo (bj k t)).1 with|[x]=>x.kind==k&&x.text==t|_=>false
theorem qI (k:Int) (t:List UInt8) (h:t.length≤1000000):(bj k t).length≤4*t.length+12:=by
 unfold bj
 by_cases h3:k=3
 ·rw [if_pos h3]
  have:=(fz t.length).2.2.2 7 (by decide) (by omega)
  rw [List.length_append,List.length_cons,List.length_cons];omega
 ·rw [if_neg h3]
  by_cases h4:k=4∧t=[48]
  ·rw [if_pos h4];show 3≤_;omega
  ·rw [if_neg h4]
   by_cases h5:k=5
   ·rw [if_pos h5,mh]
    have:=po t
    omega
   ·rw [if_neg h5];omega
end Go.Proofs.YtddoehnkgcbboaaGreatDoor
namespace Go.Proofs.YtddoehnkgcbboaaGreatDoor
open Go.RowKit Go.Shelf Go.Sort
theorem Ew {n:Nat} (h:n<10):Lib.decDigits n=[UInt8.ofNat (48+n % 10)]:=by rw [Lib.decDigits_one h,Nat.mod_eq_of_lt h]
theorem LP {n:Nat} (h:¬n<10):Lib.decDigits n=Lib.decDigits (n / 10)++[UInt8.ofNat (48+n % 10)]:=by rw [Lib.decDigits,dif_neg h]
theorem Bt {n:Nat} (h:n≤1000000):(Lib.decDigits n).length≤7:=(fz n).2.2.2 7 (by decide) (by omega)
theorem sf (n:Nat):∀(w:World) (hn:n≤1000000),
 Calls Tryz.prog 240 #[.int .i64 (n:Int)] w fun e w'=>e=.returned (.string (ae (Lib.decDigits n)))∧Below w.heap.size w w':=by
 induction n using Nat.strongRecOn with
 |_ n ih=>
 intro w hn
 obtain ⟨c,hc⟩:∃c:UInt8,UInt8.ofNat (48+n % 10)=c:=⟨_,rfl⟩
 have Tv:(c.toNat:Int)=48+(n:Int) % 10:=by
  rw [←hc,UInt8.toNat_ofNat',Nat.mod_eq_of_lt (by omega)]
  omega
 have hw:IntKind.u8.wrap (48+(n:Int) % 10)=(c.toNat:Int):=by rw [Tv,IntKind.wrap_u8];omega
 have hcv:=fun W:World=>KJ W c
 by_cases h:n<10
 ·rw [Ew h,hc]
  clear hc Tv ih
  go_enter Tryz.func240,Tryz.ntmps240
  go_wp2
  go_ret
  exact ⟨rfl,(Below.refl _ _).alloc (Nat.le_refl _) _⟩
 ·have D:=aa (fun W:World=>ih (n / 10) (by omega) W (by omega))
  have hq:((n / 10:Nat):Int)=(n:Int) / 10:=by omega
  rw [hq] at D
  have z1:=Bt (n:=n / 10) (by omega)
  have c1:=fun W=>nx (P:=Tryz.prog) (Lib.decDigits (n / 10)) [c] (by show _+1≤_;omega) W
  rw [LP h,hc]
  have c2:∀W,(Op.stringOp .add (ae (Lib.decDigits (n / 10))) ⟨#[c]⟩).run Tryz.prog W=.ok (.string (ae (Lib.decDigits (n / 10)++[c]))) W:=c1
  generalize Lib.decDigits (n / 10)++[c]=T at*
  generalize ae (Lib.decDigits (n / 10))=S at*
  clear hc Tv ih z1 hq c1
  go_enter Tryz.func240,Tryz.ntmps240
  go_wp2_with fail
  refine (D.out _).mono ?_
  rintro e w1 ⟨rfl,hb⟩
  have HB:=aa (((Below.refl w.heap.size w).alloc (Nat.le_refl _) (.cells #[.int .u8 (c.toNat:Int)] 5)).trans (hb.mono (by rw [World.size_alloc];exact Nat.le_succ _)))
  clear hb
  go_wp2
  go_ret
  exact ⟨rfl,HB.out⟩
def Xq (k:Int) (t:List UInt8) (p:Int):Value:=.agg #[.int .i64 k,.string (ae t),.int .i64 p]
theorem IK (t:List UInt8):((ae t).toList==[48])=decide (t=[48]):=by
 rw [Lib.toList_data,cy]
 by_cases h:t=[48]
 ·rw [decide_eq_true h,h];rfl
 ·rw [decide_eq_false h];exact beq_eq_false_iff_ne.2 h
theorem xh (k p:Int) (t:List UInt8) (w:World) (hl:t.length≤100000):
 Calls Tryz.prog 212 #[Xq k t p] w fun e w'=>e=.returned (.string (ae (bj k t)))∧Below w.heap.size w w':=by
 unfold Xq
 have hz:=aD t
 by_cases h3:k=3
 ·subst h3
  have DT:=aa (fun W:World=>sf t.length W (by omega))
  have hd:=Bt (n:=t.length) (by omega)
  have a1:∀W,(Op.stringOp .add (ae (Lib.decDigits t.length)) ⟨#[39,98]⟩).run Tryz.prog W=.ok (.string (ae (Lib.decDigits t.length++[39,98]))) W:=fun W=>nx _ [39,98] (by show _+2≤_;omega) W
  have a2:∀W,(Op.stringOp .add (ae (Lib.decDigits t.length++[39,98])) (ae t)).run Tryz.prog W=.ok (.string (ae (Lib.decDigits t.length++[39,98]++t))) W:=fun W=>nx _ t (by rw [List.length_append];show _+2+_≤_;omega) W
  have HV:=aa (show bj 3 t=Lib.decDigits t.length++[39,98]++t by rw [oh];simp)
  generalize Lib.decDigits t.length=D at*
  rw [←hz] at DT
  generalize D++[39,98]++t=T at*
  generalize ae (D++[39,98])=S2 at*
  generalize ae D=S1 at*
  generalize ae t=s at*
  have hz1:(s.size:Int)≤100000:=by omega
  clear hd hz hl
  go_enter Tryz.func212,Tryz.ntmps212
  go_wp2_with fail
  obtain ⟨W1,hW1⟩:∃W1,w.alloc (.cells #[.int .i64 3,.string s,.int .i64 p] 66)=W1:=⟨_,rfl⟩
  rw [hW1]
  have hr:Row W1 w.heap.size 66 #[.int .i64 3,.string s,.int .i64 p]:=by rw [←hW1];exact Row.new _ _ _
  have HB:=aa (show Below w.heap.size w W1 by rw [←hW1];exact (Below.refl _ _).alloc (Nat.le_refl _) _)
  have CD:=aa (fun (d:Nat) (os:Array Obj)=>Calls.regrown_of (d:=d) (os:=os) (w:=W1) (DT.out _))
  have r1:=fun d os=>cell_regrown (hr.cell 1) d os
  clear hW1 hr
  refine wp_region_quiet_below (by kernel_rfl) (by kernel_rfl) ?_
  repeat (go_big_quiet_step (exact CD.out _ _))
  refine wpQuiet_nil ?_
  intro _ hw'
  obtain ⟨⟨dq,osq⟩,hw''⟩:=hw'
  subst hw''
  go_wp2
  go_ret
  exact ⟨by rw [HV.out];first|done|rfl,HB.out.trans ((below_regrown _ dq osq).mono HB.out.size)⟩
 have e3:(k==3)=false:=beq_eq_false_iff_ne.2 h3
 by_cases h4:k=4
 ·subst h4
  have hb:=IK t
  by_cases wK:t=[48]
  ·rw [decide_eq_true wK] at hb
   have HV:=aa (show bj 4 t=[48,46,48] by rw [wK];rfl)
   clear wK h3 e3
   generalize ae t=s at*
   go_enter Tryz.func212,Tryz.ntmps212
   go_wp2
   go_ret
   exact ⟨by rw [HV.out];first|done|rfl,(Below.refl _ _).alloc (Nat.le_refl _) _⟩
  ·rw [decide_eq_false wK] at hb
   have HV:=aa (show bj 4 t=t from ub wK)
   clear wK h3 e3
   generalize hs:ae t=s at*
   have HS:=aa hs
   clear hs
   go_enter Tryz.func212,Tryz.ntmps212
   go_wp2
   go_ret
   exact ⟨by rw [HV.out,HS.out];first|done|rfl,(Below.refl _ _).alloc (Nat.le_refl _) _⟩
 have e4:(k==4)=false:=beq_eq_false_iff_ne.2 h4
 by_cases h5:k=5
 ·subst h5
  have QT:=aa (fun W:World=>AU t W hl)
  have HV:=aa (qH t)
  generalize ae t=s at*
  clear h3 h4
  go_enter Tryz.func212,Tryz.ntmps212
  go_wp2_with fail
  refine (QT.out _).mono ?_
  rintro e w1 ⟨rfl,hb⟩
  have HB:=aa (((Below.refl w.heap.size w).alloc (Nat.le_refl _) (.cells #[.int .i64 5,.string s,.int .i64 p] 66)).trans (hb.mono (by rw [World.size_alloc];exact Nat.le_succ _)))
  clear hb
  go_wp2
  go_ret
  exact ⟨by rw [HV.out];first|done|rfl,HB.out⟩
 have e5:(k==5)=false:=beq_eq_false_iff_ne.2 h5
 have HV:=aa (show bj k t=t by unfold bj;rw [if_neg h3,if_neg (fun h=>h4 h.1),if_neg h5])
 generalize hs:ae t=s at*
 have HS:=aa hs
 clear h3 h4 h5 hs
 go_enter Tryz.func212,Tryz.ntmps212
 go_wp2
 go_ret
 exact ⟨by rw [HV.out,HS.out];first|done|rfl,(Below.refl _ _).alloc (Nat.le_refl _) _⟩
theorem IL {k:Int} {t:List UInt8} {out:List Lx} {a:Nat} {er:Int} (h:eo (bj k t)=(out,a,er)) (he:er≠0):iD k t=false:=by
 unfold iD;rw [h,decide_eq_false he];rfl
theorem Ex {k:Int} {t:List UInt8} {out:List Lx} {a:Nat} {er:Int} (h:eo (bj k t)=(out,a,er)) (he:out.length≠1):iD k t=false:=by
 unfold iD;rw [h]
 match out,he with
 |[],_=>simp
 |[x],he=>exact absurd rfl he
 |_::_::_,_=>simp
theorem Ey {k:Int} {t:List UInt8} {x:Lx} {a:Nat} (h:eo (bj k t)=([x],a,0)):iD k t=(x.kind==k&&x.text==t):=by
 unfold iD;rw [h];simp
theorem Ez (k p:Int) (t:List UInt8) (w:World) (hl:t.length≤10000) (hG:Gl w):
 Calls Tryz.prog 211 #[Xq k t p] w fun e w'=>e=.returned (.bool (iD k t))∧Below w.heap.size w w':=by
 have Vh:=qI k t (by omega)
 have FO:=aa (fun W:World=>xh k p t W (by omega))
 obtain ⟨⟨out,a,er⟩,ln⟩:∃q,eo (bj k t)=q:=⟨_,rfl⟩
 have LX:=aa (fun (W:World) (hg:Gl W)=>Tp (bj k t) (by omega) out a er ln W hg)
 unfold Xq at FO⊢
 have HL:=aa ln
 have HG:=aa hG
 have Xr:∀x:Lx,((ae x.text).toList==(ae t).toList)=(x.text==t):=fun x=>O4 _ _
 have HXT:=aa Xr
 generalize ae (bj k t)=F at*
 generalize hs:ae t=s at*
 clear Vh ln hG hl Xr hs
 go_enter Tryz.func211,Tryz.ntmps211
 go_wp2_with fail
 obtain ⟨W1,hW1⟩:∃W1,w.alloc (.cells #[.int .i64 k,.string s,.int .i64 p] 66)=W1:=⟨_,rfl⟩
 rw [hW1]
 have gJ:=aa (show Row W1 w.heap.size 66 #[.int .i64 k,.string s,.int .i64 p] by rw [←hW1];exact Row.new _ _ _)
 have fu:=aa (show Below w.heap.size w W1 by rw [←hW1];exact (Below.refl _ _).alloc (Nat.le_refl _) _)
 clear hW1
 refine (FO.out _).mono ?_
 rintro e w2 ⟨rfl,hb⟩
 have nz:=aa (show Row w2 w.heap.size 66 #[.int .i64 k,.string s,.int .i64 p] from gJ.out.below hb gJ.out.lt)
 have iz:=aa (fu.out.trans (hb.mono fu.out.size))
 clear hb gJ fu
 go_wp2_with fail
 refine (LX.out _ (HG.out.below iz.out)).mono ?_
 rintro e w3 ⟨A,cap,rfl,pn,hb⟩
 have qa:=aa (show Row w3 w.heap.size 66 #[.int .i64 k,.string s,.int .i64 p] from nz.out.below hb nz.out.lt)
 have g_:=aa (iz.out.trans (hb.mono iz.out.size))
 have HSL:=aa pn
 clear hb pn nz iz
 by_cases he:er=0
 rotate_left
 ·have e1:(er==0)=false:=beq_eq_false_iff_ne.2 he
  have HV:=aa (IL HL.out he)
  clear he
  go_wp2_with fail
  go_quiet (fail)
  go_wp2
  go_ret
  exact ⟨by rw [HV.out];first|done|rfl,aq g_.out _⟩
 subst he
 by_cases h1:out.length=1
 rotate_left
 ·have e1:((out.length:Int)==1)=false:=beq_eq_false_iff_ne.2 (by omega)
  have HV:=aa (Ex HL.out h1)
  generalize out.length=n at*
  clear h1
  go_wp2_with fail
  go_quiet (fail)
  go_wp2
  go_ret
  exact ⟨by rw [HV.out];first|done|rfl,aq g_.out _⟩
 obtain ⟨x,rfl⟩:=List.length_eq_one_iff.1 h1
 obtain ⟨b,off,rfl,hat⟩:=HSL.out (show 0<1 by decide)
 obtain ⟨c0,c1,_⟩:=hat 0 (show 0<1 by decide)
 have hHV:=Ey HL.out
 have q0:w3.cell? ⟨b,off,none⟩=some (.int .i64 x.kind):=by simpa using c0
 have q1:w3.cell? ⟨b,off+1,none⟩=some (.string (ae x.text)):=by simpa using c1
 have r0:=qa.out.cell 0
 have r1:=qa.out.cell 1
 have Xr:=HXT.out x
 have HV:=aa hHV
 have el:([x]:List Lx).length=1:=rfl
 rw [el]
 clear hat c0 c1 h1 hHV
 generalize ae x.text=sx at*
 cases hk:(x.kind==k) with
 |false=>
  have HV:=aa (show iD k t=false by rw [HV.out,hk];rfl)
  go_wp2_with fail
  go_quiet (fail)
  go_wp2
  go_ret
  exact ⟨by rw [HV.out];first|done|rfl,aq g_.out _⟩
 |true=>
  cases ht:(x.text==t) with
  |false=>
   have HV:=aa (show iD k t=false by rw [HV.out,hk,ht];rfl)
   rw [ht] at Xr
   clear ht
   go_wp2_with fail
   go_quiet (fail)
   go_wp2
   go_ret
   exact ⟨by rw [HV.out];first|done|rfl,aq g_.out _⟩
  |true=>
   have HV:=aa (show iD k t=true by rw [HV.out,hk,ht];rfl)
   rw [ht] at Xr
   clear ht
   go_wp2_with fail
   go_quiet (fail)
   go_wp2
   go_ret
   exact ⟨by rw [HV.out];first|done|rfl,aq g_.out _⟩
end Go.Proofs.YtddoehnkgcbboaaGreatDoor
