/- A part of the proof that the last file tells. -/
import Derived.Test.YtddoehnkgcbboaaGreatDoorAgN
set_option maxHeartbeats 16000000
set_option maxRecDepth 100000
set_option linter.unusedVariables false
set_option linter.unusedSimpArgs false
namespace Go.Proofs.YtddoehnkgcbboaaGreatDoor
open Go.RowKit Go.Shelf
theorem U8 {c:UInt8} {r:List UInt8} (c2:bg c=true) (h:(fg (c::r)).err=0):
 ((fg (c::r)).kind=1→(∀d∈(fg (c::r)).text,bg d=true)∧1≤(fg (c::r)).text.length∧(fg (c::r)).text.length≤15)∧
 ((fg (c::r)).kind=4→∃l,(∀d,l.head? =some d→bg d=true)∧(cP l).2=0∧(fg (c::r)).text=(cP l).1):=by
 have AA:1≤bf bg (c::r):=by rw [ft c2];omega
 have hnl:=fA bg (c::r);have htk:=kT (p:=bg) (c::r)
 have Ca:∀k,0<k→∀d,((c::r).take k).head? =some d→bg d=true:=by
  intro k hk d hd
  cases k with
  |zero=>exact absurd hk (by decide)
  |succ k=>rw [List.take_succ_cons] at hd;cases hd;exact c2
 unfold fg tF at h⊢;generalize c::r=l at*;generalize bf bg l=n at*;generalize bY l n=C at*;generalize ic l (jS l n)=e2 at*;generalize hk:iD (l.drop n)=k at*;by_cases h1:0<C
 ·rw [if_pos h1] at h⊢;by_cases h2:bB l C=true
  ·rw [if_pos h2];exact ⟨fun e=>absurd e (show (3:Int)≠1 by decide),fun e=>absurd e (show (3:Int)≠4 by decide)⟩
  ·rw [if_neg h2] at h;exact absurd (aH h) (by decide)
 ·rw [if_neg h1] at h⊢;by_cases h3:n<e2
  ·rw [if_pos h3] at h⊢;by_cases h2:bB l e2=true
   ·rw [if_pos h2] at h⊢;exact ⟨fun e=>absurd e (show (4:Int)≠1 by decide),fun _=>⟨l.take e2,Ca e2 (by omega),h,rfl⟩⟩
   ·rw [if_neg h2] at h;exact absurd (aH h) (by decide)
  ·rw [if_neg h3] at h⊢;by_cases h4:bB l (n+k)=false
   ·rw [if_pos h4] at h;exact absurd (aH h) (by decide)
   ·rw [if_neg h4] at h⊢;by_cases h5:15<(bO (l.take n)).length
    ·rw [if_pos h5] at h;exact absurd (aH h) (by decide)
    ·rw [if_neg h5]
     have Qa:l.take n≠[]:=fun e=>by
      have:=congrArg List.length e;rw [cr,aK] at this;omega
     refine ⟨fun e=>?_,fun e=>?_⟩
     ·have uQ:k=0:=by
       have e:(if k=0 then 1 else 2:Int)=1:=e;by_cases h0:k=0
       ·exact h0
       ·rw [if_neg h0] at e;exact absurd e (by decide)
      subst uQ;show (∀d∈bO (l.take n)++(l.drop n).take 0,bg d=true)∧1≤(bO (l.take n)++(l.drop n).take 0).length∧(bO (l.take n)++(l.drop n).take 0).length≤15;rw [List.take_zero,dH];refine ⟨fun d hd=>?_,List.length_pos_iff.2 (uS _),by omega⟩
      rcases rI Qa d hd with rfl|hd
      ·rfl
      ·exact htk d hd
     ·exfalso;have e:(if k=0 then 1 else 2:Int)=4:=e
      split at e<;>exact absurd e (by decide)
theorem QB {l:List UInt8} (h:(aR l).err=0):
 ((aR l).kind=1→(∀d∈(aR l).text,bg d=true)∧1≤(aR l).text.length∧(aR l).text.length≤15)∧
 ((aR l).kind=4→∃m,(∀d,m.head? =some d→bg d=true)∧(cP m).2=0∧(aR l).text=(cP m).1):=by
 cases l with
 |nil=>exact absurd (aH h) (by decide)
 |cons c r=>
  rw [dU] at h⊢;by_cases c1:oC c=true∨c=92
  ·rw [if_pos c1] at h⊢;have hk:=(qi h).1;exact ⟨fun e=>absurd (hk.symm.trans e) (by decide),fun e=>absurd (hk.symm.trans e) (by decide)⟩
  ·rw [if_neg c1] at h⊢;by_cases c2:bg c=true
   ·rw [if_pos c2] at h⊢;exact U8 c2 h
   ·rw [if_neg c2] at h⊢;by_cases c3:c=34
    ·rw [if_pos c3,gX] at h⊢;unfold iO at h⊢
     split at h
     ·exact absurd (aH h) (by decide)
     ·rename_i hc;rw [if_neg hc];exact ⟨fun e=>absurd e (show (5:Int)≠1 by decide),fun e=>absurd e (show (5:Int)≠4 by decide)⟩
    ·rw [if_neg c3] at h⊢
     cases hs:dS eD (c::r) with
     |none=>rw [hs] at h;exact absurd (aH h) (by decide)
     |some u=>exact ⟨fun e=>absurd e (show (6:Int)≠1 by decide),fun e=>absurd e (show (6:Int)≠4 by decide)⟩
theorem E7:∀(ws:List (Nat×Wq)) (out:List Lx) (res:List Lx) (a:Nat) (P:Lx→Prop),(∀x∈out,P x)→(∀w∈ws,w.2.err=0→P ⟨w.2.kind,w.2.text,w.1⟩)→jz ws out=(res,a,0)→∀x∈res,P x
 |[],out,res,a,P,h1,_,h=>by unfold jz at h;cases h;exact h1
 |(b,w)::r,out,res,a,P,h1,h2,h=>by
  unfold jz at h
  split at h
  ·rename_i he
   split at h
   ·cases h
   ·refine E7 r _ res a P (fun x hx=>?_) (fun w hw=>h2 w (cL _ hw)) h
    rcases List.mem_append.1 hx with hx|hx
    ·exact h1 x hx
    ·rw [List.mem_singleton.1 hx];exact h2 (b,w) bX he
  ·rename_i he;exact absurd (Prod.mk.inj (Prod.mk.inj h).2).2 he
theorem yV (l:List UInt8):∀(k a:Nat),∀w∈ku l k a,w.2=aR (l.drop w.1)
 |0,a,w,h=>by cases h
 |k+1,a,w,h=>by
  unfold ku at h
  split at h
  ·rcases List.mem_cons.1 h with rfl|h
   ·rfl
   ·split at h
    ·exact yV l k _ w h
    ·cases h
  ·cases h
theorem E8 {x:Lx}:∀{out:List Lx},x∈out→(Kl x).length≤Mo out
 |y::r,h=>by
  have e:Mo (y::r)=(Kl y).length+1+Mo r:=rfl;rw [e]
  rcases List.mem_cons.1 h with rfl|h
  ·omega
  ·have:=E8 h;omega
theorem QC (c:UInt8):1≤(fM c).length:=by
 unfold fM
 split
 ·show 1≤2;decide
 ·split
  ·show 1≤4;decide
  ·exact aa 1
theorem KB:∀l:List UInt8,l.length≤(l.flatMap fM).length
 |[]=>aa _
 |c::t=>by
  have:=KB t;have:=QC c;rw [List.flatMap_cons,aw,aj];omega
theorem U9 (k:Int) (t:List UInt8):t.length≤(aY k t).length:=by
 unfold aY
 split
 ·rw [aw,aj,aj];omega
 ·split
  ·rename_i h;rw [h.2];decide
  ·split
   ·have:=mJ t;have:=KB t;omega
   ·exact aa _
theorem MM {l:List UInt8} (h:(df l).2.2=0):∀x∈(df l).1,UJ x:=by
 obtain ⟨out,a,er,hq⟩:∃out a er,df l=(out,a,er):=⟨_,_,_,rfl⟩
 rw [hq] at h⊢;have h:er=0:=h;subst h;obtain ⟨_,_,_,hlen,_⟩:=CA hq;unfold df at hq;by_cases hb:16384<l.length
 ·rw [if_pos hb] at hq;exact absurd (Prod.mk.inj (Prod.mk.inj hq).2).2 (by decide)
 ·rw [if_neg hb] at hq
  have hP:=E7 (jd l) [] out a (fun x=>(x.kind=1→(∀d∈x.text,bg d=true)∧1≤x.text.length∧x.text.length≤15)∧(x.kind=4→∃m,(∀d,m.head? =some d→bg d=true)∧(cP m).2=0∧x.text=(cP m).1))
   (fun x hx=>by cases hx) (fun w hw he=>by
    have e:=yV l _ _ w hw;rw [e] at he⊢
    exact QB he) hq
  intro x hx;have hx:x∈out:=hx;have h1:=E8 hx;have h2:=U9 x.kind x.text;have e:Kl x=aY x.kind x.text:=rfl;rw [e] at h1;exact ⟨(hP x hx).1,by omega,(hP x hx).2⟩
end Go.Proofs.YtddoehnkgcbboaaGreatDoor
namespace Go.Proofs.YtddoehnkgcbboaaGreatDoor
open Go.RowKit Go.Shelf Go.Sort
theorem rT {c:UInt8} {d:List UInt8} (h:c∈bh d):c∈d:=by
 unfold bh at h;rw [List.mem_reverse] at h;have h1:=(List.dropWhile_suffix (p:=(·==(48:UInt8))) (l:=(d.dropWhile (·==48)).reverse)).subset h;rw [List.mem_reverse] at h1;exact (List.dropWhile_suffix (p:=(·==(48:UInt8))) (l:=d)).subset h1
theorem E9 (s:ByteArray):cf s.data.toList=s:=by
 apply ByteArray.ext;simp [cf]
theorem YN {c:UInt8} (h:kq c=true):c≠45:=by
 rintro rfl;revert h;decide
theorem l8 {neg:Bool} {T v:List UInt8} {fi:Int} (hT:∀c∈T,kq c=true) (h:bF neg T fi=(cf v,0)):
 (T=[]∧v=[48])∨(T≠[]∧∃r:List UInt8,2≤r.length∧r.head? ≠some 45∧v=(if neg then 45::r else r)∧bF true T fi=(cf (45::r),0)∧bF false T fi=(cf r,0)):=by
 by_cases h0:T=[]
 ·unfold bF at h;rw [if_pos h0] at h;refine .inl ⟨h0,?_⟩;have h1:=congrArg (fun p:ByteArray×Int=>p.1.data.toList) h;exact h1.symm
 ·by_cases h1:17<T.length∨fi< -400∨400<fi
  ·unfold bF at h;rw [if_neg h0,if_pos h1] at h;exact absurd (congrArg Prod.snd h) (by show¬(9:Int)=0;decide)
  ·have key:∀b:Bool,bF b T fi=(cf ((if b then [45] else [])++(T.take 1++(if 1<T.length then 46::T.drop 1 else [])++[101]++(nA fi).data.toList)),0):=by
    intro b;unfold bF;rw [if_neg h0,if_neg h1]
    congr 1
    rw [show (⟨#[101]⟩:ByteArray)=cf [101] from rfl,xX]
    conv=>lhs;rhs;rw [←E9 (nA fi)]
    rw [xX];simp only [cT]
   refine .inr ⟨h0,T.take 1++(if 1<T.length then 46::T.drop 1 else [])++[101]++(nA fi).data.toList,?_,?_,?_,by rw [key];rfl,by rw [key];rfl⟩
   ·have:1≤T.length:=List.length_pos_iff.2 h0;simp only [aw,cr,aj,aK];omega
   ·cases T with
    |nil=>exact absurd rfl h0
    |cons c t=>
     have:=YN (hT c bX);simp only [List.take_succ_cons,List.take_zero,List.cons_append,List.nil_append,List.head?_cons];intro e;exact this (au e)
   ·have h2:=h.symm.trans (key neg);have h3:=congrArg (fun p:ByteArray×Int=>p.1.data.toList) h2;have h4:v=(if neg then [45] else [])++(T.take 1++(if 1<T.length then 46::T.drop 1 else [])++[101]++(nA fi).data.toList):=h3;rw [h4]
    cases neg<;>rfl
def aD (v:List UInt8):Int:=if lL v=true then (if v=[48] then 0 else if v.head? =some 45 then-1 else 1) else 0
def aQ (v:List UInt8):List UInt8:=if lL v=true then (if v=[48] then [48] else if v.head? =some 45 then v.tail else 45::v) else []
theorem n48 (r:List UInt8):(45:UInt8)::r≠[48]:=fun e=>absurd (List.cons.inj e).1 (by decide)
theorem r48 {r:List UInt8} (h:2≤r.length):r≠[48]:=fun e=>by rw [e] at h;exact absurd h (by decide)
theorem abf {neg:Bool} {T v:List UInt8} {fi:Int} (hv:lL v=true) (hT:∀c∈T,kq c=true) (h:bF neg T fi=(cf v,0)):
 aD v=if T.length=0 then 0 else if neg then-1 else 1:=by
 unfold aD;rw [if_pos hv]
 rcases l8 hT h with ⟨rfl,rfl⟩|⟨h0,r,hl,hh,Tq,_,_⟩
 ·rfl
 ·have WA:¬T.length=0:=fun e=>h0 (gH e);rw [if_neg WA]
  cases neg with
  |true=>
   have e:v=45::r:=Tq;subst e;rw [if_neg (n48 r),if_pos (show (45::r).head? =some 45 from rfl),if_pos rfl]
  |false=>
   have e:v=r:=Tq;subst e;rw [if_neg (r48 hl),if_neg hh,if_neg (by decide)]
theorem abg {neg:Bool} {T v:List UInt8} {fi:Int} (hv:lL v=true) (hT:∀c∈T,kq c=true) (h:bF neg T fi=(cf v,0)):
 bF (!neg&&decide (0<T.length)) T fi=(cf (aQ v),0):=by
 unfold aQ;rw [if_pos hv]
 rcases l8 hT h with ⟨rfl,rfl⟩|⟨h0,r,hl,hh,Tq,h1,h2⟩
 ·rw [if_pos rfl];exact (nI _ _ fi).trans (by rw [←nI neg fi fi];exact h)
 ·have WA:0<T.length:=List.length_pos_iff.2 h0;rw [decide_eq_true WA,Bool.and_true]
  cases neg with
  |true=>
   have e:v=45::r:=Tq;subst e;rw [if_neg (n48 r),if_pos (show (45::r).head? =some 45 from rfl)];exact h2
  |false=>
   have e:v=r:=Tq;subst e;rw [if_neg (r48 hl),if_neg hh];exact h1
theorem YO {v:List UInt8} (h:lL v=true):∃neg T fi,(∀c∈T,kq c=true)∧bF neg T fi=(cf v,0):=by
 have h1:=(D7 v).1 h;unfold bG at h1
 cases hp:fh v with
 |none=>rw [hp] at h1;exact absurd (congrArg Prod.snd h1) (by show¬(3:Int)=0;decide)
 |some p=>
  rw [hp] at h1;exact ⟨_,_,_,fun c hc=>mF hp c (rT hc),h1⟩
theorem U_ {v:List UInt8} (h:aD v<0):lN (aQ v)=v:=by
 by_cases hv:lL v=true
 ·obtain ⟨neg,T,fi,hT,hx⟩:=YO hv;unfold aD at h;unfold aQ;rw [if_pos hv] at h⊢
  rcases l8 hT hx with ⟨rfl,rfl⟩|⟨h0,r,hl,hh,Tq,h1,h2⟩
  ·rw [if_pos rfl] at h;exact absurd h (by decide)
  ·cases neg with
   |true=>
    have e:v=45::r:=Tq;subst e;rw [if_neg (n48 r),if_pos (show (45::r).head? =some 45 from rfl)];unfold lN;rw [if_neg (show (45::r).tail≠[48] from r48 hl)];rfl
   |false=>
    have e:v=r:=Tq;subst e;rw [if_neg (r48 hl),if_neg hh] at h;exact absurd h (by decide)
 ·unfold aD at h;rw [if_neg hv] at h;exact absurd h (by decide)
theorem U' {v l:List UInt8} (hd:∀c,l.head? =some c→bg c=true) (h:(cP l).2=0) (e:v=(cP l).1):lL v=true∧aQ v=lN v:=by
 have hv:lL v=true:=by rw [e];exact lX l h
 refine ⟨hv,?_⟩
 have hp:bG 100000 l=(cf v,0):=by
  rw [e];unfold cP at h⊢;rw [←h];show _=(cf (bG 100000 l).1.data.toList,(bG 100000 l).2);rw [E9]
 unfold aQ lN;rw [if_pos hv];unfold bG at hp
 cases hs:fh l with
 |none=>rw [hs] at hp;exact absurd (congrArg Prod.snd hp) (by show¬(3:Int)=0;decide)
 |some p=>
  rw [hs] at hp;have hp':bF p.1 (bh (p.2.1++p.2.2.1)) _=(cf v,0):=hp
  have hneg:p.1=false:=by
   rw [yx hs];unfold bZ;rw [if_neg (fun e=>by have:=hd 45 e;revert this;decide)]
   split<;>rfl
  rw [hneg] at hp'
  rcases l8 (fun c hc=>mF hs c (rT hc)) hp' with ⟨_,rfl⟩|⟨_,r,hl,hh,Tq,_,_⟩
  ·rfl
  ·have e:v=r:=Tq;subst e;rw [if_neg (r48 hl),if_neg hh,if_neg (r48 hl)]
theorem YP (x:UInt8):mh x≠.bool false∧mh x≠.slice none 0 0∧mh x≠.int .i64 0:=by
 unfold mh
 refine ⟨?_,?_,?_⟩<;>(intro e;cases e)
theorem YQ {W:World} {A:Option Addr} {l:List UInt8} (h:Sl mh W A l) {g:Nat} {t:TypeId} (hr:Row W g t #[.bool false,.slice none 0 0,.int .i64 0]) (a b c:Value):
 Sl mh (((W.setCell ⟨g,0,none⟩ a).setCell ⟨g,1,none⟩ b).setCell ⟨g,2,none⟩ c) A l:=by
 intro hp;obtain ⟨k,off,rfl,hat⟩:=h hp
 have hne:k≠g:=by
  rintro rfl;have h0:=hat 0 hp;rw [hr.cell] at h0;obtain ⟨x1,x2,x3⟩:=YP l[0]
  match off,h0 with
  |0,h0=>exact x1 (au h0).symm
  |1,h0=>exact x2 (au h0).symm
  |2,h0=>exact x3 (au h0).symm
  |o+3,h0=>simp at h0
 have hf:∀o,(((W.setCell ⟨g,0,none⟩ a).setCell ⟨g,1,none⟩ b).setCell ⟨g,2,none⟩ c).cell? ⟨k,o,none⟩=W.cell? ⟨k,o,none⟩:=fun o=>World.cell?_of_block (((Below.heap_setCell _ _ _ _ hne).trans (Below.heap_setCell _ _ _ _ hne)).trans (Below.heap_setCell _ _ _ _ hne));exact ⟨k,off,rfl,fun i hi=>(hf _).trans (hat i hi)⟩
def Va (v:Bool) (lb:ByteArray) (w:World) (e:Ending) (w':World):Prop:=
 (∃neg A n cap ex,e=.returned (.tuple #[jo neg A n cap ex,.bool v])∧(v=true→∃T:List UInt8,n=T.length∧T.length≤128∧n≤cap∧cap≤maxLen∧-1000000000≤ex∧ex≤1000000000∧Sl mh w' A T∧(∀c∈T,kq c=true)∧bF neg T (ex+n-1)=(lb,0)))∧Below w.heap.size w w'
theorem pF (l:List UInt8) (w:World) (hz:l.length≤1000000) (hg:Gl w):
 Calls Tryz.prog 104 #[.string (cf l)] w (Va (lL l) (cf l) w):=by
 have SC:=hide (fun W:World=>Eo l W hz);have G:=hide hg;clear hg;have Tt:=H_ l
 obtain ⟨R,hR⟩:∃R,bG 100000 l=R:=⟨_,rfl⟩
 have HR:=hide hR;rw [hR] at Tt
 obtain ⟨v,hv⟩:∃v,lL l=v:=⟨_,rfl⟩
 rw [hv] at Tt⊢;have Hcp:=hide Tt;clear hR hv Tt
 obtain ⟨lb,hlb⟩:∃lb,cf l=lb:=⟨_,rfl⟩
 rw [hlb] at Hcp SC⊢;clear hlb;have R0:=hide (Row.new w 131 #[.bool false,.slice none 0 0,.int .i64 0]);have B0:=hide ((af w.heap.size w).alloc (aa _) (.cells #[.bool false,.slice none 0 0,.int .i64 0] 131));go_enter Tryz.func104,Tryz.ntmps104;go_wp2_with fail;refine (SC.o _).mono ?_;rintro e w1 ⟨hb,neg,A,n,cap,ex,ok,rfl,hno,Ps⟩;have B1:=hide (B0.o.trans (hb.mono B0.o.size));have R1:=hide (R0.o.below hb R0.o.lt);have Pt:=hide Ps;have Ww:=hide hno;clear hb Ps hno R0 B0;unfold jo;have B2:=hide (B1.o.alloc B1.o.size (.cells #[.bool neg,.slice A n cap,.int .i64 ex] 131));have R2:=hide (R1.o.alloc (.cells #[.bool neg,.slice A n cap,.int .i64 ex] 131));have N2:=hide (Row.new w1 131 #[.bool neg,.slice A n cap,.int .i64 ex]);have hz0:(w1.alloc (.cells #[.bool neg,.slice A n cap,.int .i64 ex] 131)).cell? ⟨w.heap.size,0,none⟩=some (.bool false):=R2.o.cell 0;have hz1:(w1.alloc (.cells #[.bool neg,.slice A n cap,.int .i64 ex] 131)).cell? ⟨w.heap.size,1,none⟩=some (.slice none 0 0):=R2.o.cell 1;have hz2:(w1.alloc (.cells #[.bool neg,.slice A n cap,.int .i64 ex] 131)).cell? ⟨w.heap.size,2,none⟩=some (.int .i64 0):=R2.o.cell 2;have hf0:(w1.alloc (.cells #[.bool neg,.slice A n cap,.int .i64 ex] 131)).frozen? ⟨w.heap.size,0,none⟩=false:=R2.o.frozen 0;have hf1:(w1.alloc (.cells #[.bool neg,.slice A n cap,.int .i64 ex] 131)).frozen? ⟨w.heap.size,1,none⟩=false:=R2.o.frozen 1;have hf2:(w1.alloc (.cells #[.bool neg,.slice A n cap,.int .i64 ex] 131)).frozen? ⟨w.heap.size,2,none⟩=false:=R2.o.frozen 2
 cases hsc:fh l with
 |none=>
  obtain rfl:=Ww.o hsc
  have hRn:R=(⟨#[]⟩,3):=by rw [←HR.o];unfold bG;rw [hsc]
  have hv:v=false:=by rw [Hcp.o,hRn];rfl
  subst hv;have RF:=hide (((R2.o.bU 0 (.bool false)).bU 1 (.slice none 0 0)).bU 2 (.int .i64 0));have BF:=hide (((B2.o.setCell (p:=⟨w.heap.size,0,none⟩) (aa _) (.bool false)).setCell (p:=⟨w.heap.size,1,none⟩) (aa _) (.slice none 0 0)).setCell (p:=⟨w.heap.size,2,none⟩) (aa _) (.int .i64 0));clear hsc hRn;go_upto_region 3 with fail;generalize w1.alloc (.cells #[.bool neg,.slice A n cap,.int .i64 ex] 131)=w2 at*;go_wp2;exact bodyPost_ret (v:=.tuple #[jo false none 0 0 0,.bool false]) (dx rfl _ _ w.heap.size 131 _ _ _ (.bool false) rfl rfl RF.o Tryz.underlying131 rfl (by kernel_rfl)) rfl ⟨⟨false,none,0,0,0,rfl,fun h=>by cases h⟩,BF.o⟩
 |some p=>
  obtain ⟨rfl,hn,hsl,hnc,hcm,h1,h2⟩:=Pt.o p hsc;have heq:=tE hsc hn h1;obtain ⟨x1,x2⟩:=AV hsc hn h1 h2;have Yi:=uP hsc
  obtain ⟨T,hT⟩:∃T,bh (p.2.1++p.2.2.1)=T:=⟨_,rfl⟩
  rw [hT] at hn hsl heq Yi;have TX:=hide (fun (W:World) (h:Sl mh W A T) (hg:Gl W)=>xY neg A n cap T ex W hn (by omega) hnc hcm x1 x2 h hg);rw [←heq,HR.o] at TX;have Hsl:=hide (hsl.below ((af w1.heap.size w1).alloc (aa _) (.cells #[.bool neg,.slice A n cap,.int .i64 ex] 131)));unfold jo at TX;have acO:=mF hsc;have YR:=hide (heq.symm.trans HR.o);have Hn2:=hide hn;have Hx:=hide (And.intro x1 x2);have Hc2:=hide (And.intro hnc hcm);have Hd:=ae (∀c∈T,kq c=true) (by rw [←hT];exact fun c hc=>acO c (rT hc));obtain ⟨R1b,Re⟩:=R;clear hsc hn hsl heq h1 h2 hT Pt Ww;go_wp2_with fail;refine (TX.o _ Hsl.o (G.o.below B2.o)).mono ?_;rintro e w3 ⟨rfl,hb⟩;have B3:=hide (B2.o.trans (hb.mono B2.o.size));have Hs3:=hide (Hsl.o.below hb);have R3:=hide (R2.o.below hb R2.o.lt);have N3:=hide (N2.o.below hb N2.o.lt);clear hb hz0 hz1 hz2 hf0 hf1 hf2;have n0:w3.cell? ⟨w1.heap.size,0,none⟩=some (.bool neg):=N3.o.cell 0;have n1:w3.cell? ⟨w1.heap.size,1,none⟩=some (.slice A n cap):=N3.o.cell 1;have n2:w3.cell? ⟨w1.heap.size,2,none⟩=some (.int .i64 ex):=N3.o.cell 2;have hz0:w3.cell? ⟨w.heap.size,0,none⟩=some (.bool false):=R3.o.cell 0;have hz1:w3.cell? ⟨w.heap.size,1,none⟩=some (.slice none 0 0):=R3.o.cell 1;have hz2:w3.cell? ⟨w.heap.size,2,none⟩=some (.int .i64 0):=R3.o.cell 2;have hf0:w3.frozen? ⟨w.heap.size,0,none⟩=false:=R3.o.frozen 0;have hf1:w3.frozen? ⟨w.heap.size,1,none⟩=false:=R3.o.frozen 1;have hf2:w3.frozen? ⟨w.heap.size,2,none⟩=false:=R3.o.frozen 2;have RF:=hide (((R3.o.bU 0 (.bool neg)).bU 1 (.slice A n cap)).bU 2 (.int .i64 ex));have BF:=hide (((B3.o.setCell (p:=⟨w.heap.size,0,none⟩) (aa _) (.bool neg)).setCell (p:=⟨w.heap.size,1,none⟩) (aa _) (.slice A n cap)).setCell (p:=⟨w.heap.size,2,none⟩) (aa _) (.int .i64 ex));have Tt:v=(decide (Re=0)&&decide (R1b=lb)):=Hcp.o;by_cases hRe:Re=0
  ·rw [decide_eq_true hRe,Bool.true_and] at Tt;have abh:=hide Tt;subst hRe;clear Tt;go_wp2;exact bodyPost_ret (v:=.tuple #[jo neg A n cap ex,.bool v]) (dx rfl _ _ w.heap.size 131 _ _ _ (.bool v) (by rw [abh.o,←H9];simp) rfl RF.o Tryz.underlying131 rfl (by kernel_rfl)) rfl ⟨⟨neg,A,n,cap,ex,rfl,fun hv=>⟨T,Hn2.o,Yi,Hc2.o.1,Hc2.o.2,Hx.o.1,Hx.o.2,YQ Hs3.o R3.o _ _ _,Hd.o,by rw [YR.o,of_decide_eq_true (abh.o.symm.trans hv)]⟩⟩,BF.o⟩
  ·rw [decide_eq_false hRe,Bool.false_and] at Tt;subst Tt;have adU:(Re==0)=false:=aP.2 hRe;go_wp2;exact bodyPost_ret (v:=.tuple #[jo neg A n cap ex,.bool false]) (dx rfl _ _ w.heap.size 131 _ _ _ (.bool false) rfl rfl RF.o Tryz.underlying131 rfl (by kernel_rfl)) rfl ⟨⟨neg,A,n,cap,ex,rfl,fun h=>by cases h⟩,BF.o⟩
theorem E_ (neg:Bool) (A:Option Addr) (n cap:Nat) (ex:Int) (w:World):
 Calls Tryz.prog 105 #[jo neg A n cap ex] w fun e w'=>e=.returned (.int .i64 (if n=0 then 0 else if neg then-1 else 1))∧Below w.heap.size w w':=by
 have hb:=(af w.heap.size w).alloc (aa _) (.cells #[.bool neg,.slice A n cap,.int .i64 ex] 131);have B:=hide hb;clear hb;unfold jo;by_cases h0:n=0
 ·subst h0;go_enter Tryz.func105,Tryz.ntmps105;go_wp2;go_ret;exact ⟨rfl,B.o⟩
 ·have h1:((n:Int)==0)=false:=aP.2 (by omega);rw [if_neg h0]
  cases neg with
  |true=>
   go_enter Tryz.func105,Tryz.ntmps105;go_wp2;go_ret;exact ⟨rfl,B.o⟩
  |false=>
   go_enter Tryz.func105,Tryz.ntmps105;go_wp2;go_ret;exact ⟨rfl,B.o⟩
theorem MO (neg:Bool) (A:Option Addr) (n cap:Nat) (ex:Int) (w:World):
 Calls Tryz.prog 210 #[jo neg A n cap ex] w fun e w'=>e=.returned (jo (!neg&&decide (0<n)) A n cap ex)∧Below w.heap.size w w':=by
 have B:=hide (((af w.heap.size w).alloc (aa _) (.cells #[.bool neg,.slice A n cap,.int .i64 ex] 131)).alloc (by simp) (.cells #[.bool false,.slice none 0 0,.int .i64 0] 131));unfold jo;go_enter Tryz.func210,Tryz.ntmps210
 cases neg with
 |true=>
  go_wp2;exact bodyPost_ret (v:=.agg #[.bool false,.slice A n cap,.int .i64 ex]) (ai rfl _ _ (w.heap.size+1) 131 _ _ _ rfl (heap_alloc2_new w _ _) Tryz.underlying131 rfl (by kernel_rfl)) rfl ⟨rfl,((af w.heap.size w).alloc (aa _) _).alloc (by simp) _⟩
 |false=>
  go_wp2;exact bodyPost_ret (v:=.agg #[.bool (decide (0<n)),.slice A n cap,.int .i64 ex]) (ai rfl _ _ (w.heap.size+1) 131 _ _ _ rfl (heap_alloc2_new w _ _) Tryz.underlying131 rfl (by kernel_rfl)) rfl ⟨rfl,((af w.heap.size w).alloc (aa _) _).alloc (by simp) _⟩
theorem Fa (l:List UInt8) (w:World) (hz:l.length≤1000000) (hg:Gl w):
 Calls Tryz.prog 69 #[.string (cf l)] w fun e w'=>e=.returned (.int .i64 (aD l))∧Below w.heap.size w w':=by
 have CN:=hide (pF l w hz hg);have SE:=hide (fun (hv:lL l=true) (neg:Bool) (T:List UInt8) (fi:Int) (hT:∀c∈T,kq c=true) (h:bF neg T fi=(cf l,0))=>abf hv hT h);have S0:=hide (fun (hv:lL l=false)=>show aD l=0 from by unfold aD;rw [if_neg (by rw [hv];decide)]);clear hg;generalize aD l=R at*;generalize lL l=v at*;generalize cf l=lb at*;go_enter Tryz.func69,Tryz.ntmps69;go_wp2_with fail;refine CN.o.mono ?_;rintro e w1 ⟨⟨neg,A,n,cap,ex,rfl,hT⟩,hb⟩;have B1:=hide hb;have HT:=hide hT;clear hb hT
 cases v with
 |false=>
  have HR:=hide (S0.o rfl);clear S0 SE HT;unfold jo;go_wp2;go_ret;exact ⟨by rw [HR.o];rfl,B1.o.alloc B1.o.size _⟩
 |true=>
  obtain ⟨T,hn,_,_,_,_,_,_,hd,hx⟩:=HT.o rfl;have HR:=hide (SE.o rfl neg T _ hd hx);have HN:=hide hn;have B2:=hide (fun o=>B1.o.alloc B1.o.size o);have SG:=hide (fun W:World=>E_ neg A n cap ex W);rw [←HN.o] at HR
  obtain ⟨sv,KC⟩:∃sv:Int,(if n=0 then (0:Int) else if neg then-1 else 1)=sv:=⟨_,rfl⟩
  rw [KC] at SG HR;clear S0 SE HT hn hd hx KC;unfold jo at SG⊢;go_wp2_with fail;refine (SG.o _).mono ?_;rintro e w2 ⟨rfl,hb2⟩;have iM:=hide ((B2.o _).trans (hb2.mono (B2.o _).size));clear hb2;go_wp2;go_ret;exact ⟨by rw [HR.o];rfl,iM.o⟩
theorem yX (l:List UInt8) (w:World) (hz:l.length≤1000000) (hg:Gl w):
 Calls Tryz.prog 183 #[.string (cf l)] w fun e w'=>e=.returned (.string (cf (aQ l)))∧Below w.heap.size w w':=by
 have CN:=hide (pF l w hz hg);have SE:=hide (fun (hv:lL l=true) (neg:Bool) (T:List UInt8) (fi:Int) (hT:∀c∈T,kq c=true) (h:bF neg T fi=(cf l,0))=>abg hv hT h);have S0:=hide (fun (hv:lL l=false)=>show aQ l=[] from by unfold aQ;rw [if_neg (by rw [hv];decide)]);have G:=hide hg;clear hg;generalize aQ l=R at*;generalize lL l=v at*;generalize cf l=lb at*;go_enter Tryz.func183,Tryz.ntmps183;go_wp2_with fail;refine CN.o.mono ?_;rintro e w1 ⟨⟨neg,A,n,cap,ex,rfl,hT⟩,hb⟩;have B1:=hide hb;have HT:=hide hT;clear hb hT
 cases v with
 |false=>
  have HR:=hide (S0.o rfl);clear S0 SE HT;unfold jo;go_wp2;go_ret;exact ⟨by rw [HR.o];rfl,B1.o.alloc B1.o.size _⟩
 |true=>
  obtain ⟨T,hn,hT1,hc,hcm,x1,x2,hsl,hd,hx⟩:=HT.o rfl;have HR:=hide (SE.o rfl neg T _ hd hx);have HS:=hide hsl;have B2:=hide (fun o=>B1.o.alloc B1.o.size o);have MN:=hide (fun W:World=>MO neg A n cap ex W);have TX:=hide (fun (W:World) (h:Sl mh W A T) (hg:Gl W)=>xY (!neg&&decide (0<n)) A n cap T ex W hn (by omega) hc hcm x1 x2 h hg);rw [←hn] at HR;rw [HR.o] at TX
  obtain ⟨ng',ko⟩:∃b,(!neg&&decide (0<n))=b:=⟨_,rfl⟩
  rw [ko] at MN TX;clear S0 SE HT hn hd hx hT1 hc hcm x1 x2 hsl HR ko;unfold jo at MN TX⊢;go_wp2_with fail;refine (MN.o _).mono ?_;rintro e w2 ⟨rfl,hb2⟩;have iM:=hide ((B2.o _).trans (hb2.mono (B2.o _).size));have ur:=hide ((HS.o.below ((af w1.heap.size w1).alloc (aa _) (.cells #[.bool neg,.slice A n cap,.int .i64 ex] 131))).below hb2);clear hb2;go_wp2_with fail;refine (TX.o _ ur.o (G.o.below iM.o)).mono ?_;rintro e w3 ⟨rfl,hb3⟩;have nk:=hide (iM.o.trans (hb3.mono iM.o.size));clear hb3;go_wp2;go_ret;exact ⟨rfl,nk.o⟩
theorem Vb {p:PS} (h:∀x∈p.L,UJ x):wR p:=fun x hx hk W hg=>by
 obtain ⟨l,hd,h2,e⟩:=(h x hx).real hk;have h3:=(U' hd h2 e).2;have:=yX x.text W (h x hx).len hg;rw [h3] at this;exact this
theorem MP (v:List UInt8) (h:aD v<0) (_:bL [⟨4,aQ v,0⟩]≠[]):lN (aQ v)=v:=U_ h
end Go.Proofs.YtddoehnkgcbboaaGreatDoor
namespace Go.Proofs.YtddoehnkgcbboaaGreatDoor
open Go.RowKit Go.Shelf Go.Maps
theorem Fb (k:Int):l7 fk k=oH k:=by
 unfold l7 fk oH;simp only [List.find?_cons,List.find?_nil];by_cases h1:k=37
 ·subst h1;rfl
 by_cases h2:k=38
 ·subst h2;rfl
 by_cases h3:k=39
 ·subst h3;rfl
 by_cases h4:k=40
 ·subst h4;rfl
 by_cases h5:k=41
 ·subst h5;rfl
 by_cases h6:k=43
 ·subst h6;rfl
 rw [if_neg h1,if_neg h2,if_neg h3,if_neg h4,if_neg h5,if_neg h6];simp only [decide_eq_false (Ne.symm h1),decide_eq_false (Ne.symm h2),decide_eq_false (Ne.symm h3),decide_eq_false (Ne.symm h4),decide_eq_false (Ne.symm h5),decide_eq_false (Ne.symm h6)];rfl
theorem vX:gF fk:=by unfold gF fk;decide
theorem IM:gF fW:=by unfold gF fW;decide
theorem Fe:gF dV:=by unfold gF dV;decide
def Gv (kd:Int) (vl:List UInt8):Int:=iz aD (.mk kd 0 [] vl 0 0 0 0 [])
theorem CV (n:Nd):iz aD n=Gv n.kind n.value:=by cases n;rfl
theorem qo {W1 w5:World} (hb:Below W1.heap.size W1.drew w5) (cs:Array Value) (T:TypeId):Hid (Row (w5.alloc (.cells cs T)) w5.heap.size T cs)∧Hid (Below W1.heap.size W1 (w5.alloc (.cells cs T))):=by
 have h1:Below W1.heap.size W1 w5:=⟨hb.os,hb.tape,hb.output,hb.size,hb.block⟩
 exact ⟨Row.new w5 T cs,h1.alloc h1.size _⟩
theorem qp {W1 w5:World} {o:Obj} {T:TypeId} {z0 z1 z2 z3:Value} (hb:Below (W1.alloc o).heap.size (W1.alloc o).drew w5) (hr:Row w5 W1.heap.size T #[z0,z1,z2,z3]) (a b c d:Value):
 Hid (Row ((((w5.setCell ⟨W1.heap.size,0,none⟩ a).setCell ⟨W1.heap.size,1,none⟩ b).setCell ⟨W1.heap.size,2,none⟩ c).setCell ⟨W1.heap.size,3,none⟩ d) W1.heap.size T #[a,b,c,d])∧
 Hid (Below W1.heap.size W1 ((((w5.setCell ⟨W1.heap.size,0,none⟩ a).setCell ⟨W1.heap.size,1,none⟩ b).setCell ⟨W1.heap.size,2,none⟩ c).setCell ⟨W1.heap.size,3,none⟩ d)):=by
 have h0:Below (W1.alloc o).heap.size (W1.alloc o) w5:=⟨hb.os,hb.tape,hb.output,hb.size,hb.block⟩
 have h1:Below W1.heap.size W1 w5:=((af _ W1).alloc (aa _) o).trans (h0.mono (by rw [aF];omega));have r0:Row (w5.setCell ⟨W1.heap.size,0,none⟩ a) W1.heap.size T #[a,z1,z2,z3]:=hr.bU 0 a;have r1:Row ((w5.setCell ⟨W1.heap.size,0,none⟩ a).setCell ⟨W1.heap.size,1,none⟩ b) W1.heap.size T #[a,b,z2,z3]:=r0.bU 1 b;have r2:Row (((w5.setCell ⟨W1.heap.size,0,none⟩ a).setCell ⟨W1.heap.size,1,none⟩ b).setCell ⟨W1.heap.size,2,none⟩ c) W1.heap.size T #[a,b,c,z3]:=r1.bU 2 c;have r3:Row ((((w5.setCell ⟨W1.heap.size,0,none⟩ a).setCell ⟨W1.heap.size,1,none⟩ b).setCell ⟨W1.heap.size,2,none⟩ c).setCell ⟨W1.heap.size,3,none⟩ d) W1.heap.size T #[a,b,c,d]:=r2.bU 3 d;exact ⟨r3,(((h1.setCell (p:=⟨W1.heap.size,0,none⟩) (aa _) a).setCell (p:=⟨W1.heap.size,1,none⟩) (aa _) b).setCell (p:=⟨W1.heap.size,2,none⟩) (aa _) c).setCell (p:=⟨W1.heap.size,3,none⟩) (aa _) d⟩
theorem mQ {W1 w5 w6:World} (h:Below W1.heap.size W1.drew w5) (k:Below w5.heap.size w5 w6):Below W1.heap.size W1 w6:=
 (show Below W1.heap.size W1 w5 from ⟨h.os,h.tape,h.output,h.size,h.block⟩).trans (k.mono h.size)
theorem Ff {kd:Int} {vl:List UInt8} (hx:gq kd=none):Gv kd vl=if kd=28 then 2 else if kd=8∨kd=6 then 8 else if kd=4∧aD vl<0 then 8 else if kd=45 then 11 else if kd=47 then 12 else if kd=44 then 13 else if (oH kd).isSome∨kd=42 then 13 else 9:=by
 unfold Gv iz;show (match gq kd with|some x=>x.2.1|none=>_)=_;rw [hx];rfl
theorem Fg {kd:Int} {vl:List UInt8} (hx:gq kd=none) (h:¬(kd=28∨kd=8∨kd=6∨kd=45∨kd=47∨kd=44)) (h4:¬(kd=4∧aD vl<0)):Gv kd vl=if (oH kd).isSome∨kd=42 then 13 else 9:=by
 rw [Ff hx,if_neg (by omega),if_neg (by omega),if_neg h4,if_neg (by omega),if_neg (by omega),if_neg (by omega)]
theorem qq (kd a0 xa xb xc xd:Int) (nm vl:List UInt8) (s:Value) (w:World) (hk:In64 kd) (hv:vl.length≤1000000) (hg:Gl w):
 Calls Tryz.prog 44 #[.agg (aB kd a0 nm vl xa xb xc xd s).toArray] w fun e w'=>e=.returned (.int .i64 (Gv kd vl))∧Below w.heap.size w w':=by
 obtain ⟨R,hR⟩:∃R,R=Gv kd vl:=⟨_,rfl⟩
 obtain ⟨sv,KC⟩:∃sv,sv=aD vl:=⟨_,rfl⟩
 obtain ⟨X0,x1,x2,x3,ok,hE,hV⟩:∃X0 x1 x2 x3 ok,MJ kd=.tuple #[.agg #[.string X0,.int .i64 x1,.int .i64 x2,.int .i64 x3],.bool ok]∧(ok=true→x1=R)∧(ok=false→gq kd=none):=by
  rw [hR];unfold MJ
  cases hx:gq kd with
  |some x=>
   refine ⟨_,_,_,_,_,rfl,fun _=>?_,nofun⟩;unfold Gv iz;show _=(match gq kd with|some x=>_|none=>_);rw [hx]
  |none=>exact ⟨_,_,_,_,_,rfl,nofun,fun _=>rfl⟩
 obtain ⟨Y,ev,hWE,hev⟩:∃Y ev,Qw (oH kd)=.returned (.tuple #[.string Y,.bool ev])∧ev=(oH kd).isSome:=by
  cases oH kd with
  |some x=>exact ⟨_,_,rfl,rfl⟩
  |none=>exact ⟨_,_,rfl,rfl⟩
 have SG:=hide (fun (W:World) (h:Gl W)=>show Calls Tryz.prog 69 #[.string (ag vl)] W fun e w'=>e=.returned (.int .i64 sv)∧Below W.heap.size W w' from by rw [KC];exact Fa vl W hv h);have EV:=hide (fun W:World=>rR W)
 have WD:=hide (fun (W:World) (bm:Nat) (h:nR W bm fk)=>show Calls Tryz.prog 70 #[.map (some bm),.int .i64 kd] W fun e w'=>e=.returned (.tuple #[.string Y,.bool ev])∧Below W.heap.size W w' from by
  have:=nV bm fk kd W h vX;rw [Fb,hWE] at this
  exact this)
 have INF:=hide (fun W:World=>vW W);have LK:=hide (fun (W:World) (r:Nat) (h:pE W r)=>show (Instr.lookup 102 (.map (some r)) (.int .i64 kd) true).run Tryz.prog W=.ok (.tuple #[.agg #[.string X0,.int .i64 x1,.int .i64 x2,.int .i64 x3],.bool ok]) W from by rw [←hE];exact E6 h hk);have HR:=hide (Row.new w 25 (aB kd a0 nm vl xa xb xc xd s).toArray);have HB:=hide ((af w.heap.size w).alloc (aa _) (.cells (aB kd a0 nm vl xa xb xc xd s).toArray 25));have HG:=hide hg;have HV:=hide hV;have HRV:=hide hR;have HSV:=hide KC;have HEV:=hide hev;rw [←hR];unfold aB at HR HB⊢
 obtain ⟨W1,hW1⟩:∃W1,W1=w.alloc (.cells [Value.int .i64 kd,.int .i64 a0,.string (ag nm),.string (ag vl),.int .i64 xa,.int .i64 xb,.int .i64 xc,.int .i64 xd,s].toArray 25):=⟨_,rfl⟩
 rw [←hW1] at HR HB;have hc0:W1.cell? ⟨w.heap.size,0,none⟩=some (.int .i64 kd):=HR.o.cell 0;have hz1:w.heap.size<W1.heap.size:=HR.o.lt;have jq:=hide hW1.symm;clear hE hW1 hR KC hV hWE hev hg;go_enter Tryz.func44,Tryz.ntmps44;go_upto_region 1 with fail;rw [jq.o];go_cut [3,4] (fun tp tk wx=>∃g:Nat,tp=.pointer (some ⟨g,0,none⟩)∧tk=.bool ok∧Hid (Row wx g 100 #[.string X0,.int .i64 x1,.int .i64 x2,.int .i64 x3])∧Hid (Below W1.heap.size W1 wx))
 case first=>
  have FA:=hide (fun (W W':World) (hb:Below W.heap.size W W') (hz:w.heap.size<W.heap.size) (he:W.heap[w.heap.size]? =W1.heap[w.heap.size]?)=>show W'.cell? ⟨w.heap.size,0,none⟩=some (.int .i64 kd) from by
   rw [World.cell?_of_block ((hb.block _ hz).trans he)];exact hc0)
  have FB:=hide (fun (o:Obj) (W':World) (hb:Below (W1.alloc o).heap.size (W1.alloc o).drew W')=>show W'.cell? ⟨w.heap.size,0,none⟩=some (.int .i64 kd) from FA.o (W1.alloc o).drew W' hb (by show _<(W1.alloc o).heap.size;rw [aF];omega) (Below.heap_alloc _ _ _ hz1));have LKC:=hide (fun (o:Obj) (W:World) (h:pE W (W1.alloc o).heap.size)=>show pE W (W1.heap.size+1) from by rw [aF] at h;exact h)
  have FR:=hide (fun (W':World) (hb:Below (W1.alloc (.cells #[.string {data:=#[]},.int .i64 0,.int .i64 0,.int .i64 0] 100)).heap.size (W1.alloc (.cells #[.string {data:=#[]},.int .i64 0,.int .i64 0,.int .i64 0] 100)).drew W')=>show (W'.cell? ⟨W1.heap.size,0,none⟩=some (.string {data:=#[]})∧W'.cell? ⟨W1.heap.size,1,none⟩=some (.int .i64 0)∧W'.cell? ⟨W1.heap.size,2,none⟩=some (.int .i64 0)∧W'.cell? ⟨W1.heap.size,3,none⟩=some (.int .i64 0))∧(W'.frozen? ⟨W1.heap.size,0,none⟩=false∧W'.frozen? ⟨W1.heap.size,1,none⟩=false∧W'.frozen? ⟨W1.heap.size,2,none⟩=false∧W'.frozen? ⟨W1.heap.size,3,none⟩=false)∧Hid (Row W' W1.heap.size 100 #[.string {data:=#[]},.int .i64 0,.int .i64 0,.int .i64 0]) from by
   have hr:=(Row.new W1 100 #[.string {data:=#[]},.int .i64 0,.int .i64 0,.int .i64 0]).drew.below hb (by rw [aF];omega)
   exact ⟨⟨hr.cell 0,hr.cell 1,hr.cell 2,hr.cell 3⟩,⟨hr.frozen 0,hr.frozen 1,hr.frozen 2,hr.frozen 3⟩,hr⟩)
  have ew:=World.new_ne W1 ⟨w.heap.size,0,none⟩ hc0;have LKA:=hide (fun (W:World) (h:pE W W1.heap.size)=>LK.o W _ h);have LKB:=hide (fun (W:World) (h:pE W (W1.heap.size+1))=>LK.o W _ h)
  go_region_held3 (fun w'=>w'.cell? ⟨w.heap.size,0,none⟩=some (.int .i64 kd)) (go_keep) ((go_at_call 68;refine (INF.o _).mono ?_;rintro e w5 ⟨rfl,hm,eG⟩;(first|(have hs0:=FA.o _ _ eG hz1 rfl;have lk0:=LKA.o w5 hm;have lk1:=fun o=>LKA.o (w5.alloc o) (hm.below ((af _ w5).alloc (aa _) o)))|(have hs0:=FB.o _ _ eG;obtain ⟨⟨k0,k1,k2,k3⟩,⟨y0,y1,y2,y3⟩,hrw⟩:=FR.o _ eG;have lk0:=LKB.o w5 (LKC.o _ _ hm)));have fV:=hide eG;clear eG hm))
  all_goals (go_wp2_with fail;go_meet;first|exact ⟨_,rfl,rfl,(qo (W1:=W1) fV.o _ _).1,(qo (W1:=W1) fV.o _ _).2⟩|exact ⟨_,rfl,rfl,(qp (W1:=W1) fV.o hrw.o _ _ _ _).1,(qp (W1:=W1) fV.o hrw.o _ _ _ _).2⟩)
 case rest=>
  obtain ⟨g,rfl,rfl,HRG,Vc⟩:=hcut;have YS:=hide (HB.o.trans (Vc.o.mono HB.o.size))
  cases ok with
  |true=>
   have HW:=hide (HV.o.1 rfl);clear HV;have hg1:wc.cell? ⟨g,1,none⟩=some (.int .i64 x1):=HRG.o.cell 1;go_wp2;go_ret;exact ⟨by rw [HW.o];rfl,YS.o⟩
  |false=>
   have hx:=hide (HV.o.2 rfl);clear HV;have hc1:wc.cell? ⟨w.heap.size,0,none⟩=some (.int .i64 kd):=(Vc.o.cell (p:=⟨w.heap.size,0,none⟩) hz1).trans hc0;have hz2:w.heap.size<wc.heap.size:=cJ hz1 Vc.o.size;by_cases hs:kd=28∨kd=8∨kd=6∨kd=45∨kd=47∨kd=44
   ·rcases hs with rfl|rfl|rfl|rfl|rfl|rfl
    all_goals
     go_wp2;go_ret;exact ⟨by rw [HRV.o];rfl,YS.o⟩
   by_cases h4:kd=4
   ·subst h4;have hc3:wc.cell? ⟨w.heap.size,3,none⟩=some (.string (ag vl)):=(Vc.o.cell (p:=⟨w.heap.size,3,none⟩) hz1).trans (HR.o.cell 3);clear hs;go_wp2_with fail;refine (SG.o _ (HG.o.below YS.o)).mono ?_;rintro e w7 ⟨rfl,sI⟩;have hc7:w7.cell? ⟨w.heap.size,0,none⟩=some (.int .i64 4):=(sI.cell (p:=⟨w.heap.size,0,none⟩) hz2).trans hc1;have hz7:w.heap.size<w7.heap.size:=cJ hz2 sI.size;have Ct:=hide (YS.o.trans (sI.mono YS.o.size));clear sI;by_cases hs:sv<0
    ·go_wp2;go_ret;exact ⟨by rw [HRV.o,Ff hx.o,if_neg (by decide),if_neg (by decide),if_pos ⟨rfl,HSV.o▸hs⟩];rfl,Ct.o⟩
    ·have hs':0≤sv:=by omega
     have HS:=hide hs;clear hs;go_upto_region 19 with fail;have FA:=hide (fun (W W':World) (hb:Below W.heap.size W W') (hz:w.heap.size<W.heap.size) (he:W.cell? ⟨w.heap.size,0,none⟩=some (.int .i64 4))=>show W'.cell? ⟨w.heap.size,0,none⟩=some (.int .i64 4) from (hb.cell (p:=⟨w.heap.size,0,none⟩) hz).trans he)
     go_region_held3 (fun w'=>w'.cell? ⟨w.heap.size,0,none⟩=some (.int .i64 4)) (go_keep) (first|(go_at_call 71;((with_reducible refine (EV.o _).mono ?_);rintro e w5 ⟨rfl,KE,eG⟩;have hs0:=FA.o _ _ eG hz7 hc7;have Oq:=hide KE;have mI:=hide eG;have wZ:=eG.size;clear KE eG))|(go_at_call 70;(refine (WD.o _ _ Oq.o).mono ?_;rintro e w6 ⟨rfl,fV⟩;have hs1:=FA.o _ _ fV (cJ hz7 wZ) hs0;have sH:=hide (Ct.o.trans ((mQ (W1:=w7) mI.o fV).mono Ct.o.size));clear fV)))
     cases ev with
     |true=>exact absurd HEV.o (by decide)
     |false=>
      go_wp2;go_ret;exact ⟨by rw [HRV.o,Fg hx.o (by decide) (fun h=>by have:=HS.o;have:=HSV.o;omega)];rfl,sH.o⟩
   ·obtain ⟨n28,n8,n6,n4,n45,n47,n44⟩:(kd==28)=false∧(kd==8)=false∧(kd==6)=false∧(kd==4)=false∧(kd==45)=false∧(kd==47)=false∧(kd==44)=false:=by simp only [aP];omega
    have vU:=hide (HRV.o.trans (Fg hx.o hs (fun h=>h4 h.1)));clear hs h4;go_upto_region 19 with fail;have FA:=hide (fun (W W':World) (hb:Below W.heap.size W W') (hz:w.heap.size<W.heap.size) (he:W.cell? ⟨w.heap.size,0,none⟩=some (.int .i64 kd))=>show W'.cell? ⟨w.heap.size,0,none⟩=some (.int .i64 kd) from (hb.cell (p:=⟨w.heap.size,0,none⟩) hz).trans he)
    go_region_held3 (fun w'=>w'.cell? ⟨w.heap.size,0,none⟩=some (.int .i64 kd)) (go_keep) (first|(go_at_call 71;((with_reducible refine (EV.o _).mono ?_);rintro e w5 ⟨rfl,KE,eG⟩;have hs0:=FA.o _ _ eG hz2 hc1;have Oq:=hide KE;have mI:=hide eG;have wZ:=eG.size;clear KE eG))|(go_at_call 70;(refine (WD.o _ _ Oq.o).mono ?_;rintro e w6 ⟨rfl,fV⟩;have hs1:=FA.o _ _ fV (cJ hz2 wZ) hs0;have sH:=hide (YS.o.trans ((mQ (W1:=wc) mI.o fV).mono YS.o.size));clear fV)))
    cases ev with
    |true=>
     go_wp2;go_ret;exact ⟨by rw [vU.o,if_pos (.inl HEV.o.symm)];rfl,sH.o⟩
    |false=>
     by_cases QD:kd=42
     ·subst QD;go_wp2;go_ret;exact ⟨by rw [vU.o];rfl,sH.o⟩
     ·have n42:(kd==42)=false:=aP.2 QD;have HN:=hide QD;clear QD;go_wp2;go_ret;exact ⟨by rw [vU.o,if_neg (fun h=>h.elim (fun h=>by rw [←HEV.o] at h;cases h) HN.o)];rfl,sH.o⟩
def jr (bad:Bool) (st:St):Option St:=if bad=true then none else some st
structure cz (W:World) (B b:Nat) (o:Option St) (M:Nat):Prop where
 at_:∃v st bad,fT W B b v st bad∧st.1.length≤M∧o=jr bad st
 gl:Gl W
 gB:3<B∧2<B
theorem cz.lt {W:World} {B b:Nat} {o:Option St} {M:Nat} (h:cz W B b o M):b<W.heap.size∧B≤b:=by
 obtain ⟨v,st,bad,h1,_⟩:=h.at_;exact ⟨h1.lt,h1.ge⟩
theorem cz.keep {W W':World} {B b:Nat} {o:Option St} {M:Nat} (h:cz W B b o M) (hb:Below W.heap.size W W'):cz W' B b o M:=by
 obtain ⟨v,st,bad,h1,h2,h3⟩:=h.at_;exact ⟨⟨v,st,bad,h1.keep hb,h2,h3⟩,h.gl.below hb,h.gB⟩
theorem cz.alloc {W:World} {B b:Nat} {o:Option St} {M:Nat} (h:cz W B b o M) (x:Obj):cz (W.alloc x) B b o M:=h.keep ((af _ W).alloc (aa _) x)
theorem cz.mono {W:World} {B b:Nat} {o:Option St} {M M':Nat} (h:cz W B b o M) (hm:M≤M'):cz W B b o M':=by
 obtain ⟨v,st,bad,h1,h2,h3⟩:=h.at_;exact ⟨⟨v,st,bad,h1,br h2 hm,h3⟩,h.gl,h.gB⟩
def jn (B b:Nat) (W:World) (o:Option St) (M:Nat) (e:Ending) (w':World):Prop:=e=.returned (.tuple #[])∧cz w' B b o M∧aM B b W w'
theorem aM.row {B b:Nat} {W W':World} (h:aM B b W W') {g:Nat} {t:TypeId} {cs:Array Value} (hr:Row W g t cs) (ht:t≠5) (hg:g≠b):Row W' g t cs:=h.rows g t cs ht hg hr
theorem cz.next {W W':World} {B b:Nat} {o:Option St} {M:Nat} (h:cz W B b o M) (v:Value) (st:St) (bad:Bool) (M':Nat) (hp:aM B b W W') (ha:fT W' B b v st bad) (hl:st.1.length≤M'):cz W' B b (jr bad st) M':=
 ⟨⟨v,st,bad,ha,hl,rfl⟩,h.gl.low h.gB hp.below,h.gB⟩
theorem QF (bad:Bool) (st:St) (f:St→St):jr bad (f st)=(jr bad st).map f:=by cases bad<;>rfl
theorem u_ (B b:Nat) (ws:List (List UInt8)) (g cap:Nat) (o:Option St) (M:Nat) (W:World) (h:cz W B b o M) (hr:Row W g 9 (ws.map fun s=>Value.string (ag s)).toArray) (hM:M+jD ws≤1099511627776) (hn:ws.length≤1000):
 Calls Tryz.prog 73 #[.pointer (some ⟨b,0,none⟩),.slice (some ⟨g,0,none⟩) ws.length cap] W (jn B b W (o.map (fB · ws)) (M+jD ws)):=by
 obtain ⟨v,st,bad,h1,h2,rfl⟩:=h.at_;refine (MH b B v st bad ws g cap W h1 hr (by omega) hn).mono ?_;rintro e w' ⟨rfl,⟨v',ha⟩,hp⟩;refine ⟨rfl,?_,hp⟩;rw [←QF];exact h.next v' _ bad _ hp ha (by have:=yS ws st;omega)
theorem kM (B b:Nat) (s:List UInt8) (o:Option St) (M:Nat) (W:World) (h:cz W B b o M) (hM:M+(s.length+1)≤1099511627776):
 Calls Tryz.prog 73 #[.pointer (some ⟨b,0,none⟩),.slice (some ⟨W.heap.size,0,none⟩) 1 1] (W.alloc (.cells #[.string (ag s)] 9)) (jn B b W (o.map (bD · s)) (M+(s.length+1))):=by
 refine (u_ B b [s] W.heap.size 1 o M _ (h.alloc _) (Row.new W _ _) hM (by simp)).mono ?_;rintro e w' ⟨rfl,h1,hp⟩;exact ⟨rfl,h1,((aM.refl B b W).alloc (br h.lt.2 (Nat.le_of_lt h.lt.1)) _).trans hp⟩
def gg (used:List UInt8) (c:UInt8):Bool:=decide (0≤Lib.indexByte used c)
def mR (o:Option St) (z:Bool) (used:List UInt8) (c:UInt8):Option St:=if (z||gg used c)=true then o else none
theorem QG (B b gp gu:Nat) (c:UInt8) (z:Bool) (used:List UInt8) (o:Option St) (M:Nat) (w:World) (h:cz w B b o M) (hp:w.cell? ⟨gp,0,none⟩=some (.pointer (some ⟨b,0,none⟩))) (hu:w.cell? ⟨gu,0,none⟩=some (.string (ag used))):
 Calls Tryz.prog 146 #[.string ⟨#[c]⟩,.bool z,.pointer (some ⟨gp,0,none⟩),.pointer (some ⟨gu,0,none⟩)] w (jn B b w (mR o z used c) M):=by
 obtain ⟨v,st,bad,h1,h2,rfl⟩:=h.at_;have CT:=hide (fun W:World=>Tryz.strings_Contains_one (ag used) c W);have hh:decide (0≤Lib.indexByte (ag used).data.toList c)=gg used c:=rfl;rw [hh] at CT;have HZ:=ae (mR (jr bad st) z used c=jr (bad||(!z&& !gg used c)) st) (by unfold mR;cases bad<;>cases z<;>cases gg used c<;>rfl)
 have HE:=hide (fun (x:Bool) (hx:x=(bad||(!z&& !gg used c)))=>show jn B b w (mR (jr bad st) z used c) M (.returned (.tuple #[])) (w.setCell ⟨b,3,none⟩ (.bool x)).drew from by
  rw [HZ.o,←hx]
  exact ⟨rfl,(h.next v st x M ((aM.refl B b w).set h1.ge 3 _) (h1.yP x) h2).keep (af _ _).drew,((aM.refl B b w).set h1.ge 3 _).drew⟩)
 obtain ⟨⟨d1,d2,d3⟩,e1,e2,e3⟩:=h1.cells;generalize gg used c=u at*;generalize ag used=U at*;clear h h1 h2 hh HZ
 cases bad with
 |true=>
  have MQ:=hide (HE.o true rfl);clear HE;go_enter Tryz.func146,Tryz.ntmps146;go_wp2_with fail
  go_region
  all_goals (go_end0;exact MQ.o)
 |false=>
  cases z with
  |true=>
   have MQ:=hide (HE.o false rfl);clear HE;go_enter Tryz.func146,Tryz.ntmps146;go_wp2_with fail
   go_region
   all_goals (go_end0;exact MQ.o)
  |false=>
   have MQ:=hide (HE.o (!u) rfl);clear HE;go_enter Tryz.func146,Tryz.ntmps146;go_wp2_with fail
   go_region_with ((go_at_call 147;refine (CT.o _).mono ?_;rintro e w' ⟨rfl,rfl⟩))
   all_goals (go_end0;exact MQ.o)
theorem isE (l:List UInt8):(ag l).toList.isEmpty=decide (l=[]):=by
 rw [Lib.toList_data,dD]
 cases l<;>rfl
def nX (o:Option St) (z1 z2 z3 z4 z5 z6:Bool) (used:List UInt8):Option St:=mR (mR (mR (mR (mR (mR o z1 used 110) z2 used 118) z3 used 97) z4 used 97) z5 used 99) z6 used 99
theorem cM (B b:Nat) (kd a0 xa xb xc xd:Int) (nm vl:List UInt8) (s:Value) (used:List UInt8) (o:Option St) (M:Nat) (w:World) (h:cz w B b o M):
 Calls Tryz.prog 106 #[.pointer (some ⟨b,0,none⟩),.agg (aB kd a0 nm vl xa xb xc xd s).toArray,.string (ag used)] w (jn B b w (nX o (decide (nm=[])) (decide (vl=[])) (decide (xa=0)) (decide (xb=0)) (decide (xc=0)) (decide (xd=0)) used) M):=by
 have hmf:∀(fn:Fn) (first cap:Array Value) (w:World),(Instr.makeFunc fn first cap).run Tryz.prog w=.ok (.func fn first cap) w:=fun _ _ _ _=>rfl;have hlt:=h.lt.1;have hge:=h.lt.2;have r1:Row (((w.alloc (.cells #[.pointer (some ⟨b,0,none⟩)] 73)).alloc (.cells (aB kd a0 nm vl xa xb xc xd s).toArray 25)).alloc (.cells #[.string (ag used)] 9)) w.heap.size 73 #[.pointer (some ⟨b,0,none⟩)]:=((Row.new w _ _).alloc _).alloc _;have r2:=(Row.new (w.alloc (.cells #[.pointer (some ⟨b,0,none⟩)] 73)) 25 (aB kd a0 nm vl xa xb xc xd s).toArray).alloc (.cells #[.string (ag used)] 9);have r3:=Row.new ((w.alloc (.cells #[.pointer (some ⟨b,0,none⟩)] 73)).alloc (.cells (aB kd a0 nm vl xa xb xc xd s).toArray 25)) 9 #[.string (ag used)];simp only [aF] at r2 r3;have p1:=((h.alloc (.cells #[.pointer (some ⟨b,0,none⟩)] 73)).alloc (.cells (aB kd a0 nm vl xa xb xc xd s).toArray 25)).alloc (.cells #[.string (ag used)] 9)
 have t1:aM B b w (((w.alloc (.cells #[.pointer (some ⟨b,0,none⟩)] 73)).alloc (.cells (aB kd a0 nm vl xa xb xc xd s).toArray 25)).alloc (.cells #[.string (ag used)] 9)):=
  (((aM.refl B b w).alloc (by omega) _).alloc (by simp;omega) _).alloc (by simp;omega) _
 obtain ⟨W1,hW1⟩:∃W1,W1=(((w.alloc (.cells #[.pointer (some ⟨b,0,none⟩)] 73)).alloc (.cells (aB kd a0 nm vl xa xb xc xd s).toArray 25)).alloc (.cells #[.string (ag used)] 9)):=⟨_,rfl⟩
 rw [←hW1] at r1 r2 r3 p1 t1;have Z:=hide (fun (c:UInt8) (z:Bool) (o:Option St) (W:World) (h:cz W B b o M) (h1:Row W w.heap.size 73 #[.pointer (some ⟨b,0,none⟩)]) (h3:Row W (w.heap.size+1+1) 9 #[.string (ag used)])=>QG B b w.heap.size (w.heap.size+1+1) c z used o M W h (h1.cell 0) (h3.cell 0));have jq:=hide hW1.symm;have R1:=hide r1;have R3:=hide r3;have R2:=hide r2;have P1:=hide p1;have T1:=hide t1;unfold aB at jq;have c2:W1.cell? ⟨w.heap.size+1,2,none⟩=some (.string (ag nm)):=r2.cell 2;clear h hW1 r1 r2 r3 p1 t1;generalize ag used=U at*;unfold aB;go_enter Tryz.func106,Tryz.ntmps106;go_wp2_with fail;rw [jq.o];refine (Z.o _ _ _ _ P1.o R1.o R3.o).mono ?_;rintro e w2 ⟨rfl,p2,t2⟩;have Q2:=hide p2;have T2:=hide (T1.o.trans t2);have RA2:=hide (t2.row R1.o (by decide) (by omega));have RB2:=hide (t2.row R2.o (by decide) (by omega));have RC2:=hide (t2.row R3.o (by decide) (by omega));have d2:w2.cell? ⟨w.heap.size+1,3,none⟩=some (.string (ag vl)):=RB2.o.cell 3;clear p2 t2 c2;go_wp2_with fail;refine (Z.o _ _ _ _ Q2.o RA2.o RC2.o).mono ?_;rintro e w3 ⟨rfl,p3,t3⟩;have Q3:=hide p3;have T3:=hide (T2.o.trans t3);have RA3:=hide (t3.row RA2.o (by decide) (by omega));have RB3:=hide (t3.row RB2.o (by decide) (by omega));have RC3:=hide (t3.row RC2.o (by decide) (by omega));have d3:w3.cell? ⟨w.heap.size+1,4,none⟩=some (.int .i64 xa):=RB3.o.cell 4;clear p3 t3 d2;go_wp2_with fail;refine (Z.o _ _ _ _ Q3.o RA3.o RC3.o).mono ?_;rintro e w4 ⟨rfl,p4,t4⟩;have Q4:=hide p4;have T4:=hide (T3.o.trans t4);have RA4:=hide (t4.row RA3.o (by decide) (by omega));have RB4:=hide (t4.row RB3.o (by decide) (by omega));have RC4:=hide (t4.row RC3.o (by decide) (by omega));have d4:w4.cell? ⟨w.heap.size+1,5,none⟩=some (.int .i64 xb):=RB4.o.cell 5;clear p4 t4 d3;go_wp2_with fail;refine (Z.o _ _ _ _ Q4.o RA4.o RC4.o).mono ?_;rintro e w5 ⟨rfl,p5,t5⟩;have Q5:=hide p5;have T5:=hide (T4.o.trans t5);have RA5:=hide (t5.row RA4.o (by decide) (by omega));have RB5:=hide (t5.row RB4.o (by decide) (by omega));have RC5:=hide (t5.row RC4.o (by decide) (by omega));have d5:w5.cell? ⟨w.heap.size+1,6,none⟩=some (.int .i64 xc):=RB5.o.cell 6;clear p5 t5 d4;go_wp2_with fail;refine (Z.o _ _ _ _ Q5.o RA5.o RC5.o).mono ?_;rintro e w6 ⟨rfl,p6,t6⟩;have Q6:=hide p6;have T6:=hide (T5.o.trans t6);have RA6:=hide (t6.row RA5.o (by decide) (by omega));have RB6:=hide (t6.row RB5.o (by decide) (by omega));have RC6:=hide (t6.row RC5.o (by decide) (by omega));have d6:w6.cell? ⟨w.heap.size+1,7,none⟩=some (.int .i64 xd):=RB6.o.cell 7;clear p6 t6 d5;go_wp2_with fail;refine (Z.o _ _ _ _ Q6.o RA6.o RC6.o).mono ?_;rintro e w7 ⟨rfl,p7,t7⟩;have Q7:=hide p7;have T7:=hide (T6.o.trans t7);clear p7 t7 d6;have e1:(ag nm).toList.isEmpty=decide (nm=[]):=isE nm;have e2:(ag vl).toList.isEmpty=decide (vl=[]):=isE vl
 have e3:∀x:Int,(x==0)=decide (x=0):=fun x=>by rw [Bool.eq_iff_iff];simp
 have HP:=ae (cz w7 B b (nX o (decide (nm=[])) (decide (vl=[])) (decide (xa=0)) (decide (xb=0)) (decide (xc=0)) (decide (xd=0)) used) M) (by
  have:=Q7.o;rw [e1,e2,e3,e3,e3,e3] at this
  exact this)
 clear e1 e2 e3;go_wp2;go_end0;exact ⟨rfl,HP.o,T7.o⟩
def PnK (B b:Nat) (W:World) (o:Option St) (M:Nat) (e:Ending) (w':World):Prop:=e=.returned (.bool o.isSome)∧cz w' B b o M∧aM B b W w'
section
variable {B b : Nat} {w W W2 : World} {f : FuncId} {args : Array Value} {o : Option St} {M : Nat} {K : Ending → World → Prop} {g g2 g3 : Nat} {t t2 t3 : TypeId} {cs cs2 cs3 : Array Value}
theorem QH (C:Calls Tryz.prog f args W2 (jn B b W o M)) (T:Hid (aM B b w W)) (k:∀w' z,Hid (o=z)→Hid (cz w' B b z M)→Hid (aM B b w w')→K (.returned (.tuple #[])) w'):Calls Tryz.prog f args W2 K:=
 C.mono (by rintro e w' ⟨rfl,p,t⟩;exact k w' o (hide rfl) (hide p) (hide (T.o.trans t)))
theorem bW (C:Calls Tryz.prog f args W2 (jn B b W o M)) (T:Hid (aM B b w W)) (R:Hid (Row W g t cs)) (ht:t≠5) (hg:g≠b) (k:∀w' z,Hid (o=z)→Hid (cz w' B b z M)→Hid (aM B b w w')→Hid (Row w' g t cs)→K (.returned (.tuple #[])) w'):Calls Tryz.prog f args W2 K:=
 C.mono (by rintro e w' ⟨rfl,p,t⟩;exact k w' o (hide rfl) (hide p) (hide (T.o.trans t)) (hide (t.row R.o ht hg)))
theorem QI (C:Calls Tryz.prog f args W2 (jn B b W o M)) (T:Hid (aM B b w W)) (R:Hid (Row W g t cs)) (ht:t≠5) (hg:g≠b) (R2:Hid (Row W g2 t2 cs2)) (ht2:t2≠5) (hg2:g2≠b) (k:∀w' z,Hid (o=z)→Hid (cz w' B b z M)→Hid (aM B b w w')→Hid (Row w' g t cs)→Hid (Row w' g2 t2 cs2)→K (.returned (.tuple #[])) w'):Calls Tryz.prog f args W2 K:=
 C.mono (by rintro e w' ⟨rfl,p,t⟩;exact k w' o (hide rfl) (hide p) (hide (T.o.trans t)) (hide (t.row R.o ht hg)) (hide (t.row R2.o ht2 hg2)))
theorem abj (C:Calls Tryz.prog f args W2 (PnK B b W o M)) (T:Hid (aM B b w W)) (R:Hid (Row W g t cs)) (ht:t≠5) (hg:g≠b) (k:∀w' z,Hid (o=z)→Hid (cz w' B b z M)→Hid (aM B b w w')→Hid (Row w' g t cs)→K (.returned (.bool z.isSome)) w'):Calls Tryz.prog f args W2 K:=
 C.mono (by rintro e w' ⟨rfl,p,t⟩;exact k w' o (hide rfl) (hide p) (hide (T.o.trans t)) (hide (t.row R.o ht hg)))
end
theorem bT (B b:Nat) (s:List UInt8) (n:Nat) (o:Option St) (M:Nat) (W:World) (h:cz W B b o M) (hM:M+(n+1)≤1099511627776) (hs:s.length=n:=by rfl):
 Calls Tryz.prog 73 #[.pointer (some ⟨b,0,none⟩),.slice (some ⟨W.heap.size,0,none⟩) 1 1] (W.alloc (.cells #[.string (ag s)] 9)) (jn B b W (o.map (bD · s)) (M+(n+1))):=by
 subst hs;exact kM B b s o M W h hM
def iA (o:Option St) (n:Nat) (least most:Int):Option St:=if least≤(n:Int)∧(n:Int)≤most then o else none
theorem fx (B b:Nat) (kd a0 xa xb xc xd:Int) (nm vl:List UInt8) (A:Option Addr) (n cap:Nat) (least most:Int) (o:Option St) (M:Nat) (w:World) (h:cz w B b o M) (hn:n≤1000000):
 Calls Tryz.prog 107 #[.pointer (some ⟨b,0,none⟩),.agg (aB kd a0 nm vl xa xb xc xd (.slice A n cap)).toArray,.int .i64 least,.int .i64 most] w (PnK B b w (iA o n least most) M):=by
 obtain ⟨v,st,bad,h1,h2,rfl⟩:=h.at_
 have HZ:=ae (iA (jr bad st) n least most=jr (bad|| !decide (least≤(n:Int)∧(n:Int)≤most)) st) (by
  unfold iA;by_cases hc:least≤(n:Int)∧(n:Int)≤most
  ·rw [if_pos hc,decide_eq_true hc];cases bad<;>rfl
  ·rw [if_neg hc,decide_eq_false hc];cases bad<;>rfl)
 have h3:=h1.alloc (.cells (aB kd a0 nm vl xa xb xc xd (.slice A n cap)).toArray 25);have hal:=h.alloc (.cells (aB kd a0 nm vl xa xb xc xd (.slice A n cap)).toArray 25);have hta:=(aM.refl B b w).alloc (br h.lt.2 (Nat.le_of_lt h.lt.1)) (.cells (aB kd a0 nm vl xa xb xc xd (.slice A n cap)).toArray 25);have hr:=Row.new w 25 (aB kd a0 nm vl xa xb xc xd (.slice A n cap)).toArray
 obtain ⟨W1,hW1⟩:∃W1,W1=w.alloc (.cells (aB kd a0 nm vl xa xb xc xd (.slice A n cap)).toArray 25):=⟨_,rfl⟩
 rw [←hW1] at h3 hal hta hr
 have HE:=hide (fun (x:Bool) (hx:x=(bad|| !decide (least≤(n:Int)∧(n:Int)≤most)))=>show PnK B b w (iA (jr bad st) n least most) M (.returned (.bool (!x))) (W1.setCell ⟨b,3,none⟩ (.bool x)) from by
  rw [HZ.o,←hx]
  refine ⟨by cases x<;>rfl,hal.next v st x M ((aM.refl B b W1).set h1.ge 3 _) (h3.yP x) h2,hta.trans ((aM.refl B b W1).set h1.ge 3 _)⟩)
 obtain ⟨⟨d1,d2,d3⟩,e1,e2,e3⟩:=h3.cells;have c8:W1.cell? ⟨w.heap.size,8,none⟩=some (.slice A n cap):=hr.cell 8;have hlt:=h.lt.1;have jq:=hide hW1.symm;unfold aB at jq⊢;clear h h1 h2 h3 hal hta hr HZ hW1
 cases bad with
 |true=>
  have MQ:=hide (HE.o true rfl);clear HE;go_enter Tryz.func107,Tryz.ntmps107;go_upto_region 1 with fail;rw [jq.o];go_wp2;go_ret;exact MQ.o
 |false=>
  by_cases q1:(n:Int)<least
  ·have MQ:=hide (HE.o true (by rw [decide_eq_false (by omega)];rfl));clear HE;go_enter Tryz.func107,Tryz.ntmps107;go_upto_region 1 with fail;rw [jq.o];go_wp2;go_ret;exact MQ.o
  ·by_cases q2:most<(n:Int)
   ·have MQ:=hide (HE.o true (by rw [decide_eq_false (by omega)];rfl));clear HE;go_enter Tryz.func107,Tryz.ntmps107;go_upto_region 1 with fail;rw [jq.o];go_wp2;go_ret;exact MQ.o
   ·have MQ:=hide (HE.o false (by rw [decide_eq_true (by omega)];rfl));clear HE;go_enter Tryz.func107,Tryz.ntmps107;go_upto_region 1 with fail;rw [jq.o];go_wp2;go_ret;exact MQ.o
theorem MR (n:Int) (w:World) (h:In64 n) (hg:Gl w):Calls Tryz.prog 180 #[.int .i64 n] w fun e w'=>e=.returned (.string (ag (Lib.itoa n)))∧Below w.heap.size w w':=by
 refine (Tryz.strconv_Itoa n h.1 h.2 w hg.tab).mono ?_;rintro e w' ⟨rfl,k,os,rfl⟩;exact ⟨rfl,vI _ _⟩
theorem dA (B b:Nat) (x most:Int) (o:Option St) (M:Nat) (w:World) (h:cz w B b o M) (hx:In64 x) (hM:M+22≤1099511627776):
 Calls Tryz.prog 148 #[.pointer (some ⟨b,0,none⟩),.int .i64 x,.int .i64 most] w (jn B b w (o.bind (dh x most)) (M+22)):=by
 obtain ⟨v,st,bad,h1,h2,rfl⟩:=h.at_;have IT:=hide (fun (W:World) (hg:Gl W)=>MR x W hx hg);have hil:=Lib.itoa_length_le x hx.1 hx.2
 have HE:=hide (fun (y:Bool) (hy:y=(bad||decide (x<0∨most<x)))=>show cz (w.setCell ⟨b,3,none⟩ (.bool y)) B b (if x<0∨most<x then none else jr bad st) M∧aM B b w (w.setCell ⟨b,3,none⟩ (.bool y)) from by
  have e:(if x<0∨most<x then none else jr bad st)=jr y st:=by
   rw [hy];by_cases hc:x<0∨most<x
   ·rw [if_pos hc,decide_eq_true hc];cases bad<;>rfl
   ·rw [if_neg hc,decide_eq_false hc];cases bad<;>rfl
  rw [e]
  exact ⟨h.next v st y M ((aM.refl B b w).set h1.ge 3 _) (h1.yP y) h2,(aM.refl B b w).set h1.ge 3 _⟩)
 have HF:=ae ((if x<0∨most<x then none else jr bad st).map (bD · (Lib.itoa x))=(jr bad st).bind (dh x most)) (by
  unfold dh;by_cases hc:x<0∨most<x
  ·rw [if_pos hc];cases bad<;>simp [jr,hc]
  ·rw [if_neg hc];cases bad<;>simp [jr,hc])
 have HW:=hide (fun (W:World) (o:Option St) (h:cz W B b o M)=>kM B b (Lib.itoa x) o M W h (by omega));obtain ⟨⟨d1,d2,d3⟩,e1,e2,e3⟩:=h1.cells
 obtain ⟨o2,ho2⟩:∃o2,(if x<0∨most<x then none else jr bad st)=o2:=⟨_,rfl⟩
 rw [ho2] at HE HF;have HL:=hide hil;generalize Lib.itoa x=t at*;clear h h1 h2 hil ho2
 have main:∀(y:Bool) (e:Ending) (w3:World),jn B b w (o2.map (bD · t)) (M+(t.length+1)) e w3→jn B b w ((jr bad st).bind (dh x most)) (M+22) e w3:=fun y e w3 ⟨a1,a2,a3⟩=>⟨a1,by rw [←HF.o];exact a2.mono (by have:=HL.o;omega),a3⟩
 have MAIN:=hide main;clear main HF;have TAIL:=hide (fun (y:Bool) (hy:y=(bad||decide (x<0∨most<x)))=>And.intro (HE.o y hy).1 (HE.o y hy).2);clear HE
 cases bad with
 |true=>
  have HP:=hide (TAIL.o true rfl);clear TAIL;go_enter Tryz.func148,Tryz.ntmps148;go_wp2_with fail;refine (IT.o _ HP.o.1.gl).mono ?_;rintro e w2 ⟨rfl,hb2⟩;have O_:=hide (HP.o.1.keep hb2);have DI:=hide (HP.o.2.trans (aM.of_below hb2 (br HP.o.1.lt.2 (Nat.le_of_lt HP.o.1.lt.1))));clear hb2;go_wp2_with fail;refine (HW.o _ _ O_.o).mono ?_;rintro e w3 ⟨rfl,p3,t3⟩;have LL:=hide (MAIN.o true _ w3 ⟨rfl,p3,DI.o.trans t3⟩);clear p3 t3;go_wp2;go_end0;exact LL.o
 |false=>
  by_cases q1:x<0
  ·have HP:=hide (TAIL.o true (by rw [decide_eq_true (.inl q1)];rfl));clear TAIL;go_enter Tryz.func148,Tryz.ntmps148;go_wp2_with fail;refine (IT.o _ HP.o.1.gl).mono ?_;rintro e w2 ⟨rfl,hb2⟩;have O_:=hide (HP.o.1.keep hb2);have DI:=hide (HP.o.2.trans (aM.of_below hb2 (br HP.o.1.lt.2 (Nat.le_of_lt HP.o.1.lt.1))));clear hb2;go_wp2_with fail;refine (HW.o _ _ O_.o).mono ?_;rintro e w3 ⟨rfl,p3,t3⟩;have LL:=hide (MAIN.o true _ w3 ⟨rfl,p3,DI.o.trans t3⟩);clear p3 t3;go_wp2;go_end0;exact LL.o
  ·by_cases q2:most<x
   ·have HP:=hide (TAIL.o true (by rw [decide_eq_true (.inr q2)];rfl));clear TAIL;go_enter Tryz.func148,Tryz.ntmps148;go_wp2_with fail;refine (IT.o _ HP.o.1.gl).mono ?_;rintro e w2 ⟨rfl,hb2⟩;have O_:=hide (HP.o.1.keep hb2);have DI:=hide (HP.o.2.trans (aM.of_below hb2 (br HP.o.1.lt.2 (Nat.le_of_lt HP.o.1.lt.1))));clear hb2;go_wp2_with fail;refine (HW.o _ _ O_.o).mono ?_;rintro e w3 ⟨rfl,p3,t3⟩;have LL:=hide (MAIN.o true _ w3 ⟨rfl,p3,DI.o.trans t3⟩);clear p3 t3;go_wp2;go_end0;exact LL.o
   ·have HP:=hide (TAIL.o (decide (x<0)||decide (most<x)) (by simp [q1,q2]))
    have q1':0≤x:=by omega
    have q2':x≤most:=by omega
    clear TAIL q1 q2;go_enter Tryz.func148,Tryz.ntmps148;go_wp2_with fail;refine (IT.o _ HP.o.1.gl).mono ?_;rintro e w2 ⟨rfl,hb2⟩;have O_:=hide (HP.o.1.keep hb2);have DI:=hide (HP.o.2.trans (aM.of_below hb2 (br HP.o.1.lt.2 (Nat.le_of_lt HP.o.1.lt.1))));clear hb2;go_wp2_with fail;refine (HW.o _ _ O_.o).mono ?_;rintro e w3 ⟨rfl,p3,t3⟩;have LL:=hide (MAIN.o true _ w3 ⟨rfl,p3,DI.o.trans t3⟩);clear p3 t3;go_wp2;go_end0;exact LL.o
end Go.Proofs.YtddoehnkgcbboaaGreatDoor
