/- Packed by program: a part of the proof; the last file says what is proved. -/
import Derived.Test.YtddoehnkgcbboaaGreatDoorProg
import Derived.WalkKit
import Derived.WalkLawsBesides
import Derived.WalkSpells
import Derived.StillTailTactics
import Derived.RangeFuncNested
import Derived.RangeFuncBound
import Derived.RangeFuncCalls
import Derived.RangeFuncLeaves
import Derived.OwnWalkIn
import Derived.TacticsInMore
import Derived.LoopNIn
import Derived.LoopIn
import Derived.Shelf.Abstract
import Derived.Lib.Strings
import Derived.Maps.AppendAt
import Derived.Deep.Slices
import Derived.Deep.Fields
import Derived.ProofKit
import Derived.OpenShut
import Derived.ShutString
import Derived.ChangeOld
import Derived.Deep.AppendLies
import Derived.Laws.OwnMore
import Derived.Deep.QuietTactic
import Derived.Lib.IndexBytes
import Derived.BigQuiet
import Derived.IntWalk
import Derived.Laws.BitsAllLaws
import Derived.WideShapes
import Derived.Lib.Split
import Derived.Laws.Rows
set_option maxHeartbeats 16000000
set_option maxRecDepth 100000
set_option linter.unusedVariables false
set_option linter.unusedSimpArgs false
namespace Go
open Go.RowKit
theorem aa {p:Prop} (h:p):Hid p:=h
@[simp,go_sem] theorem Fence.RX:Fence.wide.depth=none:=rfl
@[simp,go_sem] theorem Fence.Y8 (f:FuncId):Fence.wide.fn f=True:=rfl
theorem Kl {P:Program} {id:Nat} {Q:Exit→Act→World→Prop} {a:Act} {w:World} {l:List Oper} (hm:P.follows .mixedOrders=true) (hB:Region.lexB .any l.toArray=true)
 (h:wpStill P l.toArray w.drew (fun a'=>Q .normal a' w.drew) l a):(Code.region id l.toArray true).wp P Q a w:=wp_region_still_lit hm hB h
theorem nO {F:Fence} {n:Nat} {P:Program} (w:World) {ops:Array Oper} {rest:List Oper} {o:Oper} {a:Act} {Q:Exit→Act→World→Prop}
 (hg:o.guard=none) (s x:Operand) (t:TypeId) (hop:o.op=Op.call {callee:=Callee.builtin Builtin.append,args:=#[s,x],argTypes:=#[t,t]})
 (base:Nat) (e:TypeId) {z:Value} {size bytes:Nat} (Km:(P.info? e).map (fun i=>(i.zero,i.size,i.bytes))=some (some z,size,bytes)) (ht:P.underlying t=some (.slice e)) (hz:z.cells.size=size) (hsz:0<size)
 (v:Value) (k:Nat) (xs:List Value) (hs:a.eval s=v) (hown:w.ownsRow base e size v k xs) (ad:Addr) (m c:Nat) (news:List Value) (hx:a.eval x=.slice (some ad) m c) (hn:news.length=m*size)
 (hc:∀j u,news[j]? =some u→w.cell? (ad.add j)=some u) (h1c:∀u∈news,u.oneCell'=true) (b1:k+m≤maxLen) (b2:(k+m)*bytes≤140737488355328) (b3:base≤w.heap.size)
 (hK:∀v' w',w'.ownsRow base e size v' (k+m) (xs++news)→w.grownBy w' v.ownBlock→(v'=.slice none 0 0↔v=.slice none 0 0∧m=0)→(v'.ownBlock=v.ownBlock∨v'.ownBlock=some w.heap.size)→wpListIn F n P ops Q rest (a.put o.dst v') w'):
 wpListIn F n P ops Q (o::rest) a w:=by
 obtain ⟨i,hi,hz0,hz1,hz2⟩:=info_parts Km
 refine wpListIn_plain hg fun K hK'=>?_
 obtain ⟨v',w',hrun,r1,r2,r3,r4⟩:=run_append_own_at (P:=P) w base t o.type e i z size bytes ht hi hz0 hz1 hz2 hz hsz v k xs hown ad m c news hn hc h1c b1 b2 b3
 unfold Oper.wpIn
 refine ⟨?_,?_⟩
 ·simp [Oper.about,hop,resolve,Target.leads,Sem.run_pure]
 ·rw [Oper.semAt_plain F _ _ (by rw [hop];intro c hc';cases hc')]
  simp [execOp,hop,resolve,invoke,builtin,hs,hx,hrun,Result.andThen]
  exact hK' _ _ (hK v' w' r1 r2 r3 r4)
theorem eM {P:Program} (w:World) {ops:Array Oper} {rest:List Oper} {o:Oper} {a:Act} {Q:Exit→Act→World→Prop}
 (hg:o.guard=none) (s x:Operand) (t:TypeId) (hop:o.op=Op.call {callee:=Callee.builtin Builtin.append,args:=#[s,x],argTypes:=#[t,t]})
 (base:Nat) (e:TypeId) {z:Value} {size bytes:Nat} (Km:(P.info? e).map (fun i=>(i.zero,i.size,i.bytes))=some (some z,size,bytes)) (ht:P.underlying t=some (.slice e)) (hz:z.cells.size=size) (hsz:0<size)
 (v:Value) (k:Nat) (xs:List Value) (hs:a.eval s=v) (hown:w.ownsRow base e size v k xs) (ad:Addr) (m c:Nat) (news:List Value) (hx:a.eval x=.slice (some ad) m c) (hn:news.length=m*size)
 (hc:∀j u,news[j]? =some u→w.cell? (ad.add j)=some u) (h1c:∀u∈news,u.oneCell'=true) (b1:k+m≤maxLen) (b2:(k+m)*bytes≤140737488355328) (b3:base≤w.heap.size)
 (hK:∀v' w',w'.ownsRow base e size v' (k+m) (xs++news)→w.grownBy w' v.ownBlock→(v'=.slice none 0 0↔v=.slice none 0 0∧m=0)→(v'.ownBlock=v.ownBlock∨v'.ownBlock=some w.heap.size)→wpList P ops Q rest (a.put o.dst v') w'):
 wpList P ops Q (o::rest) a w:=by
 obtain ⟨i,hi,hz0,hz1,hz2⟩:=info_parts Km
 exact wpList_append_own_at w hg s x t hop base e i z size bytes ht hi hz0 hz1 hz2 hz hsz v k xs hs hown ad m c news hx hn hc h1c b1 b2 b3 hK
end Go
namespace Go.Proofs.YtddoehnkgcbboaaGreatDoor
def Di (c:UInt8):Bool:=c==32||c==9||c==10||c==13
def aZ (c:UInt8):Bool:=decide (48≤c.toNat∧c.toNat≤57)
def G3 (c:UInt8):Bool:=decide (65≤c.toNat∧c.toNat≤90∨97≤c.toNat∧c.toNat≤122)
def sF (c:UInt8):Bool:=G3 c||c==95
def kW (c:UInt8):Bool:=sF c||aZ c||c==36
def qc (c:UInt8):Bool:=decide (33≤c.toNat∧c.toNat≤126)
def aU (c:UInt8):UInt8:=c|||32
def aQ (p:UInt8→Bool) (l:List UInt8):Nat:=(l.takeWhile p).length
theorem dz (p:UInt8→Bool):∀l:List UInt8,aQ p l≤l.length
 |[]=>Nat.le_refl _
 |c::t=>by
  unfold aQ
  rw [List.takeWhile_cons]
  have:=dz p t
  unfold aQ at this
  split
  ·rw [List.length_cons,List.length_cons];omega
  ·exact Nat.zero_le _
theorem eu {p:UInt8→Bool} {c:UInt8} {t:List UInt8} (h:p c=true):aQ p (c::t)=aQ p t+1:=by
 unfold aQ;rw [List.takeWhile_cons,if_pos h];rfl
theorem iw {p:UInt8→Bool} {c:UInt8} {t:List UInt8} (h:p c=false):aQ p (c::t)=0:=by
 unfold aQ;rw [List.takeWhile_cons,if_neg (by rw [h];decide)];rfl
structure Wq where
 kind:Int
 text:List UInt8
 size:Nat
 err:Int
def cn (e:Int):Wq:=⟨0,[],0,e⟩
def lX (k:Int) (t:List UInt8) (n:Nat):Wq:=⟨k,t,n,0⟩
def lY:Nat→List UInt8→Nat
 |0,_=>0
 |_+1,[]=>0
 |k+1,c::t=>if Di c then lY k t+1 else if c=35 then lY k (t.drop (aQ (· !=10) t))+aQ (· !=10) t+1 else 0
def iK (l:List UInt8):Nat:=lY l.length l
def fk:List UInt8→Option (List UInt8×Nat)
 |[]=>none
 |c::r=>if sF c then some ((c::r).take (aQ kW (c::r)),aQ kW (c::r))
  else if c=92 then
   (if aQ qc r=0 then none else match r.drop (aQ qc r) with
    |[]=>some (c::r,r.length+1)
    |d::r2=>if Di d then some ((c::r.take (aQ qc r))++(if r2.head? =some 46 then [32] else []),aQ qc r+2) else none)
  else none
def lZ:Nat→List UInt8→Option (List UInt8×Nat)
 |0,_=>none
 |k+1,l=>(fk l).bind fun p=>if (l.drop p.2).head? =some 46 then (lZ k (l.drop (p.2+1))).map fun q=>(p.1++46::q.1,p.2+1+q.2) else some p
def fQ (l:List UInt8):Wq:=match lZ (l.length+1) l with|some p=>lX 0 p.1 p.2|none=>cn 3
def bI (l:List UInt8):List UInt8:=if l.dropWhile (·==48)=[] then [48] else l.dropWhile (·==48)
def bC (l:List UInt8) (n:Nat):Bool:=match l.drop n with|[]=>true|c::_=> !kW c&&c !=39
def fC (l:List UInt8) (n:Nat):Nat:=
 match l.drop n with
 |[]=>n
 |c::t=>if aU c=101 then
  (let m:=if t.head? =some 43∨t.head? =some 45 then n+2 else n+1
   if 0<aQ aZ (l.drop m) then m+aQ aZ (l.drop m) else n) else n
def cv (c:UInt8):Int:=if aZ c then (c.toNat:Int)-48 else if 97≤(aU c).toNat∧(aU c).toNat≤102 then ((aU c).toNat:Int)-97+10 else-1
def dH (b:UInt8):Option Nat:=if b=98 then some 1 else if b=111 then some 3 else if b=104 then some 4 else if b=100 then some 0 else none
def p_ (b c:UInt8):Bool:=if aU c=120∨aU c=122 then true else if b=100 then aZ c else decide (0≤cv c∧cv c<(2 ^ (dH b).getD 0:Nat))
def bN (l:List UInt8) (n:Nat):Nat:=
 match l.drop n with
 |39::b::t=>if t=[]∨dH (aU b)=none∨G3 b=false then 0 else if aQ (p_ (aU b)) t=0 then 0 else n+2+aQ (p_ (aU b)) t
 |_=>0
def dn (c:UInt8):UInt8:=if aU c=120∨aU c=122 then aU c else 0
def dA:Nat→Nat→List UInt8
 |0,_=>[]
 |n+1,v=>dA n (v / 2)++[if v % 2=1 then 49 else 48]
def eD (k:Nat) (l:List UInt8):List UInt8:=l.flatMap fun c=>if dn c≠0 then List.replicate k (dn c) else dA k (cv c).toNat
def eh (ds:List UInt8):Nat:=ds.foldl (fun w c=>min (10*w+(c.toNat-48)) 1000) 0
def bP:List UInt8→Nat→List UInt8
 |[],v=>dA 140 v
 |c::t,v=>if 2 ^ 140≤10*v+(c.toNat-48) then 49::dA 140 ((10*v+(c.toNat-48)) % 2 ^ 140) else bP t (10*v+(c.toNat-48))
def dB (l:List UInt8):List UInt8×Int:=
 if aQ aZ l=0∨bN l (aQ aZ l)≠l.length then ([],3) else
 let b:=aU (l.getD (aQ aZ l+1) 0)
 let ds:=l.drop (aQ aZ l+2)
 let u:=dn (ds.headD 0)
 if b=100∧¬(ds.length=1∧u≠0)∧aQ aZ ds<ds.length then ([],3) else
 let w:=eh (l.take (aQ aZ l))
 if w<1∨128<w then ([],8) else
 if b=100∧ds.length=1∧u≠0 then (List.replicate w u,0) else
 let out:=if b=100 then bP ds 0 else eD ((dH b).getD 0) ds
 if out.length<w then (List.replicate (w-out.length) (if u≠0 then u else 48)++out,0)
 else if (out.take (out.length-w)).all (·==48) then (out.drop (out.length-w),0) else ([],8)
def oH:Nat→List UInt8→Option (List UInt8)
 |0,_=>none
 |_+1,[]=>some []
 |k+1,c::t=>
  if c.toNat<32∨126<c.toNat∨c=34 then none
  else if c≠92 then (oH k t).map (c::·)
  else match t with
   |[]=>none
   |d::r=>if d=34∨d=92 then (oH k r).map (d::·)
    else if d=120 then (match r with
     |x::y::q=>if 0≤cv x∧0≤cv y then (oH k q).map (UInt8.ofNat (16*cv x+cv y).toNat::·) else none
     |_=>none)
    else none
def fR (l:List UInt8):List UInt8×Int:=
 if l.length<2∨l.head? ≠some 34∨l.getLast? ≠some 34 then ([],3)
 else match oH l.length ((l.drop 1).take (l.length-2)) with
  |none=>([],3)
  |some o=>if 64<o.length then ([],9) else (o,0)
def fS:Nat→List UInt8→Nat
 |0,_=>0
 |_+1,[]=>0
 |k+1,c::t=>if c=34 then 0 else if c=92 then fS k (t.drop 1)+2 else fS k t+1
def dJ (l:List UInt8):Wq:=
 if l.length≤1+fS l.length (l.drop 1) then cn 3
 else ⟨5,(fR (l.take (fS l.length (l.drop 1)+2))).1,fS l.length (l.drop 1)+2,(fR (l.take (fS l.length (l.drop 1)+2))).2⟩
def eA:List (List UInt8):=[[61,61,61],[33,61,61],[61,61],[33,61],[60,61],[62,61],[38,38],[124,124],[45,62],[60],[62],[33],[126],[38],[124],[94],[43],[45],[40],[41],[91],[93],[123],[125],[44],[58]]
def cq:List (List UInt8):=[[109,115],[117,115],[110,115],[112,115],[102,115],[115]]
def kZ (n:Nat):UInt8:=UInt8.ofNat (if n<10 then 48+n else 87+n)
def oI (l:List UInt8):List UInt8:=34::(l.flatMap fun c=>if c=34∨c=92 then [92,c] else if c.toNat<32∨126<c.toNat then [92,120,kZ (c.toNat / 16),kZ (c.toNat % 16)] else [c])++[34]
end Go.Proofs.YtddoehnkgcbboaaGreatDoor
namespace Go
open Go.RowKit Go.ChangeShapes Go.WideShapes Go.Deep
theorem wa {n:Int} (h:(Lit.int .u8 n).wf=true):0≤n∧n≤255:=by
 simpa [Lit.wf,IntKind.min,IntKind.max,IntKind.signed,IntKind.bits] using h
end Go
namespace Go
open Go.RowKit
structure af (C:Nat→Prop) (W W':World):Prop where
 os:W'.os=W.os
 tape:W'.tape=W.tape
 output:W'.output=W.output
 size:W.heap.size≤W'.heap.size
 block:∀b,b<W.heap.size→¬C b→W'.heap[b]? =W.heap[b]?
section
variable {C C' : Nat → Prop} {W W1 W2 W3 : World}
theorem af.refl (C:Nat→Prop) (W:World):af C W W:=⟨rfl,rfl,rfl,Nat.le_refl _,fun _ _ _=>rfl⟩
theorem af.trans (h:af C W1 W2) (k:af C W2 W3):af C W1 W3:=
 ⟨k.os.trans h.os,k.tape.trans h.tape,k.output.trans h.output,Nat.le_trans h.size k.size,fun b hb hc=>(k.block b (Nat.lt_of_lt_of_le hb h.size) hc).trans (h.block b hb hc)⟩
theorem af.trans' (h:af C W1 W2) (k:af C' W2 W3) (hc:∀b,C' b→C b∨W1.heap.size≤b):af C W1 W3:=
 ⟨k.os.trans h.os,k.tape.trans h.tape,k.output.trans h.output,Nat.le_trans h.size k.size,fun b hb hn=>(k.block b (Nat.lt_of_lt_of_le hb h.size) (fun e=>(hc b e).elim hn (by omega))).trans (h.block b hb hn)⟩
theorem af.mono (h:af C W1 W2) (hc:∀b,C b→C' b):af C' W1 W2:=⟨h.os,h.tape,h.output,h.size,fun b hb hn=>h.block b hb (fun e=>hn (hc b e))⟩
theorem af.of_below {B:Nat} (h:Below B W1 W2) (hB:W1.heap.size≤B):af C W1 W2:=⟨h.os,h.tape,h.output,h.size,fun b hb _=>h.block b (by omega)⟩
theorem af.below {B:Nat} (h:af C W1 W2) (hc:∀b,C b→B≤b) (hB:B≤W1.heap.size):Below B W1 W2:=⟨h.os,h.tape,h.output,h.size,fun b hb=>h.block b (by omega) (fun e=>by have:=hc b e;omega)⟩
theorem af.drew (h:af C W1 W2):af C W1 W2.drew:=⟨h.os,h.tape,h.output,h.size,h.block⟩
theorem af.drewN (h:af C W1 W2) (n:Nat):af C W1 (W2.drewN n):=⟨h.os,h.tape,h.output,h.size,h.block⟩
theorem af.alloc (h:af C W1 W2) (o:Obj):af C W1 (W2.alloc o):=
 h.trans ⟨rfl,rfl,rfl,by simp,fun b hb _=>Below.heap_alloc _ _ _ hb⟩
theorem af.setCell (h:af C W1 W2) {p:Addr} (hp:C p.block∨W1.heap.size≤p.block) (u:Value):af C W1 (W2.setCell p u):=
 ⟨h.os,h.tape,h.output,by simpa [World.setCell] using h.size,fun b hb hn=>(Below.heap_setCell _ _ _ _ (fun e=>by subst e;rcases hp with hp|hp;exact hn hp;omega)).trans (h.block b hb hn)⟩
theorem af.set (h:af C W1 W2) {b:Nat} (hp:C b∨W1.heap.size≤b) (o:Nat) (u:Value):af C W1 (W2.setCell ⟨b,o,none⟩ u):=h.setCell (p:=⟨b,o,none⟩) hp u
theorem af.grown {row:Option Nat} (h:af C W1 W2) (hg:W2.grownBy W3 row) (hr:∀k,row=some k→C k∨W1.heap.size≤k):af C W1 W3:=
 ⟨hg.os.trans h.os,hg.tape.trans h.tape,hg.output.trans h.output,Nat.le_trans h.size hg.size,fun b hb hn=>(hg.block b (Nat.lt_of_lt_of_le hb h.size) (fun e=>(hr b e.symm).elim hn (by omega))).trans (h.block b hb hn)⟩
theorem af.cell (h:af C W1 W2) {p:Addr} (hp:p.block<W1.heap.size) (hn:¬C p.block):W2.cell? p=W1.cell? p:=World.cell?_of_block (h.block _ hp hn)
theorem af.putObj (h:af C W1 W2) {l:Nat} (hl:C l∨W1.heap.size≤l) (o:Obj):af C W1 (W2.putObj l o):=
 ⟨h.os,h.tape,h.output,by simpa using h.size,fun b hb hn=>(World.putObj_heap_other (fun e=>by subst e;rcases hl with hp|hp;exact hn hp;omega)).trans (h.block b hb hn)⟩
end
def Row (W:World) (g:Nat) (t:TypeId) (cs:Array Value):Prop:=W.heap[g]? =some (.cells cs t)
section
variable {W W' : World} {g : Nat} {t : TypeId} {cs : Array Value}
theorem Row.lt (h:Row W g t cs):g<W.heap.size:=(Array.getElem?_eq_some_iff.1 h).1
theorem Row.cell (h:Row W g t cs) (i:Nat):W.cell? ⟨g,i,none⟩=cs[i]? :=by simp [World.cell?,show W.heap[g]? =_ from h]
theorem Row.frozen (h:Row W g t cs) (i:Nat):W.frozen? ⟨g,i,none⟩=false:=by simp [World.frozen?,show W.heap[g]? =_ from h]
theorem Row.new (W:World) (t:TypeId) (cs:Array Value):Row (W.alloc (.cells cs t)) W.heap.size t cs:=World.alloc_heap_new W _
theorem Row.alloc (h:Row W g t cs) (o:Obj):Row (W.alloc o) g t cs:=(Below.heap_alloc W o g h.lt).trans h
theorem Row.drew (h:Row W g t cs):Row W.drew g t cs:=h
theorem Row.drewN (h:Row W g t cs) (n:Nat):Row (W.drewN n) g t cs:=h
theorem Row.bg (h:Row W g t cs) (i:Nat) (u:Value):Row (W.setCell ⟨g,i,none⟩ u) g t (cs.setIfInBounds i u):=by
 unfold Row at h⊢
 simp [World.setCell,Array.getElem?_modify,h]
theorem Row.VQ (h:Row W g t cs) {p:Addr} (hp:g≠p.block) (u:Value):Row (W.setCell p u) g t cs:=(Below.heap_setCell W p u g hp).trans h
theorem Row.off (h:Row W g t cs) {b:Nat} (hp:g≠b) (o:Nat) (u:Value):Row (W.setCell ⟨b,o,none⟩ u) g t cs:=h.VQ (p:=⟨b,o,none⟩) hp u
theorem Row.below {B:Nat} (h:Row W g t cs) (hb:Below B W W') (hg:g<B):Row W' g t cs:=(hb.block g hg).trans h
theorem Row.keep {C:Nat→Prop} (h:Row W g t cs) (hk:af C W W') (hg:¬C g):Row W' g t cs:=(hk.block g h.lt hg).trans h
theorem Row.grown {row:Option Nat} (h:Row W g t cs) (hb:W.grownBy W' row) (hg:some g≠row):Row W' g t cs:=(hb.block g h.lt hg).trans h
theorem Row.Y9 {g':Nat} {t':TypeId} {cs':Array Value} (h:Row W g t cs) (h':Row W g' t' cs') (hne:t≠t'):g≠g':=by
 rintro rfl
 unfold Row at h h'
 rw [h] at h'
 injection h' with h'
 injection h' with _ ht
 exact hne ht
end
theorem kr {W:World} (l:List Value) (t:TypeId) {n:Nat} (hn:n=W.heap.size):∀j u,l[j]? =some u→(W.alloc (.cells l.toArray t)).cell? ((⟨n,0,none⟩:Addr).add j)=some u:=by
 intro j u h
 subst hn
 have hadd:(⟨W.heap.size,0,none⟩:Addr).add j=⟨W.heap.size,j,none⟩:=by unfold Addr.add;split<;>simp_all
 rw [hadd,(Row.new W t l.toArray).cell j]
 simpa using h
structure jW (X:Nat→Prop) (W W':World):Prop where
 os:W'.os=W.os
 tape:W'.tape=W.tape
 output:W'.output=W.output
 size:W.heap.size≤W'.heap.size
 block:∀b,X b→W'.heap[b]? =W.heap[b]?
theorem jW.refl (X:Nat→Prop) (W:World):jW X W W:=⟨rfl,rfl,rfl,Nat.le_refl _,fun _ _=>rfl⟩
theorem jW.cell {X:Nat→Prop} {W W':World} (h:jW X W W') {p:Addr} (hp:X p.block):W'.cell? p=W.cell? p:=World.cell?_of_block (h.block _ hp)
theorem jW.frozen {X:Nat→Prop} {W W':World} (h:jW X W W') {p:Addr} (hp:X p.block):W'.frozen? p=W.frozen? p:=by
 simp only [World.frozen?,h.block _ hp]
theorem jW.of_below {B:Nat} {X:Nat→Prop} {W W':World} (h:Below B W W') (hX:∀b,X b→b<B):jW X W W':=⟨h.os,h.tape,h.output,h.size,fun b hb=>h.block b (hX b hb)⟩
theorem Row.same {X:Nat→Prop} {W W':World} {g:Nat} {t:TypeId} {cs:Array Value} (h:Row W g t cs) (hs:jW X W W') (hX:X g):Row W' g t cs:=(hs.block g hX).trans h
def Laid (C:Nat→Prop) (W:World):Prop:=∀b,C b→b<W.heap.size
def Grew (C:Nat→Prop) (W:World) (C':Nat→Prop) (W':World):Prop:=∀b,C' b→(C b∨W.heap.size≤b)∧b<W'.heap.size
theorem Laid.aab {C:Nat→Prop} {W:World} (h:Laid C W):Grew C W C W:=fun b hb=>⟨.inl hb,h b hb⟩
theorem Grew.laid {C C':Nat→Prop} {W W':World} (h:Grew C W C' W'):Laid C' W':=fun b hb=>(h b hb).2
theorem Grew.later {C C':Nat→Prop} {W W1 W2:World} (h:Grew C W C' W1) (hz:W1.heap.size≤W2.heap.size):Grew C W C' W2:=fun b hb=>⟨(h b hb).1,Nat.lt_of_lt_of_le (h b hb).2 hz⟩
theorem Grew.trans {C0 C C':Nat→Prop} {W W1 W2:World} (h:Grew C0 W C W1) (k:Grew C W1 C' W2) (hz:W.heap.size≤W1.heap.size):Grew C0 W C' W2:=
 fun b hb=>⟨(k b hb).1.elim (fun e=>(h b e).1) (fun e=>.inr (Nat.le_trans hz e)),(k b hb).2⟩
theorem af.nP {C0 C:Nat→Prop} {W W1 W2:World} (h:af C0 W W1) (k:af C W1 W2) (hg:Grew C0 W C W1):af C0 W W2:=h.trans' k (fun b hb=>(hg b hb).1)
def wb (n:Nat) (J:Nat→(Nat→Prop)→World→Prop):Prop:=
 ∀k C W1 W2,J k C W1→jW (fun b=>b<n∨C b) W1 W2→J k C W2
def Oi {α:Type} (P:Program) (l:Nat) (encs:α→Array Value) (J Jx:Nat→(Nat→Prop)→World→Prop) (k:Nat) (x:α) (C:Nat→Prop) (W1:World):Prop:=
 YieldAt Fence.wide 0 P l (encs x) W1 fun e W'=>∃C',af C W1 W'∧Grew C W1 C' W'∧
  ((e=.returned (.bool true)∧J (k+1) C' W')∨(e=.returned (.bool false)∧Jx (k+1) C' W'))
def Iter {α:Type} (P:Program) (gf:Nat) (lb:Array Value) (encs:α→Array Value) (xs:List α) (R:Nat→Prop) (w:World):Prop:=
 ∀(l:Nat) (J Jx:Nat→(Nat→Prop)→World→Prop) (C:Nat→Prop) (W:World),
  jW R w W→(∀b,R b→¬C b)→Laid C W→Laid R W→wb W.heap.size J→wb W.heap.size Jx→
  (∀k x C1 W1,xs[k]? =some x→J k C1 W1→Laid C1 W1→Oi P l encs J Jx k x C1 W1)→
  J 0 C W→
  CallsIn Fence.wide 0 P gf (#[.func (.yield l) #[] #[]]++lb) W fun e W'=>(∃v,e=.returned v)∧
   ∃C',af C W W'∧Grew C W C' W'∧(J xs.length C' W'∨∃k,k≤xs.length∧Jx k C' W')
structure rZ (l:Nat) (W1 W2:World):Prop where
 os:W2.os=W1.os
 tape:W2.tape=W1.tape
 output:W2.output=W1.output
 size:W2.heap.size=W1.heap.size
 block:∀b,b≠l→W2.heap[b]? =W1.heap[b]?
theorem rZ.putObj (W:World) (l:Nat) (o:Obj):rZ l W (W.putObj l o):=⟨rfl,rfl,rfl,by simp,fun _ h=>World.putObj_heap_other h⟩
theorem rZ.cell {l:Nat} {W W':World} (h:rZ l W W') {p:Addr} (hp:p.block≠l):W'.cell? p=W.cell? p:=World.cell?_of_block (h.block _ hp)
theorem rZ.frozen {l:Nat} {W W':World} (h:rZ l W W') {p:Addr} (hp:p.block≠l):W'.frozen? p=W.frozen? p:=by
 simp only [World.frozen?,h.block _ hp]
theorem rZ.same {l:Nat} {X:Nat→Prop} {W W':World} (h:rZ l W W') (hX:¬X l):jW X W W':=⟨h.os,h.tape,h.output,Nat.le_of_eq h.size.symm,fun b hb=>h.block b (fun e=>hX (e▸hb))⟩
theorem Row.but {l:Nat} {W W':World} {g:Nat} {t:TypeId} {cs:Array Value} (h:Row W g t cs) (hb:rZ l W W') (hg:g≠l):Row W' g t cs:=(hb.block g hg).trans h
section
variable {P : Program} {α : Type}
theorem af.heap {C:Nat→Prop} {W W':World} (h:af C W W') {l:Nat} {o:Obj} (hl:W.heap[l]? =some o) (hn:¬C l):W'.heap[l]? =some o:=
 (h.block l ((Array.getElem?_eq_some_iff.1 hl).1) hn).trans hl
theorem l4 {fn:Func} {R:Ending→World→Prop} {tmps:Array Value} {D:Nat} {w:World} {v:Value}
 (hK:w.heap[D]? =some (.deferred (some []))) (hr:(results fn tmps).run P (w.putObj D (.deferred none))=.ok v (w.putObj D (.deferred none)))
 (hR:R (.returned v) (w.putObj D (.deferred none))):
 bodyPostM Fence.wide 0 P fn R .ret {tmps:=tmps,defers:=[{target:=.collected D,args:=#[]}]} w:=
 ⟨by simp,.inl ⟨_,_,rfl,run_takeDeferred hK,v,hr,hR⟩⟩
end
end Go
namespace Go
open Go.RowKit Go.ChangeShapes Go.WideShapes Go.Deep
def Sl {α:Type} (f:α→Value) (W:World) (A:Option Addr) (xs:List α):Prop:=
 0<xs.length→∃b off,A=some ⟨b,off,none⟩∧∀i (h:i<xs.length),W.cell? ⟨b,off+i,none⟩=some (f (xs[i]'h))
section
variable {α : Type} {f : α → Value} {W W' : World} {A : Option Addr} {xs : List α}
theorem Sl.nil (f:α→Value) (W:World) (A:Option Addr):Sl f W A []:=fun h=>absurd h (by simp)
theorem Sl.keep (h:Sl f W A xs) {B:Nat} (hA:∀a,A=some a→a.block<B) (hb:Below B W W'):Sl f W' A xs:=by
 intro hp
 obtain ⟨b,off,rfl,hat⟩:=h hp
 exact ⟨b,off,rfl,fun i hi=>(hb.cell (p:=⟨b,off+i,none⟩) (hA ⟨b,off,none⟩ rfl)).trans (hat i hi)⟩
theorem Sl.lt (h:Sl f W A xs) (hp:0<xs.length):∀a,A=some a→a.block<W.heap.size:=by
 obtain ⟨b,off,rfl,hat⟩:=h hp
 rintro a ⟨⟩
 exact World.block_lt_of_cell? W _ (hat 0 hp)
theorem Sl.below (h:Sl f W A xs) (hb:Below W.heap.size W W'):Sl f W' A xs:=by
 intro hp
 obtain ⟨b,off,rfl,hat⟩:=h hp
 have aN:b<W.heap.size:=World.block_lt_of_cell? W _ (hat 0 hp)
 exact ⟨b,off,rfl,fun i hi=>(hb.cell (p:=⟨b,off+i,none⟩) aN).trans (hat i hi)⟩
theorem Sl.at (h:Sl f W A xs) {i:Nat} (hi:i<xs.length):∃b off,A=some ⟨b,off,none⟩∧b<W.heap.size∧∀W',Below W.heap.size W W'→W'.cell? ⟨b,off+i,none⟩=some (f (xs[i]'hi)):=by
 obtain ⟨b,off,rfl,hat⟩:=h (by omega)
 have aN:b<W.heap.size:=World.block_lt_of_cell? W _ (hat i hi)
 exact ⟨b,off,rfl,aN,fun W' hb=>(hb.cell (p:=⟨b,off+i,none⟩) aN).trans (hat i hi)⟩
theorem aq {B:Nat} {a w:World} (h:Below B a w) (n:Nat):Below B a (w.drewN n):=⟨h.os,h.tape,h.output,h.size,h.block⟩
theorem oJ {w:World} {base base':Nat} {e:TypeId} {size:Nat} {v:Value} {n:Nat} {xs:List Value} (h:w.ownsRow base e size v n xs) (hb:base'≤base):w.ownsRow base' e size v n xs:=
 ⟨h.1,h.2.imp id fun ⟨g,c,cs,h1,h2,h3⟩=>⟨g,c,cs,h1,Nat.le_trans hb h2,h3⟩⟩
theorem ft {w w':World} {base:Nat} {e:TypeId} {size:Nat} {v:Value} {n:Nat} {xs:List Value} (h:w.ownsRow base e size v n xs) (hb:Below w.heap.size w w'):w'.ownsRow base e size v n xs:=
 World.ownsRow.kept (row:=none) h ⟨hb.os,hb.tape,hb.output,hb.size,fun k hk _=>hb.block k hk⟩ (by cases v.ownBlock<;>simp)
theorem RY {base:Nat} {e:TypeId} {v:Value} {n:Nat} (h:W.ownsRow base e 1 v n (xs.map f)) (hn:n=xs.length):
 ∃A cap,v=.slice A n cap∧Sl f W A xs∧∀a,A=some a→base≤a.block∧a.block<W.heap.size:=by
 rcases Nat.eq_zero_or_pos n with h0|h0
 ·obtain ⟨_,h1⟩:=id h
  rcases h1 with ⟨rfl,rfl⟩|⟨g,cap,cs,hv,_⟩
  ·exact ⟨none,0,by simp_all,fun hp=>absurd hp (by omega),fun a ha=>by cases ha⟩
  ·refine ⟨_,cap,hv,fun hp=>absurd hp (by omega),fun a ha=>?_⟩
   cases ha
   exact World.ownsRow.lt h g (by rw [hv];rfl)
 ·obtain ⟨g,cap,rfl,_⟩:=World.ownsRow.form h h0
  refine ⟨_,cap,rfl,fun hp=>⟨g,0,rfl,fun i hi=>?_⟩,fun a ha=>by cases ha;exact World.ownsRow.lt h g rfl⟩
  rw [Nat.zero_add,World.ownsRow.cellAt h i (by omega),List.getElem?_map,List.getElem?_eq_getElem hi];rfl
end
end Go
namespace Go.Proofs.YtddoehnkgcbboaaGreatDoor
open Go.RowKit Go.Shelf
theorem bD {a b:Bool} (h:a=b):Ending.returned (.bool b)=.returned (.bool a):=by rw [h]
theorem az {c d:UInt8} (h:c≠d):((c.toNat:Int)==(d.toNat:Int))=false:=beq_eq_false_iff_ne.2 fun e=>h (UInt8.toNat_inj.1 (by omega))
theorem gH {p:UInt8→Prop} (h:∀n:Fin 256,p (UInt8.ofNat n.val)) (c:UInt8):p c:=by
 have:=h ⟨c.toNat,c.toNat_lt⟩
 rwa [UInt8.ofNat_toNat] at this
theorem Oj (c:UInt8):G3 c=decide (97≤(aU c).toNat∧(aU c).toNat≤122):=
 gH (p:=fun c=>G3 c=decide (97≤(aU c).toNat∧(aU c).toNat≤122)) (by decide+kernel) c
theorem nQ (c:UInt8):bits .or .u8 (c.toNat:Int) 32=((aU c).toNat:Int):=by
 have h:=u8_or_nat c.toNat 32 c.toNat_lt (by decide)
 unfold aU
 rw [UInt8.toNat_or]
 exact h
theorem s6 (c:UInt8) (w:World):Calls Tryz.prog 116 #[.int .u8 (c.toNat:Int)] w fun e w'=>e=.returned (.bool (Di c))∧w'=w:=by
 by_cases h1:c=32
 ·subst h1
  go_enter Tryz.func116,Tryz.ntmps116
  go_wp2
  go_ret
  exact ⟨rfl,rfl⟩
 ·have e1:((c.toNat:Int)==32)=false:=az (d:=32) h1
  by_cases h2:c=9
  ·subst h2
   go_enter Tryz.func116,Tryz.ntmps116
   go_wp2
   go_ret
   exact ⟨rfl,rfl⟩
  ·have e2:((c.toNat:Int)==9)=false:=az (d:=9) h2
   by_cases h3:c=10
   ·subst h3
    go_enter Tryz.func116,Tryz.ntmps116
    go_wp2
    go_ret
    exact ⟨rfl,rfl⟩
   ·have e3:((c.toNat:Int)==10)=false:=az (d:=10) h3
    by_cases h4:c=13
    ·subst h4
     go_enter Tryz.func116,Tryz.ntmps116
     go_wp2
     go_ret
     exact ⟨rfl,rfl⟩
    ·have e4:((c.toNat:Int)==13)=false:=az (d:=13) h4
     have HV:=aa (show Di c=false by unfold Di;simp [h1,h2,h3,h4])
     clear h1 h2 h3 h4
     go_enter Tryz.func116,Tryz.ntmps116
     go_wp2
     go_ret
     exact ⟨bD HV.out,rfl⟩
theorem gI (c:UInt8) (w:World):Calls Tryz.prog 121 #[.int .u8 (c.toNat:Int)] w fun e w'=>e=.returned (.bool (aZ c))∧w'=w:=by
 by_cases h1:48≤c.toNat
 ·have e1:(48:Int)≤(c.toNat:Int):=by omega
  by_cases h2:c.toNat≤57
  ·have e2:(c.toNat:Int)≤57:=by omega
   have HV:=aa (show aZ c=true from decide_eq_true ⟨h1,h2⟩)
   go_enter Tryz.func121,Tryz.ntmps121
   go_wp2
   go_ret
   exact ⟨bD HV.out,rfl⟩
  ·have e2:¬(c.toNat:Int)≤57:=by omega
   have HV:=aa (show aZ c=false from decide_eq_false fun h=>h2 h.2)
   go_enter Tryz.func121,Tryz.ntmps121
   go_wp2
   go_ret
   exact ⟨bD HV.out,rfl⟩
 ·have e1:¬(48:Int)≤(c.toNat:Int):=by omega
  have HV:=aa (show aZ c=false from decide_eq_false fun h=>h1 h.1)
  go_enter Tryz.func121,Tryz.ntmps121
  go_wp2
  go_ret
  exact ⟨bD HV.out,rfl⟩
theorem ri (c:UInt8) (w:World):Calls Tryz.prog 153 #[.int .u8 (c.toNat:Int)] w fun e w'=>e=.returned (.bool (G3 c))∧w'=w:=by
 have JU:=nQ c
 have hlt:=Oj c
 by_cases h1:97≤(aU c).toNat
 ·have e1:(97:Int)≤((aU c).toNat:Int):=by omega
  by_cases h2:(aU c).toNat≤122
  ·have e2:((aU c).toNat:Int)≤122:=by omega
   have HV:=aa (show G3 c=true by rw [hlt];exact decide_eq_true ⟨h1,h2⟩)
   clear hlt
   go_enter Tryz.func153,Tryz.ntmps153
   go_wp2
   go_ret
   exact ⟨bD HV.out,rfl⟩
  ·have e2:¬((aU c).toNat:Int)≤122:=by omega
   have HV:=aa (show G3 c=false by rw [hlt];exact decide_eq_false fun h=>h2 h.2)
   clear hlt
   go_enter Tryz.func153,Tryz.ntmps153
   go_wp2
   go_ret
   exact ⟨bD HV.out,rfl⟩
 ·have e1:¬(97:Int)≤((aU c).toNat:Int):=by omega
  have HV:=aa (show G3 c=false by rw [hlt];exact decide_eq_false fun h=>h1 h.1)
  clear hlt
  go_enter Tryz.func153,Tryz.ntmps153
  go_wp2
  go_ret
  exact ⟨bD HV.out,rfl⟩
theorem nR (c:UInt8) (w:World):Calls Tryz.prog 119 #[.int .u8 (c.toNat:Int)] w fun e w'=>e=.returned (.bool (sF c))∧w'=w:=by
 have LT:=aa (ri c w)
 cases hl:G3 c with
 |true=>
  rw [hl] at LT
  have HV:=aa (show sF c=true by unfold sF;rw [hl];rfl)
  clear hl
  go_enter Tryz.func119,Tryz.ntmps119
  go_wp2_with fail
  refine LT.out.mono ?_
  rintro e w1 ⟨rfl,rfl⟩
  go_wp2
  go_ret
  exact ⟨bD HV.out,rfl⟩
 |false=>
  rw [hl] at LT
  by_cases h:c=95
  ·subst h
   go_enter Tryz.func119,Tryz.ntmps119
   go_wp2_with fail
   refine LT.out.mono ?_
   rintro e w1 ⟨rfl,rfl⟩
   go_wp2
   go_ret
   exact ⟨rfl,rfl⟩
  ·have e1:((c.toNat:Int)==95)=false:=az (d:=95) h
   have HV:=aa (show sF c=false by unfold sF;rw [hl];simp [h])
   clear hl h
   go_enter Tryz.func119,Tryz.ntmps119
   go_wp2_with fail
   refine LT.out.mono ?_
   rintro e w1 ⟨rfl,rfl⟩
   go_wp2
   go_ret
   exact ⟨bD HV.out,rfl⟩
theorem rj (c:UInt8) (w:World):Calls Tryz.prog 154 #[.int .u8 (c.toNat:Int)] w fun e w'=>e=.returned (.bool (kW c))∧w'=w:=by
 have FI:=aa (nR c w)
 have DG:=aa (gI c w)
 cases hl:sF c with
 |true=>
  rw [hl] at FI
  have HV:=aa (show kW c=true by unfold kW;rw [hl];rfl)
  clear hl
  go_enter Tryz.func154,Tryz.ntmps154
  go_wp2_with fail
  refine FI.out.mono ?_
  rintro e w1 ⟨rfl,rfl⟩
  go_wp2
  go_ret
  exact ⟨bD HV.out,rfl⟩
 |false=>
  rw [hl] at FI
  cases hd:aZ c with
  |true=>
   rw [hd] at DG
   have HV:=aa (show kW c=true by unfold kW;rw [hl,hd];rfl)
   clear hl hd
   go_enter Tryz.func154,Tryz.ntmps154
   go_wp2_with fail
   refine FI.out.mono ?_
   rintro e w1 ⟨rfl,rfl⟩
   go_wp2_with fail
   refine DG.out.mono ?_
   rintro e w1 ⟨rfl,rfl⟩
   go_wp2
   go_ret
   exact ⟨bD HV.out,rfl⟩
  |false=>
   rw [hd] at DG
   by_cases h:c=36
   ·subst h
    go_enter Tryz.func154,Tryz.ntmps154
    go_wp2_with fail
    refine FI.out.mono ?_
    rintro e w1 ⟨rfl,rfl⟩
    go_wp2_with fail
    refine DG.out.mono ?_
    rintro e w1 ⟨rfl,rfl⟩
    go_wp2
    go_ret
    exact ⟨rfl,rfl⟩
   ·have e1:((c.toNat:Int)==36)=false:=az (d:=36) h
    have HV:=aa (show kW c=false by unfold kW;rw [hl,hd];simp [h])
    clear hl hd h
    go_enter Tryz.func154,Tryz.ntmps154
    go_wp2_with fail
    refine FI.out.mono ?_
    rintro e w1 ⟨rfl,rfl⟩
    go_wp2_with fail
    refine DG.out.mono ?_
    rintro e w1 ⟨rfl,rfl⟩
    go_wp2
    go_ret
    exact ⟨bD HV.out,rfl⟩
theorem yh (c:UInt8) (w:World):Calls Tryz.prog 155 #[.int .u8 (c.toNat:Int)] w fun e w'=>e=.returned (.bool (qc c))∧w'=w:=by
 by_cases h1:32<c.toNat
 ·have e1:(32:Int)<(c.toNat:Int):=by omega
  by_cases h2:c.toNat<127
  ·have e2:(c.toNat:Int)<127:=by omega
   have HV:=aa (show qc c=true from decide_eq_true ⟨by omega,by omega⟩)
   go_enter Tryz.func155,Tryz.ntmps155
   go_wp2
   go_ret
   exact ⟨bD HV.out,rfl⟩
  ·have e2:¬(c.toNat:Int)<127:=by omega
   have HV:=aa (show qc c=false from decide_eq_false fun h=>by omega)
   go_enter Tryz.func155,Tryz.ntmps155
   go_wp2
   go_ret
   exact ⟨bD HV.out,rfl⟩
 ·have e1:¬(32:Int)<(c.toNat:Int):=by omega
  have HV:=aa (show qc c=false from decide_eq_false fun h=>by omega)
  go_enter Tryz.func155,Tryz.ntmps155
  go_wp2
  go_ret
  exact ⟨bD HV.out,rfl⟩
def ae (l:List UInt8):ByteArray:=⟨l.toArray⟩
theorem cy (l:List UInt8):(ae l).data.toList=l:=rfl
theorem aD (l:List UInt8):(ae l).size=l.length:=by rw [Lib.size_eq,cy]
theorem df (l:List UInt8) (i:Nat) (h:i<(ae l).size):(ae l)[i]'h=l[i]'(by rw [←aD];exact h):=by
 have:=Lib.data_getElem? (ae l) i h
 rw [cy,List.getElem?_eq_getElem (by rw [←aD];exact h)] at this
 exact (Option.some.inj this).symm
theorem oK (l:List UInt8) (k:Nat):(ae l).extract k (ae l).size=ae (l.drop k):=by
 apply Go.WideShapes.bytes_inj
 rw [Lib.extract_to_end,cy,cy]
theorem oL (l:List UInt8) (k:Nat):(ae l).extract 0 k=ae (l.take k):=by
 apply Go.WideShapes.bytes_inj
 rw [Lib.extract_from_zero,cy,cy]
theorem ix {a b:Int} (h:a=b):Ending.returned (.int .i64 b)=.returned (.int .i64 a):=by rw [h]
theorem s7 (c:UInt8) (w:World):Calls Tryz.prog 196 #[.int .u8 (c.toNat:Int)] w fun e w'=>e=.returned (.int .i64 (cv c))∧w'=w:=by
 have DG:=aa (gI c w)
 have JU:=nQ c
 have hlt:=c.toNat_lt
 have hlt2:=(aU c).toNat_lt
 cases hd:aZ c with
 |true=>
  rw [hd] at DG
  have hb:48≤c.toNat∧c.toNat≤57:=of_decide_eq_true hd
  have w1:IntKind.u8.wrap ((c.toNat:Int)-48)=(c.toNat:Int)-48:=by rw [IntKind.wrap_u8];omega
  have w2:IntKind.i64.wrap ((c.toNat:Int)-48)=(c.toNat:Int)-48:=IntWalk.i64_in _ (by omega)
  have HV:=aa (show cv c=(c.toNat:Int)-48 by unfold cv;rw [if_pos hd])
  clear hd hb hlt hlt2 JU
  go_enter Tryz.func196,Tryz.ntmps196
  go_wp2_with fail
  refine DG.out.mono ?_
  rintro e w1 ⟨rfl,rfl⟩
  go_wp2
  go_ret
  exact ⟨ix HV.out,rfl⟩
 |false=>
  rw [hd] at DG
  by_cases h1:97≤(aU c).toNat
  ·have e1:(97:Int)≤((aU c).toNat:Int):=by omega
   by_cases h2:(aU c).toNat≤102
   ·have e2:((aU c).toNat:Int)≤102:=by omega
    have w1:IntKind.u8.wrap (((aU c).toNat:Int)-97)=((aU c).toNat:Int)-97:=by rw [IntKind.wrap_u8];omega
    have w2:IntKind.i64.wrap (((aU c).toNat:Int)-97)=((aU c).toNat:Int)-97:=IntWalk.i64_in _ (by omega)
    have w3:IntKind.i64.wrap (((aU c).toNat:Int)-97+10)=((aU c).toNat:Int)-97+10:=IntWalk.i64_in _ (by omega)
    have HV:=aa (show cv c=((aU c).toNat:Int)-97+10 by unfold cv;rw [if_neg (by rw [hd];decide),if_pos ⟨h1,h2⟩])
    clear hd
    go_enter Tryz.func196,Tryz.ntmps196
    go_wp2_with fail
    refine DG.out.mono ?_
    rintro e w1 ⟨rfl,rfl⟩
    go_wp2
    go_ret
    exact ⟨ix HV.out,rfl⟩
   ·have e2:¬((aU c).toNat:Int)≤102:=by omega
    have HV:=aa (show cv c=-1 by unfold cv;rw [if_neg (by rw [hd];decide),if_neg (fun h=>h2 h.2)])
    clear hd
    go_enter Tryz.func196,Tryz.ntmps196
    go_wp2_with fail
    refine DG.out.mono ?_
    rintro e w1 ⟨rfl,rfl⟩
    go_wp2
    go_ret
    exact ⟨ix HV.out,rfl⟩
  ·have e1:¬(97:Int)≤((aU c).toNat:Int):=by omega
   have HV:=aa (show cv c=-1 by unfold cv;rw [if_neg (by rw [hd];decide),if_neg (fun h=>h1 h.1)])
   clear hd
   go_enter Tryz.func196,Tryz.ntmps196
   go_wp2_with fail
   refine DG.out.mono ?_
   rintro e w1 ⟨rfl,rfl⟩
   go_wp2
   go_ret
   exact ⟨ix HV.out,rfl⟩
theorem oM (c:UInt8) (w:World):Calls Tryz.prog 190 #[.int .u8 (c.toNat:Int)] w fun e w'=>e=.returned (.int .u8 ((dn c).toNat:Int))∧w'=w:=by
 have JU:=nQ c
 by_cases h1:aU c=120
 ·have HV:=aa (show dn c=120 by unfold dn;rw [if_pos (.inl h1),h1])
  rw [h1] at JU
  clear h1
  go_enter Tryz.func190,Tryz.ntmps190
  go_wp2
  go_ret
  rw [HV.out]
  exact ⟨rfl,rfl⟩
 ·by_cases h2:aU c=122
  ·have HV:=aa (show dn c=122 by unfold dn;rw [if_pos (.inr h2),h2])
   rw [h2] at JU
   clear h1 h2
   go_enter Tryz.func190,Tryz.ntmps190
   go_wp2
   go_ret
   rw [HV.out]
   exact ⟨rfl,rfl⟩
  ·have e1:(((aU c).toNat:Int)==120)=false:=az (d:=120) h1
   have e2:(((aU c).toNat:Int)==122)=false:=az (d:=122) h2
   have HV:=aa (show dn c=0 by unfold dn;rw [if_neg (by rintro (h|h);exact h1 h;exact h2 h)])
   clear h1 h2
   go_enter Tryz.func190,Tryz.ntmps190
   go_wp2
   go_ret
   rw [HV.out]
   exact ⟨rfl,rfl⟩
def Kn (w:World) (f:FuncId) (lb:Array Value) (p:UInt8→Bool):Prop:=
 (∀(W:World) (c:UInt8),Below w.heap.size w W→Calls Tryz.prog f (#[.int .u8 (c.toNat:Int)]++lb) W fun e w'=>e=.returned (.bool (p c))∧Below W.heap.size W w')∧∀(W:World) (c:UInt8),(callFunc f (#[.int .u8 (c.toNat:Int)]++lb)).run Tryz.prog W=.ok (.enter f (#[.int .u8 (c.toNat:Int)]++lb)) W
theorem Ko {p:UInt8→Bool} {l:List UInt8} {i:Nat} (h:i<l.length) (hp:p l[i]=true):i+aQ p (l.drop i)=(i+1)+aQ p (l.drop (i+1)):=by
 rw [List.drop_eq_getElem_cons h,eu hp];omega
theorem Kp {p:UInt8→Bool} {l:List UInt8} {i:Nat} (h:i<l.length) (hp:p l[i]=false):i+aQ p (l.drop i)=i:=by
 rw [List.drop_eq_getElem_cons h,iw hp];rfl
theorem Ok {p:UInt8→Bool} {l:List UInt8} {i:Nat} (h:l.length≤i):i+aQ p (l.drop i)=i:=by
 rw [List.drop_eq_nil_of_le h];rfl
theorem l5 (l:List UInt8) (aJ:Nat) (f:FuncId) (lb:Array Value) (p:UInt8→Bool) (w:World) (hl:l.length≤1000000) (hat:aJ≤1000000) (hT:Kn w f lb p):
 Calls Tryz.prog 117 #[.string (ae l),.int .i64 (aJ:Int),.func (.func f) #[] lb] w fun e w'=>e=.returned (.int .i64 ((aJ+aQ p (l.drop aJ):Nat):Int))∧Below w.heap.size w w':=by
 obtain ⟨R,hR⟩:∃R,aJ+aQ p (l.drop aJ)=R:=⟨_,rfl⟩
 have HR:=aa hR
 have HT:=aa hT
 have hz:=aD l
 have hg:∀(i:Nat) (h:i<(ae l).size) (h2:i<l.length),(ae l)[i]'h=l[i]:=fun i h h2=>df l i h
 rw [hR]
 clear hT hR
 generalize ae l=s at*
 have Hz:=aa hz
 have Hg:=aa hg
 clear hz hg
 go_enter Tryz.func117,Tryz.ntmps117
 go_wp2_with fail
 go_loopw [1] (fun v wr=>∃i:Nat,v=.int .i64 (i:Int)∧i+aQ p (l.drop i)=R∧i≤2000000∧Below w.heap.size w wr) (fun v _=>l.length-(intOf v).toNat)
 case atStart=>exact ⟨aJ,rfl,HR.out,by omega,Below.refl _ _⟩
 case round=>
  obtain ⟨i,rfl,VR,hi,hb⟩:=hrel
  have Hb:=aa hb
  have QE:=aa VR
  clear hb VR
  by_cases hlt:i<l.length
  ·have hi':(i:Int)<(s.size:Int):=by have:=Hz.out;omega
   have lU:(0:Int)≤(i:Int):=by omega
   have JV:i<s.size:=by have:=Hz.out;omega
   have UW:IntKind.i64.wrap ((i:Int)+1)=(i:Int)+1:=IntWalk.i64_in _ (by omega)
   obtain ⟨c,hc⟩:∃c,l[i]=c:=⟨_,rfl⟩
   have hsc:s[i]'JV=c:=by rw [Hg.out i JV hlt];exact hc
   have HC:=aa hc
   have T:=aa (HT.out.1 wr c Hb.out)
   have FF:=fun W=>HT.out.2 W c
   clear hc
   cases hp:p c with
   |true=>
    rw [hp] at T
    have HS:=aa (show (i+1)+aQ p (l.drop (i+1))=R by rw [←Ko hlt (by rw [HC.out];exact hp)];exact QE.out)
    clear hp
    go_wp2_with fail
    refine T.out.mono ?_
    rintro e w1 ⟨rfl,hb1⟩
    have VS:=aa (Hb.out.trans (hb1.mono Hb.out.size))
    clear hb1
    go_wp2
    go_roundw
    case rel=>exact ⟨i+1,by go_num,HS.out,by omega,VS.out⟩
    case measure=>simp [intOf];omega
   |false=>
    rw [hp] at T
    have HS:=aa (show R=i by rw [←QE.out];exact Kp hlt (by rw [HC.out];exact hp))
    clear hp
    go_wp2_with fail
    refine T.out.mono ?_
    rintro e w1 ⟨rfl,hb1⟩
    have VS:=aa (Hb.out.trans (hb1.mono Hb.out.size))
    clear hb1
    go_wp2
    go_ret
    rw [HS.out]
    exact ⟨rfl,VS.out⟩
  ·have hi':¬(i:Int)<(s.size:Int):=by have:=Hz.out;omega
   have HS:=aa (show R=i by rw [←QE.out];exact Ok (by omega))
   go_wp2
   go_ret
   rw [HS.out]
   exact ⟨rfl,Hb.out⟩
theorem jh {P:Program} {f:FuncId} {args:Array Value} (h:(P.funcs[f]?).map (fun fn=>(fn.name== "runtime.NumGoroutine",fn.body.isNone))=some (false,false)) (w:World):
 (callFunc f args).run P w=.ok (.enter f args) w:=by
 cases hf:P.funcs[f]? with
 |none=>rw [hf] at h;cases h
 |some fn=>
  rw [hf] at h
  simp only [Option.map_some,Option.some.injEq,Prod.mk.injEq] at h
  have h1:fn.name≠ "runtime.NumGoroutine":=by simpa using h.1
  cases hc:fn.body with
  |none=>rw [hc] at h;cases h.2
  |some c=>simp [callFunc,go_sem,hf,h1,hc]
theorem oN {w:World} {f:FuncId} {p:UInt8→Bool} (h:∀(c:UInt8) (W:World),Calls Tryz.prog f #[.int .u8 (c.toNat:Int)] W fun e w'=>e=.returned (.bool (p c))∧w'=W)
 (hf:(Tryz.prog.funcs[f]?).map (fun fn=>(fn.name== "runtime.NumGoroutine",fn.body.isNone))=some (false,false)):Kn w f #[] p:=
 ⟨fun W c _=>by
  rw [Array.append_empty]
  exact (h c W).mono (by rintro e w' ⟨rfl,rfl⟩;exact ⟨rfl,Below.refl _ _⟩),fun W c=>jh hf W⟩
theorem G4 (c:UInt8) (w:World):Calls Tryz.prog 118 #[.int .u8 (c.toNat:Int)] w fun e w'=>e=.returned (.bool (c !=10))∧w'=w:=by
 by_cases h1:c=10
 ·subst h1
  go_enter Tryz.func118,Tryz.ntmps118
  go_wp2
  go_ret
  exact ⟨rfl,rfl⟩
 ·have e1:((c.toNat:Int)==10)=false:=az (d:=10) h1
  have e2:((c.toNat:Int) !=10)=true:=by rw [bne,e1];rfl
  have HV:=aa (show (c !=10)=true by simp [h1])
  clear h1
  go_enter Tryz.func118,Tryz.ntmps118
  go_wp2
  go_ret
  exact ⟨bD HV.out,rfl⟩
theorem Ol (l:List UInt8) (aJ:Nat) (w:World) (hl:l.length≤1000000) (hat:aJ≤1000000):
 Calls Tryz.prog 117 #[.string (ae l),.int .i64 (aJ:Int),.func (.func 118) #[] #[]] w fun e w'=>e=.returned (.int .i64 ((aJ+aQ (· !=10) (l.drop aJ):Nat):Int))∧Below w.heap.size w w':=
 l5 l aJ _ #[] _ w hl hat (oN G4 (by kernel_rfl))
theorem l6 (l:List UInt8) (aJ:Nat) (w:World) (hl:l.length≤1000000) (hat:aJ≤1000000):
 Calls Tryz.prog 117 #[.string (ae l),.int .i64 (aJ:Int),.func (.func 121) #[] #[]] w fun e w'=>e=.returned (.int .i64 ((aJ+aQ aZ (l.drop aJ):Nat):Int))∧Below w.heap.size w w':=
 l5 l aJ _ #[] _ w hl hat (oN gI (by kernel_rfl))
theorem G5 (l:List UInt8) (aJ:Nat) (w:World) (hl:l.length≤1000000) (hat:aJ≤1000000):
 Calls Tryz.prog 117 #[.string (ae l),.int .i64 (aJ:Int),.func (.func 154) #[] #[]] w fun e w'=>e=.returned (.int .i64 ((aJ+aQ kW (l.drop aJ):Nat):Int))∧Below w.heap.size w w':=
 l5 l aJ _ #[] _ w hl hat (oN rj (by kernel_rfl))
theorem Dw (l:List UInt8) (aJ:Nat) (w:World) (hl:l.length≤1000000) (hat:aJ≤1000000):
 Calls Tryz.prog 117 #[.string (ae l),.int .i64 (aJ:Int),.func (.func 155) #[] #[]] w fun e w'=>e=.returned (.int .i64 ((aJ+aQ qc (l.drop aJ):Nat):Int))∧Below w.heap.size w w':=
 l5 l aJ _ #[] _ w hl hat (oN yh (by kernel_rfl))
theorem nS:∀(n m:Nat) (l:List UInt8),l.length≤n→l.length≤m→lY n l=lY m l
 |0,m,l,hn,_=>by
  have:l=[]:=List.length_eq_zero_iff.1 (by omega)
  subst this;cases m<;>rfl
 |n+1,0,l,_,hm=>by
  have:l=[]:=List.length_eq_zero_iff.1 (by omega)
  subst this;rfl
 |n+1,m+1,l,hn,hm=>by
  cases l with
  |nil=>rfl
  |cons c t=>
   rw [List.length_cons] at hn hm
   unfold lY
   rw [nS n m t (by omega) (by omega),nS n m (t.drop _) (by rw [List.length_drop];omega) (by rw [List.length_drop];omega)]
theorem G6:iK []=0:=rfl
theorem Ai {c:UInt8} {t:List UInt8} (h:Di c=true):iK (c::t)=iK t+1:=by
 unfold iK
 rw [List.length_cons]
 conv=>lhs;unfold lY
 rw [if_pos h]
theorem Dx {t:List UInt8}:iK (35::t)=iK (t.drop (aQ (· !=10) t))+aQ (· !=10) t+1:=by
 unfold iK
 rw [List.length_cons]
 conv=>lhs;unfold lY
 rw [if_neg (by decide),if_pos rfl,nS t.length (t.drop (aQ (· !=10) t)).length _ (by rw [List.length_drop];omega) (Nat.le_refl _)]
theorem Dy {c:UInt8} {t:List UInt8} (h:Di c=false) (h2:c≠35):iK (c::t)=0:=by
 unfold iK
 rw [List.length_cons]
 unfold lY
 rw [if_neg (by rw [h];decide),if_neg h2]
theorem wj (l:List UInt8) (aJ:Nat) (w:World) (hl:l.length≤100000) (hat:aJ≤100000):
 Calls Tryz.prog 75 #[.string (ae l),.int .i64 (aJ:Int)] w fun e w'=>e=.returned (.int .i64 ((aJ+iK (l.drop aJ):Nat):Int))∧Below w.heap.size w w':=by
 obtain ⟨R,hR⟩:∃R,aJ+iK (l.drop aJ)=R:=⟨_,rfl⟩
 have HR:=aa hR
 have RS:=aa (fun (i:Nat) (W:World) (h:i≤1000000)=>Ol l i W (by omega) h)
 have hz:=aD l
 have hg:∀(i:Nat) (h:i<(ae l).size) (h2:i<l.length),(ae l)[i]'h=l[i]:=fun i h h2=>df l i h
 rw [hR]
 clear hR
 generalize ae l=s at*
 have Hz:=aa hz
 have Hg:=aa hg
 clear hz hg
 go_enter Tryz.func75,Tryz.ntmps75
 go_wp2_with fail
 go_loopw [1] (fun v wr=>∃i:Nat,v=.int .i64 (i:Int)∧i+iK (l.drop i)=R∧i≤100000∧Below w.heap.size w wr) (fun v _=>l.length-(intOf v).toNat)
 case atStart=>exact ⟨aJ,rfl,HR.out,hat,Below.refl _ _⟩
 case round=>
  obtain ⟨i,rfl,VR,hi,hb⟩:=hrel
  have Hb:=aa hb
  have QE:=aa VR
  clear hb VR
  by_cases hlt:i<l.length
  ·have hi':(i:Int)<(s.size:Int):=by have:=Hz.out;omega
   have lU:(0:Int)≤(i:Int):=by omega
   have JV:i<s.size:=by have:=Hz.out;omega
   have UW:IntKind.i64.wrap ((i:Int)+1)=(i:Int)+1:=IntWalk.i64_in _ (by omega)
   obtain ⟨c,hc⟩:∃c,l[i]=c:=⟨_,rfl⟩
   have hsc:s[i]'JV=c:=by rw [Hg.out i JV hlt];exact hc
   have hdr:l.drop i=c::l.drop (i+1):=by rw [List.drop_eq_getElem_cons hlt,hc]
   have HD:=aa hdr
   have BL:=aa (s6 c wr)
   clear hc hdr
   cases hbl:Di c with
   |true=>
    rw [hbl] at BL
    have HS:=aa (show (i+1)+iK (l.drop (i+1))=R by have:=QE.out;rw [HD.out,Ai hbl] at this;omega)
    clear hbl
    go_wp2_with fail
    refine BL.out.mono ?_
    rintro e wr ⟨rfl,rfl⟩
    go_wp2
    go_roundw
    case rel=>exact ⟨i+1,by go_num,HS.out,by omega,Hb.out⟩
    case measure=>simp [intOf];omega
   |false=>
    rw [hbl] at BL
    by_cases wo:c=35
    ·subst wo
     have hsp:=dz (· !=10) (l.drop (i+1))
     rw [List.length_drop] at hsp
     have hy:aQ (· !=10) (l.drop i)=aQ (· !=10) (l.drop (i+1))+1:=by rw [HD.out];exact eu (by decide)
     have HS:=aa (show (i+aQ (· !=10) (l.drop i))+iK (l.drop (i+aQ (· !=10) (l.drop i)))=R by
      have:=QE.out
      rw [HD.out,Dx,List.drop_drop] at this
      rw [hy,show i+(aQ (· !=10) (l.drop (i+1))+1)=i+1+aQ (· !=10) (l.drop (i+1)) by omega]
      omega)
     have RSi:=aa (RS.out i wr (by omega))
     have Hy:=aa hy
     generalize aQ (· !=10) (l.drop i)=n at*
     have Hn:=aa (show n=aQ (· !=10) (l.drop (i+1))+1 from Hy.out)
     have yi:1≤n∧i+n≤l.length:=by have:=Hn.out;omega
     clear hbl hy hsp
     go_wp2_with fail
     refine BL.out.mono ?_
     rintro e wr ⟨rfl,rfl⟩
     go_wp2_with fail
     refine RSi.out.mono ?_
     rintro e w2 ⟨rfl,hb2⟩
     have jX:=aa (Hb.out.trans (hb2.mono Hb.out.size))
     clear hb2
     go_wp2
     go_roundw
     case rel=>exact ⟨i+n,rfl,HS.out,by omega,jX.out⟩
     case measure=>simp [intOf];omega
    ·have e35:((c.toNat:Int)==35)=false:=az (d:=35) wo
     have HS:=aa (show R=i by have:=QE.out;rw [HD.out,Dy hbl wo] at this;omega)
     clear hbl wo
     go_wp2_with fail
     refine BL.out.mono ?_
     rintro e wr ⟨rfl,rfl⟩
     go_wp2
     go_ret
     rw [HS.out]
     exact ⟨rfl,Hb.out⟩
  ·have hi':¬(i:Int)<(s.size:Int):=by have:=Hz.out;omega
   have HS:=aa (show R=i by have:=QE.out;rw [List.drop_eq_nil_of_le (by omega),G6] at this;omega)
   go_wp2
   go_ret
   rw [HS.out]
   exact ⟨rfl,Hb.out⟩
theorem Dz (l:List UInt8) (n:Nat) (w:World) (hl:l.length≤1000000) (hn:n≤1000000):
 Calls Tryz.prog 157 #[.string (ae l),.int .i64 (n:Int)] w fun e w'=>e=.returned (.bool (bC l n))∧w'=w:=by
 have hz:=aD l
 by_cases hlt:n<l.length
 ·have hi':¬((ae l).size:Int)≤(n:Int):=by rw [hz];omega
  have UX:(n:Int)<((ae l).size:Int):=by rw [hz];omega
  have JV:n<(ae l).size:=by omega
  have lU:(0:Int)≤(n:Int):=by omega
  obtain ⟨c,hc⟩:∃c,l[n]'hlt=c:=⟨_,rfl⟩
  have hsc:(ae l)[n]'JV=c:=by rw [df];exact hc
  have hdr:l.drop n=c::l.drop (n+1):=by rw [List.drop_eq_getElem_cons hlt,hc]
  have mQ:bC l n=(!kW c&&c !=39):=by unfold bC;rw [hdr]
  have IN:=aa (rj c w)
  have HV:=aa mQ
  generalize ae l=s at*
  clear mQ hc hz hdr
  cases hin:kW c with
  |true=>
   rw [hin] at IN
   have HW:=aa (show bC l n=false by rw [HV.out,hin];rfl)
   clear hin
   go_enter Tryz.func157,Tryz.ntmps157
   go_wp2_with fail
   refine IN.out.mono ?_
   rintro e w1 ⟨rfl,rfl⟩
   go_wp2
   go_ret
   exact ⟨bD HW.out,rfl⟩
  |false=>
   rw [hin] at IN
   by_cases JW:c=39
   ·subst JW
    have HW:=aa (show bC l n=false by rw [HV.out,hin];rfl)
    clear hin
    go_enter Tryz.func157,Tryz.ntmps157
    go_wp2_with fail
    refine IN.out.mono ?_
    rintro e w1 ⟨rfl,rfl⟩
    go_wp2
    go_ret
    exact ⟨bD HW.out,rfl⟩
   ·have e1:((c.toNat:Int)==39)=false:=az (d:=39) JW
    have e2:((c.toNat:Int) !=39)=true:=by rw [bne,e1];rfl
    have HW:=aa (show bC l n=true by rw [HV.out,hin];simp [JW])
    clear hin JW
    go_enter Tryz.func157,Tryz.ntmps157
    go_wp2_with fail
    refine IN.out.mono ?_
    rintro e w1 ⟨rfl,rfl⟩
    go_wp2
    go_ret
    exact ⟨bD HW.out,rfl⟩
 ·have hi':((ae l).size:Int)≤(n:Int):=by rw [hz];omega
  have HW:=aa (show bC l n=true by unfold bC;rw [List.drop_eq_nil_of_le (by omega)])
  generalize ae l=s at*
  clear hz
  go_enter Tryz.func157,Tryz.ntmps157
  go_wp2
  go_ret
  exact ⟨bD HW.out,rfl⟩
end Go.Proofs.YtddoehnkgcbboaaGreatDoor
namespace Go
open Go.RowKit
theorem ag {P:Program} {fn:Func} {p:Tmp} {ty:TypeId} (h:fn.results=#[.cell p ty]) (tmps:Array Value) (w:World) (g:Nat) (t:TypeId) (cs:Array Value) (fr:Nat×Nat) (d:TypeDesc)
 (hp:tmps.getD p undef=.pointer (some ⟨g,0,none⟩)) (hg:w.heap[g]? =some (.cells cs t fr))
 (hu:P.underlying ty=some d) (hd:(match d with|.struct _|.array _ _=>true|_=>false)=true) (hi:(P.info? ty).map (·.size)=some cs.size):
 (results fn tmps).run P w=.ok (.agg cs) w:=by
 have hp':tmps[p]?.getD undef=.pointer (some ⟨g,0,none⟩):=by simpa using hp
 have e:(results fn tmps).run P w=((asAddr (tmps.getD p undef)).run P w).andThen fun a w₁=>(loadVar ty a).run P w₁:=by
  simp only [results,h]
  simp [Sem.run_bind,Result.andThen]
 rw [e]
 simp [hp',asAddr,Result.andThen,run_loadVar_row w g t ty cs fr d hg hu hd hi]
end Go
namespace Go.Proofs.YtddoehnkgcbboaaGreatDoor
open Go.RowKit Go.Shelf
def oO (x:Wq):Value:=.agg #[.int .i64 x.kind,.string (ae x.text),.int .i64 0,.int .i64 x.size,.int .i64 x.err]
theorem DC (er:Int) (w:World):Calls Tryz.prog 126 #[.int .i64 er] w fun e w'=>e=.returned (oO (cn er))∧Below w.heap.size w w':=by
 go_enter Tryz.func126,Tryz.ntmps126
 go_wp2
 exact bodyPost_ret (v:=oO (cn er)) (ag rfl _ _ w.heap.size 85 _ _ _ rfl (World.alloc_heap_new w _) Tryz.underlying85 rfl (by kernel_rfl)) rfl ⟨rfl,(Below.refl _ _).alloc (Nat.le_refl _) _⟩
theorem fD (k n:Int) (t:List UInt8) (w:World):Calls Tryz.prog 125 #[.int .i64 k,.string (ae t),.int .i64 n] w fun e w'=>e=.returned (.agg #[.int .i64 k,.string (ae t),.int .i64 0,.int .i64 n,.int .i64 0])∧Below w.heap.size w w':=by
 generalize ae t=s
 go_enter Tryz.func125,Tryz.ntmps125
 go_wp2
 exact bodyPost_ret (v:=.agg #[.int .i64 k,.string s,.int .i64 0,.int .i64 n,.int .i64 0]) (ag rfl _ _ w.heap.size 85 _ _ _ rfl (World.alloc_heap_new w _) Tryz.underlying85 rfl (by kernel_rfl)) rfl ⟨rfl,(Below.refl _ _).alloc (Nat.le_refl _) _⟩
theorem oP {l:List UInt8} {n:Nat} (h:l.length≤n):fC l n=n:=by unfold fC;rw [List.drop_eq_nil_of_le h]
theorem sG {l:List UInt8} {n:Nat} (h:n<l.length) (hc:aU l[n]≠101):fC l n=n:=by
 unfold fC;rw [List.drop_eq_getElem_cons h]
 simp only
 rw [if_neg hc]
theorem oQ {l:List UInt8} {n:Nat} (h:n<l.length) (hc:aU l[n]=101) (m:Nat) (hm:m=if (l.drop (n+1)).head? =some 43∨(l.drop (n+1)).head? =some 45 then n+2 else n+1):
 fC l n=if 0<aQ aZ (l.drop m) then m+aQ aZ (l.drop m) else n:=by
 unfold fC;rw [List.drop_eq_getElem_cons h]
 simp only
 rw [if_pos hc,←hm]
theorem vB (l:List UInt8) (n:Nat) (w:World) (hl:l.length≤100000) (hn:n≤100000):
 Calls Tryz.prog 159 #[.string (ae l),.int .i64 (n:Int)] w fun e w'=>e=.returned (.int .i64 ((fC l n:Nat):Int))∧Below w.heap.size w w':=by
 have hz:=aD l
 by_cases hlt:n<l.length
 ·have hi':¬((ae l).size:Int)≤(n:Int):=by rw [hz];omega
  have UX:(n:Int)<((ae l).size:Int):=by rw [hz];omega
  have JV:n<(ae l).size:=by omega
  have lU:(0:Int)≤(n:Int):=by omega
  obtain ⟨c,hc⟩:∃c,l[n]'hlt=c:=⟨_,rfl⟩
  have hsc:(ae l)[n]'JV=c:=by rw [df];exact hc
  have JU:=nQ c
  by_cases yj:aU c=101
  ·rw [yj] at JU
   have hw1:IntKind.i64.wrap ((n:Int)+1)=(n:Int)+1:=IntWalk.i64_in _ (by omega)
   have hw2:IntKind.i64.wrap ((n:Int)+1+1)=(n:Int)+1+1:=IntWalk.i64_in _ (by omega)
   have hex:=fun m hm=>oQ hlt (by rw [hc];exact yj) m hm
   have ways:(l.length≤n+1∧(l.drop (n+1)).head? =none)∨∃h:n+1<l.length,(l.drop (n+1)).head? =some (l[n+1]'h):=by
    by_cases h:n+1<l.length
    ·exact .inr ⟨h,by rw [List.drop_eq_getElem_cons h];rfl⟩
    ·exact .inl ⟨by omega,by rw [List.drop_eq_nil_of_le (by omega)];rfl⟩
   have RD:=aa (fun (i:Nat) (W:World) (h:i≤1000000)=>l6 l i W (by omega) h)
   rcases ways with ⟨h1,h2⟩|⟨h1,h2⟩
   ·have JX:¬(n:Int)+1<((ae l).size:Int):=by rw [hz];omega
    have hm:fC l n=if 0<aQ aZ (l.drop (n+1)) then n+1+aQ aZ (l.drop (n+1)) else n:=hex (n+1) (by rw [h2];simp)
    have DD:=aa (show Calls Tryz.prog 117 #[.string (ae l),.int .i64 ((n:Int)+1),.func (.func 121) #[] #[]] w fun e w'=>e=.returned (.int .i64 ((n+1+aQ aZ (l.drop (n+1)):Nat):Int))∧Below w.heap.size w w' by
     have:=RD.out (n+1) w (by omega)
     rwa [show ((n+1:Nat):Int)=(n:Int)+1 by omega] at this)
    obtain ⟨E,hE⟩:∃E,n+1+aQ aZ (l.drop (n+1))=E:=⟨_,rfl⟩
    have HV:=aa hm
    have HE:=aa hE
    rw [hE] at DD HV
    generalize ae l=s at*
    clear hex hm hc yj hz RD hE
    by_cases hsp:0<aQ aZ (l.drop (n+1))
    ·have G7:(n:Int)+1<(E:Int):=by have:=HE.out;omega
     have HW:=aa (show fC l n=E by rw [HV.out,if_pos hsp])
     clear hsp
     go_enter Tryz.func159,Tryz.ntmps159
     go_wp2_with fail
     refine DD.out.mono ?_
     rintro e w1 ⟨rfl,hb⟩
     have Hb:=aa hb
     clear hb
     go_wp2
     go_ret
     rw [HW.out]
     exact ⟨rfl,Hb.out⟩
    ·have G7:¬(n:Int)+1<(E:Int):=by have:=HE.out;omega
     have HW:=aa (show fC l n=n by rw [HV.out,if_neg hsp])
     clear hsp
     go_enter Tryz.func159,Tryz.ntmps159
     go_wp2_with fail
     refine DD.out.mono ?_
     rintro e w1 ⟨rfl,hb⟩
     have Hb:=aa hb
     clear hb
     go_wp2
     go_ret
     rw [HW.out]
     exact ⟨rfl,Hb.out⟩
   ·have JX:(n:Int)+1<((ae l).size:Int):=by rw [hz];omega
    have zZ:(0:Int)≤(n:Int)+1:=by omega
    have hqn:((n:Int)+1).toNat=n+1:=by omega
    have aac:n+1<(ae l).size:=by omega
    obtain ⟨d,hd⟩:∃d,l[n+1]'h1=d:=⟨_,rfl⟩
    have NL:(ae l)[n+1]'aac=d:=by rw [df];exact hd
    rw [hd] at h2
    clear hd
    by_cases FH:d=43
    ·subst FH
     have hm:fC l n=if 0<aQ aZ (l.drop (n+2)) then n+2+aQ aZ (l.drop (n+2)) else n:=hex (n+2) (by rw [h2];simp)
     have DD:=aa (show Calls Tryz.prog 117 #[.string (ae l),.int .i64 ((n:Int)+1+1),.func (.func 121) #[] #[]] w fun e w'=>e=.returned (.int .i64 ((n+2+aQ aZ (l.drop (n+2)):Nat):Int))∧Below w.heap.size w w' by
      have:=RD.out (n+2) w (by omega)
      rwa [show ((n+2:Nat):Int)=(n:Int)+1+1 by omega] at this)
     obtain ⟨E,hE⟩:∃E,n+2+aQ aZ (l.drop (n+2))=E:=⟨_,rfl⟩
     have HV:=aa hm
     have HE:=aa hE
     rw [hE] at DD HV
     generalize ae l=s at*
     clear hex hm hc yj hz RD hE
     by_cases hsp:0<aQ aZ (l.drop (n+2))
     ·have G7:(n:Int)+1+1<(E:Int):=by have:=HE.out;omega
      have HW:=aa (show fC l n=E by rw [HV.out,if_pos hsp])
      clear hsp
      go_enter Tryz.func159,Tryz.ntmps159
      go_wp2_with fail
      refine DD.out.mono ?_
      rintro e w1 ⟨rfl,hb⟩
      have Hb:=aa hb
      clear hb
      go_wp2
      go_ret
      rw [HW.out]
      exact ⟨rfl,Hb.out⟩
     ·have G7:¬(n:Int)+1+1<(E:Int):=by have:=HE.out;omega
      have HW:=aa (show fC l n=n by rw [HV.out,if_neg hsp])
      clear hsp
      go_enter Tryz.func159,Tryz.ntmps159
      go_wp2_with fail
      refine DD.out.mono ?_
      rintro e w1 ⟨rfl,hb⟩
      have Hb:=aa hb
      clear hb
      go_wp2
      go_ret
      rw [HW.out]
      exact ⟨rfl,Hb.out⟩
    ·by_cases oG:d=45
     ·subst oG
      have hm:fC l n=if 0<aQ aZ (l.drop (n+2)) then n+2+aQ aZ (l.drop (n+2)) else n:=hex (n+2) (by rw [h2];simp)
      have DD:=aa (show Calls Tryz.prog 117 #[.string (ae l),.int .i64 ((n:Int)+1+1),.func (.func 121) #[] #[]] w fun e w'=>e=.returned (.int .i64 ((n+2+aQ aZ (l.drop (n+2)):Nat):Int))∧Below w.heap.size w w' by
       have:=RD.out (n+2) w (by omega)
       rwa [show ((n+2:Nat):Int)=(n:Int)+1+1 by omega] at this)
      obtain ⟨E,hE⟩:∃E,n+2+aQ aZ (l.drop (n+2))=E:=⟨_,rfl⟩
      have HV:=aa hm
      have HE:=aa hE
      rw [hE] at DD HV
      generalize ae l=s at*
      clear hex hm hc yj hz RD hE
      by_cases hsp:0<aQ aZ (l.drop (n+2))
      ·have G7:(n:Int)+1+1<(E:Int):=by have:=HE.out;omega
       have HW:=aa (show fC l n=E by rw [HV.out,if_pos hsp])
       clear hsp
       go_enter Tryz.func159,Tryz.ntmps159
       go_wp2_with fail
       refine DD.out.mono ?_
       rintro e w1 ⟨rfl,hb⟩
       have Hb:=aa hb
       clear hb
       go_wp2
       go_ret
       rw [HW.out]
       exact ⟨rfl,Hb.out⟩
      ·have G7:¬(n:Int)+1+1<(E:Int):=by have:=HE.out;omega
       have HW:=aa (show fC l n=n by rw [HV.out,if_neg hsp])
       clear hsp
       go_enter Tryz.func159,Tryz.ntmps159
       go_wp2_with fail
       refine DD.out.mono ?_
       rintro e w1 ⟨rfl,hb⟩
       have Hb:=aa hb
       clear hb
       go_wp2
       go_ret
       rw [HW.out]
       exact ⟨rfl,Hb.out⟩
     ·have e43:((d.toNat:Int)==43)=false:=az (d:=43) FH
      have e45:((d.toNat:Int)==45)=false:=az (d:=45) oG
      have hm:fC l n=if 0<aQ aZ (l.drop (n+1)) then n+1+aQ aZ (l.drop (n+1)) else n:=hex (n+1) (by rw [h2];simp [FH,oG])
      have DD:=aa (show Calls Tryz.prog 117 #[.string (ae l),.int .i64 ((n:Int)+1),.func (.func 121) #[] #[]] w fun e w'=>e=.returned (.int .i64 ((n+1+aQ aZ (l.drop (n+1)):Nat):Int))∧Below w.heap.size w w' by
       have:=RD.out (n+1) w (by omega)
       rwa [show ((n+1:Nat):Int)=(n:Int)+1 by omega] at this)
      obtain ⟨E,hE⟩:∃E,n+1+aQ aZ (l.drop (n+1))=E:=⟨_,rfl⟩
      have HV:=aa hm
      have HE:=aa hE
      rw [hE] at DD HV
      generalize ae l=s at*
      clear hex hm hc yj hz RD hE
      by_cases hsp:0<aQ aZ (l.drop (n+1))
      ·have G7:(n:Int)+1<(E:Int):=by have:=HE.out;omega
       have HW:=aa (show fC l n=E by rw [HV.out,if_pos hsp])
       clear hsp
       go_enter Tryz.func159,Tryz.ntmps159
       go_wp2_with fail
       refine DD.out.mono ?_
       rintro e w1 ⟨rfl,hb⟩
       have Hb:=aa hb
       clear hb
       go_wp2
       go_ret
       rw [HW.out]
       exact ⟨rfl,Hb.out⟩
      ·have G7:¬(n:Int)+1<(E:Int):=by have:=HE.out;omega
       have HW:=aa (show fC l n=n by rw [HV.out,if_neg hsp])
       clear hsp
       go_enter Tryz.func159,Tryz.ntmps159
       go_wp2_with fail
       refine DD.out.mono ?_
       rintro e w1 ⟨rfl,hb⟩
       have Hb:=aa hb
       clear hb
       go_wp2
       go_ret
       rw [HW.out]
       exact ⟨rfl,Hb.out⟩
  ·have e1:(((aU c).toNat:Int)==101)=false:=az (d:=101) yj
   have e2:(((aU c).toNat:Int) !=101)=true:=by rw [bne,e1];rfl
   have HV:=aa (sG hlt (by rw [hc];exact yj))
   generalize ae l=s at*
   clear hc yj hz
   go_enter Tryz.func159,Tryz.ntmps159
   go_wp2
   go_ret
   rw [HV.out]
   exact ⟨rfl,Below.refl _ _⟩
 ·have hi':((ae l).size:Int)≤(n:Int):=by rw [hz];omega
  have HV:=aa (oP (Nat.le_of_not_lt hlt))
  generalize ae l=s at*
  clear hz
  go_enter Tryz.func159,Tryz.ntmps159
  go_wp2
  go_ret
  rw [HV.out]
  exact ⟨rfl,Below.refl _ _⟩
end Go.Proofs.YtddoehnkgcbboaaGreatDoor
namespace Go.Proofs.YtddoehnkgcbboaaGreatDoor
open Go.RowKit
theorem aj {W : World} {g : Nat} {t : TypeId} {x0 x1 x2 x3 x4 x5 x6 x7 x8 : Value} (h : Row W g t #[x0, x1, x2, x3, x4, x5, x6, x7, x8]) : W.cell? ⟨g, 0, none⟩ = some x0 ∧ W.cell? ⟨g, 1, none⟩ = some x1 ∧ W.cell? ⟨g, 2, none⟩ = some x2 ∧ W.cell? ⟨g, 3, none⟩ = some x3 ∧ W.cell? ⟨g, 4, none⟩ = some x4 ∧ W.cell? ⟨g, 5, none⟩ = some x5 ∧ W.cell? ⟨g, 6, none⟩ = some x6 ∧ W.cell? ⟨g, 7, none⟩ = some x7 ∧ W.cell? ⟨g, 8, none⟩ = some x8 := ⟨h.cell 0, h.cell 1, h.cell 2, h.cell 3, h.cell 4, h.cell 5, h.cell 6, h.cell 7, h.cell 8⟩
theorem aA {W : World} {g : Nat} {t : TypeId} {cs : Array Value} (h : Row W g t cs) : W.frozen? ⟨g, 0, none⟩ = false ∧ W.frozen? ⟨g, 1, none⟩ = false ∧ W.frozen? ⟨g, 2, none⟩ = false ∧ W.frozen? ⟨g, 3, none⟩ = false ∧ W.frozen? ⟨g, 4, none⟩ = false ∧ W.frozen? ⟨g, 5, none⟩ = false ∧ W.frozen? ⟨g, 6, none⟩ = false ∧ W.frozen? ⟨g, 7, none⟩ = false ∧ W.frozen? ⟨g, 8, none⟩ = false := ⟨h.frozen 0, h.frozen 1, h.frozen 2, h.frozen 3, h.frozen 4, h.frozen 5, h.frozen 6, h.frozen 7, h.frozen 8⟩
end Go.Proofs.YtddoehnkgcbboaaGreatDoor
