/- A part of the proof that the last file tells. -/
import Derived.Test.YtddoehnkgcbboaaGreatDoorAg0
import Derived.Test.YtddoehnkgcbboaaGreatDoorProg
import Derived.WalkKit
import Derived.WalkLawsBesides
import Derived.WalkSpells
import Derived.StillTailTactics
import Derived.RangeFuncNested
import Derived.RangeFuncBound
import Derived.RangeFuncCalls
import Derived.RangeFuncLeaves
import Derived.OwnWalkIn
import Derived.TacticsInMore
import Derived.LoopNIn
import Derived.LoopIn
import Derived.Shelf.Abstract
import Derived.Lib.Strings
import Derived.Maps.AppendAt
import Derived.Deep.Slices
import Derived.Deep.Fields
import Derived.ProofKit
import Derived.OpenShut
import Derived.ShutString
import Derived.ChangeOld
import Derived.Deep.AppendLies
import Derived.Laws.OwnMore
import Derived.Deep.QuietTactic
import Derived.Lib.IndexBytes
import Derived.BigQuiet
import Derived.IntWalk
import Derived.Laws.BitsAllLaws
import Derived.WideShapes
import Derived.Lib.Split
import Derived.Laws.Rows
set_option maxHeartbeats 16000000
set_option maxRecDepth 100000
set_option linter.unusedVariables false
set_option linter.unusedSimpArgs false
namespace Go
open Go.RowKit
theorem hide {p:Prop} (h:p):Hid p:=h
@[simp,go_sem] theorem Fence.XC:Fence.wide.depth=none:=rfl
@[simp,go_sem] theorem Fence.ab2 (f:FuncId):Fence.wide.fn f=True:=rfl
theorem OE {P:Program} {id:Nat} {Q:Exit→Act→World→Prop} {a:Act} {w:World} {l:List Oper} (hm:P.follows .mixedOrders=true) (hB:Region.lexB .any l.toArray=true)
 (h:wpStill P l.toArray w.drew (fun a'=>Q .normal a' w.drew) l a):(Code.region id l.toArray true).wp P Q a w:=wp_region_still_lit hm hB h
theorem qZ {F:Fence} {n:Nat} {P:Program} (w:World) {ops:Array Oper} {rest:List Oper} {o:Oper} {a:Act} {Q:Exit→Act→World→Prop}
 (hg:o.guard=none) (s x:Operand) (t:TypeId) (hop:o.op=Op.call {callee:=Callee.builtin Builtin.append,args:=#[s,x],argTypes:=#[t,t]})
 (base:Nat) (e:TypeId) {z:Value} {size bytes:Nat} (hinfo:(P.info? e).map (fun i=>(i.zero,i.size,i.bytes))=some (some z,size,bytes)) (ht:P.underlying t=some (.slice e)) (hz:z.cells.size=size) (hsz:0<size)
 (v:Value) (k:Nat) (xs:List Value) (hs:a.eval s=v) (hown:w.ownsRow base e size v k xs) (ad:Addr) (m c:Nat) (news:List Value) (hx:a.eval x=.slice (some ad) m c) (hn:news.length=m*size)
 (hc:∀j u,news[j]? =some u→w.cell? (ad.add j)=some u) (h1c:∀u∈news,u.oneCell'=true) (b1:k+m≤maxLen) (b2:(k+m)*bytes≤140737488355328) (b3:base≤w.heap.size)
 (hK:∀v' w',w'.ownsRow base e size v' (k+m) (xs++news)→w.grownBy w' v.ownBlock→(v'=.slice none 0 0↔v=.slice none 0 0∧m=0)→(v'.ownBlock=v.ownBlock∨v'.ownBlock=some w.heap.size)→wpListIn F n P ops Q rest (a.put o.dst v') w'):
 wpListIn F n P ops Q (o::rest) a w:=by
 obtain ⟨i,hi,hz0,hz1,hz2⟩:=info_parts hinfo;refine wpListIn_plain hg fun K hK'=>?_;obtain ⟨v',w',hrun,r1,r2,r3,r4⟩:=run_append_own_at (P:=P) w base t o.type e i z size bytes ht hi hz0 hz1 hz2 hz hsz v k xs hown ad m c news hn hc h1c b1 b2 b3;unfold Oper.wpIn;refine ⟨?_,?_⟩
 ·simp [Oper.about,hop,resolve,Target.leads,Sem.run_pure]
 ·rw [Oper.semAt_plain F _ _ (by rw [hop];intro c hc';cases hc')];simp [execOp,hop,resolve,invoke,builtin,hs,hx,hrun,Result.andThen];exact hK' _ _ (hK v' w' r1 r2 r3 r4)
theorem ib {P:Program} (w:World) {ops:Array Oper} {rest:List Oper} {o:Oper} {a:Act} {Q:Exit→Act→World→Prop}
 (hg:o.guard=none) (s x:Operand) (t:TypeId) (hop:o.op=Op.call {callee:=Callee.builtin Builtin.append,args:=#[s,x],argTypes:=#[t,t]})
 (base:Nat) (e:TypeId) {z:Value} {size bytes:Nat} (hinfo:(P.info? e).map (fun i=>(i.zero,i.size,i.bytes))=some (some z,size,bytes)) (ht:P.underlying t=some (.slice e)) (hz:z.cells.size=size) (hsz:0<size)
 (v:Value) (k:Nat) (xs:List Value) (hs:a.eval s=v) (hown:w.ownsRow base e size v k xs) (ad:Addr) (m c:Nat) (news:List Value) (hx:a.eval x=.slice (some ad) m c) (hn:news.length=m*size)
 (hc:∀j u,news[j]? =some u→w.cell? (ad.add j)=some u) (h1c:∀u∈news,u.oneCell'=true) (b1:k+m≤maxLen) (b2:(k+m)*bytes≤140737488355328) (b3:base≤w.heap.size)
 (hK:∀v' w',w'.ownsRow base e size v' (k+m) (xs++news)→w.grownBy w' v.ownBlock→(v'=.slice none 0 0↔v=.slice none 0 0∧m=0)→(v'.ownBlock=v.ownBlock∨v'.ownBlock=some w.heap.size)→wpList P ops Q rest (a.put o.dst v') w'):
 wpList P ops Q (o::rest) a w:=by
 obtain ⟨i,hi,hz0,hz1,hz2⟩:=info_parts hinfo;exact wpList_append_own_at w hg s x t hop base e i z size bytes ht hi hz0 hz1 hz2 hz hsz v k xs hs hown ad m c news hx hn hc h1c b1 b2 b3 hK
end Go
namespace Go.Proofs.YtddoehnkgcbboaaGreatDoor
def Dr (c:UInt8):Bool:=c==32||c==9||c==10||c==13
def bg (c:UInt8):Bool:=decide (48≤c.toNat∧c.toNat≤57)
def JT (c:UInt8):Bool:=decide (65≤c.toNat∧c.toNat≤90∨97≤c.toNat∧c.toNat≤122)
def oC (c:UInt8):Bool:=JT c||c==95
def lT (c:UInt8):Bool:=oC c||bg c||c==36
def uo (c:UInt8):Bool:=decide (33≤c.toNat∧c.toNat≤126)
def bp (c:UInt8):UInt8:=c|||32
def bf (p:UInt8→Bool) (l:List UInt8):Nat:=(l.takeWhile p).length
theorem fA (p:UInt8→Bool):∀l:List UInt8,bf p l≤l.length
 |[]=>aa _
 |c::t=>by
  unfold bf;rw [List.takeWhile_cons];have:=fA p t;unfold bf at this
  split
  ·rw [aj,aj];omega
  ·exact bj _
theorem ft {p:UInt8→Bool} {c:UInt8} {t:List UInt8} (h:p c=true):bf p (c::t)=bf p t+1:=by
 unfold bf;rw [List.takeWhile_cons,if_pos h];rfl
theorem gI {p:UInt8→Bool} {c:UInt8} {t:List UInt8} (h:p c=false):bf p (c::t)=0:=by
 unfold bf;rw [List.takeWhile_cons,if_neg (by rw [h];decide)];rfl
structure Wq where
 kind:Int
 text:List UInt8
 size:Nat
 err:Int
def dI (e:Int):Wq:=⟨0,[],0,e⟩
def ma (k:Int) (t:List UInt8) (n:Nat):Wq:=⟨k,t,n,0⟩
def mC:Nat→List UInt8→Nat
 |0,_=>0
 |_+1,[]=>0
 |k+1,c::t=>if Dr c then mC k t+1 else if c=35 then mC k (t.drop (bf (· !=10) t))+bf (· !=10) t+1 else 0
def cV (l:List UInt8):Nat:=mC l.length l
def gM:List UInt8→Option (List UInt8×Nat)
 |[]=>none
 |c::r=>if oC c then some ((c::r).take (bf lT (c::r)),bf lT (c::r))
  else if c=92 then
   (if bf uo r=0 then none else match r.drop (bf uo r) with
    |[]=>some (c::r,r.length+1)
    |d::r2=>if Dr d then some ((c::r.take (bf uo r))++(if r2.head? =some 46 then [32] else []),bf uo r+2) else none)
  else none
def oQ:Nat→List UInt8→Option (List UInt8×Nat)
 |0,_=>none
 |k+1,l=>(gM l).bind fun p=>if (l.drop p.2).head? =some 46 then (oQ k (l.drop (p.2+1))).map fun q=>(p.1++46::q.1,p.2+1+q.2) else some p
def iY (l:List UInt8):Wq:=match oQ (l.length+1) l with|some p=>ma 0 p.1 p.2|none=>dI 3
def bO (l:List UInt8):List UInt8:=if l.dropWhile (·==48)=[] then [48] else l.dropWhile (·==48)
def bB (l:List UInt8) (n:Nat):Bool:=match l.drop n with|[]=>true|c::_=> !lT c&&c !=39
def ic (l:List UInt8) (n:Nat):Nat:=
 match l.drop n with
 |[]=>n
 |c::t=>if bp c=101 then
  (let m:=if t.head? =some 43∨t.head? =some 45 then n+2 else n+1
   if 0<bf bg (l.drop m) then m+bf bg (l.drop m) else n) else n
def dK (c:UInt8):Int:=if bg c then (c.toNat:Int)-48 else if 97≤(bp c).toNat∧(bp c).toNat≤102 then ((bp c).toNat:Int)-97+10 else-1
def fJ (b:UInt8):Option Nat:=if b=98 then some 1 else if b=111 then some 3 else if b=104 then some 4 else if b=100 then some 0 else none
def ra (b c:UInt8):Bool:=if bp c=120∨bp c=122 then true else if b=100 then bg c else decide (0≤dK c∧dK c<(2 ^ (fJ b).getD 0:Nat))
def bY (l:List UInt8) (n:Nat):Nat:=
 match l.drop n with
 |39::b::t=>if t=[]∨fJ (bp b)=none∨JT b=false then 0 else if bf (ra (bp b)) t=0 then 0 else n+2+bf (ra (bp b)) t
 |_=>0
def fE (c:UInt8):UInt8:=if bp c=120∨bp c=122 then bp c else 0
def fK:Nat→Nat→List UInt8
 |0,_=>[]
 |n+1,v=>fK n (v / 2)++[if v % 2=1 then 49 else 48]
def gT (k:Nat) (l:List UInt8):List UInt8:=l.flatMap fun c=>if fE c≠0 then List.replicate k (fE c) else fK k (dK c).toNat
def gJ (ds:List UInt8):Nat:=ds.foldl (fun w c=>min (10*w+(c.toNat-48)) 1000) 0
def cO:List UInt8→Nat→List UInt8
 |[],v=>fK 140 v
 |c::t,v=>if 2 ^ 140≤10*v+(c.toNat-48) then 49::fK 140 ((10*v+(c.toNat-48)) % 2 ^ 140) else cO t (10*v+(c.toNat-48))
def fD (l:List UInt8):List UInt8×Int:=
 if bf bg l=0∨bY l (bf bg l)≠l.length then ([],3) else
 let b:=bp (l.getD (bf bg l+1) 0)
 let ds:=l.drop (bf bg l+2)
 let u:=fE (ds.headD 0)
 if b=100∧¬(ds.length=1∧u≠0)∧bf bg ds<ds.length then ([],3) else
 let w:=gJ (l.take (bf bg l))
 if w<1∨128<w then ([],8) else
 if b=100∧ds.length=1∧u≠0 then (List.replicate w u,0) else
 let out:=if b=100 then cO ds 0 else gT ((fJ b).getD 0) ds
 if out.length<w then (List.replicate (w-out.length) (if u≠0 then u else 48)++out,0)
 else if (out.take (out.length-w)).all (·==48) then (out.drop (out.length-w),0) else ([],8)
def sK:Nat→List UInt8→Option (List UInt8)
 |0,_=>none
 |_+1,[]=>some []
 |k+1,c::t=>
  if c.toNat<32∨126<c.toNat∨c=34 then none
  else if c≠92 then (sK k t).map (c::·)
  else match t with
   |[]=>none
   |d::r=>if d=34∨d=92 then (sK k r).map (d::·)
    else if d=120 then (match r with
     |x::y::q=>if 0≤dK x∧0≤dK y then (sK k q).map (UInt8.ofNat (16*dK x+dK y).toNat::·) else none
     |_=>none)
    else none
def iZ (l:List UInt8):List UInt8×Int:=
 if l.length<2∨l.head? ≠some 34∨l.getLast? ≠some 34 then ([],3)
 else match sK l.length ((l.drop 1).take (l.length-2)) with
  |none=>([],3)
  |some o=>if 64<o.length then ([],9) else (o,0)
def ja:Nat→List UInt8→Nat
 |0,_=>0
 |_+1,[]=>0
 |k+1,c::t=>if c=34 then 0 else if c=92 then ja k (t.drop 1)+2 else ja k t+1
def fF (l:List UInt8):Wq:=
 if l.length≤1+ja l.length (l.drop 1) then dI 3
 else ⟨5,(iZ (l.take (ja l.length (l.drop 1)+2))).1,ja l.length (l.drop 1)+2,(iZ (l.take (ja l.length (l.drop 1)+2))).2⟩
def eD:List (List UInt8):=[[61,61,61],[33,61,61],[61,61],[33,61],[60,61],[62,61],[38,38],[124,124],[45,62],[60],[62],[33],[126],[38],[124],[94],[43],[45],[40],[41],[91],[93],[123],[125],[44],[58]]
def cA:List (List UInt8):=[[109,115],[117,115],[110,115],[112,115],[102,115],[115]]
def ny (n:Nat):UInt8:=UInt8.ofNat (if n<10 then 48+n else 87+n)
def nz (l:List UInt8):List UInt8:=34::(l.flatMap fun c=>if c=34∨c=92 then [92,c] else if c.toNat<32∨126<c.toNat then [92,120,ny (c.toNat / 16),ny (c.toNat % 16)] else [c])++[34]
end Go.Proofs.YtddoehnkgcbboaaGreatDoor
namespace Go
open Go.RowKit Go.ChangeShapes Go.WideShapes Go.Deep
theorem TH {α:Type} {n:Nat} {P:Nat→α→Prop} (h:∀i,i<n→∃x,P i x):∃l:List α,l.length=n∧∀i (hi:i<l.length),P i (l[i]'hi):=by
 induction n with
 |zero=>exact ⟨[],rfl,fun i hi=>absurd hi (by simp)⟩
 |succ n ih=>
  obtain ⟨l,hl,hP⟩:=ih (fun i hi=>h i (by omega));obtain ⟨x,hx⟩:=h n (by omega);refine ⟨l++[x],by simp [hl],fun i hi=>?_⟩
  rcases Nat.lt_or_ge i l.length with hlt|hge
  ·rw [uw hlt];exact hP i hlt
  ·have:i=l.length:=by simp at hi;omega
   subst this;rw [List.getElem_append_right (aa _)]
   simpa [hl] using hx
theorem jv {n:Int} (h:(Lit.int .i64 n).wf=true):-9223372036854775808≤n∧n≤9223372036854775807:=by
 simpa [Lit.wf,IntKind.min,IntKind.max,IntKind.signed,IntKind.bits] using h
end Go
namespace Go
open Go.RowKit
structure ah (C:Nat→Prop) (W W':World):Prop where
 os:W'.os=W.os
 tape:W'.tape=W.tape
 output:W'.output=W.output
 size:W.heap.size≤W'.heap.size
 block:∀b,b<W.heap.size→¬C b→W'.heap[b]? =W.heap[b]?
section
variable {C C' : Nat → Prop} {W W1 W2 W3 : World}
theorem ah.refl (C:Nat→Prop) (W:World):ah C W W:=⟨rfl,rfl,rfl,aa _,fun _ _ _=>rfl⟩
theorem ah.trans (h:ah C W1 W2) (k:ah C W2 W3):ah C W1 W3:=
 ⟨k.os.trans h.os,k.tape.trans h.tape,k.output.trans h.output,br h.size k.size,fun b hb hc=>(k.block b (cJ hb h.size) hc).trans (h.block b hb hc)⟩
theorem ah.trans' (h:ah C W1 W2) (k:ah C' W2 W3) (hc:∀b,C' b→C b∨W1.heap.size≤b):ah C W1 W3:=
 ⟨k.os.trans h.os,k.tape.trans h.tape,k.output.trans h.output,br h.size k.size,fun b hb hn=>(k.block b (cJ hb h.size) (fun e=>(hc b e).elim hn (by omega))).trans (h.block b hb hn)⟩
theorem ah.mono (h:ah C W1 W2) (hc:∀b,C b→C' b):ah C' W1 W2:=⟨h.os,h.tape,h.output,h.size,fun b hb hn=>h.block b hb (fun e=>hn (hc b e))⟩
theorem ah.of_below {B:Nat} (h:Below B W1 W2) (hB:W1.heap.size≤B):ah C W1 W2:=⟨h.os,h.tape,h.output,h.size,fun b hb _=>h.block b (by omega)⟩
theorem ah.below {B:Nat} (h:ah C W1 W2) (hc:∀b,C b→B≤b) (hB:B≤W1.heap.size):Below B W1 W2:=⟨h.os,h.tape,h.output,h.size,fun b hb=>h.block b (by omega) (fun e=>by have:=hc b e;omega)⟩
theorem ah.drew (h:ah C W1 W2):ah C W1 W2.drew:=⟨h.os,h.tape,h.output,h.size,h.block⟩
theorem ah.drewN (h:ah C W1 W2) (n:Nat):ah C W1 (W2.drewN n):=⟨h.os,h.tape,h.output,h.size,h.block⟩
theorem ah.alloc (h:ah C W1 W2) (o:Obj):ah C W1 (W2.alloc o):=
 h.trans ⟨rfl,rfl,rfl,by simp,fun b hb _=>Below.heap_alloc _ _ _ hb⟩
theorem ah.setCell (h:ah C W1 W2) {p:Addr} (hp:C p.block∨W1.heap.size≤p.block) (u:Value):ah C W1 (W2.setCell p u):=
 ⟨h.os,h.tape,h.output,by simpa [World.setCell] using h.size,fun b hb hn=>(Below.heap_setCell _ _ _ _ (fun e=>by subst e;rcases hp with hp|hp;exact hn hp;omega)).trans (h.block b hb hn)⟩
theorem ah.set (h:ah C W1 W2) {b:Nat} (hp:C b∨W1.heap.size≤b) (o:Nat) (u:Value):ah C W1 (W2.setCell ⟨b,o,none⟩ u):=h.setCell (p:=⟨b,o,none⟩) hp u
theorem ah.grown {row:Option Nat} (h:ah C W1 W2) (hg:W2.grownBy W3 row) (hr:∀k,row=some k→C k∨W1.heap.size≤k):ah C W1 W3:=
 ⟨hg.os.trans h.os,hg.tape.trans h.tape,hg.output.trans h.output,br h.size hg.size,fun b hb hn=>(hg.block b (cJ hb h.size) (fun e=>(hr b e.symm).elim hn (by omega))).trans (h.block b hb hn)⟩
theorem ah.cell (h:ah C W1 W2) {p:Addr} (hp:p.block<W1.heap.size) (hn:¬C p.block):W2.cell? p=W1.cell? p:=World.cell?_of_block (h.block _ hp hn)
theorem ah.putObj (h:ah C W1 W2) {l:Nat} (hl:C l∨W1.heap.size≤l) (o:Obj):ah C W1 (W2.putObj l o):=
 ⟨h.os,h.tape,h.output,by simpa using h.size,fun b hb hn=>(World.putObj_heap_other (fun e=>by subst e;rcases hl with hp|hp;exact hn hp;omega)).trans (h.block b hb hn)⟩
end
def Row (W:World) (g:Nat) (t:TypeId) (cs:Array Value):Prop:=W.heap[g]? =some (.cells cs t)
section
variable {W W' : World} {g : Nat} {t : TypeId} {cs : Array Value}
theorem Row.lt (h:Row W g t cs):g<W.heap.size:=(Array.getElem?_eq_some_iff.1 h).1
theorem Row.cell (h:Row W g t cs) (i:Nat):W.cell? ⟨g,i,none⟩=cs[i]? :=by simp [World.cell?,show W.heap[g]? =_ from h]
theorem Row.frozen (h:Row W g t cs) (i:Nat):W.frozen? ⟨g,i,none⟩=false:=by simp [World.frozen?,show W.heap[g]? =_ from h]
theorem Row.new (W:World) (t:TypeId) (cs:Array Value):Row (W.alloc (.cells cs t)) W.heap.size t cs:=World.alloc_heap_new W _
theorem Row.alloc (h:Row W g t cs) (o:Obj):Row (W.alloc o) g t cs:=(Below.heap_alloc W o g h.lt).trans h
theorem Row.drew (h:Row W g t cs):Row W.drew g t cs:=h
theorem Row.drewN (h:Row W g t cs) (n:Nat):Row (W.drewN n) g t cs:=h
theorem Row.bU (h:Row W g t cs) (i:Nat) (u:Value):Row (W.setCell ⟨g,i,none⟩ u) g t (cs.setIfInBounds i u):=by
 unfold Row at h⊢;simp [World.setCell,Array.getElem?_modify,h]
theorem Row.far (h:Row W g t cs) {p:Addr} (hp:g≠p.block) (u:Value):Row (W.setCell p u) g t cs:=(Below.heap_setCell W p u g hp).trans h
theorem Row.off (h:Row W g t cs) {b:Nat} (hp:g≠b) (o:Nat) (u:Value):Row (W.setCell ⟨b,o,none⟩ u) g t cs:=h.far (p:=⟨b,o,none⟩) hp u
theorem Row.below {B:Nat} (h:Row W g t cs) (hb:Below B W W') (hg:g<B):Row W' g t cs:=(hb.block g hg).trans h
theorem Row.keep {C:Nat→Prop} (h:Row W g t cs) (hk:ah C W W') (hg:¬C g):Row W' g t cs:=(hk.block g h.lt hg).trans h
theorem Row.grown {row:Option Nat} (h:Row W g t cs) (hb:W.grownBy W' row) (hg:some g≠row):Row W' g t cs:=(hb.block g h.lt hg).trans h
theorem Row.ne_ {g':Nat} {t':TypeId} {cs':Array Value} (h:Row W g t cs) (h':Row W g' t' cs') (hne:t≠t'):g≠g':=by
 rintro rfl;unfold Row at h h';rw [h] at h';injection h' with h';injection h' with _ ht;exact hne ht
end
theorem mD {W:World} (l:List Value) (t:TypeId) {n:Nat} (hn:n=W.heap.size):∀j u,l[j]? =some u→(W.alloc (.cells l.toArray t)).cell? ((⟨n,0,none⟩:Addr).add j)=some u:=by
 intro j u h;subst hn
 have hadd:(⟨W.heap.size,0,none⟩:Addr).add j=⟨W.heap.size,j,none⟩:=by unfold Addr.add;split<;>simp_all
 rw [hadd,(Row.new W t l.toArray).cell j]
 simpa using h
structure Same (X:Nat→Prop) (W W':World):Prop where
 os:W'.os=W.os
 tape:W'.tape=W.tape
 output:W'.output=W.output
 size:W.heap.size≤W'.heap.size
 block:∀b,X b→W'.heap[b]? =W.heap[b]?
theorem Same.refl (X:Nat→Prop) (W:World):Same X W W:=⟨rfl,rfl,rfl,aa _,fun _ _=>rfl⟩
theorem Same.cell {X:Nat→Prop} {W W':World} (h:Same X W W') {p:Addr} (hp:X p.block):W'.cell? p=W.cell? p:=World.cell?_of_block (h.block _ hp)
theorem Same.frozen {X:Nat→Prop} {W W':World} (h:Same X W W') {p:Addr} (hp:X p.block):W'.frozen? p=W.frozen? p:=by
 simp only [World.frozen?,h.block _ hp]
theorem Same.of_below {B:Nat} {X:Nat→Prop} {W W':World} (h:Below B W W') (hX:∀b,X b→b<B):Same X W W':=⟨h.os,h.tape,h.output,h.size,fun b hb=>h.block b (hX b hb)⟩
theorem Row.same {X:Nat→Prop} {W W':World} {g:Nat} {t:TypeId} {cs:Array Value} (h:Row W g t cs) (hs:Same X W W') (hX:X g):Row W' g t cs:=(hs.block g hX).trans h
def Laid (C:Nat→Prop) (W:World):Prop:=∀b,C b→b<W.heap.size
def iB (C:Nat→Prop) (W:World) (C':Nat→Prop) (W':World):Prop:=∀b,C' b→(C b∨W.heap.size≤b)∧b<W'.heap.size
theorem Laid.ab3 {C:Nat→Prop} {W:World} (h:Laid C W):iB C W C W:=fun b hb=>⟨.inl hb,h b hb⟩
theorem iB.laid {C C':Nat→Prop} {W W':World} (h:iB C W C' W'):Laid C' W':=fun b hb=>(h b hb).2
theorem iB.later {C C':Nat→Prop} {W W1 W2:World} (h:iB C W C' W1) (hz:W1.heap.size≤W2.heap.size):iB C W C' W2:=fun b hb=>⟨(h b hb).1,cJ (h b hb).2 hz⟩
theorem iB.trans {C0 C C':Nat→Prop} {W W1 W2:World} (h:iB C0 W C W1) (k:iB C W1 C' W2) (hz:W.heap.size≤W1.heap.size):iB C0 W C' W2:=
 fun b hb=>⟨(k b hb).1.elim (fun e=>(h b e).1) (fun e=>.inr (br hz e)),(k b hb).2⟩
theorem ah.rf {C0 C:Nat→Prop} {W W1 W2:World} (h:ah C0 W W1) (k:ah C W1 W2) (hg:iB C0 W C W1):ah C0 W W2:=h.trans' k (fun b hb=>(hg b hb).1)
def Ay (n:Nat) (J:Nat→(Nat→Prop)→World→Prop):Prop:=
 ∀k C W1 W2,J k C W1→Same (fun b=>b<n∨C b) W1 W2→J k C W2
def TI {α:Type} (P:Program) (l:Nat) (DD:α→Array Value) (J Jx:Nat→(Nat→Prop)→World→Prop) (k:Nat) (x:α) (C:Nat→Prop) (W1:World):Prop:=
 YieldAt Fence.wide 0 P l (DD x) W1 fun e W'=>∃C',ah C W1 W'∧iB C W1 C' W'∧
  ((e=.returned (.bool true)∧J (k+1) C' W')∨(e=.returned (.bool false)∧Jx (k+1) C' W'))
def Iter {α:Type} (P:Program) (gf:Nat) (lb:Array Value) (DD:α→Array Value) (xs:List α) (R:Nat→Prop) (w:World):Prop:=
 ∀(l:Nat) (J Jx:Nat→(Nat→Prop)→World→Prop) (C:Nat→Prop) (W:World),
  Same R w W→(∀b,R b→¬C b)→Laid C W→Laid R W→Ay W.heap.size J→Ay W.heap.size Jx→
  (∀k x C1 W1,xs[k]? =some x→J k C1 W1→Laid C1 W1→TI P l DD J Jx k x C1 W1)→
  J 0 C W→
  CallsIn Fence.wide 0 P gf (#[.func (.yield l) #[] #[]]++lb) W fun e W'=>(∃v,e=.returned v)∧
   ∃C',ah C W W'∧iB C W C' W'∧(J xs.length C' W'∨∃k,k≤xs.length∧Jx k C' W')
structure But (l:Nat) (W1 W2:World):Prop where
 os:W2.os=W1.os
 tape:W2.tape=W1.tape
 output:W2.output=W1.output
 size:W2.heap.size=W1.heap.size
 block:∀b,b≠l→W2.heap[b]? =W1.heap[b]?
theorem But.putObj (W:World) (l:Nat) (o:Obj):But l W (W.putObj l o):=⟨rfl,rfl,rfl,by simp,fun _ h=>World.putObj_heap_other h⟩
theorem But.cell {l:Nat} {W W':World} (h:But l W W') {p:Addr} (hp:p.block≠l):W'.cell? p=W.cell? p:=World.cell?_of_block (h.block _ hp)
theorem But.frozen {l:Nat} {W W':World} (h:But l W W') {p:Addr} (hp:p.block≠l):W'.frozen? p=W.frozen? p:=by
 simp only [World.frozen?,h.block _ hp]
theorem But.same {l:Nat} {X:Nat→Prop} {W W':World} (h:But l W W') (hX:¬X l):Same X W W':=⟨h.os,h.tape,h.output,Nat.le_of_eq h.size.symm,fun b hb=>h.block b (fun e=>hX (e▸hb))⟩
theorem Row.but {l:Nat} {W W':World} {g:Nat} {t:TypeId} {cs:Array Value} (h:Row W g t cs) (hb:But l W W') (hg:g≠l):Row W' g t cs:=(hb.block g hg).trans h
section
variable {P : Program} {α : Type}
theorem ah.heap {C:Nat→Prop} {W W':World} (h:ah C W W') {l:Nat} {o:Obj} (hl:W.heap[l]? =some o) (hn:¬C l):W'.heap[l]? =some o:=
 (h.block l ((Array.getElem?_eq_some_iff.1 hl).1) hn).trans hl
theorem oU {fn:Func} {R:Ending→World→Prop} {tmps:Array Value} {D:Nat} {w:World} {v:Value}
 (hK:w.heap[D]? =some (.deferred (some []))) (hr:(results fn tmps).run P (w.putObj D (.deferred none))=.ok v (w.putObj D (.deferred none)))
 (hR:R (.returned v) (w.putObj D (.deferred none))):
 bodyPostM Fence.wide 0 P fn R .ret {tmps:=tmps,defers:=[{target:=.collected D,args:=#[]}]} w:=
 ⟨by simp,.inl ⟨_,_,rfl,run_takeDeferred hK,v,hr,hR⟩⟩
end
end Go
namespace Go
open Go.RowKit Go.ChangeShapes Go.WideShapes Go.Deep
def Sl {α:Type} (f:α→Value) (W:World) (A:Option Addr) (xs:List α):Prop:=
 0<xs.length→∃b off,A=some ⟨b,off,none⟩∧∀i (h:i<xs.length),W.cell? ⟨b,off+i,none⟩=some (f (xs[i]'h))
section
variable {α : Type} {f : α → Value} {W W' : World} {A : Option Addr} {xs : List α}
theorem Sl.nil (f:α→Value) (W:World) (A:Option Addr):Sl f W A []:=fun h=>absurd h (by simp)
theorem Sl.keep (h:Sl f W A xs) {B:Nat} (hA:∀a,A=some a→a.block<B) (hb:Below B W W'):Sl f W' A xs:=by
 intro hp;obtain ⟨b,off,rfl,hat⟩:=h hp;exact ⟨b,off,rfl,fun i hi=>(hb.cell (p:=⟨b,off+i,none⟩) (hA ⟨b,off,none⟩ rfl)).trans (hat i hi)⟩
theorem Sl.lt (h:Sl f W A xs) (hp:0<xs.length):∀a,A=some a→a.block<W.heap.size:=by
 obtain ⟨b,off,rfl,hat⟩:=h hp;rintro a ⟨⟩;exact World.block_lt_of_cell? W _ (hat 0 hp)
theorem Sl.below (h:Sl f W A xs) (hb:Below W.heap.size W W'):Sl f W' A xs:=by
 intro hp;obtain ⟨b,off,rfl,hat⟩:=h hp;have hbz:b<W.heap.size:=World.block_lt_of_cell? W _ (hat 0 hp);exact ⟨b,off,rfl,fun i hi=>(hb.cell (p:=⟨b,off+i,none⟩) hbz).trans (hat i hi)⟩
theorem Sl.at (h:Sl f W A xs) {i:Nat} (hi:i<xs.length):∃b off,A=some ⟨b,off,none⟩∧b<W.heap.size∧∀W',Below W.heap.size W W'→W'.cell? ⟨b,off+i,none⟩=some (f (xs[i]'hi)):=by
 obtain ⟨b,off,rfl,hat⟩:=h (by omega);have hbz:b<W.heap.size:=World.block_lt_of_cell? W _ (hat i hi);exact ⟨b,off,rfl,hbz,fun W' hb=>(hb.cell (p:=⟨b,off+i,none⟩) hbz).trans (hat i hi)⟩
theorem aX {B:Nat} {a w:World} (h:Below B a w) (n:Nat):Below B a (w.drewN n):=⟨h.os,h.tape,h.output,h.size,h.block⟩
theorem sL {w:World} {base base':Nat} {e:TypeId} {size:Nat} {v:Value} {n:Nat} {xs:List Value} (h:w.ownsRow base e size v n xs) (hb:base'≤base):w.ownsRow base' e size v n xs:=
 ⟨h.1,h.2.imp id fun ⟨g,c,cs,h1,h2,h3⟩=>⟨g,c,cs,h1,br hb h2,h3⟩⟩
theorem iC {w w':World} {base:Nat} {e:TypeId} {size:Nat} {v:Value} {n:Nat} {xs:List Value} (h:w.ownsRow base e size v n xs) (hb:Below w.heap.size w w'):w'.ownsRow base e size v n xs:=
 World.ownsRow.kept (row:=none) h ⟨hb.os,hb.tape,hb.output,hb.size,fun k hk _=>hb.block k hk⟩ (by cases v.ownBlock<;>simp)
theorem XD {base:Nat} {e:TypeId} {v:Value} {n:Nat} (h:W.ownsRow base e 1 v n (xs.map f)) (hn:n=xs.length):
 ∃A cap,v=.slice A n cap∧Sl f W A xs∧∀a,A=some a→base≤a.block∧a.block<W.heap.size:=by
 rcases Nat.eq_zero_or_pos n with h0|h0
 ·obtain ⟨_,h1⟩:=id h
  rcases h1 with ⟨rfl,rfl⟩|⟨g,cap,cs,hv,_⟩
  ·exact ⟨none,0,by simp_all,fun hp=>absurd hp (by omega),fun a ha=>by cases ha⟩
  ·refine ⟨_,cap,hv,fun hp=>absurd hp (by omega),fun a ha=>?_⟩;cases ha;exact World.ownsRow.lt h g (by rw [hv];rfl)
 ·obtain ⟨g,cap,rfl,_⟩:=World.ownsRow.form h h0;refine ⟨_,cap,rfl,fun hp=>⟨g,0,rfl,fun i hi=>?_⟩,fun a ha=>by cases ha;exact World.ownsRow.lt h g rfl⟩;rw [Nat.zero_add,World.ownsRow.cellAt h i (by omega),List.getElem?_map,List.getElem?_eq_getElem hi];rfl
end
end Go
namespace Go.Proofs.YtddoehnkgcbboaaGreatDoor
open Go.RowKit Go.Shelf
theorem aT {a b:Bool} (h:a=b):Ending.returned (.bool b)=.returned (.bool a):=by rw [h]
theorem aL {c d:UInt8} (h:c≠d):((c.toNat:Int)==(d.toNat:Int))=false:=aP.2 fun e=>h (UInt8.toNat_inj.1 (by omega))
theorem fL {p:UInt8→Prop} (h:∀n:Fin 256,p (UInt8.ofNat n.val)) (c:UInt8):p c:=by
 have:=h ⟨c.toNat,c.toNat_lt⟩;rwa [UInt8.ofNat_toNat] at this
theorem TJ (c:UInt8):JT c=decide (97≤(bp c).toNat∧(bp c).toNat≤122):=
 fL (p:=fun c=>JT c=decide (97≤(bp c).toNat∧(bp c).toNat≤122)) (by decide+kernel) c
theorem rh (c:UInt8):bits .or .u8 (c.toNat:Int) 32=((bp c).toNat:Int):=by
 have h:=u8_or_nat c.toNat 32 c.toNat_lt (by decide);unfold bp;rw [UInt8.toNat_or];exact h
theorem xz (c:UInt8) (w:World):Calls Tryz.prog 116 #[.int .u8 (c.toNat:Int)] w fun e w'=>e=.returned (.bool (Dr c))∧w'=w:=by
 by_cases h1:c=32
 ·subst h1;go_enter Tryz.func116,Tryz.ntmps116;go_wp2;go_ret;exact ⟨rfl,rfl⟩
 ·have e1:((c.toNat:Int)==32)=false:=aL (d:=32) h1;by_cases h2:c=9
  ·subst h2;go_enter Tryz.func116,Tryz.ntmps116;go_wp2;go_ret;exact ⟨rfl,rfl⟩
  ·have e2:((c.toNat:Int)==9)=false:=aL (d:=9) h2;by_cases h3:c=10
   ·subst h3;go_enter Tryz.func116,Tryz.ntmps116;go_wp2;go_ret;exact ⟨rfl,rfl⟩
   ·have e3:((c.toNat:Int)==10)=false:=aL (d:=10) h3;by_cases h4:c=13
    ·subst h4;go_enter Tryz.func116,Tryz.ntmps116;go_wp2;go_ret;exact ⟨rfl,rfl⟩
    ·have e4:((c.toNat:Int)==13)=false:=aL (d:=13) h4;have HV:=hide (show Dr c=false by unfold Dr;simp [h1,h2,h3,h4]);clear h1 h2 h3 h4;go_enter Tryz.func116,Tryz.ntmps116;go_wp2;go_ret;exact ⟨aT HV.o,rfl⟩
theorem jw (c:UInt8) (w:World):Calls Tryz.prog 121 #[.int .u8 (c.toNat:Int)] w fun e w'=>e=.returned (.bool (bg c))∧w'=w:=by
 by_cases h1:48≤c.toNat
 ·have e1:(48:Int)≤(c.toNat:Int):=by omega
  by_cases h2:c.toNat≤57
  ·have e2:(c.toNat:Int)≤57:=by omega
   have HV:=ae (bg c=true) (decide_eq_true ⟨h1,h2⟩);go_enter Tryz.func121,Tryz.ntmps121;go_wp2;go_ret;exact ⟨aT HV.o,rfl⟩
  ·have e2:¬(c.toNat:Int)≤57:=by omega
   have HV:=ae (bg c=false) (decide_eq_false fun h=>h2 h.2);go_enter Tryz.func121,Tryz.ntmps121;go_wp2;go_ret;exact ⟨aT HV.o,rfl⟩
 ·have e1:¬(48:Int)≤(c.toNat:Int):=by omega
  have HV:=ae (bg c=false) (decide_eq_false fun h=>h1 h.1);go_enter Tryz.func121,Tryz.ntmps121;go_wp2;go_ret;exact ⟨aT HV.o,rfl⟩
theorem vC (c:UInt8) (w:World):Calls Tryz.prog 153 #[.int .u8 (c.toNat:Int)] w fun e w'=>e=.returned (.bool (JT c))∧w'=w:=by
 have N7:=rh c;have hlt:=TJ c;by_cases h1:97≤(bp c).toNat
 ·have e1:(97:Int)≤((bp c).toNat:Int):=by omega
  by_cases h2:(bp c).toNat≤122
  ·have e2:((bp c).toNat:Int)≤122:=by omega
   have HV:=hide (show JT c=true by rw [hlt];exact decide_eq_true ⟨h1,h2⟩);clear hlt;go_enter Tryz.func153,Tryz.ntmps153;go_wp2;go_ret;exact ⟨aT HV.o,rfl⟩
  ·have e2:¬((bp c).toNat:Int)≤122:=by omega
   have HV:=hide (show JT c=false by rw [hlt];exact decide_eq_false fun h=>h2 h.2);clear hlt;go_enter Tryz.func153,Tryz.ntmps153;go_wp2;go_ret;exact ⟨aT HV.o,rfl⟩
 ·have e1:¬(97:Int)≤((bp c).toNat:Int):=by omega
  have HV:=hide (show JT c=false by rw [hlt];exact decide_eq_false fun h=>h1 h.1);clear hlt;go_enter Tryz.func153,Tryz.ntmps153;go_wp2;go_ret;exact ⟨aT HV.o,rfl⟩
theorem rq (c:UInt8) (w:World):Calls Tryz.prog 119 #[.int .u8 (c.toNat:Int)] w fun e w'=>e=.returned (.bool (oC c))∧w'=w:=by
 have LT:=hide (vC c w)
 cases hl:JT c with
 |true=>
  rw [hl] at LT;have HV:=hide (show oC c=true by unfold oC;rw [hl];rfl);clear hl;go_enter Tryz.func119,Tryz.ntmps119;go_wp2_with fail;refine LT.o.mono ?_;rintro e w1 ⟨rfl,rfl⟩;go_wp2;go_ret;exact ⟨aT HV.o,rfl⟩
 |false=>
  rw [hl] at LT;by_cases h:c=95
  ·subst h;go_enter Tryz.func119,Tryz.ntmps119;go_wp2_with fail;refine LT.o.mono ?_;rintro e w1 ⟨rfl,rfl⟩;go_wp2;go_ret;exact ⟨rfl,rfl⟩
  ·have e1:((c.toNat:Int)==95)=false:=aL (d:=95) h;have HV:=hide (show oC c=false by unfold oC;rw [hl];simp [h]);clear hl h;go_enter Tryz.func119,Tryz.ntmps119;go_wp2_with fail;refine LT.o.mono ?_;rintro e w1 ⟨rfl,rfl⟩;go_wp2;go_ret;exact ⟨aT HV.o,rfl⟩
theorem vD (c:UInt8) (w:World):Calls Tryz.prog 154 #[.int .u8 (c.toNat:Int)] w fun e w'=>e=.returned (.bool (lT c))∧w'=w:=by
 have FI:=hide (rq c w);have DG:=hide (jw c w)
 cases hl:oC c with
 |true=>
  rw [hl] at FI;have HV:=hide (show lT c=true by unfold lT;rw [hl];rfl);clear hl;go_enter Tryz.func154,Tryz.ntmps154;go_wp2_with fail;refine FI.o.mono ?_;rintro e w1 ⟨rfl,rfl⟩;go_wp2;go_ret;exact ⟨aT HV.o,rfl⟩
 |false=>
  rw [hl] at FI
  cases hd:bg c with
  |true=>
   rw [hd] at DG;have HV:=hide (show lT c=true by unfold lT;rw [hl,hd];rfl);clear hl hd;go_enter Tryz.func154,Tryz.ntmps154;go_wp2_with fail;refine FI.o.mono ?_;rintro e w1 ⟨rfl,rfl⟩;go_wp2_with fail;refine DG.o.mono ?_;rintro e w1 ⟨rfl,rfl⟩;go_wp2;go_ret;exact ⟨aT HV.o,rfl⟩
  |false=>
   rw [hd] at DG;by_cases h:c=36
   ·subst h;go_enter Tryz.func154,Tryz.ntmps154;go_wp2_with fail;refine FI.o.mono ?_;rintro e w1 ⟨rfl,rfl⟩;go_wp2_with fail;refine DG.o.mono ?_;rintro e w1 ⟨rfl,rfl⟩;go_wp2;go_ret;exact ⟨rfl,rfl⟩
   ·have e1:((c.toNat:Int)==36)=false:=aL (d:=36) h;have HV:=hide (show lT c=false by unfold lT;rw [hl,hd];simp [h]);clear hl hd h;go_enter Tryz.func154,Tryz.ntmps154;go_wp2_with fail;refine FI.o.mono ?_;rintro e w1 ⟨rfl,rfl⟩;go_wp2_with fail;refine DG.o.mono ?_;rintro e w1 ⟨rfl,rfl⟩;go_wp2;go_ret;exact ⟨aT HV.o,rfl⟩
theorem BW (c:UInt8) (w:World):Calls Tryz.prog 155 #[.int .u8 (c.toNat:Int)] w fun e w'=>e=.returned (.bool (uo c))∧w'=w:=by
 by_cases h1:32<c.toNat
 ·have e1:(32:Int)<(c.toNat:Int):=by omega
  by_cases h2:c.toNat<127
  ·have e2:(c.toNat:Int)<127:=by omega
   have HV:=ae (uo c=true) (decide_eq_true ⟨by omega,by omega⟩);go_enter Tryz.func155,Tryz.ntmps155;go_wp2;go_ret;exact ⟨aT HV.o,rfl⟩
  ·have e2:¬(c.toNat:Int)<127:=by omega
   have HV:=ae (uo c=false) (decide_eq_false fun h=>by omega);go_enter Tryz.func155,Tryz.ntmps155;go_wp2;go_ret;exact ⟨aT HV.o,rfl⟩
 ·have e1:¬(32:Int)<(c.toNat:Int):=by omega
  have HV:=ae (uo c=false) (decide_eq_false fun h=>by omega);go_enter Tryz.func155,Tryz.ntmps155;go_wp2;go_ret;exact ⟨aT HV.o,rfl⟩
def ag (l:List UInt8):ByteArray:=⟨l.toArray⟩
theorem dD (l:List UInt8):(ag l).data.toList=l:=rfl
theorem OG (s:ByteArray):s=ag s.data.toList:=rfl
theorem aO (l:List UInt8):(ag l).size=l.length:=by rw [Lib.size_eq,dD]
theorem fu (l:List UInt8) (i:Nat) (h:i<(ag l).size):(ag l)[i]'h=l[i]'(by rw [←aO];exact h):=by
 have:=Lib.data_getElem? (ag l) i h;rw [dD,List.getElem?_eq_getElem (by rw [←aO];exact h)] at this;exact (au this).symm
theorem sM (l:List UInt8) (k:Nat):(ag l).extract k (ag l).size=ag (l.drop k):=by
 apply Go.WideShapes.bytes_inj;rw [Lib.extract_to_end,dD,dD]
theorem sN (l:List UInt8) (k:Nat):(ag l).extract 0 k=ag (l.take k):=by
 apply Go.WideShapes.bytes_inj;rw [Lib.extract_from_zero,dD,dD]
theorem kp {a b:Int} (h:a=b):Ending.returned (.int .i64 b)=.returned (.int .i64 a):=by rw [h]
theorem xA (c:UInt8) (w:World):Calls Tryz.prog 196 #[.int .u8 (c.toNat:Int)] w fun e w'=>e=.returned (.int .i64 (dK c))∧w'=w:=by
 have DG:=hide (jw c w);have N7:=rh c;have hlt:=c.toNat_lt;have zS:=(bp c).toNat_lt
 cases hd:bg c with
 |true=>
  rw [hd] at DG;have hb:48≤c.toNat∧c.toNat≤57:=of_decide_eq_true hd
  have w1:IntKind.u8.wrap ((c.toNat:Int)-48)=(c.toNat:Int)-48:=by rw [IntKind.wrap_u8];omega
  have w2:IntKind.i64.wrap ((c.toNat:Int)-48)=(c.toNat:Int)-48:=bI _ (by omega);have HV:=hide (show dK c=(c.toNat:Int)-48 by unfold dK;rw [if_pos hd]);clear hd hb hlt zS N7;go_enter Tryz.func196,Tryz.ntmps196;go_wp2_with fail;refine DG.o.mono ?_;rintro e w1 ⟨rfl,rfl⟩;go_wp2;go_ret;exact ⟨kp HV.o,rfl⟩
 |false=>
  rw [hd] at DG;by_cases h1:97≤(bp c).toNat
  ·have e1:(97:Int)≤((bp c).toNat:Int):=by omega
   by_cases h2:(bp c).toNat≤102
   ·have e2:((bp c).toNat:Int)≤102:=by omega
    have w1:IntKind.u8.wrap (((bp c).toNat:Int)-97)=((bp c).toNat:Int)-97:=by rw [IntKind.wrap_u8];omega
    have w2:IntKind.i64.wrap (((bp c).toNat:Int)-97)=((bp c).toNat:Int)-97:=bI _ (by omega);have w3:IntKind.i64.wrap (((bp c).toNat:Int)-97+10)=((bp c).toNat:Int)-97+10:=bI _ (by omega);have HV:=hide (show dK c=((bp c).toNat:Int)-97+10 by unfold dK;rw [if_neg (by rw [hd];decide),if_pos ⟨h1,h2⟩]);clear hd;go_enter Tryz.func196,Tryz.ntmps196;go_wp2_with fail;refine DG.o.mono ?_;rintro e w1 ⟨rfl,rfl⟩;go_wp2;go_ret;exact ⟨kp HV.o,rfl⟩
   ·have e2:¬((bp c).toNat:Int)≤102:=by omega
    have HV:=hide (show dK c=-1 by unfold dK;rw [if_neg (by rw [hd];decide),if_neg (fun h=>h2 h.2)]);clear hd;go_enter Tryz.func196,Tryz.ntmps196;go_wp2_with fail;refine DG.o.mono ?_;rintro e w1 ⟨rfl,rfl⟩;go_wp2;go_ret;exact ⟨kp HV.o,rfl⟩
  ·have e1:¬(97:Int)≤((bp c).toNat:Int):=by omega
   have HV:=hide (show dK c=-1 by unfold dK;rw [if_neg (by rw [hd];decide),if_neg (fun h=>h1 h.1)]);clear hd;go_enter Tryz.func196,Tryz.ntmps196;go_wp2_with fail;refine DG.o.mono ?_;rintro e w1 ⟨rfl,rfl⟩;go_wp2;go_ret;exact ⟨kp HV.o,rfl⟩
theorem sO (c:UInt8) (w:World):Calls Tryz.prog 190 #[.int .u8 (c.toNat:Int)] w fun e w'=>e=.returned (.int .u8 ((fE c).toNat:Int))∧w'=w:=by
 have N7:=rh c;by_cases h1:bp c=120
 ·have HV:=hide (show fE c=120 by unfold fE;rw [if_pos (.inl h1),h1]);rw [h1] at N7;clear h1;go_enter Tryz.func190,Tryz.ntmps190;go_wp2;go_ret;rw [HV.o];exact ⟨rfl,rfl⟩
 ·by_cases h2:bp c=122
  ·have HV:=hide (show fE c=122 by unfold fE;rw [if_pos (.inr h2),h2]);rw [h2] at N7;clear h1 h2;go_enter Tryz.func190,Tryz.ntmps190;go_wp2;go_ret;rw [HV.o];exact ⟨rfl,rfl⟩
  ·have e1:(((bp c).toNat:Int)==120)=false:=aL (d:=120) h1;have e2:(((bp c).toNat:Int)==122)=false:=aL (d:=122) h2;have HV:=hide (show fE c=0 by unfold fE;rw [if_neg (by rintro (h|h);exact h1 h;exact h2 h)]);clear h1 h2;go_enter Tryz.func190,Tryz.ntmps190;go_wp2;go_ret;rw [HV.o];exact ⟨rfl,rfl⟩
def OH (w:World) (f:FuncId) (lb:Array Value) (p:UInt8→Bool):Prop:=
 (∀(W:World) (c:UInt8),Below w.heap.size w W→Calls Tryz.prog f (#[.int .u8 (c.toNat:Int)]++lb) W fun e w'=>e=.returned (.bool (p c))∧Below W.heap.size W w')∧∀(W:World) (c:UInt8),(callFunc f (#[.int .u8 (c.toNat:Int)]++lb)).run Tryz.prog W=.ok (.enter f (#[.int .u8 (c.toNat:Int)]++lb)) W
theorem OI {p:UInt8→Bool} {l:List UInt8} {i:Nat} (h:i<l.length) (hp:p l[i]=true):i+bf p (l.drop i)=(i+1)+bf p (l.drop (i+1)):=by
 rw [cn h,ft hp];omega
theorem OJ {p:UInt8→Bool} {l:List UInt8} {i:Nat} (h:i<l.length) (hp:p l[i]=false):i+bf p (l.drop i)=i:=by
 rw [cn h,gI hp];rfl
theorem TN {p:UInt8→Bool} {l:List UInt8} {i:Nat} (h:l.length≤i):i+bf p (l.drop i)=i:=by
 rw [dc h];rfl
theorem oV (l:List UInt8) (az:Nat) (f:FuncId) (lb:Array Value) (p:UInt8→Bool) (w:World) (hl:l.length≤1000000) (hat:az≤1000000) (hT:OH w f lb p):
 Calls Tryz.prog 117 #[.string (ag l),.int .i64 (az:Int),.func (.func f) #[] lb] w fun e w'=>e=.returned (.int .i64 ((az+bf p (l.drop az):Nat):Int))∧Below w.heap.size w w':=by
 obtain ⟨R,hR⟩:∃R,az+bf p (l.drop az)=R:=⟨_,rfl⟩
 have HR:=hide hR;have HT:=hide hT;have hz:=aO l;have hg:∀(i:Nat) (h:i<(ag l).size) (h2:i<l.length),(ag l)[i]'h=l[i]:=fun i h h2=>fu l i h;rw [hR];clear hT hR;generalize ag l=s at*;have Hz:=hide hz;have Hg:=hide hg;clear hz hg;go_enter Tryz.func117,Tryz.ntmps117;go_wp2_with fail
 go_loopw [1] (fun v wr=>∃i:Nat,v=.int .i64 (i:Int)∧i+bf p (l.drop i)=R∧i≤2000000∧Below w.heap.size w wr) (fun v _=>l.length-(intOf v).toNat)
 case atStart=>exact ⟨az,rfl,HR.o,by omega,af _ _⟩
 case round=>
  obtain ⟨i,rfl,hRi,hi,hb⟩:=hrel;have Hb:=hide hb;have Wn:=hide hRi;clear hb hRi;by_cases hlt:i<l.length
  ·have hi':(i:Int)<(s.size:Int):=by have:=Hz.o;omega
   have hi0:(0:Int)≤(i:Int):=by omega
   have N8:i<s.size:=by have:=Hz.o;omega
   have hwi:IntKind.i64.wrap ((i:Int)+1)=(i:Int)+1:=bI _ (by omega)
   obtain ⟨c,hc⟩:∃c,l[i]=c:=⟨_,rfl⟩
   have hsc:s[i]'N8=c:=by rw [Hg.o i N8 hlt];exact hc
   have HC:=hide hc;have T:=hide (HT.o.1 wr c Hb.o);have hcall:=fun W=>HT.o.2 W c;clear hc
   cases hp:p c with
   |true=>
    rw [hp] at T;have HS:=hide (show (i+1)+bf p (l.drop (i+1))=R by rw [←OI hlt (by rw [HC.o];exact hp)];exact Wn.o);clear hp;go_wp2_with fail;refine T.o.mono ?_;rintro e w1 ⟨rfl,hb1⟩;have Hb1:=hide (Hb.o.trans (hb1.mono Hb.o.size));clear hb1;go_wp2;go_roundw
    case rel=>exact ⟨i+1,by go_num,HS.o,by omega,Hb1.o⟩
    case measure=>simp [intOf];omega
   |false=>
    rw [hp] at T;have HS:=hide (show R=i by rw [←Wn.o];exact OJ hlt (by rw [HC.o];exact hp));clear hp;go_wp2_with fail;refine T.o.mono ?_;rintro e w1 ⟨rfl,hb1⟩;have Hb1:=hide (Hb.o.trans (hb1.mono Hb.o.size));clear hb1;go_wp2;go_ret;rw [HS.o];exact ⟨rfl,Hb1.o⟩
  ·have hi':¬(i:Int)<(s.size:Int):=by have:=Hz.o;omega
   have HS:=hide (show R=i by rw [←Wn.o];exact TN (by omega));go_wp2;go_ret;rw [HS.o];exact ⟨rfl,Hb.o⟩
theorem ld {P:Program} {f:FuncId} {args:Array Value} (h:(P.funcs[f]?).map (fun fn=>(fn.name== "runtime.NumGoroutine",fn.body.isNone))=some (false,false)) (w:World):
 (callFunc f args).run P w=.ok (.enter f args) w:=by
 cases hf:P.funcs[f]? with
 |none=>rw [hf] at h;cases h
 |some fn=>
  rw [hf] at h;simp only [Option.map_some,Option.some.injEq,Prod.mk.injEq] at h
  have h1:fn.name≠ "runtime.NumGoroutine":=by simpa using h.1
  cases hc:fn.body with
  |none=>rw [hc] at h;cases h.2
  |some c=>simp [callFunc,go_sem,hf,h1,hc]
theorem sP {w:World} {f:FuncId} {p:UInt8→Bool} (h:∀(c:UInt8) (W:World),Calls Tryz.prog f #[.int .u8 (c.toNat:Int)] W fun e w'=>e=.returned (.bool (p c))∧w'=W)
 (hf:(Tryz.prog.funcs[f]?).map (fun fn=>(fn.name== "runtime.NumGoroutine",fn.body.isNone))=some (false,false)):OH w f #[] p:=
 ⟨fun W c _=>by
  rw [Array.append_empty]
  exact (h c W).mono (by rintro e w' ⟨rfl,rfl⟩;exact ⟨rfl,af _ _⟩),fun W c=>ld hf W⟩
theorem Lh (c:UInt8) (w:World):Calls Tryz.prog 118 #[.int .u8 (c.toNat:Int)] w fun e w'=>e=.returned (.bool (c !=10))∧w'=w:=by
 by_cases h1:c=10
 ·subst h1;go_enter Tryz.func118,Tryz.ntmps118;go_wp2;go_ret;exact ⟨rfl,rfl⟩
 ·have e1:((c.toNat:Int)==10)=false:=aL (d:=10) h1
  have e2:((c.toNat:Int) !=10)=true:=by rw [bne,e1];rfl
  have HV:=hide (show (c !=10)=true by simp [h1]);clear h1;go_enter Tryz.func118,Tryz.ntmps118;go_wp2;go_ret;exact ⟨aT HV.o,rfl⟩
theorem TQ (l:List UInt8) (az:Nat) (w:World) (hl:l.length≤1000000) (hat:az≤1000000):
 Calls Tryz.prog 117 #[.string (ag l),.int .i64 (az:Int),.func (.func 118) #[] #[]] w fun e w'=>e=.returned (.int .i64 ((az+bf (· !=10) (l.drop az):Nat):Int))∧Below w.heap.size w w':=
 oV l az _ #[] _ w hl hat (sP Lh (by kernel_rfl))
theorem oW (l:List UInt8) (az:Nat) (w:World) (hl:l.length≤1000000) (hat:az≤1000000):
 Calls Tryz.prog 117 #[.string (ag l),.int .i64 (az:Int),.func (.func 121) #[] #[]] w fun e w'=>e=.returned (.int .i64 ((az+bf bg (l.drop az):Nat):Int))∧Below w.heap.size w w':=
 oV l az _ #[] _ w hl hat (sP jw (by kernel_rfl))
theorem Li (l:List UInt8) (az:Nat) (w:World) (hl:l.length≤1000000) (hat:az≤1000000):
 Calls Tryz.prog 117 #[.string (ag l),.int .i64 (az:Int),.func (.func 154) #[] #[]] w fun e w'=>e=.returned (.int .i64 ((az+bf lT (l.drop az):Nat):Int))∧Below w.heap.size w w':=
 oV l az _ #[] _ w hl hat (sP vD (by kernel_rfl))
theorem GJ (l:List UInt8) (az:Nat) (w:World) (hl:l.length≤1000000) (hat:az≤1000000):
 Calls Tryz.prog 117 #[.string (ag l),.int .i64 (az:Int),.func (.func 155) #[] #[]] w fun e w'=>e=.returned (.int .i64 ((az+bf uo (l.drop az):Nat):Int))∧Below w.heap.size w w':=
 oV l az _ #[] _ w hl hat (sP BW (by kernel_rfl))
theorem ru:∀(n m:Nat) (l:List UInt8),l.length≤n→l.length≤m→mC n l=mC m l
 |0,m,l,hn,_=>by
  have:l=[]:=List.length_eq_zero_iff.1 (by omega)
  subst this;cases m<;>rfl
 |n+1,0,l,_,hm=>by
  have:l=[]:=List.length_eq_zero_iff.1 (by omega);subst this;rfl
 |n+1,m+1,l,hn,hm=>by
  cases l with
  |nil=>rfl
  |cons c t=>
   rw [aj] at hn hm;unfold mC;rw [ru n m t (by omega) (by omega),ru n m (t.drop _) (by rw [aA];omega) (by rw [aA];omega)]
theorem Lj:cV []=0:=rfl
theorem DF {c:UInt8} {t:List UInt8} (h:Dr c=true):cV (c::t)=cV t+1:=by
 unfold cV;rw [aj]
 conv=>lhs;unfold mC
 rw [if_pos h]
theorem GK {t:List UInt8}:cV (35::t)=cV (t.drop (bf (· !=10) t))+bf (· !=10) t+1:=by
 unfold cV;rw [aj]
 conv=>lhs;unfold mC
 rw [if_neg (by decide),if_pos rfl,ru t.length (t.drop (bf (· !=10) t)).length _ (by rw [aA];omega) (aa _)]
theorem xB {c:UInt8} {t:List UInt8} (h:Dr c=false) (h2:c≠35):cV (c::t)=0:=by
 unfold cV;rw [aj];unfold mC;rw [if_neg (by rw [h];decide),if_neg h2]
theorem Az (l:List UInt8) (az:Nat) (w:World) (hl:l.length≤100000) (hat:az≤100000):
 Calls Tryz.prog 75 #[.string (ag l),.int .i64 (az:Int)] w fun e w'=>e=.returned (.int .i64 ((az+cV (l.drop az):Nat):Int))∧Below w.heap.size w w':=by
 obtain ⟨R,hR⟩:∃R,az+cV (l.drop az)=R:=⟨_,rfl⟩
 have HR:=hide hR;have RS:=hide (fun (i:Nat) (W:World) (h:i≤1000000)=>TQ l i W (by omega) h);have hz:=aO l;have hg:∀(i:Nat) (h:i<(ag l).size) (h2:i<l.length),(ag l)[i]'h=l[i]:=fun i h h2=>fu l i h;rw [hR];clear hR;generalize ag l=s at*;have Hz:=hide hz;have Hg:=hide hg;clear hz hg;go_enter Tryz.func75,Tryz.ntmps75;go_wp2_with fail
 go_loopw [1] (fun v wr=>∃i:Nat,v=.int .i64 (i:Int)∧i+cV (l.drop i)=R∧i≤100000∧Below w.heap.size w wr) (fun v _=>l.length-(intOf v).toNat)
 case atStart=>exact ⟨az,rfl,HR.o,hat,af _ _⟩
 case round=>
  obtain ⟨i,rfl,hRi,hi,hb⟩:=hrel;have Hb:=hide hb;have Wn:=hide hRi;clear hb hRi;by_cases hlt:i<l.length
  ·have hi':(i:Int)<(s.size:Int):=by have:=Hz.o;omega
   have hi0:(0:Int)≤(i:Int):=by omega
   have N8:i<s.size:=by have:=Hz.o;omega
   have hwi:IntKind.i64.wrap ((i:Int)+1)=(i:Int)+1:=bI _ (by omega)
   obtain ⟨c,hc⟩:∃c,l[i]=c:=⟨_,rfl⟩
   have hsc:s[i]'N8=c:=by rw [Hg.o i N8 hlt];exact hc
   have hdr:l.drop i=c::l.drop (i+1):=by rw [cn hlt,hc]
   have HD:=hide hdr;have BL:=hide (xz c wr);clear hc hdr
   cases hbl:Dr c with
   |true=>
    rw [hbl] at BL;have HS:=hide (show (i+1)+cV (l.drop (i+1))=R by have:=Wn.o;rw [HD.o,DF hbl] at this;omega);clear hbl;go_wp2_with fail;refine BL.o.mono ?_;rintro e wr ⟨rfl,rfl⟩;go_wp2;go_roundw
    case rel=>exact ⟨i+1,by go_num,HS.o,by omega,Hb.o⟩
    case measure=>simp [intOf];omega
   |false=>
    rw [hbl] at BL;by_cases ux:c=35
    ·subst ux;have hsp:=fA (· !=10) (l.drop (i+1));rw [aA] at hsp
     have hy:bf (· !=10) (l.drop i)=bf (· !=10) (l.drop (i+1))+1:=by rw [HD.o];exact ft (by decide)
     have HS:=hide (show (i+bf (· !=10) (l.drop i))+cV (l.drop (i+bf (· !=10) (l.drop i)))=R by
      have:=Wn.o;rw [HD.o,GK,dB] at this;rw [hy,show i+(bf (· !=10) (l.drop (i+1))+1)=i+1+bf (· !=10) (l.drop (i+1)) by omega]
      omega)
     have RSi:=hide (RS.o i wr (by omega));have Hy:=hide hy;generalize bf (· !=10) (l.drop i)=n at*;have Hn:=ae (n=bf (· !=10) (l.drop (i+1))+1) Hy.o
     have AA:1≤n∧i+n≤l.length:=by have:=Hn.o;omega
     clear hbl hy hsp;go_wp2_with fail;refine BL.o.mono ?_;rintro e wr ⟨rfl,rfl⟩;go_wp2_with fail;refine RSi.o.mono ?_;rintro e w2 ⟨rfl,hb2⟩;have lK:=hide (Hb.o.trans (hb2.mono Hb.o.size));clear hb2;go_wp2;go_roundw
     case rel=>exact ⟨i+n,rfl,HS.o,by omega,lK.o⟩
     case measure=>simp [intOf];omega
    ·have e35:((c.toNat:Int)==35)=false:=aL (d:=35) ux;have HS:=hide (show R=i by have:=Wn.o;rw [HD.o,xB hbl ux] at this;omega);clear hbl ux;go_wp2_with fail;refine BL.o.mono ?_;rintro e wr ⟨rfl,rfl⟩;go_wp2;go_ret;rw [HS.o];exact ⟨rfl,Hb.o⟩
  ·have hi':¬(i:Int)<(s.size:Int):=by have:=Hz.o;omega
   have HS:=hide (show R=i by have:=Wn.o;rw [dc (by omega),Lj] at this;omega);go_wp2;go_ret;rw [HS.o];exact ⟨rfl,Hb.o⟩
theorem GM (l:List UInt8) (n:Nat) (w:World) (hl:l.length≤1000000) (hn:n≤1000000):
 Calls Tryz.prog 157 #[.string (ag l),.int .i64 (n:Int)] w fun e w'=>e=.returned (.bool (bB l n))∧w'=w:=by
 have hz:=aO l;by_cases hlt:n<l.length
 ·have hi':¬((ag l).size:Int)≤(n:Int):=by rw [hz];omega
  have hi2:(n:Int)<((ag l).size:Int):=by rw [hz];omega
  have N8:n<(ag l).size:=by omega
  have hi0:(0:Int)≤(n:Int):=by omega
  obtain ⟨c,hc⟩:∃c,l[n]'hlt=c:=⟨_,rfl⟩
  have hsc:(ag l)[n]'N8=c:=by rw [fu];exact hc
  have hdr:l.drop n=c::l.drop (n+1):=by rw [cn hlt,hc]
  have hal:bB l n=(!lT c&&c !=39):=by unfold bB;rw [hdr]
  have IN:=hide (vD c w);have HV:=hide hal;generalize ag l=s at*;clear hal hc hz hdr
  cases hin:lT c with
  |true=>
   rw [hin] at IN;have HW:=hide (show bB l n=false by rw [HV.o,hin];rfl);clear hin;go_enter Tryz.func157,Tryz.ntmps157;go_wp2_with fail;refine IN.o.mono ?_;rintro e w1 ⟨rfl,rfl⟩;go_wp2;go_ret;exact ⟨aT HW.o,rfl⟩
  |false=>
   rw [hin] at IN;by_cases JU:c=39
   ·subst JU;have HW:=hide (show bB l n=false by rw [HV.o,hin];rfl);clear hin;go_enter Tryz.func157,Tryz.ntmps157;go_wp2_with fail;refine IN.o.mono ?_;rintro e w1 ⟨rfl,rfl⟩;go_wp2;go_ret;exact ⟨aT HW.o,rfl⟩
   ·have e1:((c.toNat:Int)==39)=false:=aL (d:=39) JU
    have e2:((c.toNat:Int) !=39)=true:=by rw [bne,e1];rfl
    have HW:=hide (show bB l n=true by rw [HV.o,hin];simp [JU]);clear hin JU;go_enter Tryz.func157,Tryz.ntmps157;go_wp2_with fail;refine IN.o.mono ?_;rintro e w1 ⟨rfl,rfl⟩;go_wp2;go_ret;exact ⟨aT HW.o,rfl⟩
 ·have hi':((ag l).size:Int)≤(n:Int):=by rw [hz];omega
  have HW:=hide (show bB l n=true by unfold bB;rw [dc (by omega)]);generalize ag l=s at*;clear hz;go_enter Tryz.func157,Tryz.ntmps157;go_wp2;go_ret;exact ⟨aT HW.o,rfl⟩
end Go.Proofs.YtddoehnkgcbboaaGreatDoor
namespace Go
open Go.RowKit
theorem ai {P:Program} {fn:Func} {p:Tmp} {ty:TypeId} (h:fn.results=#[.cell p ty]) (tmps:Array Value) (w:World) (g:Nat) (t:TypeId) (cs:Array Value) (fr:Nat×Nat) (d:TypeDesc)
 (hp:tmps.getD p undef=.pointer (some ⟨g,0,none⟩)) (hg:w.heap[g]? =some (.cells cs t fr))
 (hu:P.underlying ty=some d) (hd:(match d with|.struct _|.array _ _=>true|_=>false)=true) (hi:(P.info? ty).map (·.size)=some cs.size):
 (results fn tmps).run P w=.ok (.agg cs) w:=by
 have hp':tmps[p]?.getD undef=.pointer (some ⟨g,0,none⟩):=by simpa using hp
 have e:(results fn tmps).run P w=((asAddr (tmps.getD p undef)).run P w).andThen fun a w₁=>(loadVar ty a).run P w₁:=by
  simp only [results,h];simp [Sem.run_bind,Result.andThen]
 rw [e];simp [hp',asAddr,Result.andThen,run_loadVar_row w g t ty cs fr d hg hu hd hi]
end Go
namespace Go.Proofs.YtddoehnkgcbboaaGreatDoor
open Go.RowKit Go.Shelf
def sQ (x:Wq):Value:=.agg #[.int .i64 x.kind,.string (ag x.text),.int .i64 0,.int .i64 x.size,.int .i64 x.err]
theorem GN (er:Int) (w:World):Calls Tryz.prog 126 #[.int .i64 er] w fun e w'=>e=.returned (sQ (dI er))∧Below w.heap.size w w':=by
 go_enter Tryz.func126,Tryz.ntmps126;go_wp2;exact bodyPost_ret (v:=sQ (dI er)) (ai rfl _ _ w.heap.size 85 _ _ _ rfl (World.alloc_heap_new w _) Tryz.underlying85 rfl (by kernel_rfl)) rfl ⟨rfl,(af _ _).alloc (aa _) _⟩
theorem iT (k n:Int) (t:List UInt8) (w:World):Calls Tryz.prog 125 #[.int .i64 k,.string (ag t),.int .i64 n] w fun e w'=>e=.returned (.agg #[.int .i64 k,.string (ag t),.int .i64 0,.int .i64 n,.int .i64 0])∧Below w.heap.size w w':=by
 generalize ag t=s;go_enter Tryz.func125,Tryz.ntmps125;go_wp2;exact bodyPost_ret (v:=.agg #[.int .i64 k,.string s,.int .i64 0,.int .i64 n,.int .i64 0]) (ai rfl _ _ w.heap.size 85 _ _ _ rfl (World.alloc_heap_new w _) Tryz.underlying85 rfl (by kernel_rfl)) rfl ⟨rfl,(af _ _).alloc (aa _) _⟩
theorem oX {l:List UInt8} {n:Nat} (h:l.length≤n):ic l n=n:=by unfold ic;rw [dc h]
theorem sS {l:List UInt8} {n:Nat} (h:n<l.length) (hc:bp l[n]≠101):ic l n=n:=by
 unfold ic;rw [cn h];simp only;rw [if_neg hc]
theorem mE {l:List UInt8} {n:Nat} (h:n<l.length) (hc:bp l[n]=101) (m:Nat) (hm:m=if (l.drop (n+1)).head? =some 43∨(l.drop (n+1)).head? =some 45 then n+2 else n+1):
 ic l n=if 0<bf bg (l.drop m) then m+bf bg (l.drop m) else n:=by
 unfold ic;rw [cn h];simp only;rw [if_pos hc,←hm]
theorem zT (l:List UInt8) (n:Nat) (w:World) (hl:l.length≤100000) (hn:n≤100000):
 Calls Tryz.prog 159 #[.string (ag l),.int .i64 (n:Int)] w fun e w'=>e=.returned (.int .i64 ((ic l n:Nat):Int))∧Below w.heap.size w w':=by
 have hz:=aO l;by_cases hlt:n<l.length
 ·have hi':¬((ag l).size:Int)≤(n:Int):=by rw [hz];omega
  have hi2:(n:Int)<((ag l).size:Int):=by rw [hz];omega
  have N8:n<(ag l).size:=by omega
  have hi0:(0:Int)≤(n:Int):=by omega
  obtain ⟨c,hc⟩:∃c,l[n]'hlt=c:=⟨_,rfl⟩
  have hsc:(ag l)[n]'N8=c:=by rw [fu];exact hc
  have N7:=rh c;by_cases BZ:bp c=101
  ·rw [BZ] at N7;have hw1:IntKind.i64.wrap ((n:Int)+1)=(n:Int)+1:=bI _ (by omega);have hw2:IntKind.i64.wrap ((n:Int)+1+1)=(n:Int)+1+1:=bI _ (by omega);have hex:=fun m hm=>mE hlt (by rw [hc];exact BZ) m hm
   have ways:(l.length≤n+1∧(l.drop (n+1)).head? =none)∨∃h:n+1<l.length,(l.drop (n+1)).head? =some (l[n+1]'h):=by
    by_cases h:n+1<l.length
    ·exact .inr ⟨h,by rw [cn h];rfl⟩
    ·exact .inl ⟨by omega,by rw [dc (by omega)];rfl⟩
   have RD:=hide (fun (i:Nat) (W:World) (h:i≤1000000)=>oW l i W (by omega) h)
   rcases ways with ⟨h1,h2⟩|⟨h1,h2⟩
   ·have hq1:¬(n:Int)+1<((ag l).size:Int):=by rw [hz];omega
    have hm:ic l n=if 0<bf bg (l.drop (n+1)) then n+1+bf bg (l.drop (n+1)) else n:=hex (n+1) (by rw [h2];simp)
    have GQ:=hide (show Calls Tryz.prog 117 #[.string (ag l),.int .i64 ((n:Int)+1),.func (.func 121) #[] #[]] w fun e w'=>e=.returned (.int .i64 ((n+1+bf bg (l.drop (n+1)):Nat):Int))∧Below w.heap.size w w' by
     have:=RD.o (n+1) w (by omega)
     rwa [show ((n+1:Nat):Int)=(n:Int)+1 by omega] at this)
    obtain ⟨E,hE⟩:∃E,n+1+bf bg (l.drop (n+1))=E:=⟨_,rfl⟩
    have HV:=hide hm;have HE:=hide hE;rw [hE] at GQ HV;generalize ag l=s at*;clear hex hm hc BZ hz RD hE;by_cases hsp:0<bf bg (l.drop (n+1))
    ·have hgt:(n:Int)+1<(E:Int):=by have:=HE.o;omega
     have HW:=hide (show ic l n=E by rw [HV.o,if_pos hsp]);clear hsp;go_enter Tryz.func159,Tryz.ntmps159;go_wp2_with fail;refine GQ.o.mono ?_;rintro e w1 ⟨rfl,hb⟩;have Hb:=hide hb;clear hb;go_wp2;go_ret;rw [HW.o];exact ⟨rfl,Hb.o⟩
    ·have hgt:¬(n:Int)+1<(E:Int):=by have:=HE.o;omega
     have HW:=hide (show ic l n=n by rw [HV.o,if_neg hsp]);clear hsp;go_enter Tryz.func159,Tryz.ntmps159;go_wp2_with fail;refine GQ.o.mono ?_;rintro e w1 ⟨rfl,hb⟩;have Hb:=hide hb;clear hb;go_wp2;go_ret;rw [HW.o];exact ⟨rfl,Hb.o⟩
   ·have hq1:(n:Int)+1<((ag l).size:Int):=by rw [hz];omega
    have hq0:(0:Int)≤(n:Int)+1:=by omega
    have hqn:((n:Int)+1).toNat=n+1:=by omega
    have ab4:n+1<(ag l).size:=by omega
    obtain ⟨d,hd⟩:∃d,l[n+1]'h1=d:=⟨_,rfl⟩
    have SY:(ag l)[n+1]'ab4=d:=by rw [fu];exact hd
    rw [hd] at h2;clear hd;by_cases h43:d=43
    ·subst h43
     have hm:ic l n=if 0<bf bg (l.drop (n+2)) then n+2+bf bg (l.drop (n+2)) else n:=hex (n+2) (by rw [h2];simp)
     have GQ:=hide (show Calls Tryz.prog 117 #[.string (ag l),.int .i64 ((n:Int)+1+1),.func (.func 121) #[] #[]] w fun e w'=>e=.returned (.int .i64 ((n+2+bf bg (l.drop (n+2)):Nat):Int))∧Below w.heap.size w w' by
      have:=RD.o (n+2) w (by omega)
      rwa [show ((n+2:Nat):Int)=(n:Int)+1+1 by omega] at this)
     obtain ⟨E,hE⟩:∃E,n+2+bf bg (l.drop (n+2))=E:=⟨_,rfl⟩
     have HV:=hide hm;have HE:=hide hE;rw [hE] at GQ HV;generalize ag l=s at*;clear hex hm hc BZ hz RD hE;by_cases hsp:0<bf bg (l.drop (n+2))
     ·have hgt:(n:Int)+1+1<(E:Int):=by have:=HE.o;omega
      have HW:=hide (show ic l n=E by rw [HV.o,if_pos hsp]);clear hsp;go_enter Tryz.func159,Tryz.ntmps159;go_wp2_with fail;refine GQ.o.mono ?_;rintro e w1 ⟨rfl,hb⟩;have Hb:=hide hb;clear hb;go_wp2;go_ret;rw [HW.o];exact ⟨rfl,Hb.o⟩
     ·have hgt:¬(n:Int)+1+1<(E:Int):=by have:=HE.o;omega
      have HW:=hide (show ic l n=n by rw [HV.o,if_neg hsp]);clear hsp;go_enter Tryz.func159,Tryz.ntmps159;go_wp2_with fail;refine GQ.o.mono ?_;rintro e w1 ⟨rfl,hb⟩;have Hb:=hide hb;clear hb;go_wp2;go_ret;rw [HW.o];exact ⟨rfl,Hb.o⟩
    ·by_cases h45:d=45
     ·subst h45
      have hm:ic l n=if 0<bf bg (l.drop (n+2)) then n+2+bf bg (l.drop (n+2)) else n:=hex (n+2) (by rw [h2];simp)
      have GQ:=hide (show Calls Tryz.prog 117 #[.string (ag l),.int .i64 ((n:Int)+1+1),.func (.func 121) #[] #[]] w fun e w'=>e=.returned (.int .i64 ((n+2+bf bg (l.drop (n+2)):Nat):Int))∧Below w.heap.size w w' by
       have:=RD.o (n+2) w (by omega)
       rwa [show ((n+2:Nat):Int)=(n:Int)+1+1 by omega] at this)
      obtain ⟨E,hE⟩:∃E,n+2+bf bg (l.drop (n+2))=E:=⟨_,rfl⟩
      have HV:=hide hm;have HE:=hide hE;rw [hE] at GQ HV;generalize ag l=s at*;clear hex hm hc BZ hz RD hE;by_cases hsp:0<bf bg (l.drop (n+2))
      ·have hgt:(n:Int)+1+1<(E:Int):=by have:=HE.o;omega
       have HW:=hide (show ic l n=E by rw [HV.o,if_pos hsp]);clear hsp;go_enter Tryz.func159,Tryz.ntmps159;go_wp2_with fail;refine GQ.o.mono ?_;rintro e w1 ⟨rfl,hb⟩;have Hb:=hide hb;clear hb;go_wp2;go_ret;rw [HW.o];exact ⟨rfl,Hb.o⟩
      ·have hgt:¬(n:Int)+1+1<(E:Int):=by have:=HE.o;omega
       have HW:=hide (show ic l n=n by rw [HV.o,if_neg hsp]);clear hsp;go_enter Tryz.func159,Tryz.ntmps159;go_wp2_with fail;refine GQ.o.mono ?_;rintro e w1 ⟨rfl,hb⟩;have Hb:=hide hb;clear hb;go_wp2;go_ret;rw [HW.o];exact ⟨rfl,Hb.o⟩
     ·have e43:((d.toNat:Int)==43)=false:=aL (d:=43) h43;have e45:((d.toNat:Int)==45)=false:=aL (d:=45) h45
      have hm:ic l n=if 0<bf bg (l.drop (n+1)) then n+1+bf bg (l.drop (n+1)) else n:=hex (n+1) (by rw [h2];simp [h43,h45])
      have GQ:=hide (show Calls Tryz.prog 117 #[.string (ag l),.int .i64 ((n:Int)+1),.func (.func 121) #[] #[]] w fun e w'=>e=.returned (.int .i64 ((n+1+bf bg (l.drop (n+1)):Nat):Int))∧Below w.heap.size w w' by
       have:=RD.o (n+1) w (by omega)
       rwa [show ((n+1:Nat):Int)=(n:Int)+1 by omega] at this)
      obtain ⟨E,hE⟩:∃E,n+1+bf bg (l.drop (n+1))=E:=⟨_,rfl⟩
      have HV:=hide hm;have HE:=hide hE;rw [hE] at GQ HV;generalize ag l=s at*;clear hex hm hc BZ hz RD hE;by_cases hsp:0<bf bg (l.drop (n+1))
      ·have hgt:(n:Int)+1<(E:Int):=by have:=HE.o;omega
       have HW:=hide (show ic l n=E by rw [HV.o,if_pos hsp]);clear hsp;go_enter Tryz.func159,Tryz.ntmps159;go_wp2_with fail;refine GQ.o.mono ?_;rintro e w1 ⟨rfl,hb⟩;have Hb:=hide hb;clear hb;go_wp2;go_ret;rw [HW.o];exact ⟨rfl,Hb.o⟩
      ·have hgt:¬(n:Int)+1<(E:Int):=by have:=HE.o;omega
       have HW:=hide (show ic l n=n by rw [HV.o,if_neg hsp]);clear hsp;go_enter Tryz.func159,Tryz.ntmps159;go_wp2_with fail;refine GQ.o.mono ?_;rintro e w1 ⟨rfl,hb⟩;have Hb:=hide hb;clear hb;go_wp2;go_ret;rw [HW.o];exact ⟨rfl,Hb.o⟩
  ·have e1:(((bp c).toNat:Int)==101)=false:=aL (d:=101) BZ
   have e2:(((bp c).toNat:Int) !=101)=true:=by rw [bne,e1];rfl
   have HV:=hide (sS hlt (by rw [hc];exact BZ));generalize ag l=s at*;clear hc BZ hz;go_enter Tryz.func159,Tryz.ntmps159;go_wp2;go_ret;rw [HV.o];exact ⟨rfl,af _ _⟩
 ·have hi':((ag l).size:Int)≤(n:Int):=by rw [hz];omega
  have HV:=hide (oX (Nat.le_of_not_lt hlt));generalize ag l=s at*;clear hz;go_enter Tryz.func159,Tryz.ntmps159;go_wp2;go_ret;rw [HV.o];exact ⟨rfl,af _ _⟩
end Go.Proofs.YtddoehnkgcbboaaGreatDoor
namespace Go.Proofs.YtddoehnkgcbboaaGreatDoor
open Go.RowKit
theorem ak {W:World} {g:Nat} {t:TypeId} {x0 x1 x2 x3 x4 x5 x6 x7 x8:Value} (h:Row W g t #[x0,x1,x2,x3,x4,x5,x6,x7,x8]):W.cell? ⟨g,0,none⟩=some x0∧W.cell? ⟨g,1,none⟩=some x1∧W.cell? ⟨g,2,none⟩=some x2∧W.cell? ⟨g,3,none⟩=some x3∧W.cell? ⟨g,4,none⟩=some x4∧W.cell? ⟨g,5,none⟩=some x5∧W.cell? ⟨g,6,none⟩=some x6∧W.cell? ⟨g,7,none⟩=some x7∧W.cell? ⟨g,8,none⟩=some x8:=⟨h.cell 0,h.cell 1,h.cell 2,h.cell 3,h.cell 4,h.cell 5,h.cell 6,h.cell 7,h.cell 8⟩
theorem aU {W:World} {g:Nat} {t:TypeId} {cs:Array Value} (h:Row W g t cs):W.frozen? ⟨g,0,none⟩=false∧W.frozen? ⟨g,1,none⟩=false∧W.frozen? ⟨g,2,none⟩=false∧W.frozen? ⟨g,3,none⟩=false∧W.frozen? ⟨g,4,none⟩=false∧W.frozen? ⟨g,5,none⟩=false∧W.frozen? ⟨g,6,none⟩=false∧W.frozen? ⟨g,7,none⟩=false∧W.frozen? ⟨g,8,none⟩=false:=⟨h.frozen 0,h.frozen 1,h.frozen 2,h.frozen 3,h.frozen 4,h.frozen 5,h.frozen 6,h.frozen 7,h.frozen 8⟩
theorem bK {P:Program} {md:Region.Mode} {ops:Array Oper} {Q:Exit→Act→World→Prop} {i:Nat} {o:Oper} {fuel:Nat} {listed:Array Bool} {a:Act} {w:World} (hr:Region.ready md ops listed=[i]) (ho:ops[i]? =some o) (h:∀K':Act→World→Prop,(∀a w,wpAny P md ops Q fuel (listed.setIfInBounds i true) a w→K' a w)→if Region.wanted o (yielded ops a.tmps)=true then Oper.wp P o a w K' Q else K' (a.put o.dst undef) w):wpAny P md ops Q (fuel+1) listed a w:=wpAny_ready hr (by simp) (GH ho h AllReady.nil)
theorem oD {P:Program} {md:Region.Mode} {ops:Array Oper} {Q:Exit→Act→World→Prop} {i j:Nat} {o u:Oper} {fuel:Nat} {listed:Array Bool} {a:Act} {w:World} (hr:Region.ready md ops listed=[i,j]) (ho:ops[i]? =some o) (hu:ops[j]? =some u) (h:∀K':Act→World→Prop,(∀a w,wpAny P md ops Q fuel (listed.setIfInBounds i true) a w→K' a w)→if Region.wanted o (yielded ops a.tmps)=true then Oper.wp P o a w K' Q else K' (a.put o.dst undef) w) (h2:∀K':Act→World→Prop,(∀a w,wpAny P md ops Q fuel (listed.setIfInBounds j true) a w→K' a w)→if Region.wanted u (yielded ops a.tmps)=true then Oper.wp P u a w K' Q else K' (a.put u.dst undef) w):wpAny P md ops Q (fuel+1) listed a w:=wpAny_ready hr (by simp) (GH ho h (GH hu h2 AllReady.nil))
end Go.Proofs.YtddoehnkgcbboaaGreatDoor
