/- A part of the proof that the last file tells. -/
import Derived.Test.YtddoehnkgcbboaaGreatDoorAgO
set_option maxHeartbeats 16000000
set_option maxRecDepth 100000
set_option linter.unusedVariables false
set_option linter.unusedSimpArgs false
namespace Go.Proofs.YtddoehnkgcbboaaGreatDoor
open Go.RowKit Go.Shelf Go.Maps
theorem QJ (o:Option St) (a c:Int):((((o.map (bD · [91])).bind (dh a 1099511627776)).map (bD · [44,32])).bind (dh c 1099511627776)).map (bD · [93])=o.bind (mo a c):=by
 cases o with
 |none=>rfl
 |some st=>
  show ((((dh a 1099511627776 (bD st [91])).map (bD · [44,32])).bind (dh c 1099511627776)).map (bD · [93]))=mo a c st;unfold mo
  cases dh a 1099511627776 (bD st [91]) with
  |none=>rfl
  |some s2=>
   show ((dh c 1099511627776 (bD s2 [44,32])).map (bD · [93]))=(dh c 1099511627776 (bD s2 [44,32])).bind fun st=>some (bD st [93])
   cases dh c 1099511627776 (bD s2 [44,32])<;>rfl
theorem vZ (B b:Nat) (x y:Int) (o:Option St) (M:Nat) (w1:World) (P1:Hid (cz w1 B b o M)) (hx:In64 x) (hy:In64 y) (hM:M+60≤1099511627776):
 Calls Tryz.prog 149 #[.pointer (some ⟨b,0,none⟩),.int .i64 x,.int .i64 y] w1 (jn B b w1 (o.bind (mo x y)) (M+60)):=by
 have T1:=hide (aM.refl B b w1);have HX:=hide hx;have HY:=hide hy;clear hx hy;go_enter Tryz.func149,Tryz.ntmps149;go_wp2_with fail;refine QH (bT B b [91] 1 o M w1 P1.o (by omega)) T1 fun w2 o2 Q2 P2 T2=>?_;go_wp2_with fail;refine QH (dA B b x 1099511627776 o2 (M+2) w2 P2.o HX.o (by omega)) T2 fun w3 o3 Q3 P3 T3=>?_;go_wp2_with fail;refine QH (bT B b [44,32] 2 o3 ((M+2)+22) w3 P3.o (by omega)) T3 fun w4 o4 Q4 P4 T4=>?_;go_wp2_with fail;refine QH (dA B b y 1099511627776 o4 (((M+2)+22)+3) w4 P4.o HY.o (by omega)) T4 fun w5 o5 Q5 P5 T5=>?_;go_wp2_with fail;refine QH (bT B b [93] 1 o5 ((((M+2)+22)+3)+22) w5 P5.o (by omega)) T5 fun w6 o6 Q6 P6 T6=>?_
 have HP:=ae (cz w6 B b (o.bind (mo x y)) (M+60)) (by
  have:=P6.o;rw [←Q6.o,←Q5.o,←Q4.o,←Q3.o,←Q2.o,QJ] at this
  exact this.mono (by first|omega|(simp only [aj,aK];omega)))
 go_wp2;go_end0;exact ⟨rfl,HP.o,T6.o⟩
end Go.Proofs.YtddoehnkgcbboaaGreatDoor
namespace Go.Proofs.YtddoehnkgcbboaaGreatDoor
open Go.RowKit Go.Shelf
mutual
def fC:Nd→Nd
 |.mk k _ nm v a b c d ks=>.mk k 0 nm v a b c d (d_ ks)
def d_:List Nd→List Nd
 |[]=>[]
 |n::r=>fC n::d_ r
end
abbrev Tk:=Int×List UInt8
def lB (L:List Lx) (k:Nat) (T:List Tk):Prop:=∀i (h:i<T.length),∃x,L[k+i]? =some x∧x.kind=T[i].1∧x.text=T[i].2
theorem lB.app {L:List Lx} {k:Nat} {a b:List Tk} (h:lB L k (a++b)):lB L k a∧lB L (k+a.length) b:=by
 refine ⟨fun i hi=>?_,fun i hi=>?_⟩
 ·obtain ⟨x,h1,h2,h3⟩:=h i (by rw [aw];omega);rw [uw hi] at h2 h3;exact ⟨x,h1,h2,h3⟩
 ·obtain ⟨x,h1,h2,h3⟩:=h (a.length+i) (by rw [aw];omega);rw [List.getElem_append_right (by omega)] at h2 h3;simp only [Nat.add_sub_cancel_left] at h2 h3;rw [←Nat.add_assoc] at h1;exact ⟨x,h1,h2,h3⟩
theorem lB.cons {L:List Lx} {k:Nat} {t:Tk} {b:List Tk} (h:lB L k (t::b)):(∃x,L[k]? =some x∧x.kind=t.1∧x.text=t.2)∧lB L (k+1) b:=by
 have:=lB.app (a:=[t]) (b:=b) h;exact ⟨by obtain ⟨x,h1,h2,h3⟩:=this.1 0 (by simp);exact ⟨x,by simpa using h1,by simpa using h2,by simpa using h3⟩,by simpa using this.2⟩
def bu (t:Tk):Bool:=decide (t.1=6)||(decide (t.1=0)&&decide (t.2∈eI))
theorem l9 {L:List Lx} {k:Nat} {t:Tk} (h:∃x,L[k]? =some x∧x.kind=t.1∧x.text=t.2) (w:List UInt8):b_ L k w=(bu t&&decide (t.2=w)):=by
 obtain ⟨x,h1,h2,h3⟩:=h;unfold b_;rw [h1];show (Qh x&&decide (x.text=w))=_;unfold Qh bu;rw [h2,h3]
theorem jE {L:List Lx} {k:Nat} {t:Tk} (h:∃x,L[k]? =some x∧x.kind=t.1∧x.text=t.2) (q:Int):cW L k q=(decide (t.1=q)&&(decide (q≠0)|| !decide (t.2∈eI))):=by
 obtain ⟨x,h1,h2,h3⟩:=h;unfold cW;rw [h1];simp only [h2,h3]
theorem pG {L:List Lx} {k:Nat} {t:Tk} (h:∃x,L[k]? =some x∧x.kind=t.1∧x.text=t.2):kx L k=t.2:=by
 obtain ⟨x,h1,h2,h3⟩:=h;unfold kx;rw [h1];exact h3
def nr (ops:List (List UInt8×Int)) (t:Tk):Option Int:=(ops.find? fun p=>bu t&&decide (t.2=p.1)).map (·.2)
theorem jN {L:List Lx} {k:Nat} {t:Tk} (h:∃x,L[k]? =some x∧x.kind=t.1∧x.text=t.2) (ops:List (List UInt8×Int)):kj L ops k=nr ops t:=by
 unfold kj nr
 congr 2
 funext p;exact l9 h p.1
def jZ:Nat→List (List UInt8×Int)
 |0=>tM|1=>yD|3=>eK|4=>orO|5=>IA|6=>EO|7=>CB|_=>[]
section
variable (L : List Lx) (en : Int) (rd : List UInt8 → Int × Int)
def Ot (F:Nat):Nat→Nat→PR Nd
 |0=>(cF L en rd (F+1)).cond
 |1=>dN L en yD (cF L en rd (F+1)).ng
 |2=>(cF L en rd (F+1)).ng
 |3=>Aj L en (cF L en rd (F+1)).fo
 |4=>(cF L en rd (F+1)).fo
 |5=>dN L en IA (dN L en EO (dN L en CB (cF L en rd (F+1)).un))
 |6=>dN L en EO (dN L en CB (cF L en rd (F+1)).un)
 |7=>dN L en CB (cF L en rd (F+1)).un
 |8=>(cF L en rd (F+1)).un
 |_=>eJ L en rd (cF L en rd F).cond (cF L en rd F).fo
structure Fh (k:Nat) (j:Nat):Prop where
 brk:j≤8→b_ L k dM=false
 ops:∀i,j≤i→i≤7→kj L (jZ i) k=none
end
theorem Fh.up {L:List Lx} {k i j:Nat} (h:Fh L k i) (hij:i≤j):Fh L k j:=⟨fun hj=>h.brk (by omega),fun q h1 h2=>h.ops q (by omega) h2⟩
def Reads (j:Nat) (T:List Tk) (n:Nd):Prop:=∀L en rd F k,lB L k T→L.length≤F+k→Fh L (k+T.length) j→∃n',fC n'=fC n∧Ot L en rd F j k=.ok n' (k+T.length)
def pH (j:Nat) (T:List Tk) (n:Nd):Prop:=∀L en rd F k,lB L k T→L.length≤F+k→Fh L (k+T.length) (j+1)→∃n',fC n'=fC n∧Ot L en rd F j k=vT L en (jZ j) (Ot L en rd F (j+1)) n' (k+T.length)
def ov (j:Nat):Bool:=j==0||j==1||(4≤j&&j≤7)
theorem QK {L:List Lx} {en:Int} {rd:List UInt8→Int×Int} {F j:Nat} (h:ov j=true):Ot L en rd F j=dN L en (jZ j) (Ot L en rd F (j+1)):=by
 have:j=0∨j=1∨j=4∨j=5∨j=6∨j=7:=by
  unfold ov at h;simp at h;omega
 rcases this with rfl|rfl|rfl|rfl|rfl|rfl<;>rfl
theorem QL (L:List Lx) (en:Int) (rd:List UInt8→Int×Int) (F:Nat):∀j,Prog (Ot L en rd F j)
 |0=>(dR (F+1)).cond
 |1=>bP (dR (F+1)).ng
 |2=>(dR (F+1)).ng
 |3=>uY (dR (F+1)).fo
 |4=>(dR (F+1)).fo
 |5=>bP (bP (bP (dR (F+1)).un))
 |6=>bP (bP (dR (F+1)).un)
 |7=>bP (dR (F+1)).un
 |8=>(dR (F+1)).un
 |_+9=>rO (dR F).cond (dR F).fo
theorem Reads.left {j:Nat} {T:List Tk} {n:Nd} (hj:ov j=true) (h:Reads (j+1) T n):pH j T n:=fun L en rd F k ht hl hf=>by
 obtain ⟨n',h1,h2⟩:=h L en rd F k ht hl hf;exact ⟨n',h1,by rw [QK hj];exact Kn h2⟩
theorem pH.stop {j:Nat} {T:List Tk} {n:Nd} (hj:ov j=true) (h:pH j T n):Reads j T n:=fun L en rd F k ht hl hf=>by
 obtain ⟨n',h1,h2⟩:=h L en rd F k ht hl (hf.up (Nat.le_succ _));refine ⟨n',h1,h2.trans (yK (hf.ops j (aa _) ?_))⟩;unfold ov at hj;simp at hj;omega
theorem pH.op {j:Nat} {T0 T1:List Tk} {n0 n1:Nd} {t:Tk} {q:Int} (hj:ov j=true) (h0:pH j T0 n0) (h1:Reads (j+1) T1 n1) (ho:nr (jZ j) t=some q)
 (hb:bu t=true→t.2≠dM) (hop:∀i,j+1≤i→i≤7→nr (jZ i) t=none) (az:Int):pH j (T0++t::T1) (.mk q az [] [] 0 0 0 0 [n0,n1]):=fun L en rd F k ht hl hf=>by
 obtain ⟨a1,a2⟩:=ht.app;obtain ⟨b1,b2⟩:=a2.cons
 have IP:Fh L (k+T0.length) (j+1):=⟨fun _=>by
  rw [l9 b1]
  cases hs:bu t with
  |false=>rfl
  |true=>rw [decide_eq_false (hb hs)];rfl,fun i h1 h2=>by rw [jN b1];exact hop i h1 h2⟩
 obtain ⟨Vd,e0,r0⟩:=h0 L en rd F k a1 hl IP
 have hlen:k+(T0++t::T1).length=k+T0.length+1+T1.length:=by rw [aw,aj];omega
 rw [hlen] at hf⊢;obtain ⟨Ve,e1,r1⟩:=h1 L en rd F (k+T0.length+1) b2 (by omega) hf;refine ⟨.mk q (eO L en (k+T0.length)) [] [] 0 0 0 0 [Vd,Ve],?_,?_⟩
 ·simp only [fC,d_,e0,e1]
 ·rw [r0];exact yL (QL L en rd F (j+1)) (by rw [jN b1];exact ho) r1
theorem Reads.neg {T:List Tk} {n:Nd} {t:Tk} (ht:bu t=true∧t.2=iG) (h:Reads 2 T n) (az:Int):Reads 2 (t::T) (.mk 28 az [] [] 0 0 0 0 [n]):=fun L en rd F k hat hl hf=>by
 obtain ⟨b1,b2⟩:=hat.cons
 have hlen:k+(t::T).length=k+1+T.length:=by rw [aj];omega
 rw [hlen] at hf⊢
 have hk:k<L.length:=by
  obtain ⟨x,hx,_⟩:=b1;exact (List.getElem?_eq_some_iff.1 hx).1
 obtain ⟨G,rfl⟩:∃G,F=G+1:=⟨F-1,by omega⟩
 obtain ⟨n',e,r⟩:=h L en rd G (k+1) b2 (by omega) hf;refine ⟨.mk 28 (eO L en k) [] [] 0 0 0 0 [n'],by simp only [fC,d_,e],?_⟩;show yE L en (cF L en rd (G+1)).ng _ k=_;unfold yE;rw [if_pos (by rw [l9 b1,ht.1,decide_eq_true ht.2];rfl)];have r':(cF L en rd (G+1)).ng (k+1)=.ok n' (k+1+T.length):=r;rw [r'];rfl
theorem Reads.abk {T:List Tk} {n:Nd} {t:Tk} (ht:bu t=true→t.2≠iG) (h:Reads 3 (t::T) n):Reads 2 (t::T) n:=fun L en rd F k hat hl hf=>by
 obtain ⟨b1,b2⟩:=hat.cons;obtain ⟨n',e,r⟩:=h L en rd F k hat hl (hf.up (by decide));refine ⟨n',e,?_⟩;show yE L en (cF L en rd F).ng _ k=_;unfold yE;rw [if_neg]
 ·exact r
 ·rw [l9 b1]
  cases hs:bu t with
  |false=>exact fun h=>by cases h
  |true=>rw [decide_eq_false (ht hs)];exact fun h=>by cases h
theorem Reads.abl {T:List Tk} {n:Nd} (h:Reads 4 T n):Reads 3 T n:=fun L en rd F k hat hl hf=>by
 obtain ⟨n',e,r⟩:=h L en rd F k hat hl (hf.up (by decide));refine ⟨n',e,?_⟩;show Aj L en (cF L en rd (F+1)).fo k=_;have r':(cF L en rd (F+1)).fo k=.ok n' (k+T.length):=r;unfold Aj;rw [r'];show (match kj L eK (k+T.length) with|none=>PR.ok n' (k+T.length)|some q=>_)=_;rw [show kj L eK (k+T.length)=none from hf.ops 3 (aa _) (by decide)]
theorem Reads.cmp {T0 T1:List Tk} {n0 n1:Nd} {t:Tk} {q:Int} (h0:Reads 4 T0 n0) (h1:Reads 4 T1 n1) (ho:nr eK t=some q) (hb:bu t=true→t.2≠dM) (hop:∀i,4≤i→i≤7→nr (jZ i) t=none) (az:Int):
 Reads 3 (T0++t::T1) (.mk q az [] [] 0 0 0 0 [n0,n1]):=fun L en rd F k ht hl hf=>by
 obtain ⟨a1,a2⟩:=ht.app;obtain ⟨b1,b2⟩:=a2.cons
 have IP:Fh L (k+T0.length) 4:=⟨fun _=>by
  rw [l9 b1]
  cases hs:bu t with
  |false=>rfl
  |true=>rw [decide_eq_false (hb hs)];rfl,fun i h1 h2=>by rw [jN b1];exact hop i h1 h2⟩
 obtain ⟨Vd,e0,r0⟩:=h0 L en rd F k a1 hl IP
 have hlen:k+(T0++t::T1).length=k+T0.length+1+T1.length:=by rw [aw,aj];omega
 rw [hlen] at hf⊢;obtain ⟨Ve,e1,r1⟩:=h1 L en rd F (k+T0.length+1) b2 (by omega) (hf.up (by decide));refine ⟨.mk q (eO L en (k+T0.length)) [] [] 0 0 0 0 [Vd,Ve],by simp only [fC,d_,e0,e1],?_⟩;show Aj L en (cF L en rd (F+1)).fo k=_;have r0':(cF L en rd (F+1)).fo k=.ok Vd (k+T0.length):=r0;have r1':(cF L en rd (F+1)).fo (k+T0.length+1)=.ok Ve (k+T0.length+1+T1.length):=r1;unfold Aj;rw [r0'];show (match kj L eK (k+T0.length) with|none=>PR.ok Vd (k+T0.length)|some q=>_)=_;rw [jN b1,ho];show ((cF L en rd (F+1)).fo (k+T0.length+1)).bind _=_;rw [r1'];rfl
structure gP (t:Tk):Prop where
 brk:bu t=true→t.2≠dM
 ops:∀i,i≤7→nr (jZ i) t=none
theorem gP.CY {L:List Lx} {k:Nat} {t:Tk} (h:gP t) (b:∃x,L[k]? =some x∧x.kind=t.1∧x.text=t.2) (j:Nat):Fh L k j:=⟨fun _=>by
 rw [l9 b]
 cases hs:bu t with
 |false=>rfl
 |true=>rw [decide_eq_false (h.brk hs)];rfl,fun i _ h2=>by rw [jN b];exact h.ops i h2⟩
theorem mr {L:List Lx} {k:Nat} {t:Tk} (b:∃x,L[k]? =some x∧x.kind=t.1∧x.text=t.2):k<L.length:=by
 obtain ⟨x,hx,_⟩:=b;exact (List.getElem?_eq_some_iff.1 hx).1
theorem aW {L:List Lx} {k:Nat} {t:Tk} (b:∃x,L[k]? =some x∧x.kind=t.1∧x.text=t.2) {w:List UInt8} (h:bu t=true) (hw:t.2=w):b_ L k w=true:=by
 rw [l9 b,h,decide_eq_true hw];rfl
theorem bS {L:List Lx} {k:Nat} {t:Tk} (b:∃x,L[k]? =some x∧x.kind=t.1∧x.text=t.2) {w:List UInt8} (h:bu t=true→t.2≠w):b_ L k w=false:=by
 rw [l9 b]
 cases hs:bu t with
 |false=>rfl
 |true=>rw [decide_eq_false (h hs)];rfl
theorem bN {L:List Lx} {en:Int} {k:Nat} {w:List UInt8} (h:b_ L k w=true):av L en k w=.ok () (k+1):=by unfold av;rw [if_pos h]
theorem Reads.inv {T:List Tk} {n:Nd} {t:Tk} (ht:bu t=true∧t.2=eu) (h:Reads 8 T n) (az:Int):Reads 8 (t::T) (.mk 8 az [] [] 0 0 0 0 [n]):=fun L en rd F k hat hl hf=>by
 obtain ⟨b1,b2⟩:=hat.cons
 have hlen:k+(t::T).length=k+1+T.length:=by rw [aj];omega
 rw [hlen] at hf⊢;have hk:=mr b1
 obtain ⟨G,rfl⟩:∃G,F=G+1:=⟨F-1,by omega⟩
 obtain ⟨n',e,r⟩:=h L en rd G (k+1) b2 (by omega) hf;refine ⟨.mk 8 (eO L en k) [] [] 0 0 0 0 [n'],by simp only [fC,d_,e],?_⟩;show zP L en (cF L en rd (G+1)).un _ k=_;unfold zP;rw [if_pos (aW b1 ht.1 ht.2)];have r':(cF L en rd (G+1)).un (k+1)=.ok n' (k+1+T.length):=r;rw [r'];rfl
theorem Reads.abm {T:List Tk} {n:Nd} {t:Tk} (h1:bu t=true→t.2≠eu∧t.2≠iy) (h:Reads 9 (t::T) n):Reads 8 (t::T) n:=fun L en rd F k hat hl hf=>by
 obtain ⟨b1,b2⟩:=hat.cons;obtain ⟨n',e,r⟩:=h L en rd F k hat hl (hf.up (by decide));refine ⟨n',e,?_⟩;show zP L en (cF L en rd F).un (eJ L en rd (cF L en rd F).cond (cF L en rd F).fo) k=_;unfold zP;rw [if_neg (by rw [bS b1 (fun hs=>(h1 hs).1)];decide),if_neg (by rw [bS b1 (fun hs=>(h1 hs).2)];decide)];have r':eJ L en rd (cF L en rd F).cond (cF L en rd F).fo k=.ok n' (k+(t::T).length):=r;rw [r'];show (if b_ L (k+(t::T).length) dM=true then _ else PR.ok n' (k+(t::T).length))=_;rw [if_neg (by rw [hf.brk (by decide)];decide)]
theorem Reads.Vf {v:List UInt8} {t:Tk} (ht:bu t=true∧t.2=iy) (az:Int):Reads 8 [t,(4,v)] (.mk 4 az [] (lN v) 0 0 0 0 []):=fun L en rd F k hat hl hf=>by
 obtain ⟨b1,b2⟩:=hat.cons;obtain ⟨b3,_⟩:=b2.cons;refine ⟨.mk 4 (eO L en k) [] (lN v) 0 0 0 0 [],rfl,?_⟩;show zP L en (cF L en rd F).un _ k=_;unfold zP;rw [if_neg (by rw [bS b1 (fun _ e=>by rw [ht.2] at e;exact absurd e (by decide))];decide),if_pos (aW b1 ht.1 ht.2),if_pos (by rw [jE b3];rfl),pG b3];rfl
def lC (x:Int) (t:Tk):Prop:=t.1=1∧(dv t.2:Int)=x
theorem mS {L:List Lx} {en:Int} {k:Nat} {t:Tk} {x most:Int} (b:∃x,L[k]? =some x∧x.kind=t.1∧x.text=t.2) (h:lC x t) (hm:x≤most):gN L en k most=.ok x (k+1):=by
 unfold gN;rw [if_pos (by rw [jE b,h.1];rfl),pG b,h.2,if_neg (by omega)]
theorem Reads.YT {T:List Tk} {n:Nd} {t lb ta rb:Tk} {a:Int} (h1:bu t=true→t.2≠eu∧t.2≠iy) (h:Reads 9 (t::T) n) (hlb:bu lb=true∧lb.2=dM) (yT:bu rb=true∧rb.2=dz) (ha:lC a ta) (ha2:a≤32768) (az:Int):
 Reads 8 ((t::T)++[lb,ta,rb]) (.mk 6 az [] [] a a 0 0 [n]):=fun L en rd F k hat hl hf=>by
 obtain ⟨a1,a2⟩:=hat.app;obtain ⟨b1,_⟩:=a1.cons;obtain ⟨b2,a3⟩:=a2.cons;obtain ⟨b3,a4⟩:=a3.cons;obtain ⟨b4,_⟩:=a4.cons;obtain ⟨n',e,r⟩:=h L en rd F k a1 hl ⟨fun hj=>absurd hj (by decide),fun i h1 h2=>absurd (br h1 h2) (by decide)⟩;refine ⟨.mk 6 (eO L en (k+(t::T).length)) [] [] a a 0 0 [n'],by simp only [fC,d_,e],?_⟩;show zP L en (cF L en rd F).un (eJ L en rd (cF L en rd F).cond (cF L en rd F).fo) k=_;unfold zP;rw [if_neg (by rw [bS b1 (fun hs=>(h1 hs).1)];decide),if_neg (by rw [bS b1 (fun hs=>(h1 hs).2)];decide)];have r':eJ L en rd (cF L en rd F).cond (cF L en rd F).fo k=.ok n' (k+(t::T).length):=r;rw [r'];show (if b_ L (k+(t::T).length) dM=true then ky L en n' (k+(t::T).length) else PR.ok n' (k+(t::T).length))=_;rw [if_pos (aW b2 hlb.1 hlb.2)];unfold ky;rw [mS b3 ha ha2];show (if b_ L (k+(t::T).length+1+1) lu=true then _ else _)=_;rw [if_neg (by rw [bS b4 (fun _ e=>by rw [yT.2] at e;exact absurd e (by decide))];decide),bN (aW b4 yT.1 yT.2)];show PR.ok _ _=PR.ok _ _
 congr 1
 rw [aw];simp only [aj,aK];omega
theorem Reads.YU {T:List Tk} {n:Nd} {t lb ta co tb rb:Tk} {a b:Int} (h1:bu t=true→t.2≠eu∧t.2≠iy) (h:Reads 9 (t::T) n) (hlb:bu lb=true∧lb.2=dM) (rU:bu co=true∧co.2=lu) (yT:bu rb=true∧rb.2=dz) (ha:lC a ta) (ha2:a≤32768) (hb:lC b tb) (hb2:b≤32768) (az:Int):
 Reads 8 ((t::T)++[lb,ta,co,tb,rb]) (.mk 6 az [] [] a b 0 0 [n]):=fun L en rd F k hat hl hf=>by
 obtain ⟨a1,a2⟩:=hat.app;obtain ⟨b1,_⟩:=a1.cons;obtain ⟨b2,a3⟩:=a2.cons;obtain ⟨b3,a4⟩:=a3.cons;obtain ⟨b4,a5⟩:=a4.cons;obtain ⟨b5,a6⟩:=a5.cons;obtain ⟨b6,_⟩:=a6.cons;obtain ⟨n',e,r⟩:=h L en rd F k a1 hl ⟨fun hj=>absurd hj (by decide),fun i h1 h2=>absurd (br h1 h2) (by decide)⟩;refine ⟨.mk 6 (eO L en (k+(t::T).length)) [] [] a b 0 0 [n'],by simp only [fC,d_,e],?_⟩;show zP L en (cF L en rd F).un (eJ L en rd (cF L en rd F).cond (cF L en rd F).fo) k=_;unfold zP;rw [if_neg (by rw [bS b1 (fun hs=>(h1 hs).1)];decide),if_neg (by rw [bS b1 (fun hs=>(h1 hs).2)];decide)];have r':eJ L en rd (cF L en rd F).cond (cF L en rd F).fo k=.ok n' (k+(t::T).length):=r;rw [r'];show (if b_ L (k+(t::T).length) dM=true then ky L en n' (k+(t::T).length) else PR.ok n' (k+(t::T).length))=_;rw [if_pos (aW b2 hlb.1 hlb.2)];unfold ky;rw [mS b3 ha ha2];show (if b_ L (k+(t::T).length+1+1) lu=true then _ else _)=_;rw [if_pos (aW b4 rU.1 rU.2),mS b5 hb hb2];show (av L en (k+(t::T).length+1+1+1+1) dz).bind _=_;rw [bN (aW b6 yT.1 yT.2)];show PR.ok _ _=PR.ok _ _
 congr 1
 rw [aw];simp only [aj,aK];omega
theorem Reads.const {t:Tk} {n:Nd} (h:∀L en k,(∃x,L[k]? =some x∧x.kind=t.1∧x.text=t.2)→∃n',fC n'=fC n∧iU L en k=some n'):Reads 9 [t] n:=fun L en rd F k hat hl hf=>by
 obtain ⟨b1,_⟩:=hat.cons;obtain ⟨n',e,hc⟩:=h L en k b1;refine ⟨n',e,?_⟩;show eJ L en rd _ _ k=_;unfold eJ;rw [hc];rfl
theorem IQ {t:Tk} (h0:t.1=0) (h1:t.2∉eI) (az:Int):Reads 9 [t] (.mk 1 az t.2 [] 0 0 0 0 []):=Reads.const fun L en k b=>⟨.mk 1 (eO L en k) t.2 [] 0 0 0 0 [],rfl,by
 unfold iU
 rw [if_pos (by rw [jE b,h0,decide_eq_false h1];rfl),pG b]⟩
theorem MS {t:Tk} {q:Int} (h:(t.1=1∧q=3)∨(t.1=3∧q=2)∨(t.1=4∧q=4)∨(t.1=5∧q=5)) (az:Int):Reads 9 [t] (.mk q az [] t.2 0 0 0 0 []):=Reads.const fun L en k b=>⟨.mk q (eO L en k) [] t.2 0 0 0 0 [],rfl,by
 unfold iU;simp only [jE b,pG b]
 rcases h with ⟨h,rfl⟩|⟨h,rfl⟩|⟨h,rfl⟩|⟨h,rfl⟩<;>rw [h]<;>rfl⟩
theorem kU {L:List Lx} {en:Int} {k:Nat} {t:Tk} (b:∃x,L[k]? =some x∧x.kind=t.1∧x.text=t.2) (h:bu t=true):iU L en k=none:=by
 unfold iU;simp only [jE b];unfold bu at h;rw [Bool.or_eq_true,cS,decide_eq_true_eq,decide_eq_true_eq,decide_eq_true_eq] at h
 rcases h with h|⟨h,h2⟩
 ·rw [h];rfl
 ·rw [h,decide_eq_true h2];rfl
theorem tT (L:List Lx) (en:Int) (rd:List UInt8→Int×Int) (G:Nat):(cF L en rd (G+1)).cond=Ot L en rd G 0∧(cF L en rd (G+1)).fo=Ot L en rd G 4:=⟨rfl,rfl⟩
theorem Reads.bool {t:Tk} {q:Int} (h:bu t=true) (hq:(t.2=oG∧q=17)∨(t.2=nP∧q=18)) (az:Int):Reads 9 [t] (.mk q az [] [] 0 0 0 0 []):=fun L en rd F k hat hl hf=>by
 obtain ⟨b1,_⟩:=hat.cons;refine ⟨.mk q (eO L en k) [] [] 0 0 0 0 [],rfl,?_⟩;show eJ L en rd _ _ k=_;unfold eJ;rw [kU b1 h]
 rcases hq with ⟨hw,rfl⟩|⟨hw,rfl⟩
 ·simp only;rw [if_pos (aW b1 h hw)];rfl
 ·simp only;rw [if_neg (by rw [bS b1 (fun _ e=>by rw [hw] at e;exact absurd e (by decide))];decide),if_pos (aW b1 h hw)];rfl
theorem Reads.paren {T:List Tk} {n:Nd} {lp rp:Tk} (yg:bu lp=true∧lp.2=aV) (Bk:bu rp=true∧rp.2=aI) (hc:gP rp) (h:Reads 0 T n):Reads 9 (lp::T++[rp]) n:=fun L en rd F k hat hl hf=>by
 obtain ⟨b1,a1⟩:=lB.cons (show lB L k (lp::(T++[rp])) from hat);obtain ⟨a2,a3⟩:=a1.app;obtain ⟨b2,_⟩:=a3.cons;have hk:=mr b1
 obtain ⟨G,rfl⟩:∃G,F=G+1:=⟨F-1,by omega⟩
 obtain ⟨n',e,r⟩:=h L en rd G (k+1) a2 (by omega) (hc.CY b2 0);refine ⟨n',e,?_⟩;show eJ L en rd (cF L en rd (G+1)).cond _ k=_;unfold eJ;rw [kU b1 yg.1];simp only;have hne:∀w,aV≠w→b_ L k w=false:=fun w hw=>bS b1 (fun _ e=>hw (yg.2.symm.trans e));rw [if_neg (by rw [hne _ (by decide)];decide),if_neg (by rw [hne _ (by decide)];decide),if_pos (aW b1 yg.1 yg.2),(tT L en rd G).1,r];show (av L en (k+1+T.length) aI).bind _=_;rw [bN (aW b2 Bk.1 Bk.2)];show PR.ok _ _=PR.ok _ _
 congr 1
 simp only [aw,aj,aK];omega
theorem tU {L:List Lx} {k:Nat} {t:Tk} (b:∃x,L[k]? =some x∧x.kind=t.1∧x.text=t.2) {ops:List (List UInt8×Int)} {q:Int} (h:nr ops t=some q):kj L ops k=some q:=by rw [jN b];exact h
theorem Reads.call {T:List Tk} {n:Nd} {t lp rp:Tk} {q:Int} (ht:bu t=true) (hq:nr fW t=some q) (hw:t.2≠oG∧t.2≠nP∧t.2≠aV∧t.2≠bA) (yg:bu lp=true∧lp.2=aV) (Bk:bu rp=true∧rp.2=aI) (hc:gP rp) (h:Reads 0 T n) (az:Int):
 Reads 9 (t::lp::T++[rp]) (.mk q az [] [] 0 0 0 0 [n]):=fun L en rd F k hat hl hf=>by
 obtain ⟨b0,a0⟩:=lB.cons (show lB L k (t::(lp::(T++[rp]))) from hat);obtain ⟨b1,a1⟩:=a0.cons;obtain ⟨a2,a3⟩:=a1.app;obtain ⟨b2,_⟩:=a3.cons;have hk:=mr b0
 obtain ⟨G,rfl⟩:∃G,F=G+1:=⟨F-1,by omega⟩
 obtain ⟨n',e,r⟩:=h L en rd G (k+1+1) a2 (by omega) (hc.CY b2 0);refine ⟨.mk q (eO L en k) [] [] 0 0 0 0 [n'],by simp only [fC,d_,e],?_⟩;show eJ L en rd (cF L en rd (G+1)).cond _ k=_;unfold eJ;rw [kU b0 ht];simp only;rw [if_neg (by rw [bS b0 (fun _=>hw.1)];decide),if_neg (by rw [bS b0 (fun _=>hw.2.1)];decide),if_neg (by rw [bS b0 (fun _=>hw.2.2.1)];decide),if_neg (by rw [bS b0 (fun _=>hw.2.2.2)];decide),tU b0 hq];simp only;rw [bN (aW b1 yg.1 yg.2)];show ((cF L en rd (G+1)).cond (k+1+1)).bind _=_;rw [(tT L en rd G).1,r];show (av L en (k+1+1+T.length) aI).bind _=_;rw [bN (aW b2 Bk.1 Bk.2)];show PR.ok _ _=PR.ok _ _
 congr 1
 simp only [aw,aj,aK];omega
mutual
def Dv:Nd→Nd→Bool
 |.mk k _ nm v a b c d ks,.mk k' _ Ou v' a' b' c' d' ks'=>(decide (k=k')&&decide (nm=Ou)&&decide (v=v')&&decide (a=a')&&decide (b=b')&&decide (c=c')&&decide (d=d'))&&kA ks ks'
def kA:List Nd→List Nd→Bool
 |[],[]=>true
 |x::r,y::s=>Dv x y&&kA r s
 |[],_::_=>false
 |_::_,[]=>false
end
mutual
theorem KF:∀a b:Nd,Dv a b=true↔fC a=fC b
 |.mk k t nm v a b c d ks,.mk k' t' Ou v' a' b' c' d' ks'=>by
  have ih:=Fi ks ks';simp only [Dv,fC,cS,decide_eq_true_eq,ih,Nd.mk.injEq,true_and];constructor
  ·rintro ⟨⟨⟨⟨⟨⟨⟨h1,h2⟩,h3⟩,h4⟩,h5⟩,h6⟩,h7⟩,h8⟩;exact ⟨h1,h2,h3,h4,h5,h6,h7,h8⟩
  ·rintro ⟨h1,h2,h3,h4,h5,h6,h7,h8⟩;exact ⟨⟨⟨⟨⟨⟨⟨h1,h2⟩,h3⟩,h4⟩,h5⟩,h6⟩,h7⟩,h8⟩
theorem Fi:∀a b:List Nd,kA a b=true↔d_ a=d_ b
 |[],[]=>by simp [kA,d_]
 |x::r,y::s=>by
  have h1:=KF x y;have h2:=Fi r s;simp only [kA,d_,cS,h1,h2,List.cons.injEq]
 |[],_::_=>by simp [kA,d_]
 |_::_,[]=>by simp [kA,d_]
end
mutual
def aC:Nd→Nat
 |.mk _ _ _ _ _ _ _ _ ks=>1+ax ks
def ax:List Nd→Nat
 |[]=>0
 |x::r=>aC x+ax r
end
theorem yY:∀{a b:List Nd},kA a b=true→a.length=b.length
 |[],[],_=>rfl
 |x::r,y::s,h=>by
  rw [kA,cS] at h;rw [aj,aj,yY h.2]
 |[],_::_,h=>by simp [kA] at h
 |_::_,[],h=>by simp [kA] at h
theorem kV {L:List Lx} {en:Int} {rd:List UInt8→Int×Int} {k:Nat} {t:Tk} {x:Int} (b:∃x,L[k]? =some x∧x.kind=t.1∧x.text=t.2) (h:lC x t) (hm:x≤1099511627776):dE L en rd k=.ok x (k+1):=by
 unfold dE;rw [if_neg (by rw [jE b,h.1];simp)];exact mS b h hm
theorem yZ {L:List Lx} {en:Int} {rd:List UInt8→Int×Int} {G:Nat} {co rb:Tk} (rU:bu co=true∧co.2=aG) (yT:bu rb=true∧rb.2=aZ) (c1:gP co) (c2:gP rb):∀(ps:List (List Tk×Nd)) (m:Nat) (acc:List Nd) (k:Nat),(∀p∈ps,Reads 4 p.1 p.2)→lB L k (ps.flatMap (fun p=>co::p.1)++[rb])→L.length<m+k→L.length≤G+k→
 ∃l',d_ l'=d_ (ps.map (·.2))∧il L (Ot L en rd G 4) m acc k=.ok (acc++l') (k+(ps.flatMap (fun p=>co::p.1)).length)
 |[],m,acc,k,_,hat,hm,_=>by
  obtain ⟨b,_⟩:=lB.cons (show lB L k (rb::[]) from hat);have hk:=mr b
  obtain ⟨m,rfl⟩:∃q,m=q+1:=⟨m-1,by omega⟩
  refine ⟨[],rfl,?_⟩;unfold il;rw [if_neg (by rw [bS b (fun _ e=>by rw [yT.2] at e;exact absurd e (by decide))];decide),dH];rfl
 |p::ps,m,acc,k,hp,hat,hm,hG=>by
  have hat':lB L k (co::(p.1++(ps.flatMap (fun p=>co::p.1)++[rb]))):=by
   rw [List.flatMap_cons,List.cons_append,List.cons_append,cT] at hat;exact hat
  obtain ⟨b,a1⟩:=hat'.cons;obtain ⟨a2,a3⟩:=a1.app;have hk:=mr b
  obtain ⟨m,rfl⟩:∃q,m=q+1:=⟨m-1,by omega⟩
  have IP:Fh L (k+1+p.1.length) 4:=by
   cases ps with
   |nil=>obtain ⟨b2,_⟩:=lB.cons (show lB L _ (rb::[]) from a3);exact c2.CY b2 4
   |cons p2 ps=>obtain ⟨b2,_⟩:=lB.cons (show lB L _ (co::_) from a3);exact c1.CY b2 4
  obtain ⟨x',e,r⟩:=hp p bX L en rd G (k+1) a2 (by omega) IP;obtain ⟨l',e2,r2⟩:=yZ (en:=en) (rd:=rd) (G:=G) rU yT c1 c2 ps m (acc++[x']) (k+1+p.1.length) (fun q hq=>hp q (cL _ hq)) a3 (by omega) (by omega);refine ⟨x'::l',?_,?_⟩
  ·show fC x'::d_ l'=fC p.2::d_ (ps.map (·.2));rw [e,e2]
  ·unfold il;rw [if_pos (aW b rU.1 rU.2),r];show il L (Ot L en rd G 4) m (acc++[x']) (k+1+p.1.length)=_;rw [r2,cT];show PR.ok _ _=PR.ok _ _
   congr 1
   rw [List.flatMap_cons,aw,aj];omega
theorem Reads.concat {T:List Tk} {n:Nd} {ps:List (List Tk×Nd)} {lb co rb:Tk} (hlb:bu lb=true∧lb.2=bA) (rU:bu co=true∧co.2=aG) (yT:bu rb=true∧rb.2=aZ) (c1:gP co) (c2:gP rb) (h:Reads 4 T n) (hp:∀p∈ps,Reads 4 p.1 p.2) (az:Int):
 Reads 9 (lb::T++(ps.flatMap (fun p=>co::p.1)++[rb])) (.mk 7 az [] [] 0 0 0 0 (n::ps.map (·.2))):=fun L en rd F k hat hl hf=>by
 obtain ⟨b1,a1⟩:=lB.cons (show lB L k (lb::(T++(ps.flatMap (fun p=>co::p.1)++[rb]))) from hat);obtain ⟨a2,a3⟩:=a1.app;have hk:=mr b1
 obtain ⟨G,rfl⟩:∃G,F=G+1:=⟨F-1,by omega⟩
 have IP:Fh L (k+1+T.length) 4:=by
  cases ps with
  |nil=>obtain ⟨b2,_⟩:=lB.cons (show lB L _ (rb::[]) from a3);exact c2.CY b2 4
  |cons p2 ps=>obtain ⟨b2,_⟩:=lB.cons (show lB L _ (co::_) from a3);exact c1.CY b2 4
 obtain ⟨n',e,r⟩:=h L en rd G (k+1) a2 (by omega) IP;obtain ⟨l',e2,r2⟩:=yZ (en:=en) (rd:=rd) (G:=G) rU yT c1 c2 ps (L.length+1) [n'] (k+1+T.length) hp a3 (by omega) (by omega);obtain ⟨_,a4⟩:=a3.app;obtain ⟨b3,_⟩:=a4.cons;refine ⟨.mk 7 (eO L en k) [] [] 0 0 0 0 (n'::l'),by simp only [fC,d_,e,e2],?_⟩;show eJ L en rd (cF L en rd (G+1)).cond (cF L en rd (G+1)).fo k=_;unfold eJ;rw [kU b1 hlb.1];simp only;have hne:∀w,bA≠w→b_ L k w=false:=fun w hw=>bS b1 (fun _ e=>hw (hlb.2.symm.trans e));rw [if_neg (by rw [hne _ (by decide)];decide),if_neg (by rw [hne _ (by decide)];decide),if_neg (by rw [hne _ (by decide)];decide),if_pos (aW b1 hlb.1 hlb.2),(tT L en rd G).2,r];show (il L (Ot L en rd G 4) (L.length+1) [n'] (k+1+T.length)).bind _=_;rw [r2];show (av L en _ aZ).bind _=_;rw [bN (aW b3 yT.1 yT.2)];show PR.ok _ _=PR.ok _ _
 congr 1
 simp only [aw,aj,aK];omega
theorem Reads.YV {T:List Tk} {n:Nd} {t lp co ta tb rp:Tk} {q a b:Int} (ht:bu t=true) (hq:nr dV t=some q) (hq2:¬(q=35∨q=36)) (hc0:nr fW t=none) (hw:t.2≠oG∧t.2≠nP∧t.2≠aV∧t.2≠bA) (yg:bu lp=true∧lp.2=aV) (rU:bu co=true∧co.2=aG) (Bk:bu rp=true∧rp.2=aI) (c1:gP co)
 (ha:lC a ta) (ha2:a≤1099511627776) (hb:lC b tb) (hb2:b≤1099511627776) (h:Reads 0 T n) (az:Int):Reads 9 (t::lp::T++[co,ta,co,tb,rp]) (.mk q az [] [] a b 0 0 [n]):=fun L en rd F k hat hl hf=>by
 obtain ⟨b0,a0⟩:=lB.cons (show lB L k (t::(lp::(T++[co,ta,co,tb,rp]))) from hat);obtain ⟨b1,a1⟩:=a0.cons;obtain ⟨a2,a3⟩:=a1.app;obtain ⟨b2,a4⟩:=a3.cons;obtain ⟨b3,a5⟩:=a4.cons;obtain ⟨b4,a6⟩:=a5.cons;obtain ⟨b5,a7⟩:=a6.cons;obtain ⟨b6,_⟩:=a7.cons;have hk:=mr b0
 obtain ⟨G,rfl⟩:∃G,F=G+1:=⟨F-1,by omega⟩
 obtain ⟨n',e,r⟩:=h L en rd G (k+1+1) a2 (by omega) (c1.CY b2 0);refine ⟨.mk q (eO L en k) [] [] a b 0 0 [n'],by simp only [fC,d_,e],?_⟩;show eJ L en rd (cF L en rd (G+1)).cond _ k=_;unfold eJ;rw [kU b0 ht];simp only;rw [if_neg (by rw [bS b0 (fun _=>hw.1)];decide),if_neg (by rw [bS b0 (fun _=>hw.2.1)];decide),if_neg (by rw [bS b0 (fun _=>hw.2.2.1)];decide),if_neg (by rw [bS b0 (fun _=>hw.2.2.2)];decide),jN b0,hc0];simp only;rw [tU b0 hq];simp only;unfold jU;rw [bN (aW b1 yg.1 yg.2)];show ((cF L en rd (G+1)).cond (k+1+1)).bind _=_;rw [(tT L en rd G).1,r];show (av L en (k+1+1+T.length) aG).bind _=_;rw [bN (aW b2 rU.1 rU.2)];show (if q=35∨q=36 then _ else nQ L en rd (k+1+1+T.length+1) _)=_;rw [if_neg hq2];unfold nQ;rw [kV b3 ha ha2];show (av L en (k+1+1+T.length+1+1) aG).bind _=_;rw [bN (aW b4 rU.1 rU.2)];show (dE L en rd (k+1+1+T.length+1+1+1)).bind _=_;rw [kV b5 hb hb2];show (av L en (k+1+1+T.length+1+1+1+1) aI).bind _=_;rw [bN (aW b6 Bk.1 Bk.2)];show PR.ok _ _=PR.ok _ _
 congr 1
 simp only [aw,aj,aK];omega
theorem Reads.YW {T T2:List Tk} {n n2:Nd} {t lp co ta tb rp:Tk} {q a b:Int} (ht:bu t=true) (hq:nr dV t=some q) (hq2:q=35∨q=36) (hc0:nr fW t=none) (hw:t.2≠oG∧t.2≠nP∧t.2≠aV∧t.2≠bA) (yg:bu lp=true∧lp.2=aV) (rU:bu co=true∧co.2=aG) (Bk:bu rp=true∧rp.2=aI) (c1:gP co)
 (ha:lC a ta) (ha2:a≤1099511627776) (hb:lC b tb) (hb2:b≤1099511627776) (h:Reads 0 T n) (h2:Reads 0 T2 n2) (az:Int):Reads 9 (t::lp::T++(co::T2++[co,ta,co,tb,rp])) (.mk q az [] [] a b 0 0 [n,n2]):=fun L en rd F k hat hl hf=>by
 obtain ⟨b0,a0⟩:=lB.cons (show lB L k (t::(lp::(T++(co::(T2++[co,ta,co,tb,rp]))))) from hat);obtain ⟨b1,a1⟩:=a0.cons;obtain ⟨a2,a3⟩:=a1.app;obtain ⟨b2,a4⟩:=a3.cons;obtain ⟨a5,a6⟩:=a4.app;obtain ⟨b3,a7⟩:=a6.cons;obtain ⟨b4,a8⟩:=a7.cons;obtain ⟨b5,a9⟩:=a8.cons;obtain ⟨b6,a10⟩:=a9.cons;obtain ⟨b7,_⟩:=a10.cons;have hk:=mr b0
 obtain ⟨G,rfl⟩:∃G,F=G+1:=⟨F-1,by omega⟩
 obtain ⟨n',e,r⟩:=h L en rd G (k+1+1) a2 (by omega) (c1.CY b2 0);obtain ⟨n2',e2,r2⟩:=h2 L en rd G (k+1+1+T.length+1) a5 (by omega) (c1.CY b3 0);refine ⟨.mk q (eO L en k) [] [] a b 0 0 [n',n2'],by simp only [fC,d_,e,e2],?_⟩;show eJ L en rd (cF L en rd (G+1)).cond _ k=_;unfold eJ;rw [kU b0 ht];simp only;rw [if_neg (by rw [bS b0 (fun _=>hw.1)];decide),if_neg (by rw [bS b0 (fun _=>hw.2.1)];decide),if_neg (by rw [bS b0 (fun _=>hw.2.2.1)];decide),if_neg (by rw [bS b0 (fun _=>hw.2.2.2)];decide),jN b0,hc0];simp only;rw [tU b0 hq];simp only;unfold jU;rw [bN (aW b1 yg.1 yg.2)];show ((cF L en rd (G+1)).cond (k+1+1)).bind _=_;rw [(tT L en rd G).1,r];show (av L en (k+1+1+T.length) aG).bind _=_;rw [bN (aW b2 rU.1 rU.2)];show (if q=35∨q=36 then (Ot L en rd G 0 (k+1+1+T.length+1)).bind _ else _)=_;rw [if_pos hq2,r2];show (av L en (k+1+1+T.length+1+T2.length) aG).bind _=_;rw [bN (aW b3 rU.1 rU.2)];show nQ L en rd (k+1+1+T.length+1+T2.length+1) _=_;unfold nQ;rw [kV b4 ha ha2];show (av L en (k+1+1+T.length+1+T2.length+1+1) aG).bind _=_;rw [bN (aW b5 rU.1 rU.2)];show (dE L en rd (k+1+1+T.length+1+T2.length+1+1+1)).bind _=_;rw [kV b6 hb hb2];show (av L en (k+1+1+T.length+1+T2.length+1+1+1+1) aI).bind _=_;rw [bN (aW b7 Bk.1 Bk.2)];show PR.ok _ _=PR.ok _ _
 congr 1
 simp only [aw,aj,aK];omega
def mU (j:Nat) (T:List Tk):Prop:=∃t r,T=t::r∧(3≤j→bu t=true→t.2≠iG)∧(9≤j→bu t=true→t.2≠eu∧t.2≠iy)
theorem mU.down {i j:Nat} {T:List Tk} (h:mU j T) (hij:i≤j):mU i T:=by
 obtain ⟨t,r,rfl,h1,h2⟩:=h;exact ⟨t,r,rfl,fun h=>h1 (by omega),fun h=>h2 (by omega)⟩
theorem Reads.one {j:Nat} {T:List Tk} {n:Nd} (hj:j<9) (hh:mU (j+1) T) (h:Reads (j+1) T n):Reads j T n:=by
 have:j=0∨j=1∨j=2∨j=3∨j=4∨j=5∨j=6∨j=7∨j=8:=by omega
 rcases this with rfl|rfl|rfl|rfl|rfl|rfl|rfl|rfl|rfl
 ·exact (h.left rfl).stop rfl
 ·exact (h.left rfl).stop rfl
 ·obtain ⟨t,r,rfl,h1,_⟩:=hh;exact h.abk (h1 (by decide))
 ·exact h.abl
 ·exact (h.left rfl).stop rfl
 ·exact (h.left rfl).stop rfl
 ·exact (h.left rfl).stop rfl
 ·exact (h.left rfl).stop rfl
 ·obtain ⟨t,r,rfl,_,h2⟩:=hh;exact h.abm (h2 (by decide))
theorem Reads.down {T:List Tk} {n:Nd}:∀(d j:Nat),j+d≤9→mU (j+d) T→Reads (j+d) T n→Reads j T n
 |0,j,_,_,h=>h
 |d+1,j,hj,hh,h=>Reads.one (by omega) (hh.down (by omega)) (Reads.down d (j+1) (by omega) (by rw [show j+1+d=j+(d+1) by omega];exact hh) (by rw [show j+1+d=j+(d+1) by omega];exact h))
section
variable {L : List Lx} {en : Int} {rd : List UInt8 → Int × Int}
theorem jF:Prog (cX L en rd):=(dR (L.length+1)).cond
theorem Fj {cond:Nat→PR Nd} (hc:Prog cond):Prog (jB L en cond):=fun k x k' h=>by
 unfold jB at h
 split at h
 ·obtain ⟨_,k1,h1,h2⟩:=bind_ok h;have e1:=(aS h1).1
  split at h2
  ·obtain ⟨_,k2,h3,h4⟩:=bind_ok h2;cases h4;have e2:=(aS h3).1;omega
  ·cases h2
 ·split at h
  ·obtain ⟨_,k1,h1,h2⟩:=bind_ok h;obtain ⟨y,k2,h3,h4⟩:=bind_ok h2;obtain ⟨_,k3,h5,h6⟩:=bind_ok h4;cases h6;have:=(aS h1).1;have:=hc _ _ _ h3;have:=(aS h5).1;omega
  ·cases h
theorem IU {cond pat:Nat→PR Nd} (hc:Prog cond) (hp:Prog pat):Prog (jt L en cond pat):=fun k x k' h=>by
 unfold jt at h
 split at h
 ·obtain ⟨y,k1,h1,h2⟩:=bind_ok h;obtain ⟨_,k2,h3,h4⟩:=bind_ok h2;cases h4;have:=hp _ _ _ h1;have:=(aS h3).1;omega
 ·obtain ⟨y,k1,h1,h2⟩:=bind_ok h;have a:=Fj hc _ _ _ h1
  split at h2
  ·obtain ⟨z,k2,h3,h4⟩:=bind_ok h2;cases h4;have:=hc _ _ _ h3;omega
  ·cases h2;exact a
theorem Bl {α:Type} {k k':Nat} {f:Int→Int→Nat→PR α} {x:α} (h:jf L en rd k f=.ok x k'):∃a b,f a b (k+5)=.ok x k':=by
 obtain ⟨_,k1,h1,h2⟩:=bind_ok h;obtain ⟨a,k2,h3,h4⟩:=bind_ok h2;obtain ⟨_,k3,h5,h6⟩:=bind_ok h4;obtain ⟨b,k4,h7,h8⟩:=bind_ok h6;obtain ⟨_,k5,h9,h10⟩:=bind_ok h8;have e1:=(aS h1).1;have e2:=jY h3;have e3:=(aS h5).1;have e4:=jY h7;have e5:=(aS h9).1;subst e1 e2 e3 e4 e5;exact ⟨a,b,h10⟩
theorem l_ {cond:Nat→PR Nd} (hc:Prog cond):Prog (dW L cond):=fun k x k' h=>by
 unfold dW at h
 split at h
 ·obtain ⟨y,k1,h1,h2⟩:=bind_ok h;cases h2;have:=hc _ _ _ h1;omega
 ·cases h;exact aa _
theorem nY {cond pat:Nat→PR Nd} (hc:Prog cond) (hp:Prog pat):Prog (im L en rd cond pat):=fun k x k' h=>by
 obtain ⟨y,k1,h1,h2⟩:=bind_ok h;have a:=IU hc hp _ _ _ h1
 split at h2
 ·obtain ⟨a1,k2,h3,h4⟩:=bind_ok h2;obtain ⟨_,k3,h5,h6⟩:=bind_ok h4;obtain ⟨b1,k4,h7,h8⟩:=bind_ok h6;obtain ⟨_,k5,h9,h10⟩:=bind_ok h8;obtain ⟨c1,d1,h11⟩:=Bl h10;obtain ⟨l,k7,h12,tQ⟩:=bind_ok h11;obtain ⟨_,k8,h14,Ta⟩:=bind_ok tQ;cases Ta;have:=kK h3;have:=(aS h5).1;have:=kK h7;have:=(aS h9).1;have:=l_ hc _ _ _ h12;have:=(aS h14).1;omega
 ·cases h2;exact a
theorem Bn {cond pat:Nat→PR Nd} (hc:Prog cond) (hp:Prog pat):∀(m:Nat) (n:Nd) (k:Nat) (x:Nd) (k':Nat),kJ L en rd cond pat m n k=.ok x k'→k≤k'
 |0,n,k,x,k',h=>by cases h;exact aa _
 |m+1,n,k,x,k',h=>by
  unfold kJ at h
  split at h
  ·obtain ⟨a1,b1,h1⟩:=Bl h;obtain ⟨l,k2,h2,h3⟩:=bind_ok h1;obtain ⟨y,k3,h4,h5⟩:=bind_ok h3;have:=l_ hc _ _ _ h2;have:=nY hc hp _ _ _ h4;have:=Bn hc hp m _ _ _ _ h5;omega
  ·cases h;exact aa _
theorem vg {cond pat:Nat→PR Nd} (hc:Prog cond) (hp:Prog pat):Prog (ES L en rd cond pat):=fun k x k' h=>by
 obtain ⟨y,k1,h1,h2⟩:=bind_ok h;have:=nY hc hp _ _ _ h1;have:=Bn hc hp _ _ _ _ _ h2;omega
theorem mV:∀F,Prog (lO L en rd F)
 |0=>fun k x k' h=>(by cases h)
 |F+1=>bP (vg jF (mV F))
theorem IV {α:Type} {k:Nat} {f g:Int→Int→Nat→PR α} (h:∀a b,f a b (k+5)=g a b (k+5)):jf L en rd k f=jf L en rd k g:=by
 unfold jf
 cases h1:av L en k dM with
 |err a e=>rfl
 |ok x k1=>
  have e1:=(aS h1).1;subst e1;simp only [PR.bind]
  cases h2:dE L en rd (k+1) with
  |err a e=>rfl
  |ok a k2=>
   have e2:=jY h2;subst e2;simp only [PR.bind]
   cases h3:av L en (k+1+1) aG with
   |err a e=>rfl
   |ok x k3=>
    have e3:=(aS h3).1;subst e3;simp only [PR.bind]
    cases h4:dE L en rd (k+1+1+1) with
    |err a e=>rfl
    |ok b k4=>
     have e4:=jY h4;subst e4;simp only [PR.bind]
     cases h5:av L en (k+1+1+1+1) dz with
     |err a e=>rfl
     |ok x k5=>
      have e5:=(aS h5).1;subst e5;exact h a b
theorem Bo {cond pat:Nat→PR Nd} (hc:Prog cond) (hp:Prog pat):∀(m m':Nat) (n:Nd) (k:Nat),L.length<m+k→L.length<m'+k→kJ L en rd cond pat m n k=kJ L en rd cond pat m' n k
 |0,0,n,k,_,_=>rfl
 |0,m'+1,n,k,h,_=>by
  unfold kJ;rw [if_neg (fun hi=>by have:=IC hi;omega)]
 |m+1,0,n,k,_,h=>by
  conv=>lhs;unfold kJ
  rw [if_neg (fun hi=>by have:=IC hi;omega)];rfl
 |m+1,m'+1,n,k,h,h'=>by
  unfold kJ
  split
  ·refine IV fun a b=>?_
   cases h1:dW L cond (k+1+5) with
   |err a e=>rfl
   |ok l k2=>
    have e1:=l_ hc _ _ _ h1;simp only [PR.bind]
    cases h2:im L en rd cond pat k2 with
    |err a e=>rfl
    |ok x k3=>
     have e2:=nY hc hp _ _ _ h2;exact Bo hc hp m m' _ _ (by omega) (by omega)
  ·rfl
end
def lvP (L:List Lx) (en:Int) (rd:List UInt8→Int×Int) (F:Nat):Nat→Nat→PR Nd
 |10=>lO L en rd (F+1)
 |11=>ES L en rd (cX L en rd) (lO L en rd F)
 |12=>im L en rd (cX L en rd) (lO L en rd F)
 |_=>jt L en (cX L en rd) (lO L en rd F)
structure Am (L:List Lx) (k:Nat) (j:Nat):Prop where
 CY:Fh L k 0
 alt:j≤10→kj L ER k=none
 arr:j≤11→b_ L k ly=false
 brc:j≤12→b_ L k bA=false
 iff:b_ L k Gu=false
theorem Am.up {L:List Lx} {k i j:Nat} (h:Am L k i) (hij:i≤j):Am L k j:=⟨h.CY,fun hj=>h.alt (by omega),fun hj=>h.arr (by omega),fun hj=>h.brc (by omega),h.iff⟩
def cN (j:Nat) (T:List Tk) (n:Nd):Prop:=∀L en rd F k,lB L k T→L.length≤F+k→Am L (k+T.length) j→∃n',fC n'=fC n∧lvP L en rd F j k=.ok n' (k+T.length)
def nZ (T:List Tk) (n:Nd):Prop:=∀L en rd k,lB L k T→∃n',fC n'=fC n∧jB L en (cX L en rd) k=.ok n' (k+T.length)
theorem Reads.cond {T:List Tk} {n:Nd} (h:Reads 0 T n) {L:List Lx} {en:Int} {rd:List UInt8→Int×Int} {k:Nat} (hat:lB L k T) (hf:Fh L (k+T.length) 0):∃n',fC n'=fC n∧cX L en rd k=.ok n' (k+T.length):=h L en rd L.length k hat (by omega) hf
theorem nZ.event {T:List Tk} {n:Nd} {t lp rp:Tk} {q:Int} (ht:bu t=true) (hq:nr fk t=some q) (hw:t.2≠ig) (yg:bu lp=true∧lp.2=aV) (Bk:bu rp=true∧rp.2=aI) (hc:gP rp) (h:Reads 0 T n) (az:Int):
 nZ (t::lp::T++[rp]) (.mk q az [] [] 0 0 0 0 [n]):=fun L en rd k hat=>by
 obtain ⟨b0,a0⟩:=lB.cons (show lB L k (t::(lp::(T++[rp]))) from hat);obtain ⟨b1,a1⟩:=a0.cons;obtain ⟨a2,a3⟩:=a1.app;obtain ⟨b2,_⟩:=a3.cons;obtain ⟨n',e,r⟩:=h.cond (en:=en) (rd:=rd) a2 (hc.CY b2 0);refine ⟨.mk q (eO L en k) [] [] 0 0 0 0 [n'],by simp only [fC,d_,e],?_⟩;unfold jB;rw [if_neg (by rw [bS b0 (fun _=>hw)];decide),tU b0 hq];simp only;rw [bN (aW b1 yg.1 yg.2)];show (cX L en rd (k+1+1)).bind _=_;rw [r];show (av L en (k+1+1+T.length) aI).bind _=_;rw [bN (aW b2 Bk.1 Bk.2)];show PR.ok _ _=PR.ok _ _
 congr 1
 simp only [aw,aj,aK];omega
theorem nZ.occurs {t lp nm rp:Tk} (ht:bu t=true∧t.2=ig) (yg:bu lp=true∧lp.2=aV) (Bk:bu rp=true∧rp.2=aI) (h0:nm.1=0) (h1:nm.2∉eI) (az Tu:Int):
 nZ [t,lp,nm,rp] (.mk 42 az [] [] 0 0 0 0 [.mk 1 Tu nm.2 [] 0 0 0 0 []]):=fun L en rd k hat=>by
 obtain ⟨b0,a0⟩:=hat.cons;obtain ⟨b1,a1⟩:=a0.cons;obtain ⟨b2,a2⟩:=a1.cons;obtain ⟨b3,_⟩:=a2.cons;refine ⟨.mk 42 (eO L en k) [] [] 0 0 0 0 [.mk 1 (eO L en (k+1+1)) (kx L (k+1+1)) [] 0 0 0 0 []],by rw [pG b2];rfl,?_⟩;unfold jB;rw [if_pos (aW b0 ht.1 ht.2),bN (aW b1 yg.1 yg.2)];show (if cW L (k+1+1) 0=true then _ else _)=_;rw [if_pos (by rw [jE b2,h0,decide_eq_false h1];rfl),bN (aW b3 Bk.1 Bk.2)];rfl
theorem cN.event {T:List Tk} {n:Nd} {t:Tk} (ht:bu t=true→t.2≠aV) (h:nZ (t::T) n):cN 13 (t::T) n:=fun L en rd F k hat hl hf=>by
 obtain ⟨b0,_⟩:=hat.cons;obtain ⟨n',e,r⟩:=h L en rd k hat;refine ⟨n',e,?_⟩;show jt L en (cX L en rd) (lO L en rd F) k=_;unfold jt;rw [if_neg (by rw [bS b0 ht];decide),r];show (if b_ L (k+(t::T).length) Gu=true then _ else PR.ok n' (k+(t::T).length))=_;rw [if_neg (by rw [hf.iff];decide)]
theorem cN.when {T C:List Tk} {n c:Nd} {t i:Tk} (ht:bu t=true→t.2≠aV) (hi:bu i=true∧i.2=Gu) (h:nZ (t::T) n) (hc:Reads 0 C c) (az:Int):cN 13 ((t::T)++i::C) (.mk 44 az [] [] 0 0 0 0 [n,c]):=fun L en rd F k hat hl hf=>by
 obtain ⟨a0,a1⟩:=hat.app;obtain ⟨b0,_⟩:=a0.cons;obtain ⟨b1,a2⟩:=a1.cons
 have hlen:k+((t::T)++i::C).length=k+(t::T).length+1+C.length:=by rw [aw,show (i::C).length=C.length+1 from rfl];omega
 rw [hlen] at hf⊢;obtain ⟨n',e,r⟩:=h L en rd k a0;obtain ⟨c',e2,r2⟩:=hc.cond (en:=en) (rd:=rd) a2 hf.CY;refine ⟨.mk 44 (eO L en (k+(t::T).length)) [] [] 0 0 0 0 [n',c'],by simp only [fC,d_,e,e2],?_⟩;show jt L en (cX L en rd) (lO L en rd F) k=_;unfold jt;rw [if_neg (by rw [bS b0 ht];decide),r];show (if b_ L (k+(t::T).length) Gu=true then (cX L en rd (k+(t::T).length+1)).bind _ else _)=_;rw [if_pos (aW b1 hi.1 hi.2),r2];rfl
structure KG (t:Tk):Prop extends gP t where
 alt:nr ER t=none
 arr:bu t=true→t.2≠ly
 brc:bu t=true→t.2≠bA
 iff:bu t=true→t.2≠Gu
theorem KG.acP {L:List Lx} {k:Nat} {t:Tk} (h:KG t) (b:∃x,L[k]? =some x∧x.kind=t.1∧x.text=t.2) (j:Nat):Am L k j:=
 ⟨h.togP.CY b 0,fun _=>by rw [jN b];exact h.alt,fun _=>bS b h.arr,fun _=>bS b h.brc,bS b h.iff⟩
theorem cN.paren {T:List Tk} {n:Nd} {lp rp:Tk} (yg:bu lp=true∧lp.2=aV) (Bk:bu rp=true∧rp.2=aI) (hc:KG rp) (h:cN 10 T n):cN 13 (lp::T++[rp]) n:=fun L en rd F k hat hl hf=>by
 obtain ⟨b1,a1⟩:=lB.cons (show lB L k (lp::(T++[rp])) from hat);obtain ⟨a2,a3⟩:=a1.app;obtain ⟨b2,_⟩:=a3.cons;have hk:=mr b1
 obtain ⟨G,rfl⟩:∃G,F=G+1:=⟨F-1,by omega⟩
 obtain ⟨n',e,r⟩:=h L en rd G (k+1) a2 (by omega) (hc.acP b2 10);refine ⟨n',e,?_⟩;show jt L en (cX L en rd) (lO L en rd (G+1)) k=_;have r':lO L en rd (G+1) (k+1)=.ok n' (k+1+T.length):=r;unfold jt;rw [if_pos (aW b1 yg.1 yg.2),r'];show (av L en (k+1+T.length) aI).bind _=_;rw [bN (aW b2 Bk.1 Bk.2)];show PR.ok _ _=PR.ok _ _
 congr 1
 simp only [aw,aj,aK];omega
theorem cN.elem {T:List Tk} {n:Nd} (h:cN 13 T n):cN 12 T n:=fun L en rd F k hat hl hf=>by
 obtain ⟨n',e,r⟩:=h L en rd F k hat hl (hf.up (by decide));refine ⟨n',e,?_⟩;have r':jt L en (cX L en rd) (lO L en rd F) k=.ok n' (k+T.length):=r;show im L en rd (cX L en rd) (lO L en rd F) k=_;unfold im;rw [r'];show (if b_ L (k+T.length) bA=true then _ else PR.ok n' (k+T.length))=_;rw [if_neg (by rw [hf.brc (by decide)];decide)]
theorem Bp {α:Type} {L:List Lx} {en:Int} {rd:List UInt8→Int×Int} {k:Nat} {lk ta co tb rk:Tk} {a b:Int} {r:List Tk} (hlk:bu lk=true∧lk.2=dM) (rU:bu co=true∧co.2=aG) (hrk:bu rk=true∧rk.2=dz) (ha:lC a ta) (ha2:a≤1099511627776) (hb:lC b tb) (hb2:b≤1099511627776)
 (hat:lB L k (lk::ta::co::tb::rk::r)) (f:Int→Int→Nat→PR α):jf L en rd k f=f a b (k+5)∧lB L (k+5) r:=by
 obtain ⟨b0,a0⟩:=hat.cons;obtain ⟨b1,a1⟩:=a0.cons;obtain ⟨b2,a2⟩:=a1.cons;obtain ⟨b3,a3⟩:=a2.cons;obtain ⟨b4,a4⟩:=a3.cons;refine ⟨?_,a4⟩;unfold jf;rw [bN (aW b0 hlk.1 hlk.2)];show (dE L en rd (k+1)).bind _=_;rw [kV b1 ha ha2];show (av L en (k+1+1) aG).bind _=_;rw [bN (aW b2 rU.1 rU.2)];show (dE L en rd (k+1+1+1)).bind _=_;rw [kV b3 hb hb2];show (av L en (k+1+1+1+1) dz).bind _=_;rw [bN (aW b4 hrk.1 hrk.2)];rfl
def WhT (W:List Tk) (cs:List Nd):Prop:=(W=[]∧cs=[])∨∃wh C c,W=wh::C∧cs=[c]∧(bu wh=true∧wh.2=jA)∧Reads 0 C c
theorem v_ {W:List Tk} {cs:List Nd} (h:WhT W cs) {L:List Lx} {en:Int} {rd:List UInt8→Int×Int} {k:Nat} (hat:lB L k W) (hf:Fh L (k+W.length) 0) (hw:b_ L (k+W.length) jA=false):∃cs',d_ cs'=d_ cs∧dW L (cX L en rd) k=.ok cs' (k+W.length):=by
 rcases h with ⟨rfl,rfl⟩|⟨wh,C,c,rfl,rfl,hwh,hC⟩
 ·refine ⟨[],rfl,?_⟩;unfold dW;rw [if_neg (by rw [show b_ L k jA=false from hw];decide)];rfl
 ·obtain ⟨b0,a0⟩:=hat.cons
  have hlen:k+(wh::C).length=k+1+C.length:=by rw [aj];omega
  rw [hlen] at hf⊢;obtain ⟨c',e,r⟩:=hC.cond (en:=en) (rd:=rd) a0 hf;refine ⟨[c'],by simp only [d_,e],?_⟩;unfold dW;rw [if_pos (aW b0 hwh.1 hwh.2),r];rfl
theorem cN.repeat {T W:List Tk} {n:Nd} {cs:List Nd} {lb ta co tb lk tc td rk rb:Tk} {a b c d:Int} (hlb:bu lb=true∧lb.2=bA) (rU:bu co=true∧co.2=aG) (hlk:bu lk=true∧lk.2=dM) (hrk:bu rk=true∧rk.2=dz) (yT:bu rb=true∧rb.2=aZ) (cl:gP lb) (c2:gP rb)
 (ha:lC a ta) (ha2:a≤32768) (hb:lC b tb) (hb2:b≤32768) (hc:lC c tc) (hc2:c≤1099511627776) (hd:lC d td) (hd2:d≤1099511627776) (h:cN 13 T n) (hW:WhT W cs) (az:Int):
 cN 12 (T++(lb::ta::co::tb::co::lk::tc::co::td::rk::(W++[rb]))) (.mk 47 az [] [] a b c d (n::cs)):=fun L en rd F k hat hl hf=>by
 obtain ⟨a0,a1⟩:=hat.app;obtain ⟨b1,a2⟩:=a1.cons;obtain ⟨b2,a3⟩:=a2.cons;obtain ⟨b3,a4⟩:=a3.cons;obtain ⟨b4,a5⟩:=a4.cons;obtain ⟨b5,a6⟩:=a5.cons;obtain ⟨n',e,r⟩:=h L en rd F k a0 hl ⟨cl.CY b1 0,fun hj=>absurd hj (by decide),fun hj=>absurd hj (by decide),fun hj=>absurd hj (by decide),bS b1 (fun _ e=>by rw [hlb.2] at e;exact absurd e (by decide))⟩;have r':jt L en (cX L en rd) (lO L en rd F) k=.ok n' (k+T.length):=r;have LQ:=fun f:Int→Int→Nat→PR Nd=>Bp (en:=en) (rd:=rd) hlk rU hrk hc hc2 hd hd2 a6 f;have a7:=(LQ (fun _ _ _=>.err 0 0)).2;obtain ⟨a8,a9⟩:=a7.app;obtain ⟨b6,_⟩:=a9.cons;obtain ⟨cs',e2,r2⟩:=v_ hW (en:=en) (rd:=rd) a8 (c2.CY b6 0) (bS b6 (fun _ e=>by rw [yT.2] at e;exact absurd e (by decide)));refine ⟨.mk 47 (eO L en (k+T.length)) [] [] a b c d (n'::cs'),by simp only [fC,d_,e,e2],?_⟩;show im L en rd (cX L en rd) (lO L en rd F) k=_;unfold im;rw [r'];show (if b_ L (k+T.length) bA=true then (gN L en (k+T.length+1) 32768).bind _ else _)=_;rw [if_pos (aW b1 hlb.1 hlb.2),mS b2 ha ha2];show (av L en (k+T.length+1+1) aG).bind _=_;rw [bN (aW b3 rU.1 rU.2)];show (gN L en (k+T.length+1+1+1) 32768).bind _=_;rw [mS b4 hb hb2];show (av L en (k+T.length+1+1+1+1) aG).bind _=_;rw [bN (aW b5 rU.1 rU.2)];show jf L en rd (k+T.length+1+1+1+1+1) _=_;rw [(LQ _).1,r2];show (av L en _ aZ).bind _=_;rw [bN (aW b6 yT.1 yT.2)];show PR.ok _ _=PR.ok _ _
 congr 1
 simp only [aw,aj,aK];omega
def Vg (L:List Lx) (en:Int) (rd:List UInt8→Int×Int) (F:Nat) (n:Nd) (k:Nat):PR Nd:=kJ L en rd (cX L en rd) (lO L en rd F) (L.length+1) n k
def kB (T:List Tk) (n:Nd):Prop:=∀L en rd F k,lB L k T→L.length≤F+k→Am L (k+T.length) 12→∃n',fC n'=fC n∧lvP L en rd F 11 k=Vg L en rd F n' (k+T.length)
theorem cN.seq {T:List Tk} {n:Nd} (h:cN 12 T n):kB T n:=fun L en rd F k hat hl hf=>by
 obtain ⟨n',e,r⟩:=h L en rd F k hat hl hf;have r':im L en rd (cX L en rd) (lO L en rd F) k=.ok n' (k+T.length):=r;refine ⟨n',e,?_⟩;show ES L en rd (cX L en rd) (lO L en rd F) k=_;unfold ES;rw [r'];rfl
theorem kB.stop {T:List Tk} {n:Nd} (h:kB T n):cN 11 T n:=fun L en rd F k hat hl hf=>by
 obtain ⟨n',e,r⟩:=h L en rd F k hat hl (hf.up (by decide));refine ⟨n',e,r.trans ?_⟩;unfold Vg kJ;rw [if_neg (by rw [hf.arr (by decide)];decide)]
theorem kB.then {T0 W T1:List Tk} {n0 n1:Nd} {cs:List Nd} {ar lk ta co tb rk t:Tk} {a b:Int} (har:bu ar=true∧ar.2=ly) (rU:bu co=true∧co.2=aG) (hlk:bu lk=true∧lk.2=dM) (hrk:bu rk=true∧rk.2=dz) (ca:gP ar) (ct:gP t) (htw:bu t=true→t.2≠jA)
 (ha:lC a ta) (ha2:a≤1099511627776) (hb:lC b tb) (hb2:b≤1099511627776) (h0:kB T0 n0) (hW:WhT W cs) (h1:cN 12 (t::T1) n1) (az:Int):
 kB (T0++(ar::lk::ta::co::tb::rk::(W++t::T1))) (.mk 45 az [] [] a b 0 0 (n0::n1::cs)):=fun L en rd F k hat hl hf=>by
 obtain ⟨a0,a1⟩:=hat.app;obtain ⟨b1,a2⟩:=a1.cons;obtain ⟨Vd,e0,r0⟩:=h0 L en rd F k a0 hl ⟨ca.CY b1 0,fun hj=>absurd hj (by decide),fun hj=>absurd hj (by decide),fun _=>bS b1 (fun _ e=>by rw [har.2] at e;exact absurd e (by decide)),bS b1 (fun _ e=>by rw [har.2] at e;exact absurd e (by decide))⟩;have LQ:=fun f:Int→Int→Nat→PR Nd=>Bp (en:=en) (rd:=rd) hlk rU hrk ha ha2 hb hb2 a2 f;have a3:=(LQ (fun _ _ _=>.err 0 0)).2;obtain ⟨a4,a5⟩:=a3.app;obtain ⟨b2,_⟩:=a5.cons;obtain ⟨cs',e2,r2⟩:=v_ hW (en:=en) (rd:=rd) a4 (ct.CY b2 0) (bS b2 htw);have hk:=mr b1
 have hlen:k+(T0++(ar::lk::ta::co::tb::rk::(W++t::T1))).length=k+T0.length+1+5+W.length+(t::T1).length:=by simp only [aw,aj];omega
 rw [hlen] at hf⊢;obtain ⟨Ve,e1,r1⟩:=h1 L en rd F _ a5 (by omega) hf;have r1':im L en rd (cX L en rd) (lO L en rd F) (k+T0.length+1+5+W.length)=.ok Ve (k+T0.length+1+5+W.length+(t::T1).length):=r1;refine ⟨.mk 45 (eO L en (k+T0.length)) [] [] a b 0 0 (Vd::Ve::cs'),by simp only [fC,d_,e0,e1,e2],?_⟩;rw [r0]
 conv=>lhs;unfold Vg kJ
 rw [if_pos (aW b1 har.1 har.2),(LQ _).1,r2];show (im L en rd (cX L en rd) (lO L en rd F) (k+T0.length+1+5+W.length)).bind _=_;rw [r1'];show kJ L en rd _ _ L.length _ _=Vg L en rd F _ _;exact Bo jF (mV F) _ _ _ _ (by omega) (by omega)
def kC (T:List Tk) (n:Nd):Prop:=∀L en rd F k,lB L k T→L.length≤F+k→Am L (k+T.length) 11→∃n',fC n'=fC n∧lvP L en rd F 10 k=vT L en ER (lvP L en rd F 11) n' (k+T.length)
theorem cN.alt {T:List Tk} {n:Nd} (h:cN 11 T n):kC T n:=fun L en rd F k ht hl hf=>by
 obtain ⟨n',h1,h2⟩:=h L en rd F k ht hl hf;exact ⟨n',h1,Kn h2⟩
theorem kC.stop {T:List Tk} {n:Nd} (h:kC T n):cN 10 T n:=fun L en rd F k ht hl hf=>by
 obtain ⟨n',h1,h2⟩:=h L en rd F k ht hl (hf.up (by decide));exact ⟨n',h1,h2.trans (yK (hf.alt (by decide)))⟩
theorem kC.op {T0 T1:List Tk} {n0 n1:Nd} {t:Tk} (h0:kC T0 n0) (h1:cN 11 T1 n1) (ho:nr ER t=some 46) (hc:gP t) (h2:bu t=true→t.2≠ly∧t.2≠bA∧t.2≠Gu) (az:Int):kC (T0++t::T1) (.mk 46 az [] [] 0 0 0 0 [n0,n1]):=fun L en rd F k ht hl hf=>by
 obtain ⟨a1,a2⟩:=ht.app;obtain ⟨b1,b2⟩:=a2.cons;obtain ⟨Vd,e0,r0⟩:=h0 L en rd F k a1 hl ⟨hc.CY b1 0,fun hj=>absurd hj (by decide),fun _=>bS b1 (fun hs=>(h2 hs).1),fun _=>bS b1 (fun hs=>(h2 hs).2.1),bS b1 (fun hs=>(h2 hs).2.2)⟩
 have hlen:k+(T0++t::T1).length=k+T0.length+1+T1.length:=by rw [aw,aj];omega
 rw [hlen] at hf⊢;obtain ⟨Ve,e1,r1⟩:=h1 L en rd F (k+T0.length+1) b2 (by omega) hf;refine ⟨.mk 46 (eO L en (k+T0.length)) [] [] 0 0 0 0 [Vd,Ve],by simp only [fC,d_,e0,e1],?_⟩;rw [r0];exact yL (vg jF (mV F)) (by rw [jN b1];exact ho) r1
end Go.Proofs.YtddoehnkgcbboaaGreatDoor
