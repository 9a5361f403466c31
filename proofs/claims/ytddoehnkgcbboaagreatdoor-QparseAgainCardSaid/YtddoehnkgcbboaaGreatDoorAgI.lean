/- A part of the proof that the last file tells. -/
import Derived.Test.YtddoehnkgcbboaaGreatDoorAgH
import Derived.Test.YtddoehnkgcbboaaGreatDoorRows
import Derived.RegionIn
set_option maxHeartbeats 16000000
set_option maxRecDepth 100000
set_option linter.unusedVariables false
set_option linter.unusedSimpArgs false
namespace Go
open Go.RowKit
def A4 (I:Nat→(Nat→Prop)→World→Prop) (Ix:Code→Nat→(Nat→Prop)→World→Prop) (k:Nat) (C:Nat→Prop) (W0 W:World):Exit→Act→World→Prop
 |.normal,_,W'=>∃C',ah (fun b=>C b∨W0.heap.size≤b) W W'∧iB C W0 C' W'∧I k C' W'
 |.ret,_,W'=>∃C',ah (fun b=>C b∨W0.heap.size≤b) W W'∧iB C W0 C' W'∧Ix .ret k C' W'
 |.exit id,_,W'=>∃C',ah (fun b=>C b∨W0.heap.size≤b) W W'∧iB C W0 C' W'∧Ix (.exit id) k C' W'
 |.goto t,_,W'=>∃C',ah (fun b=>C b∨W0.heap.size≤b) W W'∧iB C W0 C' W'∧Ix (.goto t) k C' W'
 |.panic _,_,_=>False
 |.outgrown,_,_=>False
section
variable {P : Program} {α : Type}
theorem Et {g:Operand} {ps:Array Tmp} {assign body:Code} {Q:Exit→Act→World→Prop} {a:Act} {w w0:World}
 {gf:Nat} {lb:Array Value} (hg:a.eval g=.func (.func gf) #[] lb) (eg:∀args w,(callFunc gf args).run P w=.ok (.enter gf args) w)
 {DD:α→Array Value} {xs:List α} {R:Nat→Prop} (hseq:Iter P gf lb DD xs R w0) (hps:∀x,(DD x).size=ps.size)
 (hRs:Same R w0 w) (C0:Nat→Prop) (hRC:∀b,R b→¬C0 b) (hR:Laid R w) (hC:Laid C0 w)
 (I:Nat→(Nat→Prop)→World→Prop) (Ix:Code→Nat→(Nat→Prop)→World→Prop) (hI:Ay w.heap.size I) (hIx:∀c,Ay w.heap.size (Ix c)) (h0:I 0 C0 w)
 (Yt:∀l k x C W,w.heap.size≤l→l<W.heap.size→¬C l→xs[k]? =some x→I k C W→iB C0 w C W→w.heap.size≤W.heap.size→
  assign.wpIn (Fence.wide.inRound l) 0 P (Exit.then (fun a₁ W₁=>ah C W W₁∧∀W₂,But l W₁ W₂→body.wpIn (Fence.wide.inRound l) 0 P (A4 I Ix (k+1) C W W₂) a₁ W₂) (fun _ _ _=>False))
   {tmps:=(ps.zip (DD x)).foldl (fun t (p,v)=>t.setIfInBounds p v) a.tmps,defers:=[]} W)
 (hdone:∀D C W,w.heap.size≤D→¬C D→W.heap[D]? =some (.deferred (some []))→I xs.length C W→ah C0 w W→iB C0 w C W→
  Q .normal {a with defers:={target:=.collected D,args:=#[]}::a.defers} W)
 (OZ:∀D c k C W,w.heap.size≤D→¬C D→W.heap[D]? =some (.deferred (some []))→k≤xs.length→Ix c k C W→ah C0 w W→iB C0 w C W→
  c.wpIn Fence.wide 0 P Q {a with defers:={target:=.collected D,args:=#[]}::a.defers} W):
 (Code.rangeFunc g ps assign body).wpIn Fence.wide 0 P Q a w:=by
 refine wpIn_rangeFunc fun fn hfn=>?_;have hro:Fence.wide.round=none:=rfl;rw [hro]
 obtain ⟨n,hn⟩:∃n,n=w.heap.size:=⟨_,rfl⟩
 obtain ⟨rc,hrc⟩:∃rc:LoopState→Option Code→Loop,rc=fun st pe=>{state:=st,pending:=pe,fn,tmps:=a.tmps,params:=ps,assign,body,defers:=n}:=⟨_,rfl⟩
 obtain ⟨W1,hW1⟩:∃W1,(w.alloc (.deferred (some []))).alloc (.loop (rc .ready none))=W1:=⟨_,rfl⟩
 have hz1:W1.heap.size=n+2:=by rw [←hW1,hn];simp
 have Ma:W1.heap[n+1]? =some (.loop (rc .ready none)):=by
  rw [←hW1,hn];have:=World.alloc_heap_new (w.alloc (.deferred (some []))) (.loop (rc .ready none));rwa [aF] at this
 have Mb:W1.heap[n]? =some (.deferred (some [])):=by
  rw [←hW1,hn];exact (Below.heap_alloc _ _ _ (by simp)).trans (World.alloc_heap_new w _)
 have dL:ah C0 w W1:=by rw [←hW1];exact ((ah.refl _ _).alloc _).alloc _
 have hsm:Same (fun b=>b<w.heap.size) w W1:=by
  rw [←hW1];exact Same.of_below (B:=w.heap.size) (((af _ w).alloc (aa _) _).alloc (by simp) _) (fun b hb=>hb)
 have hI1:I 0 C0 W1:=hI _ _ _ _ h0 ⟨hsm.os,hsm.tape,hsm.output,hsm.size,fun b hb=>hsm.block b (hb.elim id (hC b))⟩
 have acD:Same R w0 W1:=⟨hsm.os.trans hRs.os,hsm.tape.trans hRs.tape,hsm.output.trans hRs.output,br hRs.size hsm.size,fun b hb=>(hsm.block b (hR b hb)).trans (hRs.block b hb)⟩
 refine ⟨n+1,[{target:=.collected n,args:=#[]}],W1,{target:=.fn (.func gf) lb,args:=#[.func (.yield (n+1)) #[] #[]]},W1,gf,
  #[.func (.yield (n+1)) #[] #[]]++lb,W1,?_,?_,?_,?_,(fun hs=>absurd hs (by simp [Fence.wide])),?_⟩
 ·rw [←hW1,hrc,hn];exact run_enterLoop_outer _ _ _ _ _
 ·simp only [resolve,hg];simp [go_sem]
 ·exact fun f' _=>trivial
 ·simp [invoke,go_sem,eg]
 ·--the iterator's contract,at the caller's invariant and the two blocks of book-keeping;the loop's record counts as the caller's own
  obtain ⟨J,hJ⟩:∃J:Nat→(Nat→Prop)→World→Prop,J=fun k C W=>∃C₁,(C=fun b=>C₁ b∨b=n+1)∧I k C₁ W∧¬C₁ (n+1)∧¬C₁ n∧W.heap[n+1]? =some (.loop (rc .ready none))∧W.heap[n]? =some (.deferred (some []))∧ah C0 w W∧iB C0 w C₁ W:=⟨_,rfl⟩
  obtain ⟨Jx,Yo⟩:∃J:Nat→(Nat→Prop)→World→Prop,J=fun k C W=>∃C₁ c,(C=fun b=>C₁ b∨b=n+1)∧Ix c k C₁ W∧¬C₁ (n+1)∧¬C₁ n∧W.heap[n+1]? =some (.loop (rc .done (some c)))∧W.heap[n]? =some (.deferred (some []))∧ah C0 w W∧iB C0 w C₁ W:=⟨_,rfl⟩
  have acE:¬C0 n:=fun e=>by have:=hC n e;omega
  have aaQ:¬C0 (n+1):=fun e=>by have:=hC _ e;omega
  have hJA:Ay W1.heap.size J:=by
   intro k C Wa Wb hj hs;rw [hJ] at hj⊢;obtain ⟨C₁,rfl,hi,h1,h2,hl,hk,hkk,Ic⟩:=hj;refine ⟨C₁,rfl,hI _ _ _ _ hi ⟨hs.os,hs.tape,hs.output,hs.size,fun b hb=>hs.block b (hb.elim (fun h=>.inl (by omega)) (fun h=>.inr (.inl h)))⟩,h1,h2,(hs.block _ (.inr (.inr rfl))).trans hl,(hs.block _ (.inl (by omega))).trans hk,?_,fun b hb=>⟨(Ic b hb).1,cJ (Ic b hb).2 hs.size⟩⟩;exact ⟨hs.os.trans hkk.os,hs.tape.trans hkk.tape,hs.output.trans hkk.output,br hkk.size hs.size,fun b hb hn'=>(hs.block b (.inl (by omega))).trans (hkk.block b hb hn')⟩
  have acF:Ay W1.heap.size Jx:=by
   intro k C Wa Wb hj hs;rw [Yo] at hj⊢;obtain ⟨C₁,c,rfl,hi,h1,h2,hl,hk,hkk,Ic⟩:=hj;refine ⟨C₁,c,rfl,hIx c _ _ _ _ hi ⟨hs.os,hs.tape,hs.output,hs.size,fun b hb=>hs.block b (hb.elim (fun h=>.inl (by omega)) (fun h=>.inr (.inl h)))⟩,h1,h2,(hs.block _ (.inr (.inr rfl))).trans hl,(hs.block _ (.inl (by omega))).trans hk,?_,fun b hb=>⟨(Ic b hb).1,cJ (Ic b hb).2 hs.size⟩⟩;exact ⟨hs.os.trans hkk.os,hs.tape.trans hkk.tape,hs.output.trans hkk.output,br hkk.size hs.size,fun b hb hn'=>(hs.block b (.inl (by omega))).trans (hkk.block b hb hn')⟩
  refine (hseq (n+1) J Jx (fun b=>C0 b∨b=n+1) W1 acD (fun b hb e=>e.elim (hRC b hb) (fun e=>by have:=hR b hb;omega))
   (fun b hb=>hb.elim (fun h=>by have:=hC b h;omega) (fun h=>by omega)) (fun b hb=>by have:=hR b hb;omega) hJA acF ?_
   (by rw [hJ];exact ⟨C0,rfl,hI1,aaQ,acE,Ma,Mb,dL,fun b hb=>⟨.inl hb,by have:=hC b hb;omega⟩⟩)).mono ?_
  ·--one round
   intro k x C1 W hx hj hlaid;have Uf:=hj;rw [hJ] at hj;obtain ⟨C,rfl,hi,h1,h2,hl,hk,hkk,Ic⟩:=hj;have hlt:n+1<W.heap.size:=(Array.getElem?_eq_some_iff.1 hl).1;have hy:=run_yield (P:=P) (args:=DD x) hl (by rw [hrc];exact hps x);rw [hrc] at hy;refine ⟨fn,_,assign,body,hy,roundIn_of_wpIn hfn (wpIn_mono (Yt (n+1) k x C W (by omega) hlt h1 hx hi Ic (by omega)) ?_)⟩;rintro e a₁ Wa hq
   cases e with
   |normal=>
    obtain ⟨hka,hbody⟩:=hq;have Wu:=hka.heap hl h1;have hkD:=hka.heap hk h2;refine ⟨_,run_beginRound Wu (by rw [hrc]),?_⟩
    obtain ⟨Wb,hWb⟩:∃Wb,Wa.putObj (n+1) (.loop {rc .ready none with state:=.busy})=Wb:=⟨_,rfl⟩
    have cu:But (n+1) Wa Wb:=hWb▸But.putObj _ _ _;have hlb:Wb.heap[n+1]? =some (.loop {rc .ready none with state:=.busy}):=hWb▸World.putObj_heap_same (Array.getElem?_eq_some_iff.1 Wu).1;have hkb:Wb.heap[n]? =some (.deferred (some [])):=(cu.block n (by omega)).trans hkD;rw [hWb];refine wpIn_mono (hbody Wb cu) ?_
    have fin:∀(jump:Option Code) (C':Nat→Prop) (W3:World),ah (fun b=>C b∨W.heap.size≤b) Wb W3→iB C W C' W3→
     (∃W4,(Instr.endRound (n+1) jump).run P W3=.ok (.bool jump.isNone) W4∧W4.heap[n+1]? =some (.loop (rc (if jump.isNone then .ready else .done) jump))∧W4.heap[n]? =some (.deferred (some []))∧
      But (n+1) W3 W4)∧¬C' (n+1)∧¬C' n:=by
     intro jump C' W3 hk3 hg3;have nL:=hk3.heap hlb (fun e=>e.elim h1 (fun h=>by omega));have hd3:=hk3.heap hkb (fun e=>e.elim h2 (fun h=>by omega));have hr:=run_endRound (P:=P) jump nL;refine ⟨⟨_,hr,?_,?_,But.putObj _ _ _⟩,fun e=>(hg3 _ e).1.elim h1 (by omega),fun e=>(hg3 _ e).1.elim h2 (by omega)⟩
     ·rw [hrc];exact World.putObj_heap_same (Array.getElem?_eq_some_iff.1 nL).1
     ·exact (World.putObj_heap_other (by omega)).trans hd3
    have way:∀(C':Nat→Prop) (W3 W4:World),ah (fun b=>C b∨W.heap.size≤b) Wb W3→iB C W C' W3→But (n+1) W3 W4→¬C' (n+1)→
     ah (fun b=>C b∨b=n+1) W W4∧iB (fun b=>C b∨b=n+1) W (fun b=>C' b∨b=n+1) W4∧Same (fun b=>b<w.heap.size∨C' b) W3 W4∧ah C0 w W4∧iB C0 w C' W4:=by
     intro C' W3 W4 hk3 hg3 hb4 hn';have Yu:W4.heap.size=W3.heap.size:=hb4.size
     have k1:ah (fun b=>C b∨b=n+1) W W3:=
      ((hka.mono (fun b h=>.inl h)).trans (⟨cu.os,cu.tape,cu.output,Nat.le_of_eq cu.size.symm,fun b _ hn=>cu.block b (fun e=>hn (.inr e))⟩:ah (fun b=>C b∨b=n+1) Wa Wb)).trans' hk3 (fun b h=>h.imp .inl id)
     have k2:ah (fun b=>C b∨b=n+1) W W4:=k1.trans ⟨hb4.os,hb4.tape,hb4.output,Nat.le_of_eq Yu.symm,fun b _ hn=>hb4.block b (fun e=>hn (.inr e))⟩;refine ⟨k2,fun b hb=>?_,hb4.same (fun e=>e.elim (by omega) hn'),?_,fun b hb=>⟨(hg3 b hb).1.elim (fun h=>(Ic b h).1) (fun h=>.inr (by omega)),by rw [Yu];exact (hg3 b hb).2⟩⟩
     ·rcases hb with hb|rfl
      ·obtain ⟨h,h'⟩:=hg3 b hb;exact ⟨h.elim (fun h=>.inl (.inl h)) .inr,by rw [Yu];exact h'⟩
      ·have:=k2.size;exact ⟨.inl (.inr rfl),by omega⟩
     ·refine ⟨k2.os.trans hkk.os,k2.tape.trans hkk.tape,k2.output.trans hkk.output,br hkk.size k2.size,fun b hb hnb=>?_⟩;refine (k2.block b (by have:=hkk.size;omega) (fun e=>e.elim (fun hcb=>?_) (by omega))).trans (hkk.block b hb hnb);exact (Ic b hcb).1.elim hnb (by omega)
    rintro e a3 W3 hp
    cases e with
    |normal=>
     obtain ⟨C',hk3,hg3,Td⟩:=hp;obtain ⟨⟨W4,hr,hl4,Pr,hb4⟩,yf,Ie⟩:=fin none C' W3 hk3 hg3;obtain ⟨g1,g2,g3,g4,g5⟩:=way C' W3 W4 hk3 hg3 hb4 yf;exact ⟨_,_,hr,_,g1,g2,.inl ⟨rfl,by rw [hJ];exact ⟨C',rfl,hI _ _ _ _ Td g3,yf,Ie,hl4,Pr,g4,g5⟩⟩⟩
    |ret=>
     obtain ⟨C',hk3,hg3,Td⟩:=hp;obtain ⟨⟨W4,hr,hl4,Pr,hb4⟩,yf,Ie⟩:=fin (some .ret) C' W3 hk3 hg3;obtain ⟨g1,g2,g3,g4,g5⟩:=way C' W3 W4 hk3 hg3 hb4 yf;exact ⟨_,_,hr,_,g1,g2,.inr ⟨rfl,by rw [Yo];exact ⟨C',_,rfl,hIx _ _ _ _ _ Td g3,yf,Ie,hl4,Pr,g4,g5⟩⟩⟩
    |exit id=>
     obtain ⟨C',hk3,hg3,Td⟩:=hp;obtain ⟨⟨W4,hr,hl4,Pr,hb4⟩,yf,Ie⟩:=fin (some (.exit id)) C' W3 hk3 hg3;obtain ⟨g1,g2,g3,g4,g5⟩:=way C' W3 W4 hk3 hg3 hb4 yf;exact ⟨_,_,hr,_,g1,g2,.inr ⟨rfl,by rw [Yo];exact ⟨C',_,rfl,hIx _ _ _ _ _ Td g3,yf,Ie,hl4,Pr,g4,g5⟩⟩⟩
    |goto t=>
     obtain ⟨C',hk3,hg3,Td⟩:=hp;obtain ⟨⟨W4,hr,hl4,Pr,hb4⟩,yf,Ie⟩:=fin (some (.goto t)) C' W3 hk3 hg3;obtain ⟨g1,g2,g3,g4,g5⟩:=way C' W3 W4 hk3 hg3 hb4 yf;exact ⟨_,_,hr,_,g1,g2,.inr ⟨rfl,by rw [Yo];exact ⟨C',_,rfl,hIx _ _ _ _ _ Td g3,yf,Ie,hl4,Pr,g4,g5⟩⟩⟩
    |panic ch=>exact hp.elim
    |outgrown=>exact hp.elim
   |_=>exact hq.elim
  ·--behind the iterator
   rintro e W2 ⟨⟨v,rfl⟩,Cx,hkx,hgx,hj|⟨k,hk',hj⟩⟩
   ·rw [hJ] at hj;obtain ⟨C,rfl,hi,h1,h2,hl,hk,hkk,Ic⟩:=hj;refine ⟨none,_,by have:=run_endLoop (P:=P) hl (by rw [hrc];simp);rw [hrc] at this;exact this,?_⟩;have hb:=But.putObj W2 (n+1) (.loop {rc .ready none with state:=.exhausted});rw [hrc] at hb
    exact hdone n C _ (by omega) h2 ((hb.block n (by omega)).trans hk) (hI _ _ _ _ hi (hb.same (fun e=>e.elim (by omega) h1)))
     (hkk.putObj (.inr (by omega)) _) (fun b hb'=>⟨(Ic b hb').1,by rw [hb.size];exact (Ic b hb').2⟩)
   ·rw [Yo] at hj;obtain ⟨C,c,rfl,hi,h1,h2,hl,hk,hkk,Ic⟩:=hj;refine ⟨some c,_,by have:=run_endLoop (P:=P) hl (by rw [hrc];simp);rw [hrc] at this;exact this,?_⟩;have hb:=But.putObj W2 (n+1) (.loop {rc .done (some c) with state:=.exhausted});rw [hrc] at hb
    exact OZ n c k C _ (by omega) h2 ((hb.block n (by omega)).trans hk) hk' (hIx _ _ _ _ _ hi (hb.same (fun e=>e.elim (by omega) h1)))
     (hkk.putObj (.inr (by omega)) _) (fun b hb'=>⟨(Ic b hb').1,by rw [hb.size];exact (Ic b hb').2⟩)
end
end Go
namespace Go
open Go.RowKit
theorem jM {P:Program} {fn:Func} {p q r:Tmp} {t u s:TypeId} (h:fn.results=#[.cell p t,.cell q u,.cell r s]) (tmps:Array Value) (w:World) (a b c:Addr) (x y z:Value)
 (hp:tmps.getD p undef=.pointer (some a)) (hq:tmps.getD q undef=.pointer (some b)) (hr:tmps.getD r undef=.pointer (some c))
 (hx:(loadVar t a).run P w=.ok x w) (hy:(loadVar u b).run P w=.ok y w) (hz:(loadVar s c).run P w=.ok z w):
 (results fn tmps).run P w=.ok (.tuple #[x,y,z]) w:=by
 have hp':tmps[p]?.getD undef=.pointer (some a):=by simpa using hp
 have hq':tmps[q]?.getD undef=.pointer (some b):=by simpa using hq
 have hr':tmps[r]?.getD undef=.pointer (some c):=by simpa using hr
 have e:(results fn tmps).run P w=((asAddr (tmps.getD p undef)).run P w).andThen fun a w₁=>((loadVar t a).run P w₁).andThen fun x w₂=>((asAddr (tmps.getD q undef)).run P w₂).andThen fun b w₃=>((loadVar u b).run P w₃).andThen fun y w₄=>((asAddr (tmps.getD r undef)).run P w₄).andThen fun c w₅=>((loadVar s c).run P w₅).andThen fun z w₆=>.ok (.tuple #[x,y,z]) w₆:=by
  simp only [results,h];simp [Sem.run_bind,Result.andThen]
 rw [e];simp [hp',hq',hr',asAddr,Result.andThen,hx,hy,hz]
theorem bR {P:Program} (w:World) (g:Nat) (ty:TypeId) (v:Value) (d:TypeDesc) (hg:w.cell? ⟨g,0,none⟩=some v)
 (hu:P.underlying ty=some d) (hd:(match d with|.struct _|.array _ _=>true|_=>false)=false):(loadVar ty ⟨g,0,none⟩).run P w=.ok v w:=by
 have h1:(isAgg ty).run P w=.ok false w:=by
  simp [isAgg,run_underlying hu,Result.andThen]
  cases d<;>simp_all
 simp [loadVar,h1,Result.andThen,hg]
end Go
namespace Go.Proofs.YtddoehnkgcbboaaGreatDoor
open Go.RowKit Go.Shelf
attribute [local go_sem] Oper.semAt_some
theorem Mc {D n:Nat} {W W':World} (h:But D W W') (hD:n≤D):Below n W W':=⟨h.os,h.tape,h.output,Nat.le_of_eq h.size.symm,fun b hb=>h.block b (by omega)⟩
theorem Md (s:ByteArray) (w:World):
 Calls Tryz.prog 47 #[.string s] w fun e w'=>e=.returned (.func (.func 74) #[] #[.pointer (some ⟨w.heap.size,0,none⟩)])∧w.alloc (.cells #[.string s] 9)=w':=by
 have hmf:∀(fn:Fn) (first cap:Array Value) (w:World),(Instr.makeFunc fn first cap).run Tryz.prog w=.ok (.func fn first cap) w:=fun _ _ _ _=>rfl;go_enter Tryz.func47,Tryz.ntmps47;go_wp2;go_ret;exact ⟨rfl,rfl⟩
def f_ (out:List Lx):List Value:=out.flatMap fun x=>[.int .i64 x.kind,.string (ag x.text),.int .i64 (x.az:Int)]
theorem Cv (out:List Lx) (x:Lx):f_ (out++[x])=f_ out++[.int .i64 x.kind,.string (ag x.text),.int .i64 (x.az:Int)]:=by
 unfold f_;simp
theorem Yv:(Tryz.prog.info? 66).map (fun i=>(i.zero,i.size,i.bytes))=some (some (.agg #[.int .i64 0,.string ⟨#[]⟩,.int .i64 0]),3,32):=by kernel_rfl
theorem gA {W1 W2:World} {base:Nat} {e:TypeId} {size:Nat} {v:Value} {n:Nat} {xs:List Value} (h:W1.ownsRow base e size v n xs)
 (hb:∀b,v.ownBlock=some b→W2.heap[b]? =W1.heap[b]?):W2.ownsRow base e size v n xs:=by
 refine ⟨h.1,?_⟩
 rcases h.2 with hn|⟨g,cap,cur,rfl,hbs,hg,rest⟩
 ·exact .inl hn
 ·exact .inr ⟨g,cap,cur,rfl,hbs,(hb g (by simp [Value.ownBlock])).trans hg,rest⟩
theorem tH {w:World} {B n size:Nat} {u:Value} {e:TypeId} {xs:List Value} (h:w.ownsRow B e size u n xs):∃A cap,u=.slice A n cap:=by
 obtain ⟨_,h2⟩:=h
 rcases h2 with ⟨rfl,h0⟩|⟨g,cap,cs,rfl,_⟩
 ·exact ⟨none,0,by rw [h0]⟩
 ·exact ⟨_,cap,rfl⟩
theorem Ag {W:World} {base base':Nat} {e:TypeId} {size:Nat} {v:Value} {n:Nat} {xs:List Value} (h:W.ownsRow base e size v n xs) (hb:base'≤base):W.ownsRow base' e size v n xs:=by
 refine ⟨h.1,?_⟩
 rcases h.2 with hn|⟨g,cap,cur,rfl,hbs,rest⟩
 ·exact .inl hn
 ·exact .inr ⟨g,cap,cur,rfl,br hb hbs,rest⟩
def nM (B:Nat) (v:Value) (b:Nat):Prop:=b=B∨b=B+1∨b=B+2∨b=B+3∨v.ownBlock=some b
def PF (xs:List (Nat×Wq)) (R:List Lx×Nat×Int) (B:Nat) (k:Nat) (C:Nat→Prop) (W:World):Prop:=
 ∃v out,C=nM B v∧Row W B 43 #[.slice none 0 0]∧Row W (B+1) 3 #[.int .i64 0]∧Row W (B+2) 26 #[.int .i64 0]∧Row W (B+3) 43 #[v]∧
  W.ownsRow (B+5) 66 3 v out.length (f_ out)∧out.length≤512∧jz (xs.drop k) out=R
def PG (R:List Lx×Nat×Int) (B:Nat) (c:Code) (k:Nat) (C:Nat→Prop) (W:World):Prop:=
 c=.ret∧∃v az er,C=nM B v∧(∀b,v.ownBlock=some b→B+5≤b)∧Row W B 43 #[.slice none 0 0]∧Row W (B+1) 3 #[.int .i64 (az:Nat)]∧Row W (B+2) 26 #[.int .i64 er]∧R=([],az,er)
theorem w_ {W2 w1:World} {X B b n cap:Nat} {A:Option Addr} {t u:TypeId} {cs ds:Array Value} {a:Value} (hg:World.grownBy ((W2.setCell ⟨X,2,none⟩ a).alloc (.cells ds u)) w1 (Value.slice A n cap).ownBlock) (h:Row W2 b t cs) (hX:B+5≤X)
 (hv:∀b,(Value.slice A n cap).ownBlock=some b→B+5≤b) (hb:b<B+5):Row w1 b t cs:=
 ((h.off (by omega) 2 a).alloc _).grown hg (fun e=>by have:=hv b e.symm;omega)
theorem Kg {xs:List (Nat×Wq)} {R:List Lx×Nat×Int} {B k a:Nat} {v:Value} {er:Int} {W W2 W3:World} {act:Act} (hk:ah (fun b=>nM B v b∨W.heap.size≤b) W2 W3) (hg:iB (nM B v) W (nM B v) W3)
 (h0:Row W3 B 43 #[.slice none 0 0]) (h1:Row W3 (B+1) 3 #[.int .i64 0]) (h2:Row W3 (B+2) 26 #[.int .i64 0]) (hv:∀b,v.ownBlock=some b→B+5≤b) (hR:R=([],a,er)):
 A4 (PF xs R B) (PG R B) k (nM B v) W W2 .ret act (((W3.setCell ⟨B,0,none⟩ (.slice none 0 0)).setCell ⟨B+1,0,none⟩ (.int .i64 (a:Int))).setCell ⟨B+1+1,0,none⟩ (.int .i64 er)).drew:=
 ⟨nM B v,(((hk.set (.inl (.inl (.inl rfl))) _ _).set (.inl (.inl (.inr (.inl rfl)))) _ _).set (.inl (.inl (.inr (.inr (.inl rfl))))) _ _).drew,hg.later (by simp [World.setCell]),rfl,v,a,er,rfl,hv,
  (((h0.bU 0 (.slice none 0 0)).off (by omega) _ _).off (by omega) _ _).drew,(((h1.off (by omega) _ _).bU 0 (.int .i64 (a:Int))).off (by omega) _ _).drew,(((h2.off (by omega) _ _).off (by omega) _ _).bU 0 (.int .i64 er)).drew,hR⟩
theorem xe (l:List UInt8) (hl:l.length≤1000000) (w:World) (hG:Gl w):
 Calls Tryz.prog 30 #[.string (ag l)] w fun e w'=>∃v,e=.returned (.tuple #[v,.int .i64 ((df l).2.1:Int),.int .i64 (df l).2.2])∧w'.ownsRow w.heap.size 66 3 v (df l).1.length (f_ (df l).1)∧Below w.heap.size w w':=by
 have hz:=aO l;refine (callsIn_wide (n:=0)).1 (callsIn_of_wp_marks Tryz.func30 rfl trivial ?_);simp only [Tryz.ntmps30,List.size_toArray,aj,aK,Nat.reduceAdd,Nat.reduceSub,Array.replicate_succ,Array.replicate_zero,List.push_toArray,List.append_toArray,List.nil_append,List.cons_append];by_cases hbig:16384<l.length
 ·have hs':(16384:Int)<((ag l).size:Int):=by omega
  have hV:df l=([],0,9):=by unfold df;rw [if_pos hbig]
  have HV:=hide hV;clear hV hbig hz;generalize ag l=s at*
  gi_wp2
  obtain ⟨B,hB⟩:∃B,w.heap.size=B:=⟨_,rfl⟩
  generalize hW0:World.alloc (World.alloc (World.alloc w _) _) _=W0
  have iX:Row W0 w.heap.size 43 #[.slice none 0 0]:=by rw [←hW0];exact ((Row.new _ _ _).alloc _).alloc _
  have hr1:Row W0 (w.heap.size+1) 3 #[.int .i64 0]:=by
   rw [←hW0];have:=Row.new (w.alloc (.cells #[.slice none 0 0] 43)) 3 #[.int .i64 0];simp only [aF] at this;exact this.alloc _
  have hr2:Row W0 (w.heap.size+1+1) 26 #[.int .i64 9]:=by
   rw [←hW0];have:=Row.new ((w.alloc (.cells #[.slice none 0 0] 43)).alloc (.cells #[.int .i64 0] 3)) 26 #[.int .i64 9];simp only [aF] at this;exact this
  refine ⟨.tuple #[.slice none 0 0,.int .i64 0,.int .i64 9],jM rfl _ _ ⟨w.heap.size,0,none⟩ ⟨w.heap.size+1,0,none⟩ ⟨w.heap.size+1+1,0,none⟩ _ _ _ rfl rfl rfl (bR _ _ 43 _ _ (iX.cell 0) Tryz.underlying43 rfl) (bR _ _ 3 _ _ (hr1.cell 0) Tryz.underlying3 rfl) (bR _ _ 26 _ _ (hr2.cell 0) Tryz.underlying26 rfl),?_⟩;refine ⟨_,by rw [HV.o];rfl,by rw [HV.o];exact World.ownsRow_nil _ _ _ _,?_⟩;rw [←hW0];exact (((af _ _).alloc (aa _) _).alloc (by simp) _).alloc (by simp;omega) _
 have hs':¬(16384:Int)<((ag l).size:Int):=by omega
 have HV:=hide (show df l=jz (jd l) [] by unfold df;rw [if_neg hbig])
 obtain ⟨R,hR⟩:∃R,jz (jd l) []=R:=⟨_,rfl⟩
 rw [hR] at HV;have HR:=hide hR;have IT:=hide (fun (bt:Nat) (w:World) (hb:Row w bt 9 #[.string (ag l)]) (hG:Gl w)=>Ib l (by omega) bt w hb hG)
 obtain ⟨xs,hxs⟩:∃xs,jd l=xs:=⟨_,rfl⟩
 rw [hxs] at IT HR;clear hbig hR hxs hz;generalize ag l=s at*
 gi_wp2_with (gi_at_call 47;refine (callsIn_wide.2 (Md _ _)).mono ?_;rintro e w' ⟨rfl,rfl⟩)
 obtain ⟨B,hB⟩:∃B,w.heap.size=B:=⟨_,rfl⟩
 rw [hB];generalize hW0:World.alloc (World.alloc (World.alloc (World.alloc (World.alloc w _) _) _) _) _=W0
 have hz0:W0.heap.size=B+5:=by rw [←hW0];simp [hB]
 have iX:Row W0 B 43 #[.slice none 0 0]:=by rw [←hW0,←hB];exact ((((Row.new _ _ _).alloc _).alloc _).alloc _).alloc _
 have hr1:Row W0 (B+1) 3 #[.int .i64 0]:=by
  rw [←hW0,←hB];have:=Row.new (w.alloc (.cells #[.slice none 0 0] 43)) 3 #[.int .i64 0];simp only [aF] at this;exact ((this.alloc _).alloc _).alloc _
 have hr2:Row W0 (B+2) 26 #[.int .i64 0]:=by
  rw [←hW0,←hB];have:=Row.new ((w.alloc (.cells #[.slice none 0 0] 43)).alloc (.cells #[.int .i64 0] 3)) 26 #[.int .i64 0];simp only [aF] at this;exact (this.alloc _).alloc _
 have hr3:Row W0 (B+3) 43 #[.slice none 0 0]:=by
  rw [←hW0,←hB];have:=Row.new (((w.alloc (.cells #[.slice none 0 0] 43)).alloc (.cells #[.int .i64 0] 3)).alloc (.cells #[.int .i64 0] 26)) 43 #[.slice none 0 0];simp only [aF] at this;exact this.alloc _
 have hr4:Row W0 (B+4) 9 #[.string s]:=by
  rw [←hW0,←hB];have:=Row.new ((((w.alloc (.cells #[.slice none 0 0] 43)).alloc (.cells #[.int .i64 0] 3)).alloc (.cells #[.int .i64 0] 26)).alloc (.cells #[.slice none 0 0] 43)) 9 #[.string s];simp only [aF] at this;exact this
 have hbl:Below B w W0:=by rw [←hW0];exact (((((af _ _).alloc (by omega) _).alloc (by simp;omega) _).alloc (by simp;omega) _).alloc (by simp;omega) _).alloc (by simp;omega) _
 have hGW:Gl W0:=hG.below (by rw [hB];exact hbl);have hGl:=hG.lt;rw [hB] at hGl;have HBl:=hide hbl;have Hz0:=hide hz0;have HGl:=hide hGl;have HwB:=hide hB;clear hW0 hG hB hbl
 refine Et (gf:=74) (lb:=#[.pointer (some ⟨B+4,0,none⟩)]) rfl (enters_of Tryz.func74 (by kernel_rfl) rfl) (IT.o (B+4) W0 hr4 hGW) (fun _=>rfl) (Same.refl _ _)
  (nM B (.slice none 0 0)) (fun b hb e=>by
   have h:=HGl.o
   rcases hb with rfl|rfl|rfl
   ·rcases e with e|e|e|e|e
    ·omega
    ·omega
    ·omega
    ·omega
    ·simp [Value.ownBlock] at e
   ·rcases e with e|e|e|e|e
    ·omega
    ·omega
    ·omega
    ·omega
    ·simp [Value.ownBlock] at e
   ·rcases e with e|e|e|e|e
    ·omega
    ·omega
    ·omega
    ·omega
    ·simp [Value.ownBlock] at e)
  (fun b hb=>by have h:=HGl.o;rcases hb with rfl|rfl|rfl<;>omega)
  (fun b hb=>by
   rcases hb with e|e|e|e|e
   ·omega
   ·omega
   ·omega
   ·omega
   ·simp [Value.ownBlock] at e)
  (PF xs R B) (PG R B)
  (fun k C W1 W2 h hs=>by
   obtain ⟨v,out,rfl,h0,h1,h2,h3,h4,h5⟩:=h
   exact ⟨v,out,rfl,h0.same hs (.inl (by omega)),h1.same hs (.inl (by omega)),h2.same hs (.inl (by omega)),h3.same hs (.inl (by omega)),gA h4 (fun b hb=>hs.block b (.inr (.inr (.inr (.inr (.inr hb)))))),h5⟩)
  (fun c k C W1 W2 h hs=>by
   obtain ⟨hc,v,a,er,rfl,hv,h0,h1,h2,h5⟩:=h
   exact ⟨hc,v,a,er,rfl,hv,h0.same hs (.inl (by omega)),h1.same hs (.inl (by omega)),h2.same hs (.inl (by omega)),h5⟩)
  ⟨_,[],rfl,iX,hr1,hr2,hr3,World.ownsRow_nil _ _ _ _,bj _,HR.o⟩ ?round ?done ?stop
 case round=>
  rintro lp k x C W yg adL UA hx hinv hgr hsz;obtain ⟨v,out,rfl,WK,WL,J1,Yw,hown,hlen,rG⟩:=hinv;obtain ⟨a,kd,tx,sz,er⟩:=x
  have hdr:xs.drop k=(a,⟨kd,tx,sz,er⟩)::xs.drop (k+1):=by
   obtain ⟨hk,he⟩:=List.getElem?_eq_some_iff.1 hx;rw [cn hk,he]
  rw [hdr] at rG;simp only [jz] at rG;have Yx:=hide rG;have aaR:=hide UA;clear hx hdr rG UA;obtain ⟨A,cap,rfl⟩:=tH hown
  obtain ⟨n,hn⟩:∃n,out.length=n:=⟨_,rfl⟩
  rw [hn] at hlen;have Hn:=hide hn
  have Yw:Row W (B+3) 43 #[.slice A n cap]:=by rw [←hn];exact Yw
  have hown:W.ownsRow (B+5) 66 3 (.slice A n cap) n (f_ out):=by rw [←hn];exact hown
  have UA:¬nM B (.slice A n cap) lp:=by rw [←hn];exact aaR.o
  have hgr:iB (nM B (.slice none 0 0)) W0 (nM B (.slice A n cap)) W:=by rw [←hn];exact hgr
  rw [show nM B (.slice A out.length cap)=nM B (.slice A n cap) by rw [hn]];clear hn aaR;simp only [sQ]
  gi_wp2
  refine ⟨(ah.refl _ _).alloc _,fun W2 hb=>?_⟩
  obtain ⟨X,hX⟩:∃X,W.heap.size=X:=⟨_,rfl⟩
  rw [hX]
  have adM:B+5≤lp:=by have:=Hz0.o;omega
  have hXB:B+5≤X:=by have:=Hz0.o;omega
  have hvB:∀b,(Value.slice A n cap).ownBlock=some b→B+5≤b:=fun b hb=>(hown.lt b hb).1
  have hvX:∀b,(Value.slice A n cap).ownBlock=some b→b<X:=fun b hb=>by rw [←hX];exact (hown.lt b hb).2
  have hvl:(Value.slice A n cap).ownBlock≠some lp:=fun e=>UA (.inr (.inr (.inr (.inr e))))
  have WM:Row W2 X 85 #[.int .i64 kd,.string (ag tx),.int .i64 0,.int .i64 (sz:Int),.int .i64 er]:=by
   rw [←hX];exact (Row.new W _ _).but hb (by omega)
  have hS0:Row W2 B 43 #[.slice none 0 0]:=(WK.alloc _).but hb (by omega);have hS1:Row W2 (B+1) 3 #[.int .i64 0]:=(WL.alloc _).but hb (by omega);have hS2:Row W2 (B+2) 26 #[.int .i64 0]:=(J1.alloc _).but hb (by omega);have hS3:Row W2 (B+3) 43 #[.slice A n cap]:=(Yw.alloc _).but hb (by omega);have hS4:W2.ownsRow (B+5) 66 3 (.slice A n cap) n (f_ out):=gA (hown.alloc _) (fun b hb'=>hb.block b (fun e=>hvl (e▸hb')))
  have hz2:W2.heap.size=X+1:=by rw [hb.size,aF,hX]
  have aaS:iB (nM B (.slice A n cap)) W (nM B (.slice A n cap)) W2:=fun b hb'=>⟨.inl hb',by have:=(hgr b hb').2;omega⟩
  have hc3:W2.cell? ⟨B+3,0,none⟩=some (.slice A n cap):=hS3.cell 0;have hc0:W2.cell? ⟨B,0,none⟩=some (.slice none 0 0):=hS0.cell 0;have hc1:W2.cell? ⟨B+1,0,none⟩=some (.int .i64 0):=hS1.cell 0;have hc2:W2.cell? ⟨B+2,0,none⟩=some (.int .i64 0):=hS2.cell 0;have hx0:W2.cell? ⟨X,0,none⟩=some (.int .i64 kd):=WM.cell 0;have hx1:W2.cell? ⟨X,1,none⟩=some (.string (ag tx)):=WM.cell 1;have hx2:W2.cell? ⟨X,2,none⟩=some (.int .i64 0):=WM.cell 2;have hx4:W2.cell? ⟨X,4,none⟩=some (.int .i64 er):=WM.cell 4;have hf0:=hS0.frozen 0;have hf1:=hS1.frozen 0;have hf2:=hS2.frozen 0;have hf3:=hS3.frozen 0;have adN:=WM.frozen 2;have adO:=WM.frozen 4;have HS0:=hide hS0;have PH:=hide hS1;have ur:=hide hS2;have UB:=hide hS3;have WN:=hide hS4;have HSX:=hide WM;have HvB:=hide hvB;have HvX:=hide hvX;have Yp:=hide hgr;clear hb hS0 hS1 hS2 hS3 hS4 WM hvB hvX WK WL J1 Yw hown hgr;by_cases her:er=0;rotate_left
  ·have e1:(er==0)=false:=aP.2 her
   have e2:(er !=0)=true:=by rw [bne,e1];rfl
   have WO:=hide (show R=([],a,er) by rw [←Yx.o,if_neg her]);clear her
   gi_wp2_with fail
   gi_region
   all_goals
    gi_wp2_with fail
    exact Kg (ah.refl _ W2) aaS HS0.o PH.o ur.o HvB.o WO.o
  subst her;by_cases hfull:n=512
  ·subst hfull;have WO:=hide (show R=([],a,9) by rw [←Yx.o,if_pos rfl,if_pos Hn.o]);have hkx:ah (fun b=>nM B (.slice A 512 cap) b∨W.heap.size≤b) W2 (W2.setCell ⟨X,4,none⟩ (.int .i64 9)):=(ah.refl _ W2).set (.inl (.inr (Nat.le_of_eq hX))) _ _;have Hgx:=hide (aaS.later (W2:=W2.setCell ⟨X,4,none⟩ (.int .i64 9)) (by simp [World.setCell]));have xf:=hide (HS0.o.off (b:=X) (by omega) 4 (.int .i64 9));have Ed:=hide (PH.o.off (b:=X) (by omega) 4 (.int .i64 9));have HX2:=hide (ur.o.off (b:=X) (by omega) 4 (.int .i64 9));have Hkx:=hide hkx;clear hkx
   gi_wp2_with fail
   gi_region
   all_goals
    gi_wp2_with fail
    exact Kg Hkx.o Hgx.o xf.o Ed.o HX2.o HvB.o WO.o
  have AA:((n:Int)==512)=false:=aP.2 (by omega);have WO:=hide (show jz (xs.drop (k+1)) (out++[⟨kd,tx,a⟩])=R by rw [←Yx.o,if_pos rfl,if_neg (by rw [Hn.o];exact hfull)])
  have hnl:n≤511:=by omega
  clear hfull;have hown2:(W2.setCell ⟨X,2,none⟩ (.int .i64 (a:Int))).ownsRow (B+5) 66 3 (.slice A n cap) n (f_ out):=gA WN.o (fun b hb=>Below.heap_setCell _ ⟨X,2,none⟩ _ b (by have:=HvX.o b hb;show b≠X;omega))
  have hz3:(W2.setCell ⟨X,2,none⟩ (.int .i64 (a:Int))).heap.size=X+1:=by simpa [World.setCell] using hz2
  have c1:=hown2.alloc (.cells #[.int .i64 kd,.string (ag tx),.int .i64 (a:Int)] 66);have c2:∀j u,[Value.int .i64 kd,.string (ag tx),.int .i64 (a:Int)][j]? =some u→((W2.setCell ⟨X,2,none⟩ (.int .i64 (a:Int))).alloc (.cells #[.int .i64 kd,.string (ag tx),.int .i64 (a:Int)] 66)).cell? ((⟨X+1,0,none⟩:Addr).add j)=some u:=mD _ _ hz3.symm
  have c3:∀u∈[Value.int .i64 kd,.string (ag tx),.int .i64 (a:Int)],u.oneCell'=true:=by intro u hu;simp only [List.mem_cons,List.not_mem_nil,or_false] at hu;rcases hu with rfl|rfl|rfl<;>rfl
  have c4:B+5≤((W2.setCell ⟨X,2,none⟩ (.int .i64 (a:Int))).alloc (.cells #[.int .i64 kd,.string (ag tx),.int .i64 (a:Int)] 66)).heap.size:=by rw [aF,hz3];omega
  have C1:=hide c1;have C2:=hide c2;have C3:=hide c3;have C4:=hide c4;clear c1 c2 c3 c4
  have c5:n+1≤maxLen:=by unfold maxLen;omega
  have c6:(n+1)*32≤140737488355328:=by omega
  gi_wp2_with (gi_at_builtin;refine qZ _ rfl _ _ 43 rfl (B+5) 66 Yv Tryz.underlying43 rfl (by decide) (.slice A n cap) n (f_ out) rfl C1.o ⟨X+1,0,none⟩ 1 1 [.int .i64 kd,.string (ag tx),.int .i64 (a:Int)] rfl rfl C2.o C3.o c5 c6 C4.o ?_;intro v1 w1 hown1 hgrow1 _ aaT;obtain ⟨A1,wL,rfl⟩:=tH hown1;have XJ:=w_ hgrow1 UB.o hXB HvB.o (by omega);have adP:=XJ.cell 0;have adQ:=XJ.frozen 0;have HT3:=hide XJ;have HT0:=hide (w_ hgrow1 HS0.o hXB HvB.o (by omega));have HT1:=hide (w_ hgrow1 PH.o hXB HvB.o (by omega));have DI:=hide (w_ hgrow1 ur.o hXB HvB.o (by omega));have UC:=hide hown1;have Hg1:=hide hgrow1;have Ek:=hide aaT;clear XJ hown1 hgrow1 aaT)
  have hgz:=Hg1.o.size;rw [aF,hz3] at hgz
  have hgX:∀b,(Value.slice A1 (n+1) wL).ownBlock=some b→(nM B (.slice A n cap) b∨W.heap.size≤b):=fun b hb=>by
   rcases Ek.o with h|h
   ·exact .inl (.inr (.inr (.inr (.inr (h▸hb)))))
   ·rw [h] at hb;rw [aF,hz3] at hb;exact .inr (by have:=au hb;omega)
  refine ⟨nM B (.slice A1 (n+1) wL),?_,?_,_,out++[⟨kd,tx,a⟩],rfl,HT0.o.off (by omega) _ _,HT1.o.off (by omega) _ _,DI.o.off (by omega) _ _,HT3.o.bU 0 _,?_,?_,WO.o⟩
  ·exact ((((ah.refl (fun b=>nM B (.slice A n cap) b∨W.heap.size≤b) W2).set (.inl (.inr (Nat.le_of_eq hX))) _ _).alloc _).grown Hg1.o (fun b hb=>.inl (.inl (.inr (.inr (.inr (.inr hb))))))).set (.inl (.inl (.inr (.inr (.inr (.inl rfl)))))) _ _
  ·intro b hb
   have hsz':(w1.setCell ⟨B+1+1+1,0,none⟩ (.slice A1 (n+1) wL)).heap.size=w1.heap.size:=by simp [World.setCell]
   rw [hsz']
   rcases hb with rfl|rfl|rfl|rfl|hb
   ·exact ⟨.inl (.inl rfl),by omega⟩
   ·exact ⟨.inl (.inr (.inl rfl)),by omega⟩
   ·exact ⟨.inl (.inr (.inr (.inl rfl))),by omega⟩
   ·exact ⟨.inl (.inr (.inr (.inr (.inl rfl)))),by omega⟩
   ·exact ⟨hgX b hb,(UC.o.lt b hb).2⟩
  ·rw [aw,Hn.o,Cv];exact gA UC.o (fun b hb=>Below.heap_setCell _ ⟨B+1+1+1,0,none⟩ _ b (by have:=(UC.o.lt b hb).1;show b≠B+1+1+1;omega))
  ·rw [aw,Hn.o];show n+1≤512;omega
 case done=>
  rintro D C W hD hCD hK ⟨v,out,rfl,WK,WL,J1,Yw,hown,hlen,rG⟩ dL hgr;obtain ⟨A,cap,rfl⟩:=tH hown
  have aaU:(0:Int)≤(out.length:Int):=by omega
  obtain ⟨n,hn⟩:∃n,out.length=n:=⟨_,rfl⟩
  rw [hn] at Yw hown;have Hn:=hide hn;clear hn;have hc0:W.cell? ⟨B,0,none⟩=some (.slice none 0 0):=WK.cell 0;have hc1:W.cell? ⟨B+1,0,none⟩=some (.int .i64 0):=WL.cell 0;have hc2:W.cell? ⟨B+2,0,none⟩=some (.int .i64 0):=J1.cell 0;have hc3:W.cell? ⟨B+3,0,none⟩=some (.slice A n cap):=Yw.cell 0;have hf0:=WK.frozen 0;have hf1:=WL.frozen 0;have hf2:=J1.frozen 0
  have hRv:R=(out,0,0):=by rw [←rG,dc (aa _)];rfl
  have hv5:∀b,(Value.slice A n cap).ownBlock=some b→B+5≤b:=fun b hb=>(hown.lt b hb).1;have T0:Row (((W.setCell ⟨B,0,none⟩ (.slice A n cap)).setCell ⟨B+1,0,none⟩ (.int .i64 0)).setCell ⟨B+2,0,none⟩ (.int .i64 0)) B 43 #[.slice A n cap]:=((WK.bU 0 (.slice A n cap)).off (by omega) _ _).off (by omega) _ _;have T1:Row (((W.setCell ⟨B,0,none⟩ (.slice A n cap)).setCell ⟨B+1,0,none⟩ (.int .i64 0)).setCell ⟨B+2,0,none⟩ (.int .i64 0)) (B+1) 3 #[.int .i64 0]:=((WL.off (by omega) _ _).bU 0 (.int .i64 0)).off (by omega) _ _;have T2:Row (((W.setCell ⟨B,0,none⟩ (.slice A n cap)).setCell ⟨B+1,0,none⟩ (.int .i64 0)).setCell ⟨B+2,0,none⟩ (.int .i64 0)) (B+2) 26 #[.int .i64 0]:=((J1.off (by omega) _ _).off (by omega) _ _).bU 0 (.int .i64 0)
  have hKs:(((W.setCell ⟨B,0,none⟩ (.slice A n cap)).setCell ⟨B+1,0,none⟩ (.int .i64 0)).setCell ⟨B+2,0,none⟩ (.int .i64 0)).heap[D]? =some (.deferred (some [])):=
   (Below.heap_setCell _ ⟨B+2,0,none⟩ _ D (by show D≠B+2;omega)).trans ((Below.heap_setCell _ ⟨B+1,0,none⟩ _ D (by show D≠B+1;omega)).trans ((Below.heap_setCell _ ⟨B,0,none⟩ _ D (by show D≠B;omega)).trans hK))
  have WQ:(((W.setCell ⟨B,0,none⟩ (.slice A n cap)).setCell ⟨B+1,0,none⟩ (.int .i64 0)).setCell ⟨B+2,0,none⟩ (.int .i64 0)).ownsRow (B+5) 66 3 (.slice A n cap) n (f_ out):=
   gA hown (fun b hb=>by
    have h5:=hv5 b hb
    exact (Below.heap_setCell _ ⟨B+2,0,none⟩ _ b (by show b≠B+2;omega)).trans ((Below.heap_setCell _ ⟨B+1,0,none⟩ _ b (by show b≠B+1;omega)).trans (Below.heap_setCell _ ⟨B,0,none⟩ _ b (by show b≠B;omega))))
  have hbS:Below B w (((W.setCell ⟨B,0,none⟩ (.slice A n cap)).setCell ⟨B+1,0,none⟩ (.int .i64 0)).setCell ⟨B+2,0,none⟩ (.int .i64 0)):=
   (((HBl.o.trans (dL.below (fun b hb=>by
    rcases hb with e|e|e|e|e
    ·omega
    ·omega
    ·omega
    ·omega
    ·simp [Value.ownBlock] at e) (by omega))).setCell (p:=⟨B,0,none⟩) (aa _) _).setCell (p:=⟨B+1,0,none⟩) (by show B≤B+1;omega) _).setCell (p:=⟨B+2,0,none⟩) (by show B≤B+2;omega) _
  have HT0:=hide T0;have HT1:=hide T1;have DI:=hide T2;have HKs:=hide hKs;have aaV:=hide WQ;have HbS:=hide hbS;have WO:=hide hRv;have Hv5:=hide hv5;clear T0 T1 T2 hKs WQ hbS hRv hv5 hown rG
  gi_wp2
  refine oU HKs.o (v:=.tuple #[.slice A n cap,.int .i64 0,.int .i64 0]) (jM rfl _ _ ⟨B,0,none⟩ ⟨B+1,0,none⟩ ⟨B+2,0,none⟩ _ _ _ rfl rfl rfl (bR _ _ 43 _ _ ((HT0.o.but (But.putObj _ D _) (by omega)).cell 0) Tryz.underlying43 rfl) (bR _ _ 3 _ _ ((HT1.o.but (But.putObj _ D _) (by omega)).cell 0) Tryz.underlying3 rfl) (bR _ _ 26 _ _ ((DI.o.but (But.putObj _ D _) (by omega)).cell 0) Tryz.underlying26 rfl)) ?_;refine ⟨_,by rw [HV.o,WO.o];rfl,?_,?_⟩
  ·rw [HV.o,WO.o,HwB.o];show World.ownsRow _ _ _ _ _ out.length _;rw [Hn.o];exact Ag (gA aaV.o (fun b hb=>World.putObj_heap_other (fun e=>hCD (.inr (.inr (.inr (.inr (by rw [Hn.o];exact e▸hb)))))))) (by omega)
  ·rw [HwB.o];exact HbS.o.trans (Mc (But.putObj _ D _) (by omega))
 case stop=>
  rintro D c k C W hD hCD hK hk ⟨rfl,v,a,er,rfl,hv,WK,WL,J1,lM⟩ dL hgr;have hc0:(W.putObj D (.deferred none)).cell? ⟨B,0,none⟩=some (.slice none 0 0):=(WK.but (But.putObj W D _) (by omega)).cell 0;have hc1:(W.putObj D (.deferred none)).cell? ⟨B+1,0,none⟩=some (.int .i64 (a:Int)):=(WL.but (But.putObj W D _) (by omega)).cell 0;have hc2:(W.putObj D (.deferred none)).cell? ⟨B+2,0,none⟩=some (.int .i64 er):=(J1.but (But.putObj W D _) (by omega)).cell 0
  gi_wp2
  refine oU hK (v:=.tuple #[.slice none 0 0,.int .i64 (a:Int),.int .i64 er]) (jM rfl _ _ ⟨B,0,none⟩ ⟨B+1,0,none⟩ ⟨B+2,0,none⟩ _ _ _ rfl rfl rfl (bR _ _ 43 _ _ hc0 Tryz.underlying43 rfl) (bR _ _ 3 _ _ hc1 Tryz.underlying3 rfl) (bR _ _ 26 _ _ hc2 Tryz.underlying26 rfl)) ?_;refine ⟨_,by rw [HV.o,lM],by rw [HV.o,lM];exact World.ownsRow_nil _ _ _ _,?_⟩;rw [HwB.o]
  exact HBl.o.trans (dL.putObj (.inr hD) _|>.below (fun b hb=>by
   rcases hb with e|e|e|e|e
   ·omega
   ·omega
   ·omega
   ·omega
   ·simp [Value.ownBlock] at e) (by omega))
end Go.Proofs.YtddoehnkgcbboaaGreatDoor
namespace Go.Proofs.YtddoehnkgcbboaaGreatDoor
open Go.RowKit Go.Shelf
def yh (W:World) (A:Option Addr) (xs:List Lx):Prop:=
 0<xs.length→∃b off,A=some ⟨b,off,none⟩∧∀i (h:i<xs.length),W.cell? ⟨b,off+i*3,none⟩=some (.int .i64 xs[i].kind)∧W.cell? ⟨b,off+i*3+1,none⟩=some (.string (ag xs[i].text))∧W.cell? ⟨b,off+i*3+2,none⟩=some (.int .i64 (xs[i].az:Int))
theorem yh.below {W W':World} {A:Option Addr} {xs:List Lx} (h:yh W A xs) (hb:Below W.heap.size W W'):yh W' A xs:=by
 intro hp;obtain ⟨b,off,rfl,hat⟩:=h hp;have hbz:b<W.heap.size:=World.block_lt_of_cell? W _ (hat 0 hp).1;refine ⟨b,off,rfl,fun i hi=>?_⟩;obtain ⟨h1,h2,h3⟩:=hat i hi;exact ⟨(hb.cell (p:=⟨b,_,none⟩) hbz).trans h1,(hb.cell (p:=⟨b,_,none⟩) hbz).trans h2,(hb.cell (p:=⟨b,_,none⟩) hbz).trans h3⟩
theorem yh.at {W:World} {A:Option Addr} {xs:List Lx} (h:yh W A xs) {i:Nat} (hi:i<xs.length):
 ∃b off,A=some ⟨b,off,none⟩∧b<W.heap.size∧∀W',Below W.heap.size W W'→W'.cell? ⟨b,off+i*3,none⟩=some (.int .i64 xs[i].kind)∧W'.cell? ⟨b,off+i*3+1,none⟩=some (.string (ag xs[i].text))∧W'.cell? ⟨b,off+i*3+2,none⟩=some (.int .i64 (xs[i].az:Int)):=by
 obtain ⟨b,off,rfl,hat⟩:=id h (by omega);have hbz:b<W.heap.size:=World.block_lt_of_cell? W _ (hat i hi).1;refine ⟨b,off,rfl,hbz,fun W' hb=>?_⟩;obtain ⟨h1,h2,h3⟩:=hat i hi;exact ⟨(hb.cell (p:=⟨b,_,none⟩) hbz).trans h1,(hb.cell (p:=⟨b,_,none⟩) hbz).trans h2,(hb.cell (p:=⟨b,_,none⟩) hbz).trans h3⟩
theorem vM:∀(out:List Lx) (i:Nat) (h:i<out.length),(f_ out)[i*3]? =some (.int .i64 out[i].kind)∧(f_ out)[i*3+1]? =some (.string (ag out[i].text))∧(f_ out)[i*3+2]? =some (.int .i64 (out[i].az:Int))
 |x::out,0,_=>⟨rfl,rfl,rfl⟩
 |x::out,i+1,h=>by
  have:=vM out i (by simpa using h);rw [show (i+1)*3=i*3+3 by omega];exact this
theorem PI {W:World} {base:Nat} {v:Value} {out:List Lx} (h:W.ownsRow base 66 3 v out.length (f_ out)):
 ∃A cap,v=.slice A out.length cap∧yh W A out:=by
 rcases Nat.eq_zero_or_pos out.length with h0|h0
 ·obtain ⟨A,cap,hv⟩:=tH h;exact ⟨A,cap,hv,fun hp=>absurd hp (by omega)⟩
 ·obtain ⟨g,cap,rfl,_⟩:=World.ownsRow.form h h0;refine ⟨_,cap,rfl,fun hp=>⟨g,0,rfl,fun i hi=>?_⟩⟩;obtain ⟨h1,h2,h3⟩:=vM out i hi;have hc:=fun j (hj:j<out.length*3)=>World.ownsRow.cellAt h j hj;refine ⟨?_,?_,?_⟩
  ·rw [Nat.zero_add,hc (i*3) (by omega)];exact h1
  ·rw [Nat.zero_add,hc (i*3+1) (by omega)];exact h2
  ·rw [Nat.zero_add,hc (i*3+2) (by omega)];exact h3
theorem Kh {a b:List UInt8} (h:ag a=ag b):a=b:=by
 have:=congrArg (fun s:ByteArray=>s.data.toList) h;exact this
theorem Ki (a b:List UInt8):((ag a).toList==(ag b).toList)=(a==b):=by
 rw [Lib.toList_data,Lib.toList_data,dD,dD]
def Tg:List Lx:=[⟨2,[53,110,115],0⟩,⟨6,[45,62],3⟩,⟨0,[114,105,115,101],5⟩]
theorem Yy (l:List UInt8) (hl:l.length≤1000000) (out:List Lx) (a:Nat) (er:Int) (h:df l=(out,a,er)) (w:World) (hG:Gl w):
 Calls Tryz.prog 30 #[.string (ag l)] w fun e w'=>∃A cap,e=.returned (.tuple #[.slice A out.length cap,.int .i64 (a:Int),.int .i64 er])∧yh w' A out∧Below w.heap.size w w':=
 (xe l hl w hG).mono (by
  rintro e w' ⟨v,rfl,ho,hb⟩;rw [h] at ho;obtain ⟨A,cap,rfl,hs⟩:=PI (out:=out) ho
  exact ⟨A,cap,by rw [h],hs,hb⟩)
theorem Eu:∀k:Fin 16,dK (ny k.val)=(k.val:Int):=by decide+kernel
theorem A5:∀k:Fin 16,ny k.val≠34∧ny k.val≠92:=by decide+kernel
theorem PJ (c:UInt8):UInt8.ofNat (16*((c.toNat / 16:Nat):Int)+((c.toNat % 16:Nat):Int)).toNat=c:=by
 have h:(16*((c.toNat / 16:Nat):Int)+((c.toNat % 16:Nat):Int)).toNat=c.toNat:=by omega
 rw [h,UInt8.ofNat_toNat]
theorem Ev {c:UInt8} (h:c=34∨c=92):fM c=[92,c]:=by unfold fM;rw [if_pos h]
theorem A6 {c:UInt8} (h:¬(c=34∨c=92)) (h2:c.toNat<32∨126<c.toNat):fM c=[92,120,ny (c.toNat / 16),ny (c.toNat % 16)]:=by unfold fM;rw [if_neg h,if_pos h2]
theorem Ew {c:UInt8} (h:¬(c=34∨c=92)) (h2:¬(c.toNat<32∨126<c.toNat)):fM c=[c]:=by unfold fM;rw [if_neg h,if_neg h2]
theorem PK (c:UInt8) (r:List UInt8):gm (fM c++r)=some (c,(fM c).length):=by
 have hlt:=c.toNat_lt;by_cases h:c=34∨c=92
 ·rw [Ev h];show gm (92::c::r)=_;rw [gz];simp only [lZ];rw [if_pos h];rfl
 ·by_cases h2:c.toNat<32∨126<c.toNat
  ·rw [A6 h h2];show gm (92::120::ny (c.toNat / 16)::ny (c.toNat % 16)::r)=_;rw [gz];simp only [lZ];rw [if_neg (by decide),if_pos trivial];have e1:=Eu ⟨c.toNat / 16,by omega⟩;have e2:=Eu ⟨c.toNat % 16,by omega⟩;simp only at e1 e2;rw [e1,e2,if_pos ⟨by omega,by omega⟩,PJ];rfl
  ·rw [Ew h h2];exact Ei (by omega) (by omega) (fun e=>h (.inl e)) (fun e=>h (.inr e))
theorem Ex:∀l:List UInt8,rD (l.flatMap fM)=some l
 |[]=>rfl
 |c::t=>by
  rw [uH,uJ (PK c _),List.drop_left,Ex t];rfl
theorem Ey (c:UInt8) (r:List UInt8):bV (fM c++r)=(fM c).length+bV r:=by
 have hlt:=c.toNat_lt;by_cases h:c=34∨c=92
 ·rw [Ev h];show bV (92::c::r)=2+bV r;rw [nH];show bV r+2=_;omega
 ·by_cases h2:c.toNat<32∨126<c.toNat
  ·rw [A6 h h2];show bV (92::120::ny (c.toNat / 16)::ny (c.toNat % 16)::r)=4+bV r;have e1:=A5 ⟨c.toNat / 16,by omega⟩;have e2:=A5 ⟨c.toNat % 16,by omega⟩;rw [nH];show bV (ny (c.toNat / 16)::ny (c.toNat % 16)::r)+2=_;rw [mH _ e1.1 e1.2,mH _ e2.1 e2.2];omega
  ·rw [Ew h h2];show bV (c::r)=1+bV r;rw [mH _ (fun e=>h (.inl e)) (fun e=>h (.inr e))];omega
theorem mJ (l:List UInt8):(nz l).length=(l.flatMap fM).length+2:=by
 rw [nG,aj,aw];rfl
theorem Ez (l:List UInt8):iZ (nz l)=if 64<l.length then ([],9) else (l,0):=by
 have hlen:=mJ l
 rw [xU (by
  rintro (h|h|h)
  ·omega
  ·exact h rfl
  ·rw [nG] at h;apply h
   rw [←List.cons_append,List.getLast?_concat])]
 have hm:((nz l).drop 1).take ((nz l).length-2)=l.flatMap fM:=by
  rw [hlen,nG];show (l.flatMap fM++[34]).take _=_;rw [Nat.add_sub_cancel,List.take_left]
 rw [hm];unfold uK;rw [Ex]
def vN:Nat→List UInt8→Option (List UInt8×Nat)
 |0,_=>none
 |_+1,[]=>none
 |k+1,c::t=>if c=34 then some ([],1) else (gm (c::t)).bind fun p=>(vN k ((c::t).drop p.2)).map fun q=>(p.1::q.1,p.2+q.2)
theorem yi:∀(n m:Nat) (l:List UInt8),l.length<n→l.length<m→vN n l=vN m l
 |0,m,l,h,_=>absurd h (by omega)
 |n+1,0,l,_,h=>absurd h (by omega)
 |n+1,m+1,[],_,_=>rfl
 |n+1,m+1,c::t,hn,hm=>by
  simp only [vN];by_cases h1:c=34
  ·rw [if_pos h1,if_pos h1]
  ·rw [if_neg h1,if_neg h1]
   cases hs:gm (c::t) with
   |none=>rfl
   |some p=>
    obtain ⟨h1,h2⟩:=kR hs;simp only [Option.bind_some];rw [aj] at hn hm h2;rw [yi n m ((c::t).drop p.2) (by rw [aA,aj];omega) (by rw [aA,aj];omega)]
def pq (l:List UInt8):Option (List UInt8×Nat):=vN (l.length+1) l
theorem Me (t:List UInt8):pq (34::t)=some ([],1):=by
 unfold pq;simp only [vN];rw [if_pos trivial]
theorem Ig {c:UInt8} {t:List UInt8} {d:UInt8} {n:Nat} (h1:c≠34) (h:gm (c::t)=some (d,n)):pq (c::t)=(pq ((c::t).drop n)).map fun q=>(d::q.1,n+q.2):=by
 obtain ⟨h2,h3⟩:=kR h;unfold pq
 conv=>lhs;unfold vN
 rw [if_neg h1,h];simp only [Option.bind_some];rw [aj] at h3⊢;rw [yi (t.length+1) (((c::t).drop n).length+1) _ (by rw [aA,aj];omega) (by omega)]
theorem Ih {c:UInt8} {t:List UInt8} (h1:c≠34) (h:gm (c::t)=none):pq (c::t)=none:=by
 unfold pq
 conv=>lhs;unfold vN
 rw [if_neg h1,h];rfl
def EA (l:List UInt8) (a:Nat):Nat×List UInt8:=match pq (l.drop (a+1)) with|none=>(0,[])|some q=>(a+1+q.2,q.1)
def PM (R:Option (List UInt8×Nat)):Nat×List UInt8:=match R with|none=>(0,[])|some q=>(q.2,q.1)
def kF (l:List UInt8) (a k:Nat) (O:List UInt8):Prop:=EA l a=PM ((pq (l.drop k)).map fun q=>(O++q.1,k+q.2))
theorem kF.zero (l:List UInt8) (a:Nat):kF l a (a+1) []:=by
 unfold kF EA
 cases pq (l.drop (a+1))<;>rfl
theorem kF.step {l:List UInt8} {a k n:Nat} {O:List UInt8} {c d:UInt8} {t:List UInt8} (h:kF l a k O) (hd:l.drop k=c::t) (h1:c≠34) (hs:gm (c::t)=some (d,n)):kF l a (k+n) (O++[d]):=by
 unfold kF at h⊢;rw [h,hd,Ig h1 hs,←hd,dB]
 cases pq (l.drop (k+n)) with
 |none=>rfl
 |some q=>simp [PM,Nat.add_assoc]
theorem kF.stop {l:List UInt8} {a k:Nat} {O:List UInt8} {c:UInt8} {t:List UInt8} (h:kF l a k O) (h1:c≠34) (hs:l.drop k=c::t∧gm (c::t)=none):EA l a=(0,[]):=by
 unfold kF at h;rw [h,hs.1,Ih h1 hs.2];rfl
theorem kF.over {l:List UInt8} {a k:Nat} {O:List UInt8} (h:kF l a k O) (hk:l.length≤k):EA l a=(0,[]):=by
 unfold kF at h;rw [h,dc hk];rfl
theorem kF.done {l:List UInt8} {a k:Nat} {O t:List UInt8} (h:kF l a k O) (hd:l.drop k=34::t):EA l a=(k+1,O):=by
 unfold kF at h;rw [h,hd,Me];simp [PM]
def rH:List UInt8→List UInt8
 |[]=>[]
 |[c]=>[c]
 |c::d::t=>if c=48 then rH (d::t) else c::d::t
theorem qg:∀l:List UInt8,l≠[]→rH l=bO l
 |[],h=>absurd rfl h
 |[c],_=>by
  unfold rH bO;rw [List.dropWhile_cons];by_cases h:c=48
  ·subst h;rfl
  ·have hb:(c==48)=false:=by simpa using h
   rw [hb];rfl
 |c::d::t,_=>by
  unfold rH;by_cases h:c=48
  ·subst h;rw [if_pos rfl,qg (d::t) (by simp)];unfold bO
   conv=>rhs;rw [List.dropWhile_cons]
   rfl
  ·rw [if_neg h];unfold bO
   have hb:(c==48)=false:=by simpa using h
   rw [List.dropWhile_cons,hb];rfl
theorem getD_at {l:List UInt8} {i:Nat} (h:i<l.length):l.getD i 0=l[i]:=by
 rw [List.getD_eq_getElem?_getD,List.getElem?_eq_getElem h];rfl
theorem yj:∀(t:List UInt8) (v:Nat),t.foldl tz (min v 1000)=min (t.foldl (fun v c=>10*v+(c.toNat-48)) v) 1000
 |[],v=>rfl
 |c::t,v=>by
  rw [List.foldl_cons,List.foldl_cons,←yj t]
  congr 1
  unfold tz;omega
theorem A7 {p:UInt8→Bool}:∀(k:Nat) (t:List UInt8),k≤t.length→(∀c∈t.take k,p c=true)→bf p t=k+bf p (t.drop k)
 |0,t,_,_=>by rw [List.drop_zero];omega
 |k+1,[],h,_=>absurd h (by simp)
 |k+1,c::t,h,hp=>by
  rw [ft (hp c (by rw [List.take_succ_cons];exact bX)),List.drop_succ_cons,A7 k t (by rw [aj] at h;omega) (fun d hd=>hp d (by rw [List.take_succ_cons];exact cL _ hd))];omega
theorem kT {p:UInt8→Bool}:∀(t:List UInt8),∀c∈t.take (bf p t),p c=true
 |[],c,h=>by cases h
 |d::t,c,h=>by
  cases hp:p d with
  |false=>rw [gI hp] at h;cases h
  |true=>
   rw [ft hp,List.take_succ_cons] at h
   rcases List.mem_cons.1 h with rfl|h
   ·exact hp
   ·exact kT t c h
def px (t:List UInt8):Bool:=match t with|[]=>true|c::_=> !lT c&&c !=39
theorem PO (l:List UInt8) (n:Nat):bB l n=px (l.drop n):=rfl
def zO (c:UInt8):Bool:=lT c||c==39
theorem Mf (t:List UInt8):px t=true↔bf zO t=0:=by
 cases t with
 |nil=>exact ⟨fun _=>rfl,fun _=>rfl⟩
 |cons c r=>
  cases h:zO c with
  |true=>
   rw [ft h];refine ⟨fun h2=>?_,fun h2=>absurd h2 (by omega)⟩;simp only [zO,Bool.or_eq_true] at h;simp only [px,cS,Bool.not_eq_true',bne_iff_ne,ne_eq] at h2
   rcases h with h|h
   ·rw [h2.1] at h;cases h
   ·exact absurd (eq_of_beq h) h2.2
  |false=>
   rw [gI h];refine ⟨fun _=>rfl,fun _=>?_⟩;simp only [zO,Bool.or_eq_false_iff] at h;simp only [px,h.1,Bool.not_false,Bool.true_and,bne,h.2]
theorem ln:∀{us:List (List UInt8)} {t:List UInt8},0<gY us t→t.take (gY us t)∈us
 |[],_,h=>absurd h (by show¬0<0;omega)
 |u::us,t,h=>by
  unfold gY at h⊢;by_cases hp:Lib.hasPrefix t u=true
  ·rw [if_pos hp] at h⊢;have h2:u<+:t:=List.isPrefixOf_iff_prefix.1 hp;rw [←List.prefix_iff_eq_take.1 h2];exact bX
  ·rw [if_neg hp] at h⊢;exact cL _ (ln h)
theorem Cw:∀u∈cA,∀c∈u,zO c=true:=by decide
theorem Ii:∀u∈cA,∀r:List UInt8,gY cA (u++r)=u.length:=by
 intro u hu r;simp only [cA,List.mem_cons,List.not_mem_nil,or_false] at hu
 rcases hu with rfl|rfl|rfl|rfl|rfl|rfl<;>simp [gY,cA,Lib.hasPrefix,List.isPrefixOf]
theorem Ij (t:List UInt8):(px (t.drop (iD t))=true↔(bf zO t=0∨t.take (bf zO t)∈cA))∧(px (t.drop (iD t))=true→iD t=bf zO t):=by
 have hle:=(pj t).2
 have hall:∀c∈t.take (iD t),zO c=true:=by
  intro c hc;by_cases h0:0<iD t
  ·exact Cw _ (ln h0) c hc
  ·rw [show iD t=0 by omega,List.take_zero] at hc;cases hc
 have hs:=A7 (p:=zO) _ t hle hall;rw [Mf];refine ⟨⟨fun h=>?_,fun h=>?_⟩,fun h=>by omega⟩
 ·have he:bf zO t=iD t:=by omega
  by_cases h0:0<iD t
  ·exact .inr (by rw [he];exact ln h0)
  ·exact .inl (by omega)
 ·rcases h with h|h
  ·omega
  ·have h2:=Ii _ h (t.drop (bf zO t));rw [List.take_append_drop,cr,Nat.min_eq_left (fA _ _)] at h2;have h3:iD t=bf zO t:=h2;omega
theorem A8 {m:List UInt8} {n:Nat} (JU:m.getD n 0≠39):bY m n=0:=by
 by_cases hlt:n<m.length
 ·exact vE hlt (by rw [←getD_at hlt];exact JU)
 ·exact sW (by omega)
theorem qh {m:List UInt8} {n e:Nat} (hn:bf bg m=n) (JU:m.getD n 0≠39) (he:ic m (jS m n)=e) (hlt:n<e):
 fg m=if bB m e then ⟨4,(cP (m.take e)).1,e,(cP (m.take e)).2⟩ else dI 3:=by
 unfold fg tF;rw [hn,A8 JU,he,if_neg (by omega),if_pos hlt]
theorem A9 {m:List UInt8} {n e:Nat} (hn:bf bg m=n) (h0:n≠0) (JU:m.getD n 0≠39) (he:ic m (jS m n)=e) (hlt:¬n<e):
 fg m=if bf zO (m.drop n)=0∨(m.drop n).take (bf zO (m.drop n))∈cA then
  (if 15<(rH (m.take n)).length then dI 9 else ma (if bf zO (m.drop n)=0 then 1 else 2) (rH (m.take n)++(m.drop n).take (bf zO (m.drop n))) (n+bf zO (m.drop n)))
  else dI 3:=by
 have hu:=Ij (m.drop n)
 have hs:rH (m.take n)=bO (m.take n):=qg _ (by
  intro h;have:=congrArg List.length h;have h1:=fA bg m
  rw [cr,aK] at this;omega)
 unfold fg tF;rw [hn,A8 JU,he,if_neg (by omega),if_neg hlt,hs]
 have ha:bB m (n+iD (m.drop n))=px ((m.drop n).drop (iD (m.drop n))):=by rw [PO,dB]
 rw [ha];by_cases h:px ((m.drop n).drop (iD (m.drop n)))=true
 ·rw [if_pos (hu.1.1 h),h,if_neg (by decide),hu.2 h]
 ·rw [if_neg (fun h2=>h (hu.1.2 h2)),if_pos (by simpa using h)]
theorem Ik {l:List UInt8} {a:Nat} (h:a<l.length) (hb:Dr l[a]=false) (h2:l[a]≠35):iE l a=a:=by
 unfold iE;rw [cn h,xB hb h2];rfl
end Go.Proofs.YtddoehnkgcbboaaGreatDoor
namespace Go
open Go.RowKit
theorem py {P:Program} {fn:Func} {p u v:Tmp} {ty:TypeId} (h:fn.results=#[.cell p ty,.tmp u,.tmp v]) (tmps:Array Value) (w:World) (g:Nat) (t:TypeId) (cs:Array Value) (fr:Nat×Nat) (d:TypeDesc) (x y:Value)
 (hp:tmps.getD p undef=.pointer (some ⟨g,0,none⟩)) (hx:tmps.getD u undef=x) (hy:tmps.getD v undef=y) (hg:w.heap[g]? =some (.cells cs t fr))
 (hu:P.underlying ty=some d) (hd:(match d with|.struct _|.array _ _=>true|_=>false)=true) (hi:(P.info? ty).map (·.size)=some cs.size):
 (results fn tmps).run P w=.ok (.tuple #[.agg cs,x,y]) w:=by
 have hp':tmps[p]?.getD undef=.pointer (some ⟨g,0,none⟩):=by simpa using hp
 have hx':tmps[u]?.getD undef=x:=by simpa using hx
 have hy':tmps[v]?.getD undef=y:=by simpa using hy
 have e:(results fn tmps).run P w=((asAddr (tmps.getD p undef)).run P w).andThen fun a w₁=>((loadVar ty a).run P w₁).andThen fun z w₂=>.ok (.tuple #[z,tmps.getD u undef,tmps.getD v undef]) w₂:=by
  simp only [results,h];simp [Sem.run_bind,Result.andThen]
 rw [e];simp [hp',hx',hy',asAddr,Result.andThen,run_loadVar_row w g t ty cs fr d hg hu hd hi]
end Go
namespace Go.Proofs.YtddoehnkgcbboaaGreatDoor
open Go.RowKit Go.Shelf
def Kj (a:Nat) (x:Wq) (e:Ending):Prop:=
 ∃(k:Int) (t:ByteArray) (p N:Int),e=.returned (.tuple #[.agg #[.int .i64 k,.string t,.int .i64 p],.int .i64 N,.int .i64 x.err])∧(x.err=0→k=x.kind∧t=ag x.text∧p=(a:Int)∧N=((a+x.size:Nat):Int))
theorem Kj.bad {a:Nat} {x:Wq} {r:Int} (k:Int) (t:ByteArray) (p N:Int) (h:x.err=r) (h0:r≠0):Kj a x (.returned (.tuple #[.agg #[.int .i64 k,.string t,.int .i64 p],.int .i64 N,.int .i64 r])):=
 ⟨k,t,p,N,by rw [h],fun e=>absurd (h.symm.trans e) h0⟩
theorem Kj.good {a:Nat} {k:Int} {t:List UInt8} {n:Nat} {r:Int} {x:Wq} (h:x=⟨k,t,n,r⟩):Kj a x (.returned (.tuple #[.agg #[.int .i64 k,.string (ag t),.int .i64 (a:Int)],.int .i64 ((a+n:Nat):Int),.int .i64 r])):=by
 subst h;exact ⟨k,ag t,a,((a+n:Nat):Int),rfl,fun _=>⟨rfl,rfl,rfl,rfl⟩⟩
structure EB (w W:World) (t:TypeId) (z x y:Value):Prop where
 res:Row W w.heap.size t #[.int .i64 0,.string ⟨#[]⟩,.int .i64 0]
 lex:Row W (w.heap.size+1) t #[z,x,y]
 low:Below w.heap.size w W
theorem EB.new (w:World) (t:TypeId) (z x y:Value):EB w ((w.alloc (.cells #[.int .i64 0,.string ⟨#[]⟩,.int .i64 0] t)).alloc (.cells #[z,x,y] t)) t z x y:=by
 have e:(w.alloc (.cells #[.int .i64 0,.string ⟨#[]⟩,.int .i64 0] t)).heap.size=w.heap.size+1:=by
  show (w.heap.push _).size=_;simp
 have r:=Row.new w t #[.int .i64 0,.string ⟨#[]⟩,.int .i64 0];refine ⟨r.below ((af _ _).alloc (aa _) _) r.lt,?_,((af _ _).alloc (aa _) _).alloc (by rw [e];omega) _⟩;rw [←e];exact Row.new _ _ _
theorem EB.below {w W W':World} {t:TypeId} {z x y:Value} (h:EB w W t z x y) (hb:Below W.heap.size W W'):EB w W' t z x y:=
 ⟨h.res.below hb h.res.lt,h.lex.below hb h.lex.lt,h.low.trans (hb.mono h.low.size)⟩
end Go.Proofs.YtddoehnkgcbboaaGreatDoor
namespace Go.Proofs.YtddoehnkgcbboaaGreatDoor
open Go.RowKit Go.Shelf
theorem EB.drew {w W:World} {t:TypeId} {z x y:Value} (h:EB w W t z x y):EB w W.drew t z x y:=⟨h.res.drew,h.lex.drew,h.low.drew⟩
end Go.Proofs.YtddoehnkgcbboaaGreatDoor
namespace Go.Proofs.YtddoehnkgcbboaaGreatDoor
open Go.RowKit Go.Shelf Go.Sort
def Yz:ByteArray:=⟨#[48,49,120,122,88,90]⟩
structure EC (w wr:World) (ng:Bool) (dg:ByteArray) (ex:Int):Prop where
 res:Row wr w.heap.size 121 #[.bool false,.string ⟨#[]⟩,.int .i64 0]
 cur:Row wr (w.heap.size+1) 121 #[.bool ng,.string dg,.int .i64 ex]
 Ka:Below w.heap.size w wr
theorem EC.new (w:World):EC w ((w.alloc (.cells #[.bool false,.string ⟨#[]⟩,.int .i64 0] 121)).alloc (.cells #[.bool false,.string ⟨#[]⟩,.int .i64 0] 121)) false ⟨#[]⟩ 0 where
 res:=(Row.new _ _ _).alloc _
 cur:=by
  have:=Row.new (w.alloc (.cells #[.bool false,.string ⟨#[]⟩,.int .i64 0] 121)) 121 #[.bool false,.string ⟨#[]⟩,.int .i64 0];rw [aF] at this;exact this
 Ka:=((af w.heap.size w).alloc (aa _) _).alloc (by rw [aF];omega) _
theorem EC.Mg {w wr:World} {ng:Bool} {dg:ByteArray} {ex:Int} (h:EC w wr ng dg ex) (b:Int):EC w (wr.setCell ⟨w.heap.size+1,2,none⟩ (.int .i64 b)) ng dg b:=
 ⟨h.res.off (by omega) _ _,h.cur.bU 2 (.int .i64 b),h.Ka.setCell (p:=⟨w.heap.size+1,2,none⟩) (Nat.le_succ _) _⟩
theorem EC.drew {w wr:World} {ng:Bool} {dg:ByteArray} {ex:Int} (h:EC w wr ng dg ex):EC w wr.drew ng dg ex:=⟨h.res.drew,h.cur.drew,h.Ka.drew⟩
end Go.Proofs.YtddoehnkgcbboaaGreatDoor
namespace Go.Proofs.YtddoehnkgcbboaaGreatDoor
open Go.RowKit Go.Shelf
structure PT (w W:World) (t:TypeId):Prop where
 res:Row W w.heap.size t #[.int .i64 0,.string ⟨#[]⟩,.int .i64 0]
 low:Below w.heap.size w W
theorem PT.new (w:World) (t:TypeId):PT w (w.alloc (.cells #[.int .i64 0,.string ⟨#[]⟩,.int .i64 0] t)) t:=
 ⟨Row.new w t _,(af _ _).alloc (aa _) _⟩
theorem PT.below {w W W':World} {t:TypeId} (h:PT w W t) (hb:Below W.heap.size W W'):PT w W' t:=
 ⟨h.res.below hb h.res.lt,h.low.trans (hb.mono h.low.size)⟩
theorem PU:∀u∈eD,1≤u.length∧u.length≤3:=by decide
theorem PV {a:Nat} {x:Wq} {r:List (Nat×Wq)} {out:List Lx} (h:x.err≠0):jz ((a,x)::r) out=([],a,x.err):=by
 show (if x.err=0 then _ else _)=_;rw [if_neg h]
theorem Mh {a:Nat} {x:Wq} {r:List (Nat×Wq)} {out:List Lx} (h:x.err=0) (h2:out.length=512):jz ((a,x)::r) out=([],a,9):=by
 show (if x.err=0 then _ else _)=_;rw [if_pos h,if_pos h2]
theorem uR {a:Nat} {x:Wq} {r:List (Nat×Wq)} {out:List Lx} (h:x.err=0) (h2:out.length≠512):jz ((a,x)::r) out=jz r (out++[⟨x.kind,x.text,a⟩]):=by
 show (if x.err=0 then _ else _)=_;rw [if_pos h,if_neg h2]
end Go.Proofs.YtddoehnkgcbboaaGreatDoor
