/- Packed by program: a part of the proof; the last file says what is proved. -/
import Derived.Test.YtddoehnkgcbboaaGreatDoorPrA
import Derived.Test.YtddoehnkgcbboaaGreatDoorPrH
import Derived.Test.YtddoehnkgcbboaaGreatDoorPrE
import Derived.Test.YtddoehnkgcbboaaGreatDoorPrG
import Derived.Test.YtddoehnkgcbboaaGreatDoorRows
import Derived.RegionIn
import Derived.Laws.IdiomStrings
import Derived.Deep.RegionWith
import Derived.BigQuiet
import Derived.Deep.DeepCutAuto
import Derived.Deep.CutBlock
import Derived.Laws.Runes
import Derived.Laws.RangeAny
import Derived.StillTailTactics
import Derived.Laws.EntriesVeiled
import Derived.Lib.QuietBelow
set_option maxHeartbeats 16000000
set_option maxRecDepth 100000
set_option linter.unusedVariables false
set_option linter.unusedSimpArgs false
namespace Go
open Go.RowKit
def wU (I:Nat→(Nat→Prop)→World→Prop) (Ix:Code→Nat→(Nat→Prop)→World→Prop) (k:Nat) (C:Nat→Prop) (W0 W:World):Exit→Act→World→Prop
 |.normal,_,W'=>∃C',af (fun b=>C b∨W0.heap.size≤b) W W'∧Grew C W0 C' W'∧I k C' W'
 |.ret,_,W'=>∃C',af (fun b=>C b∨W0.heap.size≤b) W W'∧Grew C W0 C' W'∧Ix .ret k C' W'
 |.exit id,_,W'=>∃C',af (fun b=>C b∨W0.heap.size≤b) W W'∧Grew C W0 C' W'∧Ix (.exit id) k C' W'
 |.goto t,_,W'=>∃C',af (fun b=>C b∨W0.heap.size≤b) W W'∧Grew C W0 C' W'∧Ix (.goto t) k C' W'
 |.panic _,_,_=>False
 |.outgrown,_,_=>False
section
variable {P : Program} {α : Type}
theorem A_ {g:Operand} {ps:Array Tmp} {assign body:Code} {Q:Exit→Act→World→Prop} {a:Act} {w w0:World}
 {gf:Nat} {lb:Array Value} (hg:a.eval g=.func (.func gf) #[] lb) (eg:∀args w,(callFunc gf args).run P w=.ok (.enter gf args) w)
 {encs:α→Array Value} {xs:List α} {R:Nat→Prop} (hseq:Iter P gf lb encs xs R w0) (hps:∀x,(encs x).size=ps.size)
 (Xg:jW R w0 w) (C0:Nat→Prop) (Vc:∀b,R b→¬C0 b) (hR:Laid R w) (hC:Laid C0 w)
 (I:Nat→(Nat→Prop)→World→Prop) (Ix:Code→Nat→(Nat→Prop)→World→Prop) (hI:wb w.heap.size I) (Xh:∀c,wb w.heap.size (Ix c)) (h0:I 0 C0 w)
 (Ti:∀l k x C W,w.heap.size≤l→l<W.heap.size→¬C l→xs[k]? =some x→I k C W→Grew C0 w C W→w.heap.size≤W.heap.size→
  assign.wpIn (Fence.wide.inRound l) 0 P (Exit.then (fun a₁ W₁=>af C W W₁∧∀W₂,rZ l W₁ W₂→body.wpIn (Fence.wide.inRound l) 0 P (wU I Ix (k+1) C W W₂) a₁ W₂) (fun _ _ _=>False))
   {tmps:=(ps.zip (encs x)).foldl (fun t (p,v)=>t.setIfInBounds p v) a.tmps,defers:=[]} W)
 (hdone:∀D C W,w.heap.size≤D→¬C D→W.heap[D]? =some (.deferred (some []))→I xs.length C W→af C0 w W→Grew C0 w C W→
  Q .normal {a with defers:={target:=.collected D,args:=#[]}::a.defers} W)
 (KB:∀D c k C W,w.heap.size≤D→¬C D→W.heap[D]? =some (.deferred (some []))→k≤xs.length→Ix c k C W→af C0 w W→Grew C0 w C W→
  c.wpIn Fence.wide 0 P Q {a with defers:={target:=.collected D,args:=#[]}::a.defers} W):
 (Code.rangeFunc g ps assign body).wpIn Fence.wide 0 P Q a w:=by
 refine wpIn_rangeFunc fun fn hfn=>?_
 have hro:Fence.wide.round=none:=rfl
 rw [hro]
 obtain ⟨n,hn⟩:∃n,n=w.heap.size:=⟨_,rfl⟩
 obtain ⟨rc,Lj⟩:∃rc:LoopState→Option Code→Loop,rc=fun st pe=>{state:=st,pending:=pe,fn,tmps:=a.tmps,params:=ps,assign,body,defers:=n}:=⟨_,rfl⟩
 obtain ⟨W1,hW1⟩:∃W1,(w.alloc (.deferred (some []))).alloc (.loop (rc .ready none))=W1:=⟨_,rfl⟩
 have hz1:W1.heap.size=n+2:=by rw [←hW1,hn];simp
 have Iq:W1.heap[n+1]? =some (.loop (rc .ready none)):=by
  rw [←hW1,hn];have:=World.alloc_heap_new (w.alloc (.deferred (some []))) (.loop (rc .ready none));rwa [World.size_alloc] at this
 have O0:W1.heap[n]? =some (.deferred (some [])):=by
  rw [←hW1,hn];exact (Below.heap_alloc _ _ _ (by simp)).trans (World.alloc_heap_new w _)
 have bS:af C0 w W1:=by rw [←hW1];exact ((af.refl _ _).alloc _).alloc _
 have hsm:jW (fun b=>b<w.heap.size) w W1:=by
  rw [←hW1];exact jW.of_below (B:=w.heap.size) (((Below.refl _ w).alloc (Nat.le_refl _) _).alloc (by simp) _) (fun b hb=>hb)
 have hI1:I 0 C0 W1:=hI _ _ _ _ h0 ⟨hsm.os,hsm.tape,hsm.output,hsm.size,fun b hb=>hsm.block b (hb.elim id (hC b))⟩
 have aaL:jW R w0 W1:=⟨hsm.os.trans Xg.os,hsm.tape.trans Xg.tape,hsm.output.trans Xg.output,Nat.le_trans Xg.size hsm.size,fun b hb=>(hsm.block b (hR b hb)).trans (Xg.block b hb)⟩
 refine ⟨n+1,[{target:=.collected n,args:=#[]}],W1,{target:=.fn (.func gf) lb,args:=#[.func (.yield (n+1)) #[] #[]]},W1,gf,
  #[.func (.yield (n+1)) #[] #[]]++lb,W1,?_,?_,?_,?_,(fun hs=>absurd hs (by simp [Fence.wide])),?_⟩
 ·rw [←hW1,Lj,hn];exact run_enterLoop_outer _ _ _ _ _
 ·simp only [resolve,hg]
  simp [go_sem]
 ·exact fun f' _=>trivial
 ·simp [invoke,go_sem,eg]
 ·--the Tj contract,at the Lk invariant and the two blocks of book-Zw;the loop's record counts as the Lk own
  obtain ⟨J,hJ⟩:∃J:Nat→(Nat→Prop)→World→Prop,J=fun k C W=>∃C₁,(C=fun b=>C₁ b∨b=n+1)∧I k C₁ W∧¬C₁ (n+1)∧¬C₁ n∧W.heap[n+1]? =some (.loop (rc .ready none))∧W.heap[n]? =some (.deferred (some []))∧af C0 w W∧Grew C0 w C₁ W:=⟨_,rfl⟩
  obtain ⟨Jx,Te⟩:∃J:Nat→(Nat→Prop)→World→Prop,J=fun k C W=>∃C₁ c,(C=fun b=>C₁ b∨b=n+1)∧Ix c k C₁ W∧¬C₁ (n+1)∧¬C₁ n∧W.heap[n+1]? =some (.loop (rc .done (some c)))∧W.heap[n]? =some (.deferred (some []))∧af C0 w W∧Grew C0 w C₁ W:=⟨_,rfl⟩
  have aaM:¬C0 n:=fun e=>by have:=hC n e;omega
  have Xi:¬C0 (n+1):=fun e=>by have:=hC _ e;omega
  have hJA:wb W1.heap.size J:=by
   intro k C Wa Wb hj hs
   rw [hJ] at hj⊢
   obtain ⟨C₁,rfl,hi,h1,h2,hl,hk,gM,Ej⟩:=hj
   refine ⟨C₁,rfl,hI _ _ _ _ hi ⟨hs.os,hs.tape,hs.output,hs.size,fun b hb=>hs.block b (hb.elim (fun h=>.inl (by omega)) (fun h=>.inr (.inl h)))⟩,h1,h2,(hs.block _ (.inr (.inr rfl))).trans hl,(hs.block _ (.inl (by omega))).trans hk,?_,fun b hb=>⟨(Ej b hb).1,Nat.lt_of_lt_of_le (Ej b hb).2 hs.size⟩⟩
   exact ⟨hs.os.trans gM.os,hs.tape.trans gM.tape,hs.output.trans gM.output,Nat.le_trans gM.size hs.size,fun b hb hn'=>(hs.block b (.inl (by omega))).trans (gM.block b hb hn')⟩
  have aaN:wb W1.heap.size Jx:=by
   intro k C Wa Wb hj hs
   rw [Te] at hj⊢
   obtain ⟨C₁,c,rfl,hi,h1,h2,hl,hk,gM,Ej⟩:=hj
   refine ⟨C₁,c,rfl,Xh c _ _ _ _ hi ⟨hs.os,hs.tape,hs.output,hs.size,fun b hb=>hs.block b (hb.elim (fun h=>.inl (by omega)) (fun h=>.inr (.inl h)))⟩,h1,h2,(hs.block _ (.inr (.inr rfl))).trans hl,(hs.block _ (.inl (by omega))).trans hk,?_,fun b hb=>⟨(Ej b hb).1,Nat.lt_of_lt_of_le (Ej b hb).2 hs.size⟩⟩
   exact ⟨hs.os.trans gM.os,hs.tape.trans gM.tape,hs.output.trans gM.output,Nat.le_trans gM.size hs.size,fun b hb hn'=>(hs.block b (.inl (by omega))).trans (gM.block b hb hn')⟩
  refine (hseq (n+1) J Jx (fun b=>C0 b∨b=n+1) W1 aaL (fun b hb e=>e.elim (Vc b hb) (fun e=>by have:=hR b hb;omega))
   (fun b hb=>hb.elim (fun h=>by have:=hC b h;omega) (fun h=>by omega)) (fun b hb=>by have:=hR b hb;omega) hJA aaN ?_
   (by rw [hJ];exact ⟨C0,rfl,hI1,Xi,aaM,Iq,O0,bS,fun b hb=>⟨.inl hb,by have:=hC b hb;omega⟩⟩)).mono ?_
  ·--one round
   intro k x C1 W hx hj abm
   have hj0:=hj
   rw [hJ] at hj
   obtain ⟨C,rfl,hi,h1,h2,hl,hk,gM,Ej⟩:=hj
   have hlt:n+1<W.heap.size:=(Array.getElem?_eq_some_iff.1 hl).1
   have hy:=run_yield (P:=P) (args:=encs x) hl (by rw [Lj];exact hps x)
   rw [Lj] at hy
   refine ⟨fn,_,assign,body,hy,roundIn_of_wpIn hfn (wpIn_mono (Ti (n+1) k x C W (by omega) hlt h1 hx hi Ej (by omega)) ?_)⟩
   rintro e a₁ Wa hq
   cases e with
   |normal=>
    obtain ⟨hka,Xj⟩:=hq
    have QL:=hka.heap hl h1
    have hkD:=hka.heap hk h2
    refine ⟨_,run_beginRound QL (by rw [Lj]),?_⟩
    obtain ⟨Wb,hWb⟩:∃Wb,Wa.putObj (n+1) (.loop {rc .ready none with state:=.busy})=Wb:=⟨_,rfl⟩
    have bu:rZ (n+1) Wa Wb:=hWb▸rZ.putObj _ _ _
    have tT:Wb.heap[n+1]? =some (.loop {rc .ready none with state:=.busy}):=hWb▸World.putObj_heap_same (Array.getElem?_eq_some_iff.1 QL).1
    have hkb:Wb.heap[n]? =some (.deferred (some [])):=(bu.block n (by omega)).trans hkD
    rw [hWb]
    refine wpIn_mono (Xj Wb bu) ?_
    have fin:∀(jump:Option Code) (C':Nat→Prop) (W3:World),af (fun b=>C b∨W.heap.size≤b) Wb W3→Grew C W C' W3→
     (∃W4,(Instr.endRound (n+1) jump).run P W3=.ok (.bool jump.isNone) W4∧W4.heap[n+1]? =some (.loop (rc (if jump.isNone then .ready else .done) jump))∧W4.heap[n]? =some (.deferred (some []))∧
      rZ (n+1) W3 W4)∧¬C' (n+1)∧¬C' n:=by
     intro jump C' W3 hk3 hg3
     have hl3:=hk3.heap tT (fun e=>e.elim h1 (fun h=>by omega))
     have hd3:=hk3.heap hkb (fun e=>e.elim h2 (fun h=>by omega))
     have hr:=run_endRound (P:=P) jump hl3
     refine ⟨⟨_,hr,?_,?_,rZ.putObj _ _ _⟩,fun e=>(hg3 _ e).1.elim h1 (by omega),fun e=>(hg3 _ e).1.elim h2 (by omega)⟩
     ·rw [Lj];exact World.putObj_heap_same (Array.getElem?_eq_some_iff.1 hl3).1
     ·exact (World.putObj_heap_other (by omega)).trans hd3
    have way:∀(C':Nat→Prop) (W3 W4:World),af (fun b=>C b∨W.heap.size≤b) Wb W3→Grew C W C' W3→rZ (n+1) W3 W4→¬C' (n+1)→
     af (fun b=>C b∨b=n+1) W W4∧Grew (fun b=>C b∨b=n+1) W (fun b=>C' b∨b=n+1) W4∧jW (fun b=>b<w.heap.size∨C' b) W3 W4∧af C0 w W4∧Grew C0 w C' W4:=by
     intro C' W3 W4 hk3 hg3 hb4 hn'
     have Tl:W4.heap.size=W3.heap.size:=hb4.size
     have k1:af (fun b=>C b∨b=n+1) W W3:=
      ((hka.mono (fun b h=>.inl h)).trans (⟨bu.os,bu.tape,bu.output,Nat.le_of_eq bu.size.symm,fun b _ hn=>bu.block b (fun e=>hn (.inr e))⟩:af (fun b=>C b∨b=n+1) Wa Wb)).trans' hk3 (fun b h=>h.imp .inl id)
     have k2:af (fun b=>C b∨b=n+1) W W4:=k1.trans ⟨hb4.os,hb4.tape,hb4.output,Nat.le_of_eq Tl.symm,fun b _ hn=>hb4.block b (fun e=>hn (.inr e))⟩
     refine ⟨k2,fun b hb=>?_,hb4.same (fun e=>e.elim (by omega) hn'),?_,fun b hb=>⟨(hg3 b hb).1.elim (fun h=>(Ej b h).1) (fun h=>.inr (by omega)),by rw [Tl];exact (hg3 b hb).2⟩⟩
     ·rcases hb with hb|rfl
      ·obtain ⟨h,h'⟩:=hg3 b hb
       exact ⟨h.elim (fun h=>.inl (.inl h)) .inr,by rw [Tl];exact h'⟩
      ·have:=k2.size;exact ⟨.inl (.inr rfl),by omega⟩
     ·refine ⟨k2.os.trans gM.os,k2.tape.trans gM.tape,k2.output.trans gM.output,Nat.le_trans gM.size k2.size,fun b hb Xk=>?_⟩
      refine (k2.block b (by have:=gM.size;omega) (fun e=>e.elim (fun hcb=>?_) (by omega))).trans (gM.block b hb Xk)
      exact (Ej b hcb).1.elim Xk (by omega)
    rintro e a3 W3 hp
    cases e with
    |normal=>
     obtain ⟨C',hk3,hg3,NT⟩:=hp
     obtain ⟨⟨W4,hr,hl4,Lb,hb4⟩,tU,Ek⟩:=fin none C' W3 hk3 hg3
     obtain ⟨g1,g2,g3,g4,g5⟩:=way C' W3 W4 hk3 hg3 hb4 tU
     exact ⟨_,_,hr,_,g1,g2,.inl ⟨rfl,by rw [hJ];exact ⟨C',rfl,hI _ _ _ _ NT g3,tU,Ek,hl4,Lb,g4,g5⟩⟩⟩
    |ret=>
     obtain ⟨C',hk3,hg3,NT⟩:=hp
     obtain ⟨⟨W4,hr,hl4,Lb,hb4⟩,tU,Ek⟩:=fin (some .ret) C' W3 hk3 hg3
     obtain ⟨g1,g2,g3,g4,g5⟩:=way C' W3 W4 hk3 hg3 hb4 tU
     exact ⟨_,_,hr,_,g1,g2,.inr ⟨rfl,by rw [Te];exact ⟨C',_,rfl,Xh _ _ _ _ _ NT g3,tU,Ek,hl4,Lb,g4,g5⟩⟩⟩
    |exit id=>
     obtain ⟨C',hk3,hg3,NT⟩:=hp
     obtain ⟨⟨W4,hr,hl4,Lb,hb4⟩,tU,Ek⟩:=fin (some (.exit id)) C' W3 hk3 hg3
     obtain ⟨g1,g2,g3,g4,g5⟩:=way C' W3 W4 hk3 hg3 hb4 tU
     exact ⟨_,_,hr,_,g1,g2,.inr ⟨rfl,by rw [Te];exact ⟨C',_,rfl,Xh _ _ _ _ _ NT g3,tU,Ek,hl4,Lb,g4,g5⟩⟩⟩
    |goto t=>
     obtain ⟨C',hk3,hg3,NT⟩:=hp
     obtain ⟨⟨W4,hr,hl4,Lb,hb4⟩,tU,Ek⟩:=fin (some (.goto t)) C' W3 hk3 hg3
     obtain ⟨g1,g2,g3,g4,g5⟩:=way C' W3 W4 hk3 hg3 hb4 tU
     exact ⟨_,_,hr,_,g1,g2,.inr ⟨rfl,by rw [Te];exact ⟨C',_,rfl,Xh _ _ _ _ _ NT g3,tU,Ek,hl4,Lb,g4,g5⟩⟩⟩
    |panic ch=>exact hp.elim
    |outgrown=>exact hp.elim
   |_=>exact hq.elim
  ·--behind the iterator
   rintro e W2 ⟨⟨v,rfl⟩,Cx,hkx,hgx,hj|⟨k,Ky,hj⟩⟩
   ·rw [hJ] at hj
    obtain ⟨C,rfl,hi,h1,h2,hl,hk,gM,Ej⟩:=hj
    refine ⟨none,_,by have:=run_endLoop (P:=P) hl (by rw [Lj];simp);rw [Lj] at this;exact this,?_⟩
    have hb:=rZ.putObj W2 (n+1) (.loop {rc .ready none with state:=.exhausted})
    rw [Lj] at hb
    exact hdone n C _ (by omega) h2 ((hb.block n (by omega)).trans hk) (hI _ _ _ _ hi (hb.same (fun e=>e.elim (by omega) h1)))
     (gM.putObj (.inr (by omega)) _) (fun b hb'=>⟨(Ej b hb').1,by rw [hb.size];exact (Ej b hb').2⟩)
   ·rw [Te] at hj
    obtain ⟨C,c,rfl,hi,h1,h2,hl,hk,gM,Ej⟩:=hj
    refine ⟨some c,_,by have:=run_endLoop (P:=P) hl (by rw [Lj];simp);rw [Lj] at this;exact this,?_⟩
    have hb:=rZ.putObj W2 (n+1) (.loop {rc .done (some c) with state:=.exhausted})
    rw [Lj] at hb
    exact KB n c k C _ (by omega) h2 ((hb.block n (by omega)).trans hk) Ky (Xh _ _ _ _ _ hi (hb.same (fun e=>e.elim (by omega) h1)))
     (gM.putObj (.inr (by omega)) _) (fun b hb'=>⟨(Ej b hb').1,by rw [hb.size];exact (Ej b hb').2⟩)
end
end Go
namespace Go
open Go.RowKit
theorem gX {P:Program} {fn:Func} {p q r:Tmp} {t u s:TypeId} (h:fn.results=#[.cell p t,.cell q u,.cell r s]) (tmps:Array Value) (w:World) (a b c:Addr) (x y z:Value)
 (hp:tmps.getD p undef=.pointer (some a)) (hq:tmps.getD q undef=.pointer (some b)) (hr:tmps.getD r undef=.pointer (some c))
 (hx:(loadVar t a).run P w=.ok x w) (hy:(loadVar u b).run P w=.ok y w) (hz:(loadVar s c).run P w=.ok z w):
 (results fn tmps).run P w=.ok (.tuple #[x,y,z]) w:=by
 have hp':tmps[p]?.getD undef=.pointer (some a):=by simpa using hp
 have hq':tmps[q]?.getD undef=.pointer (some b):=by simpa using hq
 have hr':tmps[r]?.getD undef=.pointer (some c):=by simpa using hr
 have e:(results fn tmps).run P w=((asAddr (tmps.getD p undef)).run P w).andThen fun a w₁=>((loadVar t a).run P w₁).andThen fun x w₂=>((asAddr (tmps.getD q undef)).run P w₂).andThen fun b w₃=>((loadVar u b).run P w₃).andThen fun y w₄=>((asAddr (tmps.getD r undef)).run P w₄).andThen fun c w₅=>((loadVar s c).run P w₅).andThen fun z w₆=>.ok (.tuple #[x,y,z]) w₆:=by
  simp only [results,h]
  simp [Sem.run_bind,Result.andThen]
 rw [e]
 simp [hp',hq',hr',asAddr,Result.andThen,hx,hy,hz]
theorem bf {P:Program} (w:World) (g:Nat) (ty:TypeId) (v:Value) (d:TypeDesc) (hg:w.cell? ⟨g,0,none⟩=some v)
 (hu:P.underlying ty=some d) (hd:(match d with|.struct _|.array _ _=>true|_=>false)=false):(loadVar ty ⟨g,0,none⟩).run P w=.ok v w:=by
 have h1:(isAgg ty).run P w=.ok false w:=by
  simp [isAgg,run_underlying hu,Result.andThen]
  cases d<;>simp_all
 simp [loadVar,h1,Result.andThen,hg]
end Go
namespace Go.Proofs.YtddoehnkgcbboaaGreatDoor
open Go.RowKit Go.Shelf
attribute [local go_sem] Oper.semAt_some
theorem Ir {D n:Nat} {W W':World} (h:rZ D W W') (hD:n≤D):Below n W W':=⟨h.os,h.tape,h.output,Nat.le_of_eq h.size.symm,fun b hb=>h.block b (by omega)⟩
theorem Iu (s:ByteArray) (w:World):
 Calls Tryz.prog 47 #[.string s] w fun e w'=>e=.returned (.func (.func 74) #[] #[.pointer (some ⟨w.heap.size,0,none⟩)])∧w.alloc (.cells #[.string s] 9)=w':=by
 have Zx:∀(fn:Fn) (first cap:Array Value) (w:World),(Instr.makeFunc fn first cap).run Tryz.prog w=.ok (.func fn first cap) w:=fun _ _ _ _=>rfl
 go_enter Tryz.func47,Tryz.ntmps47
 go_wp2
 go_ret
 exact ⟨rfl,rfl⟩
def dK (out:List Lx):List Value:=out.flatMap fun x=>[.int .i64 x.kind,.string (ae x.text),.int .i64 (x.aJ:Int)]
theorem yN (out:List Lx) (x:Lx):dK (out++[x])=dK out++[.int .i64 x.kind,.string (ae x.text),.int .i64 (x.aJ:Int)]:=by
 unfold dK;simp
theorem Tm:(Tryz.prog.info? 66).map (fun i=>(i.zero,i.size,i.bytes))=some (some (.agg #[.int .i64 0,.string ⟨#[]⟩,.int .i64 0]),3,32):=by kernel_rfl
theorem dY {W1 W2:World} {base:Nat} {e:TypeId} {size:Nat} {v:Value} {n:Nat} {xs:List Value} (h:W1.ownsRow base e size v n xs)
 (hb:∀b,v.ownBlock=some b→W2.heap[b]? =W1.heap[b]?):W2.ownsRow base e size v n xs:=by
 refine ⟨h.1,?_⟩
 rcases h.2 with hn|⟨g,cap,cur,rfl,DJ,hg,rest⟩
 ·exact .inl hn
 ·exact .inr ⟨g,cap,cur,rfl,DJ,(hb g (by simp [Value.ownBlock])).trans hg,rest⟩
theorem pB {w:World} {B n size:Nat} {u:Value} {e:TypeId} {xs:List Value} (h:w.ownsRow B e size u n xs):∃A cap,u=.slice A n cap:=by
 obtain ⟨_,h2⟩:=h
 rcases h2 with ⟨rfl,h0⟩|⟨g,cap,cs,rfl,_⟩
 ·exact ⟨none,0,by rw [h0]⟩
 ·exact ⟨_,cap,rfl⟩
theorem vO {W:World} {base base':Nat} {e:TypeId} {size:Nat} {v:Value} {n:Nat} {xs:List Value} (h:W.ownsRow base e size v n xs) (hb:base'≤base):W.ownsRow base' e size v n xs:=by
 refine ⟨h.1,?_⟩
 rcases h.2 with hn|⟨g,cap,cur,rfl,DJ,rest⟩
 ·exact .inl hn
 ·exact .inr ⟨g,cap,cur,rfl,Nat.le_trans hb DJ,rest⟩
def ll (B:Nat) (v:Value) (b:Nat):Prop:=b=B∨b=B+1∨b=B+2∨b=B+3∨v.ownBlock=some b
def Ll (xs:List (Nat×Wq)) (R:List Lx×Nat×Int) (B:Nat) (k:Nat) (C:Nat→Prop) (W:World):Prop:=
 ∃v out,C=ll B v∧Row W B 43 #[.slice none 0 0]∧Row W (B+1) 3 #[.int .i64 0]∧Row W (B+2) 26 #[.int .i64 0]∧Row W (B+3) 43 #[v]∧
  W.ownsRow (B+5) 66 3 v out.length (dK out)∧out.length≤512∧oa (xs.drop k) out=R
def Lm (R:List Lx×Nat×Int) (B:Nat) (c:Code) (k:Nat) (C:Nat→Prop) (W:World):Prop:=
 c=.ret∧∃v aJ er,C=ll B v∧(∀b,v.ownBlock=some b→B+5≤b)∧Row W B 43 #[.slice none 0 0]∧Row W (B+1) 3 #[.int .i64 (aJ:Nat)]∧Row W (B+2) 26 #[.int .i64 er]∧R=([],aJ,er)
theorem sL {W2 w1:World} {X B b n cap:Nat} {A:Option Addr} {t u:TypeId} {cs ds:Array Value} {a:Value} (hg:World.grownBy ((W2.setCell ⟨X,2,none⟩ a).alloc (.cells ds u)) w1 (Value.slice A n cap).ownBlock) (h:Row W2 b t cs) (hX:B+5≤X)
 (hv:∀b,(Value.slice A n cap).ownBlock=some b→B+5≤b) (hb:b<B+5):Row w1 b t cs:=
 ((h.off (by omega) 2 a).alloc _).grown hg (fun e=>by have:=hv b e.symm;omega)
theorem Gd {xs:List (Nat×Wq)} {R:List Lx×Nat×Int} {B k a:Nat} {v:Value} {er:Int} {W W2 W3:World} {act:Act} (hk:af (fun b=>ll B v b∨W.heap.size≤b) W2 W3) (hg:Grew (ll B v) W (ll B v) W3)
 (h0:Row W3 B 43 #[.slice none 0 0]) (h1:Row W3 (B+1) 3 #[.int .i64 0]) (h2:Row W3 (B+2) 26 #[.int .i64 0]) (hv:∀b,v.ownBlock=some b→B+5≤b) (hR:R=([],a,er)):
 wU (Ll xs R B) (Lm R B) k (ll B v) W W2 .ret act (((W3.setCell ⟨B,0,none⟩ (.slice none 0 0)).setCell ⟨B+1,0,none⟩ (.int .i64 (a:Int))).setCell ⟨B+1+1,0,none⟩ (.int .i64 er)).drew:=
 ⟨ll B v,(((hk.set (.inl (.inl (.inl rfl))) _ _).set (.inl (.inl (.inr (.inl rfl)))) _ _).set (.inl (.inl (.inr (.inr (.inl rfl))))) _ _).drew,hg.later (by simp [World.setCell]),rfl,v,a,er,rfl,hv,
  (((h0.bg 0 (.slice none 0 0)).off (by omega) _ _).off (by omega) _ _).drew,(((h1.off (by omega) _ _).bg 0 (.int .i64 (a:Int))).off (by omega) _ _).drew,(((h2.off (by omega) _ _).off (by omega) _ _).bg 0 (.int .i64 er)).drew,hR⟩
theorem sM (l:List UInt8) (hl:l.length≤1000000) (w:World) (hG:Gl w):
 Calls Tryz.prog 30 #[.string (ae l)] w fun e w'=>∃v,e=.returned (.tuple #[v,.int .i64 ((eo l).2.1:Int),.int .i64 (eo l).2.2])∧w'.ownsRow w.heap.size 66 3 v (eo l).1.length (dK (eo l).1)∧Below w.heap.size w w':=by
 have hz:=aD l
 refine (callsIn_wide (n:=0)).1 (callsIn_of_wp_marks Tryz.func30 rfl trivial ?_)
 simp only [Tryz.ntmps30,List.size_toArray,List.length_cons,List.length_nil,Nat.reduceAdd,Nat.reduceSub,Array.replicate_succ,Array.replicate_zero,List.push_toArray,List.append_toArray,List.nil_append,List.cons_append]
 by_cases hbig:16384<l.length
 ·have Vd:(16384:Int)<((ae l).size:Int):=by omega
  have hV:eo l=([],0,9):=by unfold eo;rw [if_pos hbig]
  have HV:=aa hV
  clear hV hbig hz
  generalize ae l=s at*
  gi_wp2
  obtain ⟨B,hB⟩:∃B,w.heap.size=B:=⟨_,rfl⟩
  generalize hW0:World.alloc (World.alloc (World.alloc w _) _) _=W0
  have fO:Row W0 w.heap.size 43 #[.slice none 0 0]:=by rw [←hW0];exact ((Row.new _ _ _).alloc _).alloc _
  have hr1:Row W0 (w.heap.size+1) 3 #[.int .i64 0]:=by
   rw [←hW0];have:=Row.new (w.alloc (.cells #[.slice none 0 0] 43)) 3 #[.int .i64 0];simp only [World.size_alloc] at this;exact this.alloc _
  have hr2:Row W0 (w.heap.size+1+1) 26 #[.int .i64 9]:=by
   rw [←hW0];have:=Row.new ((w.alloc (.cells #[.slice none 0 0] 43)).alloc (.cells #[.int .i64 0] 3)) 26 #[.int .i64 9];simp only [World.size_alloc] at this;exact this
  refine ⟨.tuple #[.slice none 0 0,.int .i64 0,.int .i64 9],gX rfl _ _ ⟨w.heap.size,0,none⟩ ⟨w.heap.size+1,0,none⟩ ⟨w.heap.size+1+1,0,none⟩ _ _ _ rfl rfl rfl (bf _ _ 43 _ _ (fO.cell 0) Tryz.underlying43 rfl) (bf _ _ 3 _ _ (hr1.cell 0) Tryz.underlying3 rfl) (bf _ _ 26 _ _ (hr2.cell 0) Tryz.underlying26 rfl),?_⟩
  refine ⟨_,by rw [HV.out];rfl,by rw [HV.out];exact World.ownsRow_nil _ _ _ _,?_⟩
  rw [←hW0]
  exact (((Below.refl _ _).alloc (Nat.le_refl _) _).alloc (by simp) _).alloc (by simp;omega) _
 have Vd:¬(16384:Int)<((ae l).size:Int):=by omega
 have HV:=aa (show eo l=oa (iC l) [] by unfold eo;rw [if_neg hbig])
 obtain ⟨R,hR⟩:∃R,oa (iC l) []=R:=⟨_,rfl⟩
 rw [hR] at HV
 have HR:=aa hR
 have IT:=aa (fun (bt:Nat) (w:World) (hb:Row w bt 9 #[.string (ae l)]) (hG:Gl w)=>Ei l (by omega) bt w hb hG)
 obtain ⟨xs,hxs⟩:∃xs,iC l=xs:=⟨_,rfl⟩
 rw [hxs] at IT HR
 clear hbig hR hxs hz
 generalize ae l=s at*
 gi_wp2_with (gi_at_call 47;refine (callsIn_wide.2 (Iu _ _)).mono ?_;rintro e w' ⟨rfl,rfl⟩)
 obtain ⟨B,hB⟩:∃B,w.heap.size=B:=⟨_,rfl⟩
 rw [hB]
 generalize hW0:World.alloc (World.alloc (World.alloc (World.alloc (World.alloc w _) _) _) _) _=W0
 have hz0:W0.heap.size=B+5:=by rw [←hW0];simp [hB]
 have fO:Row W0 B 43 #[.slice none 0 0]:=by rw [←hW0,←hB];exact ((((Row.new _ _ _).alloc _).alloc _).alloc _).alloc _
 have hr1:Row W0 (B+1) 3 #[.int .i64 0]:=by
  rw [←hW0,←hB];have:=Row.new (w.alloc (.cells #[.slice none 0 0] 43)) 3 #[.int .i64 0];simp only [World.size_alloc] at this;exact ((this.alloc _).alloc _).alloc _
 have hr2:Row W0 (B+2) 26 #[.int .i64 0]:=by
  rw [←hW0,←hB];have:=Row.new ((w.alloc (.cells #[.slice none 0 0] 43)).alloc (.cells #[.int .i64 0] 3)) 26 #[.int .i64 0];simp only [World.size_alloc] at this;exact (this.alloc _).alloc _
 have hr3:Row W0 (B+3) 43 #[.slice none 0 0]:=by
  rw [←hW0,←hB];have:=Row.new (((w.alloc (.cells #[.slice none 0 0] 43)).alloc (.cells #[.int .i64 0] 3)).alloc (.cells #[.int .i64 0] 26)) 43 #[.slice none 0 0];simp only [World.size_alloc] at this;exact this.alloc _
 have hr4:Row W0 (B+4) 9 #[.string s]:=by
  rw [←hW0,←hB];have:=Row.new ((((w.alloc (.cells #[.slice none 0 0] 43)).alloc (.cells #[.int .i64 0] 3)).alloc (.cells #[.int .i64 0] 26)).alloc (.cells #[.slice none 0 0] 43)) 9 #[.string s];simp only [World.size_alloc] at this;exact this
 have hbl:Below B w W0:=by rw [←hW0];exact (((((Below.refl _ _).alloc (by omega) _).alloc (by simp;omega) _).alloc (by simp;omega) _).alloc (by simp;omega) _).alloc (by simp;omega) _
 have Zs:Gl W0:=hG.below (by rw [hB];exact hbl)
 have hGl:=hG.lt
 rw [hB] at hGl
 have HBl:=aa hbl
 have Zn:=aa hz0
 have HGl:=aa hGl
 have HwB:=aa hB
 clear hW0 hG hB hbl
 refine A_ (gf:=74) (lb:=#[.pointer (some ⟨B+4,0,none⟩)]) rfl (enters_of Tryz.func74 (by kernel_rfl) rfl) (IT.out (B+4) W0 hr4 Zs) (fun _=>rfl) (jW.refl _ _)
  (ll B (.slice none 0 0)) (fun b hb e=>by
   have h:=HGl.out
   rcases hb with rfl|rfl|rfl
   ·rcases e with e|e|e|e|e
    ·omega
    ·omega
    ·omega
    ·omega
    ·simp [Value.ownBlock] at e
   ·rcases e with e|e|e|e|e
    ·omega
    ·omega
    ·omega
    ·omega
    ·simp [Value.ownBlock] at e
   ·rcases e with e|e|e|e|e
    ·omega
    ·omega
    ·omega
    ·omega
    ·simp [Value.ownBlock] at e)
  (fun b hb=>by have h:=HGl.out;rcases hb with rfl|rfl|rfl<;>omega)
  (fun b hb=>by
   rcases hb with e|e|e|e|e
   ·omega
   ·omega
   ·omega
   ·omega
   ·simp [Value.ownBlock] at e)
  (Ll xs R B) (Lm R B)
  (fun k C W1 W2 h hs=>by
   obtain ⟨v,out,rfl,h0,h1,h2,h3,h4,h5⟩:=h
   exact ⟨v,out,rfl,h0.same hs (.inl (by omega)),h1.same hs (.inl (by omega)),h2.same hs (.inl (by omega)),h3.same hs (.inl (by omega)),dY h4 (fun b hb=>hs.block b (.inr (.inr (.inr (.inr (.inr hb)))))),h5⟩)
  (fun c k C W1 W2 h hs=>by
   obtain ⟨hc,v,a,er,rfl,hv,h0,h1,h2,h5⟩:=h
   exact ⟨hc,v,a,er,rfl,hv,h0.same hs (.inl (by omega)),h1.same hs (.inl (by omega)),h2.same hs (.inl (by omega)),h5⟩)
  ⟨_,[],rfl,fO,hr1,hr2,hr3,World.ownsRow_nil _ _ _ _,Nat.zero_le _,HR.out⟩ ?round ?done ?stop
 case round=>
  rintro lp k x C W hlp abU O2 hx hinv hgr hsz
  obtain ⟨v,out,rfl,QW,hR1,hR2,Tn,hown,hlen,ln⟩:=hinv
  obtain ⟨a,kd,tx,sz,er⟩:=x
  have hdr:xs.drop k=(a,⟨kd,tx,sz,er⟩)::xs.drop (k+1):=by
   obtain ⟨hk,he⟩:=List.getElem?_eq_some_iff.1 hx
   rw [List.drop_eq_getElem_cons hk,he]
  rw [hdr] at ln
  simp only [oa] at ln
  have To:=aa ln
  have Xl:=aa O2
  clear hx hdr ln O2
  obtain ⟨A,cap,rfl⟩:=pB hown
  obtain ⟨n,hn⟩:∃n,out.length=n:=⟨_,rfl⟩
  rw [hn] at hlen
  have Hn:=aa hn
  have Tn:Row W (B+3) 43 #[.slice A n cap]:=by rw [←hn];exact Tn
  have hown:W.ownsRow (B+5) 66 3 (.slice A n cap) n (dK out):=by rw [←hn];exact hown
  have O2:¬ll B (.slice A n cap) lp:=by rw [←hn];exact Xl.out
  have hgr:Grew (ll B (.slice none 0 0)) W0 (ll B (.slice A n cap)) W:=by rw [←hn];exact hgr
  rw [show ll B (.slice A out.length cap)=ll B (.slice A n cap) by rw [hn]]
  clear hn Xl
  simp only [oO]
  gi_wp2
  refine ⟨(af.refl _ _).alloc _,fun W2 hb=>?_⟩
  obtain ⟨X,hX⟩:∃X,W.heap.size=X:=⟨_,rfl⟩
  rw [hX]
  have abV:B+5≤lp:=by have:=Zn.out;omega
  have Zy:B+5≤X:=by have:=Zn.out;omega
  have hvB:∀b,(Value.slice A n cap).ownBlock=some b→B+5≤b:=fun b hb=>(hown.lt b hb).1
  have hvX:∀b,(Value.slice A n cap).ownBlock=some b→b<X:=fun b hb=>by rw [←hX];exact (hown.lt b hb).2
  have hvl:(Value.slice A n cap).ownBlock≠some lp:=fun e=>O2 (.inr (.inr (.inr (.inr e))))
  have QX:Row W2 X 85 #[.int .i64 kd,.string (ae tx),.int .i64 0,.int .i64 (sz:Int),.int .i64 er]:=by
   rw [←hX];exact (Row.new W _ _).but hb (by omega)
  have Zz:Row W2 B 43 #[.slice none 0 0]:=(QW.alloc _).but hb (by omega)
  have hS1:Row W2 (B+1) 3 #[.int .i64 0]:=(hR1.alloc _).but hb (by omega)
  have ZA:Row W2 (B+2) 26 #[.int .i64 0]:=(hR2.alloc _).but hb (by omega)
  have ZB:Row W2 (B+3) 43 #[.slice A n cap]:=(Tn.alloc _).but hb (by omega)
  have hS4:W2.ownsRow (B+5) 66 3 (.slice A n cap) n (dK out):=dY (hown.alloc _) (fun b hb'=>hb.block b (fun e=>hvl (e▸hb')))
  have hz2:W2.heap.size=X+1:=by rw [hb.size,World.size_alloc,hX]
  have Xm:Grew (ll B (.slice A n cap)) W (ll B (.slice A n cap)) W2:=fun b hb'=>⟨.inl hb',by have:=(hgr b hb').2;omega⟩
  have hc3:W2.cell? ⟨B+3,0,none⟩=some (.slice A n cap):=ZB.cell 0
  have hc0:W2.cell? ⟨B,0,none⟩=some (.slice none 0 0):=Zz.cell 0
  have hc1:W2.cell? ⟨B+1,0,none⟩=some (.int .i64 0):=hS1.cell 0
  have hc2:W2.cell? ⟨B+2,0,none⟩=some (.int .i64 0):=ZA.cell 0
  have hx0:W2.cell? ⟨X,0,none⟩=some (.int .i64 kd):=QX.cell 0
  have hx1:W2.cell? ⟨X,1,none⟩=some (.string (ae tx)):=QX.cell 1
  have hx2:W2.cell? ⟨X,2,none⟩=some (.int .i64 0):=QX.cell 2
  have hx4:W2.cell? ⟨X,4,none⟩=some (.int .i64 er):=QX.cell 4
  have hf0:=Zz.frozen 0
  have ZC:=hS1.frozen 0
  have hf2:=ZA.frozen 0
  have hf3:=ZB.frozen 0
  have abW:=QX.frozen 2
  have abX:=QX.frozen 4
  have HS0:=aa Zz
  have Ln:=aa hS1
  have qb:=aa ZA
  have O3:=aa ZB
  have QY:=aa hS4
  have HSX:=aa QX
  have Ve:=aa hvB
  have HvX:=aa hvX
  have Tf:=aa hgr
  clear hb Zz hS1 ZA ZB hS4 QX hvB hvX QW hR1 hR2 Tn hown hgr
  by_cases vN:er=0
  rotate_left
  ·have e1:(er==0)=false:=beq_eq_false_iff_ne.2 vN
   have e2:(er !=0)=true:=by rw [bne,e1];rfl
   have QZ:=aa (show R=([],a,er) by rw [←To.out,if_neg vN])
   clear vN
   gi_wp2_with fail
   gi_region
   all_goals
    gi_wp2_with fail
    exact Gd (af.refl _ W2) Xm HS0.out Ln.out qb.out Ve.out QZ.out
  subst vN
  by_cases hfull:n=512
  ·subst hfull
   have QZ:=aa (show R=([],a,9) by rw [←To.out,if_pos rfl,if_pos Hn.out])
   have hkx:af (fun b=>ll B (.slice A 512 cap) b∨W.heap.size≤b) W2 (W2.setCell ⟨X,4,none⟩ (.int .i64 9)):=(af.refl _ W2).set (.inl (.inr (Nat.le_of_eq hX))) _ _
   have Hgx:=aa (Xm.later (W2:=W2.setCell ⟨X,4,none⟩ (.int .i64 9)) (by simp [World.setCell]))
   have Lo:=aa (HS0.out.off (b:=X) (by omega) 4 (.int .i64 9))
   have F0:=aa (Ln.out.off (b:=X) (by omega) 4 (.int .i64 9))
   have Wf:=aa (qb.out.off (b:=X) (by omega) 4 (.int .i64 9))
   have Hkx:=aa hkx
   clear hkx
   gi_wp2_with fail
   gi_region
   all_goals
    gi_wp2_with fail
    exact Gd Hkx.out Hgx.out Lo.out F0.out Wf.out Ve.out QZ.out
  have yi:((n:Int)==512)=false:=beq_eq_false_iff_ne.2 (by omega)
  have QZ:=aa (show oa (xs.drop (k+1)) (out++[⟨kd,tx,a⟩])=R by rw [←To.out,if_pos rfl,if_neg (by rw [Hn.out];exact hfull)])
  have hnl:n≤511:=by omega
  clear hfull
  have Xn:(W2.setCell ⟨X,2,none⟩ (.int .i64 (a:Int))).ownsRow (B+5) 66 3 (.slice A n cap) n (dK out):=dY QY.out (fun b hb=>Below.heap_setCell _ ⟨X,2,none⟩ _ b (by have:=HvX.out b hb;show b≠X;omega))
  have hz3:(W2.setCell ⟨X,2,none⟩ (.int .i64 (a:Int))).heap.size=X+1:=by simpa [World.setCell] using hz2
  have c1:=Xn.alloc (.cells #[.int .i64 kd,.string (ae tx),.int .i64 (a:Int)] 66)
  have c2:∀j u,[Value.int .i64 kd,.string (ae tx),.int .i64 (a:Int)][j]? =some u→((W2.setCell ⟨X,2,none⟩ (.int .i64 (a:Int))).alloc (.cells #[.int .i64 kd,.string (ae tx),.int .i64 (a:Int)] 66)).cell? ((⟨X+1,0,none⟩:Addr).add j)=some u:=kr _ _ hz3.symm
  have c3:∀u∈[Value.int .i64 kd,.string (ae tx),.int .i64 (a:Int)],u.oneCell'=true:=by intro u hu;simp only [List.mem_cons,List.not_mem_nil,or_false] at hu;rcases hu with rfl|rfl|rfl<;>rfl
  have c4:B+5≤((W2.setCell ⟨X,2,none⟩ (.int .i64 (a:Int))).alloc (.cells #[.int .i64 kd,.string (ae tx),.int .i64 (a:Int)] 66)).heap.size:=by rw [World.size_alloc,hz3];omega
  have C1:=aa c1
  have C2:=aa c2
  have C3:=aa c3
  have C4:=aa c4
  clear c1 c2 c3 c4
  have c5:n+1≤maxLen:=by unfold maxLen;omega
  have c6:(n+1)*32≤140737488355328:=by omega
  gi_wp2_with (gi_at_builtin;refine nO _ rfl _ _ 43 rfl (B+5) 66 Tm Tryz.underlying43 rfl (by decide) (.slice A n cap) n (dK out) rfl C1.out ⟨X+1,0,none⟩ 1 1 [.int .i64 kd,.string (ae tx),.int .i64 (a:Int)] rfl rfl C2.out C3.out c5 c6 C4.out ?_;intro v1 w1 hown1 qE _ Xo;obtain ⟨A1,se,rfl⟩:=pB hown1;have Sd:=sL qE O3.out Zy Ve.out (by omega);have abY:=Sd.cell 0;have abZ:=Sd.frozen 0;have HT3:=aa Sd;have HT0:=aa (sL qE HS0.out Zy Ve.out (by omega));have HT1:=aa (sL qE Ln.out Zy Ve.out (by omega));have Am:=aa (sL qE qb.out Zy Ve.out (by omega));have Vf:=aa hown1;have Hg1:=aa qE;have AZ:=aa Xo;clear Sd hown1 qE Xo)
  have hgz:=Hg1.out.size
  rw [World.size_alloc,hz3] at hgz
  have hgX:∀b,(Value.slice A1 (n+1) se).ownBlock=some b→(ll B (.slice A n cap) b∨W.heap.size≤b):=fun b hb=>by
   rcases AZ.out with h|h
   ·exact .inl (.inr (.inr (.inr (.inr (h▸hb)))))
   ·rw [h] at hb
    rw [World.size_alloc,hz3] at hb
    exact .inr (by have:=Option.some.inj hb;omega)
  refine ⟨ll B (.slice A1 (n+1) se),?_,?_,_,out++[⟨kd,tx,a⟩],rfl,HT0.out.off (by omega) _ _,HT1.out.off (by omega) _ _,Am.out.off (by omega) _ _,HT3.out.bg 0 _,?_,?_,QZ.out⟩
  ·exact ((((af.refl (fun b=>ll B (.slice A n cap) b∨W.heap.size≤b) W2).set (.inl (.inr (Nat.le_of_eq hX))) _ _).alloc _).grown Hg1.out (fun b hb=>.inl (.inl (.inr (.inr (.inr (.inr hb))))))).set (.inl (.inl (.inr (.inr (.inr (.inl rfl)))))) _ _
  ·intro b hb
   have hsz':(w1.setCell ⟨B+1+1+1,0,none⟩ (.slice A1 (n+1) se)).heap.size=w1.heap.size:=by simp [World.setCell]
   rw [hsz']
   rcases hb with rfl|rfl|rfl|rfl|hb
   ·exact ⟨.inl (.inl rfl),by omega⟩
   ·exact ⟨.inl (.inr (.inl rfl)),by omega⟩
   ·exact ⟨.inl (.inr (.inr (.inl rfl))),by omega⟩
   ·exact ⟨.inl (.inr (.inr (.inr (.inl rfl)))),by omega⟩
   ·exact ⟨hgX b hb,(Vf.out.lt b hb).2⟩
  ·rw [List.length_append,Hn.out,yN]
   exact dY Vf.out (fun b hb=>Below.heap_setCell _ ⟨B+1+1+1,0,none⟩ _ b (by have:=(Vf.out.lt b hb).1;show b≠B+1+1+1;omega))
  ·rw [List.length_append,Hn.out];show n+1≤512;omega
 case done=>
  rintro D C W hD hCD hK ⟨v,out,rfl,QW,hR1,hR2,Tn,hown,hlen,ln⟩ bS hgr
  obtain ⟨A,cap,rfl⟩:=pB hown
  have abn:(0:Int)≤(out.length:Int):=by omega
  obtain ⟨n,hn⟩:∃n,out.length=n:=⟨_,rfl⟩
  rw [hn] at Tn hown
  have Hn:=aa hn
  clear hn
  have hc0:W.cell? ⟨B,0,none⟩=some (.slice none 0 0):=QW.cell 0
  have hc1:W.cell? ⟨B+1,0,none⟩=some (.int .i64 0):=hR1.cell 0
  have hc2:W.cell? ⟨B+2,0,none⟩=some (.int .i64 0):=hR2.cell 0
  have hc3:W.cell? ⟨B+3,0,none⟩=some (.slice A n cap):=Tn.cell 0
  have hf0:=QW.frozen 0
  have ZC:=hR1.frozen 0
  have hf2:=hR2.frozen 0
  have hRv:R=(out,0,0):=by rw [←ln,List.drop_eq_nil_of_le (Nat.le_refl _)];rfl
  have hv5:∀b,(Value.slice A n cap).ownBlock=some b→B+5≤b:=fun b hb=>(hown.lt b hb).1
  have T0:Row (((W.setCell ⟨B,0,none⟩ (.slice A n cap)).setCell ⟨B+1,0,none⟩ (.int .i64 0)).setCell ⟨B+2,0,none⟩ (.int .i64 0)) B 43 #[.slice A n cap]:=((QW.bg 0 (.slice A n cap)).off (by omega) _ _).off (by omega) _ _
  have T1:Row (((W.setCell ⟨B,0,none⟩ (.slice A n cap)).setCell ⟨B+1,0,none⟩ (.int .i64 0)).setCell ⟨B+2,0,none⟩ (.int .i64 0)) (B+1) 3 #[.int .i64 0]:=((hR1.off (by omega) _ _).bg 0 (.int .i64 0)).off (by omega) _ _
  have T2:Row (((W.setCell ⟨B,0,none⟩ (.slice A n cap)).setCell ⟨B+1,0,none⟩ (.int .i64 0)).setCell ⟨B+2,0,none⟩ (.int .i64 0)) (B+2) 26 #[.int .i64 0]:=((hR2.off (by omega) _ _).off (by omega) _ _).bg 0 (.int .i64 0)
  have hKs:(((W.setCell ⟨B,0,none⟩ (.slice A n cap)).setCell ⟨B+1,0,none⟩ (.int .i64 0)).setCell ⟨B+2,0,none⟩ (.int .i64 0)).heap[D]? =some (.deferred (some [])):=
   (Below.heap_setCell _ ⟨B+2,0,none⟩ _ D (by show D≠B+2;omega)).trans ((Below.heap_setCell _ ⟨B+1,0,none⟩ _ D (by show D≠B+1;omega)).trans ((Below.heap_setCell _ ⟨B,0,none⟩ _ D (by show D≠B;omega)).trans hK))
  have Q1:(((W.setCell ⟨B,0,none⟩ (.slice A n cap)).setCell ⟨B+1,0,none⟩ (.int .i64 0)).setCell ⟨B+2,0,none⟩ (.int .i64 0)).ownsRow (B+5) 66 3 (.slice A n cap) n (dK out):=
   dY hown (fun b hb=>by
    have h5:=hv5 b hb
    exact (Below.heap_setCell _ ⟨B+2,0,none⟩ _ b (by show b≠B+2;omega)).trans ((Below.heap_setCell _ ⟨B+1,0,none⟩ _ b (by show b≠B+1;omega)).trans (Below.heap_setCell _ ⟨B,0,none⟩ _ b (by show b≠B;omega))))
  have hbS:Below B w (((W.setCell ⟨B,0,none⟩ (.slice A n cap)).setCell ⟨B+1,0,none⟩ (.int .i64 0)).setCell ⟨B+2,0,none⟩ (.int .i64 0)):=
   (((HBl.out.trans (bS.below (fun b hb=>by
    rcases hb with e|e|e|e|e
    ·omega
    ·omega
    ·omega
    ·omega
    ·simp [Value.ownBlock] at e) (by omega))).setCell (p:=⟨B,0,none⟩) (Nat.le_refl _) _).setCell (p:=⟨B+1,0,none⟩) (by show B≤B+1;omega) _).setCell (p:=⟨B+2,0,none⟩) (by show B≤B+2;omega) _
  have HT0:=aa T0
  have HT1:=aa T1
  have Am:=aa T2
  have HKs:=aa hKs
  have Xp:=aa Q1
  have HbS:=aa hbS
  have QZ:=aa hRv
  have Hv5:=aa hv5
  clear T0 T1 T2 hKs Q1 hbS hRv hv5 hown ln
  gi_wp2
  refine l4 HKs.out (v:=.tuple #[.slice A n cap,.int .i64 0,.int .i64 0]) (gX rfl _ _ ⟨B,0,none⟩ ⟨B+1,0,none⟩ ⟨B+2,0,none⟩ _ _ _ rfl rfl rfl (bf _ _ 43 _ _ ((HT0.out.but (rZ.putObj _ D _) (by omega)).cell 0) Tryz.underlying43 rfl) (bf _ _ 3 _ _ ((HT1.out.but (rZ.putObj _ D _) (by omega)).cell 0) Tryz.underlying3 rfl) (bf _ _ 26 _ _ ((Am.out.but (rZ.putObj _ D _) (by omega)).cell 0) Tryz.underlying26 rfl)) ?_
  refine ⟨_,by rw [HV.out,QZ.out];rfl,?_,?_⟩
  ·rw [HV.out,QZ.out,HwB.out]
   show World.ownsRow _ _ _ _ _ out.length _
   rw [Hn.out]
   exact vO (dY Xp.out (fun b hb=>World.putObj_heap_other (fun e=>hCD (.inr (.inr (.inr (.inr (by rw [Hn.out];exact e▸hb)))))))) (by omega)
  ·rw [HwB.out];exact HbS.out.trans (Ir (rZ.putObj _ D _) (by omega))
 case stop=>
  rintro D c k C W hD hCD hK hk ⟨rfl,v,a,er,rfl,hv,QW,hR1,hR2,jC⟩ bS hgr
  have hc0:(W.putObj D (.deferred none)).cell? ⟨B,0,none⟩=some (.slice none 0 0):=(QW.but (rZ.putObj W D _) (by omega)).cell 0
  have hc1:(W.putObj D (.deferred none)).cell? ⟨B+1,0,none⟩=some (.int .i64 (a:Int)):=(hR1.but (rZ.putObj W D _) (by omega)).cell 0
  have hc2:(W.putObj D (.deferred none)).cell? ⟨B+2,0,none⟩=some (.int .i64 er):=(hR2.but (rZ.putObj W D _) (by omega)).cell 0
  gi_wp2
  refine l4 hK (v:=.tuple #[.slice none 0 0,.int .i64 (a:Int),.int .i64 er]) (gX rfl _ _ ⟨B,0,none⟩ ⟨B+1,0,none⟩ ⟨B+2,0,none⟩ _ _ _ rfl rfl rfl (bf _ _ 43 _ _ hc0 Tryz.underlying43 rfl) (bf _ _ 3 _ _ hc1 Tryz.underlying3 rfl) (bf _ _ 26 _ _ hc2 Tryz.underlying26 rfl)) ?_
  refine ⟨_,by rw [HV.out,jC],by rw [HV.out,jC];exact World.ownsRow_nil _ _ _ _,?_⟩
  rw [HwB.out]
  exact HBl.out.trans (bS.putObj (.inr hD) _|>.below (fun b hb=>by
   rcases hb with e|e|e|e|e
   ·omega
   ·omega
   ·omega
   ·omega
   ·simp [Value.ownBlock] at e) (by omega))
end Go.Proofs.YtddoehnkgcbboaaGreatDoor
namespace Go.Proofs.YtddoehnkgcbboaaGreatDoor
open Go.RowKit Go.Shelf
def pC (W:World) (A:Option Addr) (xs:List Lx):Prop:=
 0<xs.length→∃b off,A=some ⟨b,off,none⟩∧∀i (h:i<xs.length),W.cell? ⟨b,off+i*3,none⟩=some (.int .i64 xs[i].kind)∧W.cell? ⟨b,off+i*3+1,none⟩=some (.string (ae xs[i].text))∧W.cell? ⟨b,off+i*3+2,none⟩=some (.int .i64 (xs[i].aJ:Int))
theorem pC.below {W W':World} {A:Option Addr} {xs:List Lx} (h:pC W A xs) (hb:Below W.heap.size W W'):pC W' A xs:=by
 intro hp
 obtain ⟨b,off,rfl,hat⟩:=h hp
 have aN:b<W.heap.size:=World.block_lt_of_cell? W _ (hat 0 hp).1
 refine ⟨b,off,rfl,fun i hi=>?_⟩
 obtain ⟨h1,h2,h3⟩:=hat i hi
 exact ⟨(hb.cell (p:=⟨b,_,none⟩) aN).trans h1,(hb.cell (p:=⟨b,_,none⟩) aN).trans h2,(hb.cell (p:=⟨b,_,none⟩) aN).trans h3⟩
theorem pC.at {W:World} {A:Option Addr} {xs:List Lx} (h:pC W A xs) {i:Nat} (hi:i<xs.length):
 ∃b off,A=some ⟨b,off,none⟩∧b<W.heap.size∧∀W',Below W.heap.size W W'→W'.cell? ⟨b,off+i*3,none⟩=some (.int .i64 xs[i].kind)∧W'.cell? ⟨b,off+i*3+1,none⟩=some (.string (ae xs[i].text))∧W'.cell? ⟨b,off+i*3+2,none⟩=some (.int .i64 (xs[i].aJ:Int)):=by
 obtain ⟨b,off,rfl,hat⟩:=id h (by omega)
 have aN:b<W.heap.size:=World.block_lt_of_cell? W _ (hat i hi).1
 refine ⟨b,off,rfl,aN,fun W' hb=>?_⟩
 obtain ⟨h1,h2,h3⟩:=hat i hi
 exact ⟨(hb.cell (p:=⟨b,_,none⟩) aN).trans h1,(hb.cell (p:=⟨b,_,none⟩) aN).trans h2,(hb.cell (p:=⟨b,_,none⟩) aN).trans h3⟩
theorem rG:∀(out:List Lx) (i:Nat) (h:i<out.length),(dK out)[i*3]? =some (.int .i64 out[i].kind)∧(dK out)[i*3+1]? =some (.string (ae out[i].text))∧(dK out)[i*3+2]? =some (.int .i64 (out[i].aJ:Int))
 |x::out,0,_=>⟨rfl,rfl,rfl⟩
 |x::out,i+1,h=>by
  have:=rG out i (by simpa using h)
  rw [show (i+1)*3=i*3+3 by omega]
  exact this
theorem Lp {W:World} {base:Nat} {v:Value} {out:List Lx} (h:W.ownsRow base 66 3 v out.length (dK out)):
 ∃A cap,v=.slice A out.length cap∧pC W A out:=by
 rcases Nat.eq_zero_or_pos out.length with h0|h0
 ·obtain ⟨A,cap,hv⟩:=pB h
  exact ⟨A,cap,hv,fun hp=>absurd hp (by omega)⟩
 ·obtain ⟨g,cap,rfl,_⟩:=World.ownsRow.form h h0
  refine ⟨_,cap,rfl,fun hp=>⟨g,0,rfl,fun i hi=>?_⟩⟩
  obtain ⟨h1,h2,h3⟩:=rG out i hi
  have hc:=fun j (hj:j<out.length*3)=>World.ownsRow.cellAt h j hj
  refine ⟨?_,?_,?_⟩
  ·rw [Nat.zero_add,hc (i*3) (by omega)];exact h1
  ·rw [Nat.zero_add,hc (i*3+1) (by omega)];exact h2
  ·rw [Nat.zero_add,hc (i*3+2) (by omega)];exact h3
theorem Ge {a b:List UInt8} (h:ae a=ae b):a=b:=by
 have:=congrArg (fun s:ByteArray=>s.data.toList) h
 exact this
theorem O4 (a b:List UInt8):((ae a).toList==(ae b).toList)=(a==b):=by
 rw [Lib.toList_data,Lib.toList_data,cy,cy]
def NX:List Lx:=[⟨2,[53,110,115],0⟩,⟨6,[45,62],3⟩,⟨0,[114,105,115,101],5⟩]
theorem Tp (l:List UInt8) (hl:l.length≤1000000) (out:List Lx) (a:Nat) (er:Int) (h:eo l=(out,a,er)) (w:World) (hG:Gl w):
 Calls Tryz.prog 30 #[.string (ae l)] w fun e w'=>∃A cap,e=.returned (.tuple #[.slice A out.length cap,.int .i64 (a:Int),.int .i64 er])∧pC w' A out∧Below w.heap.size w w':=
 (sM l hl w hG).mono (by
  rintro e w' ⟨v,rfl,ho,hb⟩
  rw [h] at ho
  obtain ⟨A,cap,rfl,hs⟩:=Lp (out:=out) ho
  exact ⟨A,cap,by rw [h],hs,hb⟩)
theorem Ba:∀k:Fin 16,cv (kZ k.val)=(k.val:Int):=by decide+kernel
theorem wV:∀k:Fin 16,kZ k.val≠34∧kZ k.val≠92:=by decide+kernel
theorem Lq (c:UInt8):UInt8.ofNat (16*((c.toNat / 16:Nat):Int)+((c.toNat % 16:Nat):Int)).toNat=c:=by
 have h:(16*((c.toNat / 16:Nat):Int)+((c.toNat % 16:Nat):Int)).toNat=c.toNat:=by omega
 rw [h,UInt8.ofNat_toNat]
theorem Bb {c:UInt8} (h:c=34∨c=92):dS c=[92,c]:=by unfold dS;rw [if_pos h]
theorem wW {c:UInt8} (h:¬(c=34∨c=92)) (h2:c.toNat<32∨126<c.toNat):dS c=[92,120,kZ (c.toNat / 16),kZ (c.toNat % 16)]:=by unfold dS;rw [if_neg h,if_pos h2]
theorem Bc {c:UInt8} (h:¬(c=34∨c=92)) (h2:¬(c.toNat<32∨126<c.toNat)):dS c=[c]:=by unfold dS;rw [if_neg h,if_neg h2]
theorem Lr (c:UInt8) (r:List UInt8):dT (dS c++r)=some (c,(dS c).length):=by
 have hlt:=c.toNat_lt
 by_cases h:c=34∨c=92
 ·rw [Bb h]
  show dT (92::c::r)=_
  rw [dX]
  simp only [jL]
  rw [if_pos h];rfl
 ·by_cases h2:c.toNat<32∨126<c.toNat
  ·rw [wW h h2]
   show dT (92::120::kZ (c.toNat / 16)::kZ (c.toNat % 16)::r)=_
   rw [dX]
   simp only [jL]
   rw [if_neg (by decide),if_pos trivial]
   have e1:=Ba ⟨c.toNat / 16,by omega⟩
   have e2:=Ba ⟨c.toNat % 16,by omega⟩
   simp only at e1 e2
   rw [e1,e2,if_pos ⟨by omega,by omega⟩,Lq];rfl
  ·rw [Bc h h2]
   exact AX (by omega) (by omega) (fun e=>h (.inl e)) (fun e=>h (.inr e))
theorem Bd:∀l:List UInt8,nZ (l.flatMap dS)=some l
 |[]=>rfl
 |c::t=>by
  rw [qq,qu (Lr c _),List.drop_left,Bd t];rfl
theorem Be (c:UInt8) (r:List UInt8):bz (dS c++r)=(dS c).length+bz r:=by
 have hlt:=c.toNat_lt
 by_cases h:c=34∨c=92
 ·rw [Bb h]
  show bz (92::c::r)=2+bz r
  rw [lh];show bz r+2=_;omega
 ·by_cases h2:c.toNat<32∨126<c.toNat
  ·rw [wW h h2]
   show bz (92::120::kZ (c.toNat / 16)::kZ (c.toNat % 16)::r)=4+bz r
   have e1:=wV ⟨c.toNat / 16,by omega⟩
   have e2:=wV ⟨c.toNat % 16,by omega⟩
   rw [lh]
   show bz (kZ (c.toNat / 16)::kZ (c.toNat % 16)::r)+2=_
   rw [ky _ e1.1 e1.2,ky _ e2.1 e2.2];omega
  ·rw [Bc h h2]
   show bz (c::r)=1+bz r
   rw [ky _ (fun e=>h (.inl e)) (fun e=>h (.inr e))];omega
theorem mh (l:List UInt8):(oI l).length=(l.flatMap dS).length+2:=by
 rw [mY,List.length_cons,List.length_append];rfl
theorem Ls (l:List UInt8):fR (oI l)=if 64<l.length then ([],9) else (l,0):=by
 have hlen:=mh l
 rw [tH (by
  rintro (h|h|h)
  ·omega
  ·exact h rfl
  ·rw [mY] at h
   apply h
   rw [←List.cons_append,List.getLast?_concat])]
 have hm:((oI l).drop 1).take ((oI l).length-2)=l.flatMap dS:=by
  rw [hlen,mY]
  show (l.flatMap dS++[34]).take _=_
  rw [Nat.add_sub_cancel,List.take_left]
 rw [hm]
 unfold qx
 rw [Bd]
def rH:Nat→List UInt8→Option (List UInt8×Nat)
 |0,_=>none
 |_+1,[]=>none
 |k+1,c::t=>if c=34 then some ([],1) else (dT (c::t)).bind fun p=>(rH k ((c::t).drop p.2)).map fun q=>(p.1::q.1,p.2+q.2)
theorem tV:∀(n m:Nat) (l:List UInt8),l.length<n→l.length<m→rH n l=rH m l
 |0,m,l,h,_=>absurd h (by omega)
 |n+1,0,l,_,h=>absurd h (by omega)
 |n+1,m+1,[],_,_=>rfl
 |n+1,m+1,c::t,hn,hm=>by
  simp only [rH]
  by_cases h1:c=34
  ·rw [if_pos h1,if_pos h1]
  ·rw [if_neg h1,if_neg h1]
   cases hs:dT (c::t) with
   |none=>rfl
   |some p=>
    obtain ⟨h1,h2⟩:=jd hs
    simp only [Option.bind_some]
    rw [List.length_cons] at hn hm h2
    rw [tV n m ((c::t).drop p.2) (by rw [List.length_drop,List.length_cons];omega) (by rw [List.length_drop,List.length_cons];omega)]
def mi (l:List UInt8):Option (List UInt8×Nat):=rH (l.length+1) l
theorem Iv (t:List UInt8):mi (34::t)=some ([],1):=by
 unfold mi;simp only [rH];rw [if_pos trivial]
theorem El {c:UInt8} {t:List UInt8} {d:UInt8} {n:Nat} (h1:c≠34) (h:dT (c::t)=some (d,n)):mi (c::t)=(mi ((c::t).drop n)).map fun q=>(d::q.1,n+q.2):=by
 obtain ⟨h2,h3⟩:=jd h
 unfold mi
 conv=>lhs;unfold rH
 rw [if_neg h1,h]
 simp only [Option.bind_some]
 rw [List.length_cons] at h3⊢
 rw [tV (t.length+1) (((c::t).drop n).length+1) _ (by rw [List.length_drop,List.length_cons];omega) (by omega)]
theorem Em {c:UInt8} {t:List UInt8} (h1:c≠34) (h:dT (c::t)=none):mi (c::t)=none:=by
 unfold mi
 conv=>lhs;unfold rH
 rw [if_neg h1,h];rfl
def Bf (l:List UInt8) (a:Nat):Nat×List UInt8:=match mi (l.drop (a+1)) with|none=>(0,[])|some q=>(a+1+q.2,q.1)
def Lt (R:Option (List UInt8×Nat)):Nat×List UInt8:=match R with|none=>(0,[])|some q=>(q.2,q.1)
def iM (l:List UInt8) (a k:Nat) (O:List UInt8):Prop:=Bf l a=Lt ((mi (l.drop k)).map fun q=>(O++q.1,k+q.2))
theorem iM.zero (l:List UInt8) (a:Nat):iM l a (a+1) []:=by
 unfold iM Bf
 cases mi (l.drop (a+1))<;>rfl
theorem iM.step {l:List UInt8} {a k n:Nat} {O:List UInt8} {c d:UInt8} {t:List UInt8} (h:iM l a k O) (hd:l.drop k=c::t) (h1:c≠34) (hs:dT (c::t)=some (d,n)):iM l a (k+n) (O++[d]):=by
 unfold iM at h⊢
 rw [h,hd,El h1 hs,←hd,List.drop_drop]
 cases mi (l.drop (k+n)) with
 |none=>rfl
 |some q=>simp [Lt,Nat.add_assoc]
theorem iM.stop {l:List UInt8} {a k:Nat} {O:List UInt8} {c:UInt8} {t:List UInt8} (h:iM l a k O) (h1:c≠34) (hs:l.drop k=c::t∧dT (c::t)=none):Bf l a=(0,[]):=by
 unfold iM at h
 rw [h,hs.1,Em h1 hs.2];rfl
theorem iM.over {l:List UInt8} {a k:Nat} {O:List UInt8} (h:iM l a k O) (hk:l.length≤k):Bf l a=(0,[]):=by
 unfold iM at h
 rw [h,List.drop_eq_nil_of_le hk];rfl
theorem iM.done {l:List UInt8} {a k:Nat} {O t:List UInt8} (h:iM l a k O) (hd:l.drop k=34::t):Bf l a=(k+1,O):=by
 unfold iM at h
 rw [h,hd,Iv];simp [Lt]
def od:List UInt8→List UInt8
 |[]=>[]
 |[c]=>[c]
 |c::d::t=>if c=48 then od (d::t) else c::d::t
theorem qF:∀l:List UInt8,l≠[]→od l=bI l
 |[],h=>absurd rfl h
 |[c],_=>by
  unfold od bI
  rw [List.dropWhile_cons]
  by_cases h:c=48
  ·subst h;rfl
  ·have hb:(c==48)=false:=by simpa using h
   rw [hb];rfl
 |c::d::t,_=>by
  unfold od
  by_cases h:c=48
  ·subst h
   rw [if_pos rfl,qF (d::t) (by simp)]
   unfold bI
   conv=>rhs;rw [List.dropWhile_cons]
   rfl
  ·rw [if_neg h]
   unfold bI
   have hb:(c==48)=false:=by simpa using h
   rw [List.dropWhile_cons,hb];rfl
theorem getD_at {l:List UInt8} {i:Nat} (h:i<l.length):l.getD i 0=l[i]:=by
 rw [List.getD_eq_getElem?_getD,List.getElem?_eq_getElem h];rfl
theorem tW:∀(t:List UInt8) (v:Nat),t.foldl pk (min v 1000)=min (t.foldl (fun v c=>10*v+(c.toNat-48)) v) 1000
 |[],v=>rfl
 |c::t,v=>by
  rw [List.foldl_cons,List.foldl_cons,←tW t]
  congr 1
  unfold pk
  omega
theorem wX {p:UInt8→Bool}:∀(k:Nat) (t:List UInt8),k≤t.length→(∀c∈t.take k,p c=true)→aQ p t=k+aQ p (t.drop k)
 |0,t,_,_=>by rw [List.drop_zero];omega
 |k+1,[],h,_=>absurd h (by simp)
 |k+1,c::t,h,hp=>by
  rw [eu (hp c (by rw [List.take_succ_cons];exact List.mem_cons_self)),List.drop_succ_cons,wX k t (by rw [List.length_cons] at h;omega) (fun d hd=>hp d (by rw [List.take_succ_cons];exact List.mem_cons_of_mem _ hd))]
  omega
theorem kA {p:UInt8→Bool}:∀(t:List UInt8),∀c∈t.take (aQ p t),p c=true
 |[],c,h=>by cases h
 |d::t,c,h=>by
  cases hp:p d with
  |false=>rw [iw hp] at h;cases h
  |true=>
   rw [eu hp,List.take_succ_cons] at h
   rcases List.mem_cons.1 h with rfl|h
   ·exact hp
   ·exact kA t c h
def mj (t:List UInt8):Bool:=match t with|[]=>true|c::_=> !kW c&&c !=39
theorem Lu (l:List UInt8) (n:Nat):bC l n=mj (l.drop n):=rfl
def wY (c:UInt8):Bool:=kW c||c==39
theorem Iw (t:List UInt8):mj t=true↔aQ wY t=0:=by
 cases t with
 |nil=>exact ⟨fun _=>rfl,fun _=>rfl⟩
 |cons c r=>
  cases h:wY c with
  |true=>
   rw [eu h]
   refine ⟨fun h2=>?_,fun h2=>absurd h2 (by omega)⟩
   simp only [wY,Bool.or_eq_true] at h
   simp only [mj,Bool.and_eq_true,Bool.not_eq_true',bne_iff_ne,ne_eq] at h2
   rcases h with h|h
   ·rw [h2.1] at h;cases h
   ·exact absurd (eq_of_beq h) h2.2
  |false=>
   rw [iw h]
   refine ⟨fun _=>rfl,fun _=>?_⟩
   simp only [wY,Bool.or_eq_false_iff] at h
   simp only [mj,h.1,Bool.not_false,Bool.true_and,bne,h.2]
theorem lq:∀{us:List (List UInt8)} {t:List UInt8},0<fq us t→t.take (fq us t)∈us
 |[],_,h=>absurd h (by show¬0<0;omega)
 |u::us,t,h=>by
  unfold fq at h⊢
  by_cases hp:Lib.hasPrefix t u=true
  ·rw [if_pos hp] at h⊢
   have h2:u<+:t:=List.isPrefixOf_iff_prefix.1 hp
   rw [←List.prefix_iff_eq_take.1 h2]
   exact List.mem_cons_self
  ·rw [if_neg hp] at h⊢
   exact List.mem_cons_of_mem _ (lq h)
theorem Gf:∀u∈cq,∀c∈u,wY c=true:=by decide
theorem En:∀u∈cq,∀r:List UInt8,fq cq (u++r)=u.length:=by
 intro u hu r
 simp only [cq,List.mem_cons,List.not_mem_nil,or_false] at hu
 rcases hu with rfl|rfl|rfl|rfl|rfl|rfl<;>simp [fq,cq,Lib.hasPrefix,List.isPrefixOf]
theorem Eo (t:List UInt8):(mj (t.drop (fW t))=true↔(aQ wY t=0∨t.take (aQ wY t)∈cq))∧(mj (t.drop (fW t))=true→fW t=aQ wY t):=by
 have hle:=(pz t).2
 have hall:∀c∈t.take (fW t),wY c=true:=by
  intro c hc
  by_cases h0:0<fW t
  ·exact Gf _ (lq h0) c hc
  ·rw [show fW t=0 by omega,List.take_zero] at hc;cases hc
 have hs:=wX (p:=wY) _ t hle hall
 rw [Iw]
 refine ⟨⟨fun h=>?_,fun h=>?_⟩,fun h=>by omega⟩
 ·have he:aQ wY t=fW t:=by omega
  by_cases h0:0<fW t
  ·exact .inr (by rw [he];exact lq h0)
  ·exact .inl (by omega)
 ·rcases h with h|h
  ·omega
  ·have h2:=En _ h (t.drop (aQ wY t))
   rw [List.take_append_drop,List.length_take,Nat.min_eq_left (dz _ _)] at h2
   have h3:fW t=aQ wY t:=h2
   omega
theorem wZ {m:List UInt8} {n:Nat} (JW:m.getD n 0≠39):bN m n=0:=by
 by_cases hlt:n<m.length
 ·exact ru hlt (by rw [←getD_at hlt];exact JW)
 ·exact oW (by omega)
theorem w_ {m:List UInt8} {n e:Nat} (hn:aQ aZ m=n) (JW:m.getD n 0≠39) (he:fC m (jB m n)=e) (hlt:n<e):
 dE m=if bC m e then ⟨4,(cz (m.take e)).1,e,(cz (m.take e)).2⟩ else cn 3:=by
 unfold dE tN
 rw [hn,wZ JW,he,if_neg (by omega),if_pos hlt]
theorem Iy {m:List UInt8} {n e:Nat} (hn:aQ aZ m=n) (h0:n≠0) (JW:m.getD n 0≠39) (he:fC m (jB m n)=e) (hlt:¬n<e):
 dE m=if aQ wY (m.drop n)=0∨(m.drop n).take (aQ wY (m.drop n))∈cq then
  (if 15<(od (m.take n)).length then cn 9 else lX (if aQ wY (m.drop n)=0 then 1 else 2) (od (m.take n)++(m.drop n).take (aQ wY (m.drop n))) (n+aQ wY (m.drop n)))
  else cn 3:=by
 have hu:=Eo (m.drop n)
 have hs:od (m.take n)=bI (m.take n):=qF _ (by
  intro h
  have:=congrArg List.length h
  have h1:=dz aZ m
  rw [List.length_take,List.length_nil] at this;omega)
 unfold dE tN
 rw [hn,wZ JW,he,if_neg (by omega),if_neg hlt,hs]
 have ha:bC m (n+fW (m.drop n))=mj ((m.drop n).drop (fW (m.drop n))):=by rw [Lu,List.drop_drop]
 rw [ha]
 by_cases h:mj ((m.drop n).drop (fW (m.drop n)))=true
 ·rw [if_pos (hu.1.1 h),h,if_neg (by decide),hu.2 h]
 ·rw [if_neg (fun h2=>h (hu.1.2 h2)),if_pos (by simpa using h)]
end Go.Proofs.YtddoehnkgcbboaaGreatDoor
namespace Go
open Go.RowKit
theorem ml {P:Program} {fn:Func} {p u v:Tmp} {ty:TypeId} (h:fn.results=#[.cell p ty,.tmp u,.tmp v]) (tmps:Array Value) (w:World) (g:Nat) (t:TypeId) (cs:Array Value) (fr:Nat×Nat) (d:TypeDesc) (x y:Value)
 (hp:tmps.getD p undef=.pointer (some ⟨g,0,none⟩)) (hx:tmps.getD u undef=x) (hy:tmps.getD v undef=y) (hg:w.heap[g]? =some (.cells cs t fr))
 (hu:P.underlying ty=some d) (hd:(match d with|.struct _|.array _ _=>true|_=>false)=true) (hi:(P.info? ty).map (·.size)=some cs.size):
 (results fn tmps).run P w=.ok (.tuple #[.agg cs,x,y]) w:=by
 have hp':tmps[p]?.getD undef=.pointer (some ⟨g,0,none⟩):=by simpa using hp
 have hx':tmps[u]?.getD undef=x:=by simpa using hx
 have hy':tmps[v]?.getD undef=y:=by simpa using hy
 have e:(results fn tmps).run P w=((asAddr (tmps.getD p undef)).run P w).andThen fun a w₁=>((loadVar ty a).run P w₁).andThen fun z w₂=>.ok (.tuple #[z,tmps.getD u undef,tmps.getD v undef]) w₂:=by
  simp only [results,h]
  simp [Sem.run_bind,Result.andThen]
 rw [e]
 simp [hp',hx',hy',asAddr,Result.andThen,run_loadVar_row w g t ty cs fr d hg hu hd hi]
end Go
namespace Go.Proofs.YtddoehnkgcbboaaGreatDoor
open Go.RowKit Go.Shelf
def Gg (a:Nat) (x:Wq) (e:Ending):Prop:=
 ∃(k:Int) (t:ByteArray) (p N:Int),e=.returned (.tuple #[.agg #[.int .i64 k,.string t,.int .i64 p],.int .i64 N,.int .i64 x.err])∧(x.err=0→k=x.kind∧t=ae x.text∧p=(a:Int)∧N=((a+x.size:Nat):Int))
theorem Gg.bad {a:Nat} {x:Wq} {r:Int} (k:Int) (t:ByteArray) (p N:Int) (h:x.err=r) (h0:r≠0):Gg a x (.returned (.tuple #[.agg #[.int .i64 k,.string t,.int .i64 p],.int .i64 N,.int .i64 r])):=
 ⟨k,t,p,N,by rw [h],fun e=>absurd (h.symm.trans e) h0⟩
theorem Gg.good {a:Nat} {k:Int} {t:List UInt8} {n:Nat} {r:Int} {x:Wq} (h:x=⟨k,t,n,r⟩):Gg a x (.returned (.tuple #[.agg #[.int .i64 k,.string (ae t),.int .i64 (a:Int)],.int .i64 ((a+n:Nat):Int),.int .i64 r])):=by
 subst h
 exact ⟨k,ae t,a,((a+n:Nat):Int),rfl,fun _=>⟨rfl,rfl,rfl,rfl⟩⟩
structure Bg (w W:World) (t:TypeId) (z x y:Value):Prop where
 res:Row W w.heap.size t #[.int .i64 0,.string ⟨#[]⟩,.int .i64 0]
 lex:Row W (w.heap.size+1) t #[z,x,y]
 low:Below w.heap.size w W
theorem Bg.new (w:World) (t:TypeId) (z x y:Value):Bg w ((w.alloc (.cells #[.int .i64 0,.string ⟨#[]⟩,.int .i64 0] t)).alloc (.cells #[z,x,y] t)) t z x y:=by
 have e:(w.alloc (.cells #[.int .i64 0,.string ⟨#[]⟩,.int .i64 0] t)).heap.size=w.heap.size+1:=by
  show (w.heap.push _).size=_
  simp
 have r:=Row.new w t #[.int .i64 0,.string ⟨#[]⟩,.int .i64 0]
 refine ⟨r.below ((Below.refl _ _).alloc (Nat.le_refl _) _) r.lt,?_,((Below.refl _ _).alloc (Nat.le_refl _) _).alloc (by rw [e];omega) _⟩
 rw [←e]
 exact Row.new _ _ _
theorem Bg.below {w W W':World} {t:TypeId} {z x y:Value} (h:Bg w W t z x y) (hb:Below W.heap.size W W'):Bg w W' t z x y:=
 ⟨h.res.below hb h.res.lt,h.lex.below hb h.lex.lt,h.low.trans (hb.mono h.low.size)⟩
end Go.Proofs.YtddoehnkgcbboaaGreatDoor
namespace Go.Proofs.YtddoehnkgcbboaaGreatDoor
open Go.RowKit Go.Shelf
theorem Bg.drew {w W:World} {t:TypeId} {z x y:Value} (h:Bg w W t z x y):Bg w W.drew t z x y:=⟨h.res.drew,h.lex.drew,h.low.drew⟩
end Go.Proofs.YtddoehnkgcbboaaGreatDoor
namespace Go.Proofs.YtddoehnkgcbboaaGreatDoor
open Go.RowKit Go.Shelf Go.Sort
def Tq:ByteArray:=⟨#[48,49,120,122,88,90]⟩
structure Bh (w wr:World) (ng:Bool) (dg:ByteArray) (ex:Int):Prop where
 res:Row wr w.heap.size 121 #[.bool false,.string ⟨#[]⟩,.int .i64 0]
 cur:Row wr (w.heap.size+1) 121 #[.bool ng,.string dg,.int .i64 ex]
 Ij:Below w.heap.size w wr
theorem Bh.new (w:World):Bh w ((w.alloc (.cells #[.bool false,.string ⟨#[]⟩,.int .i64 0] 121)).alloc (.cells #[.bool false,.string ⟨#[]⟩,.int .i64 0] 121)) false ⟨#[]⟩ 0 where
 res:=(Row.new _ _ _).alloc _
 cur:=by
  have:=Row.new (w.alloc (.cells #[.bool false,.string ⟨#[]⟩,.int .i64 0] 121)) 121 #[.bool false,.string ⟨#[]⟩,.int .i64 0]
  rw [World.size_alloc] at this
  exact this
 Ij:=((Below.refl w.heap.size w).alloc (Nat.le_refl _) _).alloc (by rw [World.size_alloc];omega) _
theorem Bh.Iz {w wr:World} {ng:Bool} {dg:ByteArray} {ex:Int} (h:Bh w wr ng dg ex) (b:Int):Bh w (wr.setCell ⟨w.heap.size+1,2,none⟩ (.int .i64 b)) ng dg b:=
 ⟨h.res.off (by omega) _ _,h.cur.bg 2 (.int .i64 b),h.Ij.setCell (p:=⟨w.heap.size+1,2,none⟩) (Nat.le_succ _) _⟩
theorem Bh.drew {w wr:World} {ng:Bool} {dg:ByteArray} {ex:Int} (h:Bh w wr ng dg ex):Bh w wr.drew ng dg ex:=⟨h.res.drew,h.cur.drew,h.Ij.drew⟩
end Go.Proofs.YtddoehnkgcbboaaGreatDoor
namespace Go.Proofs.YtddoehnkgcbboaaGreatDoor
open Go.RowKit Go.Shelf
structure Lv (w W:World) (t:TypeId):Prop where
 res:Row W w.heap.size t #[.int .i64 0,.string ⟨#[]⟩,.int .i64 0]
 low:Below w.heap.size w W
theorem Lv.new (w:World) (t:TypeId):Lv w (w.alloc (.cells #[.int .i64 0,.string ⟨#[]⟩,.int .i64 0] t)) t:=
 ⟨Row.new w t _,(Below.refl _ _).alloc (Nat.le_refl _) _⟩
theorem Lv.below {w W W':World} {t:TypeId} (h:Lv w W t) (hb:Below W.heap.size W W'):Lv w W' t:=
 ⟨h.res.below hb h.res.lt,h.low.trans (hb.mono h.low.size)⟩
theorem Lz:∀u∈eA,1≤u.length∧u.length≤3:=by decide
theorem LA {a:Nat} {x:Wq} {r:List (Nat×Wq)} {out:List Lx} (h:x.err≠0):oa ((a,x)::r) out=([],a,x.err):=by
 show (if x.err=0 then _ else _)=_
 rw [if_neg h]
theorem IA {a:Nat} {x:Wq} {r:List (Nat×Wq)} {out:List Lx} (h:x.err=0) (h2:out.length=512):oa ((a,x)::r) out=([],a,9):=by
 show (if x.err=0 then _ else _)=_
 rw [if_pos h,if_pos h2]
theorem IB {a:Nat} {x:Wq} {r:List (Nat×Wq)} {out:List Lx} (h:x.err=0) (h2:out.length≠512):oa ((a,x)::r) out=oa r (out++[⟨x.kind,x.text,a⟩]):=by
 show (if x.err=0 then _ else _)=_
 rw [if_pos h,if_neg h2]
end Go.Proofs.YtddoehnkgcbboaaGreatDoor
