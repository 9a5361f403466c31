/- Packed by program: a part of the proof; the last file says what is proved. -/
import Derived.Test.YtddoehnkgcbboaaGreatDoorPrJ
import Derived.Test.YtddoehnkgcbboaaGreatDoorPrA
import Derived.Test.YtddoehnkgcbboaaGreatDoorPrI
import Derived.Lib.Join
import Derived.BigQuiet
import Derived.Deep.RegionHeld3
import Derived.WalkLawsBesides
set_option maxHeartbeats 16000000
set_option maxRecDepth 100000
set_option linter.unusedVariables false
set_option linter.unusedSimpArgs false
namespace Go.Proofs.YtddoehnkgcbboaaGreatDoor
open Go.RowKit Go.Shelf Go.Sort
structure Ly where
 kind:Int
 text:List UInt8
 pos:Int
def EA (W:World) (A:Option Addr) (xs:List Ly):Prop:=
 0<xs.length→∃b off,A=some ⟨b,off,none⟩∧∀i (h:i<xs.length),W.cell? ⟨b,off+i*3,none⟩=some (.int .i64 xs[i].kind)∧W.cell? ⟨b,off+i*3+1,none⟩=some (.string (ae xs[i].text))∧W.cell? ⟨b,off+i*3+2,none⟩=some (.int .i64 xs[i].pos)
theorem EA.below {W W':World} {A:Option Addr} {xs:List Ly} (h:EA W A xs) (hb:Below W.heap.size W W'):EA W' A xs:=by
 intro hp
 obtain ⟨b,off,rfl,hat⟩:=h hp
 have aN:b<W.heap.size:=World.block_lt_of_cell? W _ (hat 0 hp).1
 refine ⟨b,off,rfl,fun i hi=>?_⟩
 obtain ⟨h1,h2,h3⟩:=hat i hi
 exact ⟨(hb.cell (p:=⟨b,_,none⟩) aN).trans h1,(hb.cell (p:=⟨b,_,none⟩) aN).trans h2,(hb.cell (p:=⟨b,_,none⟩) aN).trans h3⟩
theorem EA.at {W:World} {A:Option Addr} {xs:List Ly} (h:EA W A xs) {i:Nat} (hi:i<xs.length):
 ∃b off,A=some ⟨b,off,none⟩∧b<W.heap.size∧∀W',Below W.heap.size W W'→W'.cell? ⟨b,off+i*3,none⟩=some (.int .i64 xs[i].kind)∧W'.cell? ⟨b,off+i*3+1,none⟩=some (.string (ae xs[i].text))∧W'.cell? ⟨b,off+i*3+2,none⟩=some (.int .i64 xs[i].pos):=by
 obtain ⟨b,off,rfl,hat⟩:=id h (by omega)
 have aN:b<W.heap.size:=World.block_lt_of_cell? W _ (hat i hi).1
 refine ⟨b,off,rfl,aN,fun W' hb=>?_⟩
 obtain ⟨h1,h2,h3⟩:=hat i hi
 exact ⟨(hb.cell (p:=⟨b,_,none⟩) aN).trans h1,(hb.cell (p:=⟨b,_,none⟩) aN).trans h2,(hb.cell (p:=⟨b,_,none⟩) aN).trans h3⟩
def Xs (x:Lx):Ly:=⟨x.kind,x.text,(x.aJ:Int)⟩
theorem pC.ly {W:World} {A:Option Addr} {xs:List Lx} (h:pC W A xs):EA W A (xs.map Xs):=by
 intro hp
 rw [List.length_map] at hp
 obtain ⟨b,off,rfl,hat⟩:=h hp
 refine ⟨b,off,rfl,fun i hi=>?_⟩
 rw [List.length_map] at hi
 simp only [List.getElem_map,Xs]
 exact hat i hi
def eH (ys:List Ly):List (List UInt8):=ys.map fun y=>bj y.kind y.text
def Q_ (y:Ly):Bool:=iD y.kind y.text
def cf (ys:List Ly):List UInt8:=if ys.all Q_ then Lib.join (eH ys) [32] else []
theorem LQ {ys:List Ly} {i:Nat} (hi:i<ys.length) (h:Q_ ys[i]=false):cf ys=[]:=by
 unfold cf
 rw [if_neg]
 intro hall
 rw [List.all_eq_true.1 hall _ (List.getElem_mem hi)] at h
 cases h
theorem IM {ys:List Ly} (h:∀i,∀hi:i<ys.length,Q_ ys[i]=true):cf ys=Lib.join (eH ys) [32]:=by
 unfold cf
 rw [if_pos]
 rw [List.all_eq_true]
 intro y hy
 obtain ⟨i,hi,rfl⟩:=List.mem_iff_getElem.1 hy
 exact h i hi
theorem LR:(Tryz.prog.info? 9).map (fun i=>(i.zero,i.size,i.bytes))=some (some (.string ⟨#[]⟩),1,16):=by kernel_rfl
def nI (xs:List (List UInt8)):List Value:=xs.map fun x=>Value.string (ae x)
theorem EB (xs:List (List UInt8)) (x:List UInt8):nI (xs++[x])=nI xs++[.string (ae x)]:=by unfold nI;simp
theorem xi:∀(xs:List (List UInt8)) (m:Nat),(∀x∈xs,x.length≤m)→(Lib.join xs [32]).length≤xs.length*(m+1)
 |[],m,_=>Nat.zero_le _
 |x::r,m,h=>by
  have ht:∀r:List (List UInt8),(∀x∈r,x.length≤m)→(Lib.joinTail [32] r).length≤r.length*(m+1):=by
   intro r
   induction r with
   |nil=>intro _;exact Nat.zero_le _
   |cons y r ih=>
    intro h
    have h1:=h y List.mem_cons_self
    have h2:=ih (fun z hz=>h z (List.mem_cons_of_mem _ hz))
    have e:Lib.joinTail [32] (y::r)=[32]++y++Lib.joinTail [32] r:=by simp [Lib.joinTail]
    have h3:(y::r).length*(m+1)=r.length*(m+1)+(m+1):=by rw [List.length_cons,Nat.succ_mul]
    rw [e,List.length_append,List.length_append,h3]
    show 1+y.length+_≤_
    omega
  rw [Lib.join_cons,List.length_append,List.length_cons,Nat.succ_mul]
  have h1:=h x List.mem_cons_self
  have h2:=ht r (fun z hz=>h z (List.mem_cons_of_mem _ hz))
  omega
theorem si (xs:List (List UInt8)) (base cap:Nat) (A:Option Addr) (w:World) (h:w.ownsRow base 9 1 (.slice A xs.length cap) xs.length (nI xs)) (hl:xs.length≤1000000) (hj:(Lib.join xs [32]).length≤140737488355328):
 Calls Tryz.prog 213 #[.slice A xs.length cap,.string ⟨#[32]⟩] w fun e w'=>e=.returned (.string (ae (Lib.join xs [32])))∧Below w.heap.size w w':=by
 rcases Nat.eq_zero_or_pos xs.length with h0|h0
 ·obtain rfl:xs=[]:=List.eq_nil_of_length_eq_zero h0
  exact (Tryz.strings_Join_none A cap ⟨#[32]⟩ w).mono fun e w' ⟨he,hw'⟩=>⟨he,hw'▸Below.refl _ _⟩
 ·obtain ⟨g,cp,hv,hg⟩:=h.form h0
  cases hv
  have hcs:∀j,j<xs.length→w.cell? ⟨g,j,none⟩=(nI xs)[j]? :=fun j hj=>World.ownsRow.cellAt h j (by omega)
  have hb:g<w.heap.size:=World.block_lt_of_cell? w _ (hcs 0 h0|>.trans (by unfold nI;rw [List.getElem?_map,List.getElem?_eq_getElem h0];rfl))
  have hm:(xs.map ae).map (fun s=>s.data.toList)=xs:=by rw [List.map_map];exact List.map_id _
  have hc:xs.length≤cap:=by
   obtain ⟨_,h2⟩:=h
   rcases h2 with ⟨hn,_⟩|⟨g2,c2,cur,hv,_,hg2,ab1,tJ⟩
   ·cases hn
   ·cases hv
    first
     |omega
     |(have:=tJ;simp at*;omega)
  have:=Tryz.strings_Join g 0 cap (xs.map ae) ⟨#[32]⟩ w (fun j x hx=>by
   rw [List.getElem?_map] at hx
   obtain ⟨y,hy,rfl⟩:=Option.map_eq_some_iff.1 hx
   have hj:=(List.getElem?_eq_some_iff.1 hy).1
   rw [Nat.zero_add,hcs j hj]
   unfold nI
   rw [List.getElem?_map,hy];rfl) hb (by rw [List.length_map];omega) (by rw [List.length_map];exact hc) (by rw [hm];exact hj)
  rw [List.length_map,hm] at this
  exact this
theorem jf (A:Option Addr) (cap:Nat) (ys:List Ly) (w:World) (hs:EA w A ys) (hl:ys.length≤600) (ht:∀y∈ys,y.text.length≤1000) (hG:Gl w):
 Calls Tryz.prog 184 #[.slice A ys.length cap] w fun e w'=>e=.returned (.string (ae (cf ys)))∧Below w.heap.size w w':=by
 obtain ⟨n,hn⟩:∃n,ys.length=n:=⟨_,rfl⟩
 rw [hn]
 have Hn:=aa hn
 have hn6:n≤600:=by omega
 have Hs:=aa hs
 have HG:=aa hG
 have Ht:=aa (fun (i:Nat) (hi:i<ys.length)=>ht _ (List.getElem_mem hi))
 have HTx:=aa ht
 clear hs hG ht hl hn
 go_enter Tryz.func184,Tryz.ntmps184
 go_wp2_with fail
 go_loopw [3,8] (fun v3 v8 wr=>∃i:Nat,v8=.int .i64 (i:Int)∧i≤n∧(∀j,j<i→∀hj:j<ys.length,Q_ ys[j]=true)∧wr.ownsRow w.heap.size 9 1 v3 i (nI (eH (ys.take i)))∧Below w.heap.size w wr) (fun _ v _=>n-(intOf v).toNat)
 case atStart=>exact ⟨0,rfl,Nat.zero_le _,(fun j h=>absurd h (by omega)),World.ownsRow_nil _ _ _ _,Below.refl _ _⟩
 case round=>
  obtain ⟨i,rfl,hi,hall,hown,hb⟩:=hrel
  have Hb:=aa hb
  have Xt:=aa hall
  have vI:=aa hown
  obtain ⟨A3,Xu,rfl⟩:=pB hown
  clear hall hown hb
  by_cases hlt:i<n
  ·have hi':(i:Int)<(n:Int):=by omega
   have lU:(0:Int)≤(i:Int):=by omega
   have hw1:IntKind.i64.wrap ((i:Int)+1)=(i:Int)+1:=IntWalk.i64_in _ (by omega)
   have hix:i<ys.length:=by rw [Hn.out];exact hlt
   obtain ⟨b,off,rfl,aN,hat⟩:=Hs.out.at hix
   obtain ⟨c0,c1,c2⟩:=hat wr Hb.out
   have fT:=Ht.out i hix
   have VA:=aa (fun (W:World) (hg:Gl W)=>Ez ys[i].kind ys[i].pos ys[i].text W (by omega) hg)
   have FA:=aa (fun (W:World)=>xh ys[i].kind ys[i].pos ys[i].text W (by omega))
   have sH:iD ys[i].kind ys[i].text=Q_ ys[i]:=rfl
   rw [sH] at VA
   unfold Xq at VA FA
   have hsn:eH (ys.take (i+1))=eH (ys.take i)++[bj ys[i].kind ys[i].text]:=by
    unfold eH;rw [List.take_succ_eq_append_getElem hix,List.map_append];rfl
   have HSN:=aa hsn
   have vr:=aa (fun h=>LQ hix h)
   have Ra:=aa (fun (j:Nat) (hj:j<i+1) (JY:j<ys.length) (h:Q_ ys[i]=true)=>show Q_ ys[j]=true from by
    rcases Nat.lt_or_ge j i with h1|h1
    ·exact Xt.out j h1 JY
    ·obtain rfl:j=i:=by omega
     exact h)
   obtain ⟨y,hy⟩:∃y,ys[i]'hix=y:=⟨_,rfl⟩
   rw [hy] at c0 c1 c2 VA FA HSN vr Ra
   obtain ⟨T,hT⟩:∃T,bj y.kind y.text=T:=⟨_,rfl⟩
   rw [hT] at FA HSN
   generalize ae y.text=sy at*
   clear hy hT sH fT hsn hat
   go_wp2_with fail
   obtain ⟨W1,hW1⟩:∃W1,wr.alloc (.cells #[.int .i64 y.kind,.string sy,.int .i64 y.pos] 66)=W1:=⟨_,rfl⟩
   rw [hW1]
   have gJ:=aa (show Row W1 wr.heap.size 66 #[.int .i64 y.kind,.string sy,.int .i64 y.pos] by rw [←hW1];exact Row.new _ _ _)
   have fu:=aa (show Below w.heap.size w W1 by rw [←hW1];exact Hb.out.alloc Hb.out.size _)
   have Vf:=aa (show W1.ownsRow w.heap.size 9 1 (.slice A3 i Xu) i (nI (eH (ys.take i))) by rw [←hW1];exact vI.out.alloc _)
   clear hW1 c0 c1 c2
   refine (VA.out _ (HG.out.below fu.out)).mono ?_
   rintro e w2 ⟨rfl,hb2⟩
   have nz:=aa (show Row w2 wr.heap.size 66 #[.int .i64 y.kind,.string sy,.int .i64 y.pos] from gJ.out.below hb2 gJ.out.lt)
   have iz:=aa (fu.out.trans (hb2.mono fu.out.size))
   have HO2:=aa (ft Vf.out hb2)
   clear hb2 gJ fu Vf
   cases hv:Q_ y with
   |false=>
    have HV:=aa (vr.out hv)
    clear Ra
    go_wp2
    go_ret
    exact ⟨by rw [HV.out];first|done|rfl,iz.out⟩
   |true=>
    have aaP:=aa (fun (j:Nat) (hj:j<i+1) (JY:j<ys.length)=>Ra.out j hj JY hv)
    have r0:=nz.out.cell 0
    have r1:=nz.out.cell 1
    have r2:=nz.out.cell 2
    clear hv vr Ra
    go_wp2_with fail
    refine (FA.out _).mono ?_
    rintro e w3 ⟨rfl,hb3⟩
    have g_:=aa (iz.out.trans (hb3.mono iz.out.size))
    have ZE:=aa (ft HO2.out hb3)
    clear hb3 r0 r1 r2 nz iz HO2
    go_wp2_with (at_builtin;have kx:=ZE.out.alloc (.cells #[.string (ae T)] 9);refine eM _ rfl _ _ 32 rfl w.heap.size 9 LR Tryz.underlying32 rfl (by decide) _ i (nI (eH (ys.take i))) rfl kx ⟨w3.heap.size,0,none⟩ 1 1 [.string (ae T)] rfl rfl (kr _ _ rfl) (by intro u hu;simp only [List.mem_cons,List.not_mem_nil,or_false] at hu;rcases hu with rfl;rfl) (by unfold maxLen;omega) (by omega) (by rw [World.size_alloc];have:=g_.out.size;omega) ?_;intro v' w5 Rc LS _ _)
    have HO5:=aa Rc
    have HG5:=aa LS
    clear Rc LS
    go_roundw
    case rel=>
     refine ⟨i+1,by go_num,by omega,aaP.out,?_,?_⟩
     ·rw [HSN.out,EB];exact HO5.out
     ·exact (g_.out.alloc g_.out.size _).grown HG5.out (by rw [World.size_alloc];have:=g_.out.size;omega) (fun j hj=>(ZE.out.lt j hj).1)
    case measure=>simp [intOf];omega
  ·obtain rfl:i=n:=by omega
   have Vh:(eH ys).length=i:=by unfold eH;rw [List.length_map];exact Hn.out
   have hx:∀x∈eH ys,x.length≤4012:=by
    intro x hx
    obtain ⟨y,hy,rfl⟩:=List.mem_map.1 hx
    have h1:=HTx.out y hy
    have h2:=qI y.kind y.text (by omega)
    omega
   have JY:=xi (eH ys) 4012 hx
   rw [Vh] at JY
   have U9:(Lib.join (eH ys) [32]).length≤140737488355328:=by
    have:=Nat.mul_le_mul_right 4013 hn6
    omega
   have HV:=aa (IM (ys:=ys) (fun j hj=>Xt.out j (by rw [←Hn.out];exact hj) hj))
   have hown:=vI.out
   rw [List.take_of_length_le (by rw [Hn.out];exact Nat.le_refl _)] at hown
   rw [←Vh] at hown
   have JN:=aa (si (eH ys) w.heap.size Xu A3 wr hown (by omega) U9)
   rw [Vh] at JN
   clear hown Vh hx JY U9
   have hi':¬(i:Int)<(i:Int):=by omega
   go_wp2_with fail
   refine JN.out.mono ?_
   rintro e w1 ⟨rfl,hb1⟩
   have VS:=aa hb1
   clear hb1
   go_wp2
   go_ret
   exact ⟨by rw [HV.out];first|done|rfl,Hb.out.trans (VS.out.mono Hb.out.size)⟩
end Go.Proofs.YtddoehnkgcbboaaGreatDoor
namespace Go.Proofs.YtddoehnkgcbboaaGreatDoor
open Go.RowKit Go.Shelf
def kC:List (List UInt8):=[[97,110,100,114],[111,114,114],[120,111,114,114],[116,114,117,101],[102,97,108,115,101],[107,110,111,119,110],[111,110,99,101],[104,105,115,116,111,114,105,99,97,108,108,121],[101,118,101,110,116,117,97,108,108,121],[97,108,119,97,121,115],[115,105,110,99,101],[117,110,116,105,108],[114,105,115,101],[102,97,108,108],[112,111,115,101,100,103,101],[110,101,103,101,100,103,101],[99,104,97,110,103,101],[111,99,99,117,114,115],[98,101,99,111,109,101,115],[105,102],[111,114],[119,104,105,108,101]]
def uf:List (List UInt8)→Nat→List MapEntry
 |[],_=>[]
 |k::ks,n=>{key:=.string (ae k),val:=.bool true,born:=n}::uf ks (n+1)
theorem rJ (a b:List UInt8):Instr.sameNow .string (.string (ae a)) (.string (ae b))=some (a==b):=by
 have h:Instr.sameNow .string (.string (ae a)) (.string (ae b))=some ((ae a).data==(ae b).data):=by
  first
   |rfl
   |simp [Instr.sameNow]
 rw [h]
 congr 1
 by_cases e:a=b
 ·subst e;simp
 ·have h1:(a==b)=false:=beq_eq_false_iff_ne.2 e
  have h2:((ae a).data==(ae b).data)=false:=beq_eq_false_iff_ne.2 fun h=>e (Ge (ByteArray.ext h))
  rw [h1,h2]
theorem pE (x:List UInt8):∀(ks:List (List UInt8)) (n j:Nat),(x∈ks→∃i,Instr.findNow .string (.string (ae x)) (uf ks n) j=some (some (i,.bool true)))∧(x∉ks→Instr.findNow .string (.string (ae x)) (uf ks n) j=some none)
 |[],n,j=>⟨(fun h=>by cases h),fun _=>rfl⟩
 |k::ks,n,j=>by
  obtain ⟨i1,i2⟩:=pE x ks (n+1) (j+1)
  unfold uf Instr.findNow
  rw [rJ]
  by_cases h:x=k
  ·subst h
   rw [beq_self_eq_true]
   exact ⟨fun _=>⟨j,rfl⟩,fun h=>absurd List.mem_cons_self h⟩
  ·have hf:(x==k)=false:=beq_eq_false_iff_ne.2 h
   rw [hf]
   exact ⟨fun hm=>i1 (by rcases List.mem_cons.1 hm with e|e;exact absurd e h;exact e),fun hm=>i2 fun h2=>hm (List.mem_cons_of_mem _ h2)⟩
theorem IP (w:World):(zeroValue 4).run Tryz.prog w=.ok (.bool false) w:=by kernel_rfl
theorem Bu:∀(ks:List (List UInt8)) (n:Nat) (k:List UInt8),uf (ks++[k]) n=uf ks n++[{key:=.string (ae k),val:=.bool true,born:=n+ks.length}]
 |[],n,k=>rfl
 |a::ks,n,k=>by
  rw [List.cons_append]
  unfold uf
  rw [Bu ks (n+1) k,List.length_cons,show n+1+ks.length=n+(ks.length+1) by omega];rfl
theorem bG (w:World) (r n:Nat) (ks:List (List UInt8)) (k:List UInt8) (hn:n=ks.length) (hb:w.heap[r]? =some (.map (uf ks 0).toArray n)) (hk:k∉ks):
 ∃w',(Instr.mapUpdate 165 (.map (some r)) (.string (ae k)) (.bool true)).run Tryz.prog w=.ok () w'∧w'.heap[r]? =some (.map (uf (ks++[k]) 0).toArray (n+1))∧∀B,B≤r→RowKit.Below B w w':=by
 obtain ⟨w',h1,h2,h3⟩:=s9 w 165 9 4 .string r n _ (.string (ae k)) (.bool true) Tryz.underlying165 Tryz.underlying9 trivial hb ((pE k ks 0 0).2 hk)
 refine ⟨w',h1,?_,h3⟩
 rw [h2,Bu,hn,Nat.zero_add]
 simp
theorem IQ (w:World) (r n:Nat) (ks:List (List UInt8)) (x:List UInt8) (hb:w.heap[r]? =some (.map (uf ks 0).toArray n)):
 (Instr.lookup 165 (.map (some r)) (.string (ae x)) false).run Tryz.prog w=.ok (.bool (decide (x∈ks))) w:=by
 by_cases h:x∈ks
 ·obtain ⟨i,hi⟩:=(pE x ks 0 0).1 h
  rw [decide_eq_true h]
  exact Ao w _ _ _ _ r _ _ _ i _ false Tryz.underlying165 Tryz.underlying9 trivial hb hi
 ·rw [decide_eq_false h]
  exact th w _ _ _ _ r _ _ _ _ false Tryz.underlying165 Tryz.underlying9 trivial hb ((pE x ks 0 0).2 h) (IP w)
theorem lr (x:List UInt8) (w:World):Calls Tryz.prog 140 #[.string (ae x)] w fun e w'=>e=.returned (.bool (decide (x∈kC)))∧Below w.heap.size w w':=by
 have hmm:=@run_makeMap Tryz.prog
 have hb0:(w.alloc (.map #[] 0)).heap[w.heap.size]? =some (.map (uf [] 0).toArray 0):=(MapKept.heap_alloc w _).1
 obtain ⟨W1,r1,hb1,b1⟩:=bG _ _ _ _ [97,110,100,114] rfl hb0 (by decide)
 have R1:(Instr.mapUpdate 165 (.map (some w.heap.size)) (.string ⟨#[97,110,100,114]⟩) (.bool true)).run Tryz.prog (w.alloc (.map #[] 0))=.ok () W1:=r1
 clear r1
 obtain ⟨W2,r2,hb2,b2⟩:=bG _ _ _ _ [111,114,114] rfl hb1 (by decide)
 have R2:(Instr.mapUpdate 165 (.map (some w.heap.size)) (.string ⟨#[111,114,114]⟩) (.bool true)).run Tryz.prog W1=.ok () W2:=r2
 clear r2
 obtain ⟨W3,r3,hb3,b3⟩:=bG _ _ _ _ [120,111,114,114] rfl hb2 (by decide)
 have R3:(Instr.mapUpdate 165 (.map (some w.heap.size)) (.string ⟨#[120,111,114,114]⟩) (.bool true)).run Tryz.prog W2=.ok () W3:=r3
 clear r3
 obtain ⟨W4,r4,hb4,b4⟩:=bG _ _ _ _ [116,114,117,101] rfl hb3 (by decide)
 have R4:(Instr.mapUpdate 165 (.map (some w.heap.size)) (.string ⟨#[116,114,117,101]⟩) (.bool true)).run Tryz.prog W3=.ok () W4:=r4
 clear r4
 obtain ⟨W5,r5,hb5,b5⟩:=bG _ _ _ _ [102,97,108,115,101] rfl hb4 (by decide)
 have R5:(Instr.mapUpdate 165 (.map (some w.heap.size)) (.string ⟨#[102,97,108,115,101]⟩) (.bool true)).run Tryz.prog W4=.ok () W5:=r5
 clear r5
 obtain ⟨W6,r6,bA,b6⟩:=bG _ _ _ _ [107,110,111,119,110] rfl hb5 (by decide)
 have R6:(Instr.mapUpdate 165 (.map (some w.heap.size)) (.string ⟨#[107,110,111,119,110]⟩) (.bool true)).run Tryz.prog W5=.ok () W6:=r6
 clear r6
 obtain ⟨W7,r7,kz,b7⟩:=bG _ _ _ _ [111,110,99,101] rfl bA (by decide)
 have R7:(Instr.mapUpdate 165 (.map (some w.heap.size)) (.string ⟨#[111,110,99,101]⟩) (.bool true)).run Tryz.prog W6=.ok () W7:=r7
 clear r7
 obtain ⟨W8,r8,Xv,b8⟩:=bG _ _ _ _ [104,105,115,116,111,114,105,99,97,108,108,121] rfl kz (by decide)
 have R8:(Instr.mapUpdate 165 (.map (some w.heap.size)) (.string ⟨#[104,105,115,116,111,114,105,99,97,108,108,121]⟩) (.bool true)).run Tryz.prog W7=.ok () W8:=r8
 clear r8
 obtain ⟨W9,r9,gW,b9⟩:=bG _ _ _ _ [101,118,101,110,116,117,97,108,108,121] rfl Xv (by decide)
 have R9:(Instr.mapUpdate 165 (.map (some w.heap.size)) (.string ⟨#[101,118,101,110,116,117,97,108,108,121]⟩) (.bool true)).run Tryz.prog W8=.ok () W9:=r9
 clear r9
 obtain ⟨lO,r10,Xw,b10⟩:=bG _ _ _ _ [97,108,119,97,121,115] rfl gW (by decide)
 have R10:(Instr.mapUpdate 165 (.map (some w.heap.size)) (.string ⟨#[97,108,119,97,121,115]⟩) (.bool true)).run Tryz.prog W9=.ok () lO:=r10
 clear r10
 obtain ⟨vP,r11,Xx,b11⟩:=bG _ _ _ _ [115,105,110,99,101] rfl Xw (by decide)
 have R11:(Instr.mapUpdate 165 (.map (some w.heap.size)) (.string ⟨#[115,105,110,99,101]⟩) (.bool true)).run Tryz.prog lO=.ok () vP:=r11
 clear r11
 obtain ⟨IU,r12,Xy,b12⟩:=bG _ _ _ _ [117,110,116,105,108] rfl Xx (by decide)
 have R12:(Instr.mapUpdate 165 (.map (some w.heap.size)) (.string ⟨#[117,110,116,105,108]⟩) (.bool true)).run Tryz.prog vP=.ok () IU:=r12
 clear r12
 obtain ⟨IV,r13,EC,b13⟩:=bG _ _ _ _ [114,105,115,101] rfl Xy (by decide)
 have ZF:(Instr.mapUpdate 165 (.map (some w.heap.size)) (.string ⟨#[114,105,115,101]⟩) (.bool true)).run Tryz.prog IU=.ok () IV:=r13
 clear r13
 obtain ⟨J_,r14,Xz,b14⟩:=bG _ _ _ _ [102,97,108,108] rfl EC (by decide)
 have R14:(Instr.mapUpdate 165 (.map (some w.heap.size)) (.string ⟨#[102,97,108,108]⟩) (.bool true)).run Tryz.prog IV=.ok () J_:=r14
 clear r14
 obtain ⟨XA,r15,XB,b15⟩:=bG _ _ _ _ [112,111,115,101,100,103,101] rfl Xz (by decide)
 have R15:(Instr.mapUpdate 165 (.map (some w.heap.size)) (.string ⟨#[112,111,115,101,100,103,101]⟩) (.bool true)).run Tryz.prog J_=.ok () XA:=r15
 clear r15
 obtain ⟨sj,r16,XC,b16⟩:=bG _ _ _ _ [110,101,103,101,100,103,101] rfl XB (by decide)
 have R16:(Instr.mapUpdate 165 (.map (some w.heap.size)) (.string ⟨#[110,101,103,101,100,103,101]⟩) (.bool true)).run Tryz.prog XA=.ok () sj:=r16
 clear r16
 obtain ⟨W17,r17,XD,b17⟩:=bG _ _ _ _ [99,104,97,110,103,101] rfl XC (by decide)
 have R17:(Instr.mapUpdate 165 (.map (some w.heap.size)) (.string ⟨#[99,104,97,110,103,101]⟩) (.bool true)).run Tryz.prog sj=.ok () W17:=r17
 clear r17
 obtain ⟨W18,r18,XE,b18⟩:=bG _ _ _ _ [111,99,99,117,114,115] rfl XD (by decide)
 have R18:(Instr.mapUpdate 165 (.map (some w.heap.size)) (.string ⟨#[111,99,99,117,114,115]⟩) (.bool true)).run Tryz.prog W17=.ok () W18:=r18
 clear r18
 obtain ⟨W19,r19,XF,b19⟩:=bG _ _ _ _ [98,101,99,111,109,101,115] rfl XE (by decide)
 have R19:(Instr.mapUpdate 165 (.map (some w.heap.size)) (.string ⟨#[98,101,99,111,109,101,115]⟩) (.bool true)).run Tryz.prog W18=.ok () W19:=r19
 clear r19
 obtain ⟨Rf,r20,XG,b20⟩:=bG _ _ _ _ [105,102] rfl XF (by decide)
 have R20:(Instr.mapUpdate 165 (.map (some w.heap.size)) (.string ⟨#[105,102]⟩) (.bool true)).run Tryz.prog W19=.ok () Rf:=r20
 clear r20
 obtain ⟨NY,r21,XH,b21⟩:=bG _ _ _ _ [111,114] rfl XG (by decide)
 have R21:(Instr.mapUpdate 165 (.map (some w.heap.size)) (.string ⟨#[111,114]⟩) (.bool true)).run Tryz.prog Rf=.ok () NY:=r21
 clear r21
 obtain ⟨J',r22,XI,b22⟩:=bG _ _ _ _ [119,104,105,108,101] rfl XH (by decide)
 have R22:(Instr.mapUpdate 165 (.map (some w.heap.size)) (.string ⟨#[119,104,105,108,101]⟩) (.bool true)).run Tryz.prog NY=.ok () J':=r22
 clear r22
 have HL:∀u,u=ae x→(Instr.lookup 165 (.map (some w.heap.size)) (.string u) false).run Tryz.prog J'=.ok (.bool (decide (x∈kC))) J':=fun u hu=>by rw [hu];exact IQ J' _ _ _ x XI
 have B0:Below w.heap.size w (w.alloc (.map #[] 0)):=(Below.refl w.heap.size w).alloc (Nat.le_refl _) _
 have B:=aa ((((((((((((((((((((((B0.trans (b1 _ (Nat.le_refl _))).trans (b2 _ (Nat.le_refl _))).trans (b3 _ (Nat.le_refl _))).trans (b4 _ (Nat.le_refl _))).trans (b5 _ (Nat.le_refl _))).trans (b6 _ (Nat.le_refl _))).trans (b7 _ (Nat.le_refl _))).trans (b8 _ (Nat.le_refl _))).trans (b9 _ (Nat.le_refl _))).trans (b10 _ (Nat.le_refl _))).trans (b11 _ (Nat.le_refl _))).trans (b12 _ (Nat.le_refl _))).trans (b13 _ (Nat.le_refl _))).trans (b14 _ (Nat.le_refl _))).trans (b15 _ (Nat.le_refl _))).trans (b16 _ (Nat.le_refl _))).trans (b17 _ (Nat.le_refl _))).trans (b18 _ (Nat.le_refl _))).trans (b19 _ (Nat.le_refl _))).trans (b20 _ (Nat.le_refl _))).trans (b21 _ (Nat.le_refl _))).trans (b22 _ (Nat.le_refl _)))
 have Tw:=HL _ rfl
 obtain ⟨d,hd⟩:∃d,decide (x∈kC)=d:=⟨_,rfl⟩
 rw [hd] at Tw⊢
 generalize ae x=s at*
 clear HL hd hb0 hb1 b1 hb2 b2 hb3 b3 hb4 b4 hb5 b5 bA b6 kz b7 Xv b8 gW b9 Xw b10 Xx b11 Xy b12 EC b13 Xz b14 XB b15 XC b16 XD b17 XE b18 XF b19 XG b20 XH b21 XI b22 B0
 go_enter Tryz.func140,Tryz.ntmps140
 go_wp2
 go_ret
 exact ⟨rfl,B.out⟩
inductive Nd where
 |mk (kind aJ:Int) (name value:List UInt8) (a b c d:Int) (kids:List Nd)
instance:Inhabited Nd:=⟨.mk 0 0 [] [] 0 0 0 0 []⟩
def Nd.kind:Nd→Int|.mk k _ _ _ _ _ _ _ _=>k
def Nd.aJ:Nd→Int|.mk _ k _ _ _ _ _ _ _=>k
def Nd.name:Nd→List UInt8|.mk _ _ k _ _ _ _ _ _=>k
def Nd.value:Nd→List UInt8|.mk _ _ _ k _ _ _ _ _=>k
def Nd.a:Nd→Int|.mk _ _ _ _ k _ _ _ _=>k
def Nd.b:Nd→Int|.mk _ _ _ _ _ k _ _ _=>k
def Nd.c:Nd→Int|.mk _ _ _ _ _ _ k _ _=>k
def Nd.d:Nd→Int|.mk _ _ _ _ _ _ _ k _=>k
def Nd.kids:Nd→List Nd|.mk _ _ _ _ _ _ _ _ k=>k
def jy:Nd:=.mk 0 0 [] [] 0 0 0 0 []
mutual
def iE:Nd→Nat
 |.mk _ _ _ _ _ _ _ _ ks=>lQ ks+1
def lQ:List Nd→Nat
 |[]=>0
 |n::r=>max (iE n) (lQ r)
end
inductive PR (α:Type) where
 |ok (x:α) (k:Nat)
 |err (aJ e:Int)
def PR.bind {α β:Type}:PR α→(α→Nat→PR β)→PR β
 |.ok x k,f=>f x k
 |.err a e,_=>.err a e
def Bv:List UInt8:=[116,114,117,101]
def yT:List UInt8:=[102,97,108,115,101]
def cj:List UInt8:=[40]
def ay:List UInt8:=[41]
def cJ:List UInt8:=[123]
def a_:List UInt8:=[125]
def fh:List UInt8:=[91]
def dU:List UInt8:=[93]
def au:List UInt8:=[44]
def ug:List UInt8:=[58]
def rK:List UInt8:=[33]
def kg:List UInt8:=[126]
def qJ:List UInt8:=[45]
def om:List UInt8:=[45,62]
def oo:List UInt8:=[119,104,105,108,101]
def O9:List UInt8:=[105,102]
def m_:List UInt8:=[111,99,99,117,114,115]
def pF:List (List UInt8×Int):=[([124,124],30)]
def uh:List (List UInt8×Int):=[([38,38],29)]
def cP:List (List UInt8×Int):=[([61,61],19),([33,61],20),([61,61,61],21),([33,61,61],22),([60],23),([60,61],24),([62],25),([62,61],26)]
def Vi:List (List UInt8×Int):=[([124],10)]
def ED:List (List UInt8×Int):=[([94],11)]
def Bx:List (List UInt8×Int):=[([38],9)]
def yU:List (List UInt8×Int):=[([43],12),([45],13)]
def eB:List (List UInt8×Int):=[([97,110,100,114],14),([111,114,114],15),([120,111,114,114],16),([107,110,111,119,110],27)]
def cY:List (List UInt8×Int):=[([111,110,99,101],31),([104,105,115,116,111,114,105,99,97,108,108,121],32),([101,118,101,110,116,117,97,108,108,121],33),([97,108,119,97,121,115],34),([115,105,110,99,101],35),([117,110,116,105,108],36)]
def b_:List (List UInt8×Int):=[([114,105,115,101],37),([102,97,108,108],38),([112,111,115,101,100,103,101],39),([110,101,103,101,100,103,101],40),([99,104,97,110,103,101],41),([98,101,99,111,109,101,115],43)]
def EF:List (List UInt8×Int):=[([111,114],46)]
section
variable (L : List Lx) (en : Int) (rd : List UInt8 → Int × Int)
def dy (k:Nat):Int:=match L[k]? with|some x=>(x.aJ:Int)|none=>en
def LU (x:Lx):Bool:=decide (x.kind=6)||(decide (x.kind=0)&&decide (x.text∈kC))
def bH (k:Nat) (w:List UInt8):Bool:=match L[k]? with|some x=>LU x&&decide (x.text=w)|none=>false
def bT (k:Nat) (q:Int):Bool:=match L[k]? with|some x=>decide (x.kind=q)&&(decide (q≠0)|| !decide (x.text∈kC))|none=>false
def fX (k:Nat):List UInt8:=match L[k]? with|some x=>x.text|none=>[]
def fj {α:Type} (k:Nat):PR α:=.err (dy L en k) 3
def ah (k:Nat) (w:List UInt8):PR Unit:=if bH L k w then .ok () (k+1) else fj L en k
def eC (k:Nat) (most:Int):PR Int:=if bT L k 1 then (if most<(dv (fX L k):Int) then .err (dy L en k) 2 else .ok (dv (fX L k):Int) (k+1)) else fj L en k
def aP (k:Nat):PR Int:=if bT L k 2 then (if (rd (fX L k)).2=0 then .ok (rd (fX L k)).1 (k+1) else .err (dy L en k) (rd (fX L k)).2) else eC L en k 1099511627776
def iO (ops:List (List UInt8×Int)) (k:Nat):Option Int:=(ops.find? fun p=>bH L k p.1).map (·.2)
def eI (ops:List (List UInt8×Int)) (f:Nat→PR Nd):Nat→Nd→Nat→PR Nd
 |0,n,k=>.ok n k
 |m+1,n,k=>match iO L ops k with
  |none=>.ok n k
  |some q=>(f (k+1)).bind fun x k'=>eI ops f m (.mk q (dy L en k) [] [] 0 0 0 0 [n,x]) k'
def cA (ops:List (List UInt8×Int)) (f:Nat→PR Nd) (k:Nat):PR Nd:=(f k).bind fun n k'=>eI L en ops f (L.length+1) n k'
def ui (ng cmp:Nat→PR Nd) (k:Nat):PR Nd:=if bH L k rK then (ng (k+1)).bind fun x k'=>.ok (.mk 28 (dy L en k) [] [] 0 0 0 0 [x]) k' else cmp k
def vQ (dm:Nat→PR Nd) (k:Nat):PR Nd:=(dm k).bind fun n k1=>match iO L cP k1 with
 |none=>.ok n k1
 |some q=>(dm (k1+1)).bind fun x k2=>.ok (.mk q (dy L en k1) [] [] 0 0 0 0 [n,x]) k2
def yV (t:List UInt8):List UInt8:=if t=[48] then [48] else 45::t
def mn (n:Nd) (k1:Nat):PR Nd:=(eC L en (k1+1) 32768).bind fun a k2=>if bH L k2 ug then (eC L en (k2+1) 32768).bind fun b k3=>(ah L en k3 dU).bind fun _ k4=>.ok (.mk 6 (dy L en k1) [] [] a b 0 0 [n]) k4
 else (ah L en k2 dU).bind fun _ k4=>.ok (.mk 6 (dy L en k1) [] [] a a 0 0 [n]) k4
def Gj (un qK:Nat→PR Nd) (k:Nat):PR Nd:=
 if bH L k kg then (un (k+1)).bind fun x k'=>.ok (.mk 8 (dy L en k) [] [] 0 0 0 0 [x]) k'
 else if bH L k qJ then (if bT L (k+1) 4 then .ok (.mk 4 (dy L en k) [] (yV (fX L (k+1))) 0 0 0 0 []) (k+2) else fj L en (k+1))
 else (qK k).bind fun n k1=>if bH L k1 fh then mn L en n k1 else .ok n k1
def iF (k:Nat):Option Nd:=
 if bT L k 0 then some (.mk 1 (dy L en k) (fX L k) [] 0 0 0 0 [])
 else if bT L k 1 then some (.mk 3 (dy L en k) [] (fX L k) 0 0 0 0 [])
 else if bT L k 3 then some (.mk 2 (dy L en k) [] (fX L k) 0 0 0 0 [])
 else if bT L k 4 then some (.mk 4 (dy L en k) [] (fX L k) 0 0 0 0 [])
 else if bT L k 5 then some (.mk 5 (dy L en k) [] (fX L k) 0 0 0 0 [])
 else none
def h_ (dm:Nat→PR Nd):Nat→List Nd→Nat→PR (List Nd)
 |0,l,k=>.ok l k
 |m+1,l,k=>if bH L k au then (dm (k+1)).bind fun x k'=>h_ dm m (l++[x]) k' else .ok l k
def fE (k:Nat) (f:Int→Int→Nat→PR Nd):PR Nd:=(aP L en rd k).bind fun a k1=>(ah L en k1 au).bind fun _ k2=>(aP L en rd k2).bind fun b k3=>f a b k3
def jn (cond:Nat→PR Nd) (q aJ:Int) (k:Nat):PR Nd:=(ah L en k cj).bind fun _ k1=>(cond k1).bind fun x k2=>(ah L en k2 au).bind fun _ k3=>
 if q=35∨q=36 then (cond k3).bind fun y k4=>(ah L en k4 au).bind fun _ k5=>fE L en rd k5 fun a b k6=>(ah L en k6 ay).bind fun _ k7=>.ok (.mk q aJ [] [] a b 0 0 [x,y]) k7
 else fE L en rd k3 fun a b k6=>(ah L en k6 ay).bind fun _ k7=>.ok (.mk q aJ [] [] a b 0 0 [x]) k7
def gA (cond dm:Nat→PR Nd) (k:Nat):PR Nd:=match iF L en k with
 |some n=>.ok n (k+1)
 |none=>
  if bH L k Bv then .ok (.mk 17 (dy L en k) [] [] 0 0 0 0 []) (k+1)
  else if bH L k yT then .ok (.mk 18 (dy L en k) [] [] 0 0 0 0 []) (k+1)
  else if bH L k cj then (cond (k+1)).bind fun n k'=>(ah L en k' ay).bind fun _ k2=>.ok n k2
  else if bH L k cJ then (dm (k+1)).bind fun n k'=>(h_ L dm (L.length+1) [n] k').bind fun l k2=>(ah L en k2 a_).bind fun _ k3=>.ok (.mk 7 (dy L en k) [] [] 0 0 0 0 l) k3
  else match iO L eB k with
   |some q=>(ah L en (k+1) cj).bind fun _ k1=>(cond k1).bind fun x k2=>(ah L en k2 ay).bind fun _ k3=>.ok (.mk q (dy L en k) [] [] 0 0 0 0 [x]) k3
   |none=>match iO L cY k with
    |some q=>jn L en rd cond q (dy L en k) (k+1)
    |none=>fj L en k
structure Fns where
 cond:Nat→PR Nd
 ng:Nat→PR Nd
 dm:Nat→PR Nd
 un:Nat→PR Nd
def Tx (un:Nat→PR Nd):Nat→PR Nd:=cA L en Vi (cA L en ED (cA L en Bx (cA L en yU un)))
def cV:Nat→Fns
 |0=>⟨fun _=>.err 0 0,fun _=>.err 0 0,fun _=>.err 0 0,fun _=>.err 0 0⟩
 |f+1=>
  let un:=Gj L en (cV f).un (gA L en rd (cV f).cond (cV f).dm)
  let dm:=Tx L en un
  let ng:=ui L en (cV f).ng (vQ L en dm)
  ⟨cA L en pF (cA L en uh ng),ng,dm,un⟩
def cM:Nat→PR Nd:=(cV L en rd (L.length+1)).cond
def kh (cond:Nat→PR Nd) (k:Nat):PR Nd:=
 if bH L k m_ then (ah L en (k+1) cj).bind fun _ k1=>if bT L k1 0 then (ah L en (k1+1) ay).bind fun _ k2=>.ok (.mk 42 (dy L en k) [] [] 0 0 0 0 [.mk 1 (dy L en k1) (fX L k1) [] 0 0 0 0 []]) k2 else fj L en k1
 else match iO L b_ k with
  |some q=>(ah L en (k+1) cj).bind fun _ k1=>(cond k1).bind fun x k2=>(ah L en k2 ay).bind fun _ k3=>.ok (.mk q (dy L en k) [] [] 0 0 0 0 [x]) k3
  |none=>fj L en k
def mo (cond pat:Nat→PR Nd) (k:Nat):PR Nd:=
 if bH L k cj then (pat (k+1)).bind fun n k1=>(ah L en k1 ay).bind fun _ k2=>.ok n k2
 else (kh L en cond k).bind fun n k1=>if bH L k1 O9 then (cond (k1+1)).bind fun c k2=>.ok (.mk 44 (dy L en k1) [] [] 0 0 0 0 [n,c]) k2 else .ok n k1
def fY {α:Type} (k:Nat) (f:Int→Int→Nat→PR α):PR α:=(ah L en k fh).bind fun _ k1=>(aP L en rd k1).bind fun a k2=>(ah L en k2 au).bind fun _ k3=>(aP L en rd k3).bind fun b k4=>(ah L en k4 dU).bind fun _ k5=>f a b k5
def cF (cond:Nat→PR Nd) (k:Nat):PR (List Nd):=if bH L k oo then (cond (k+1)).bind fun c k'=>.ok [c] k' else .ok [] k
def fK (cond pat:Nat→PR Nd) (k:Nat):PR Nd:=(mo L en cond pat k).bind fun n k1=>
 if bH L k1 cJ then (eC L en (k1+1) 32768).bind fun a k2=>(ah L en k2 au).bind fun _ k3=>(eC L en k3 32768).bind fun b k4=>(ah L en k4 au).bind fun _ k5=>fY L en rd k5 fun c d k6=>(cF L cond k6).bind fun l k7=>(ah L en k7 a_).bind fun _ k8=>.ok (.mk 47 (dy L en k1) [] [] a b c d (n::l)) k8
 else .ok n k1
def iR (cond pat:Nat→PR Nd):Nat→Nd→Nat→PR Nd
 |0,n,k=>.ok n k
 |m+1,n,k=>if bH L k om then fY L en rd (k+1) fun a b k1=>(cF L cond k1).bind fun l k2=>(fK L en rd cond pat k2).bind fun x k3=>iR cond pat m (.mk 45 (dy L en k) [] [] a b 0 0 (n::x::l)) k3 else .ok n k
def Bz (cond pat:Nat→PR Nd) (k:Nat):PR Nd:=(fK L en rd cond pat k).bind fun n k1=>iR L en rd cond pat (L.length+1) n k1
def nC:Nat→Nat→PR Nd
 |0=>fun _=>.err 0 0
 |f+1=>cA L en EF (Bz L en rd (cM L en rd) (nC f))
def IW:Nat→PR Nd:=nC L en rd (L.length+1)
def EG (r:PR Nd):Nd×Int×Int:=match r with
 |.ok n k=>if k<L.length then (jy,dy L en k,3) else if 32<iE n then (jy,0,9) else (n,0,0)
 |.err a e=>(jy,a,e)
end
def lu (pat:Bool) (t:List UInt8) (ok:Bool) (rd:List UInt8→Int×Int):Nd×Int×Int:=
 if ok then (if (eo t).2.2=0 then EG (eo t).1 (t.length:Int) (if pat then IW (eo t).1 (t.length:Int) rd 0 else cM (eo t).1 (t.length:Int) rd 0) else (jy,((eo t).2.1:Int),(eo t).2.2)) else (jy,0,1)
abbrev St:=List UInt8×Bool
def dD (st:St) (s:List UInt8):St:=if s=[] then st else ((if st.2&&decide (s.head? ≠some 32) then st.1++[32] else st.1)++s,false)
def gN (st:St) (l:List (List UInt8)):St:=l.foldl dD st
def kD (k:Int):Option (List UInt8×Int×Int×Int):=
 if k=30 then some ([124,124],0,0,1) else
 if k=29 then some ([38,38],1,1,2) else
 if k=10 then some ([124],4,4,5) else
 if k=11 then some ([94],5,5,6) else
 if k=9 then some ([38],6,6,7) else
 if k=12 then some ([43],7,7,8) else
 if k=13 then some ([45],7,7,8) else
 if k=46 then some ([111,114],10,10,11) else
 if k=19 then some ([61,61],3,4,4) else
 if k=20 then some ([33,61],3,4,4) else
 if k=21 then some ([61,61,61],3,4,4) else
 if k=22 then some ([33,61,61],3,4,4) else
 if k=23 then some ([60],3,4,4) else
 if k=24 then some ([60,61],3,4,4) else
 if k=25 then some ([62],3,4,4) else
 if k=26 then some ([62,61],3,4,4) else
 none
def nJ (k:Int):Option (List UInt8):=
 if k=14 then some ([97,110,100,114]) else
 if k=15 then some ([111,114,114]) else
 if k=16 then some ([120,111,114,114]) else
 if k=27 then some ([107,110,111,119,110]) else
 none
def vR (k:Int):Option (List UInt8):=
 if k=37 then some ([114,105,115,101]) else
 if k=38 then some ([102,97,108,108]) else
 if k=39 then some ([112,111,115,101,100,103,101]) else
 if k=40 then some ([110,101,103,101,100,103,101]) else
 if k=41 then some ([99,104,97,110,103,101]) else
 if k=43 then some ([98,101,99,111,109,101,115]) else
 none
def Rg (k:Int):Option (List UInt8):=
 if k=31 then some ([111,110,99,101]) else
 if k=32 then some ([104,105,115,116,111,114,105,99,97,108,108,121]) else
 if k=33 then some ([101,118,101,110,116,117,97,108,108,121]) else
 if k=34 then some ([97,108,119,97,121,115]) else
 if k=35 then some ([115,105,110,99,101]) else
 if k=36 then some ([117,110,116,105,108]) else
 none
def pG (sg:List UInt8→Int) (n:Nd):Int:=match kD n.kind with
 |some x=>x.2.1
 |none=>if n.kind=28 then 2 else if n.kind=8∨n.kind=6 then 8 else if n.kind=4∧sg n.value<0 then 8 else if n.kind=45 then 11 else if n.kind=47 then 12 else if n.kind=44 then 13 else if (vR n.kind).isSome∨n.kind=42 then 13 else 9
def fw (n:Nd) (un uv ua uc:Bool):Bool:=(decide (n.name=[])||un)&&(decide (n.value=[])||uv)&&(decide (n.a=0)||ua)&&(decide (n.b=0)||ua)&&(decide (n.c=0)||uc)&&(decide (n.d=0)||uc)
def jD (x most:Int) (st:St):Option St:=if x<0∨most<x then none else some (dD st (Lib.itoa x))
def lz (a b:Int) (st:St):Option St:=(jD a 1099511627776 (dD st [91])).bind fun st=>(jD b 1099511627776 (dD st [44,32])).bind fun st=>some (dD st [93])
abbrev Pw:=Int→St→Option St
def mq (fs:List Pw) (i:Nat):Pw:=fun bn st=>match fs[i]? with|some f=>f bn st|none=>none
def mr:List Pw→St→Option St
 |[],st=>some st
 |f::r,st=>(f 0 (dD st [32,119,104,105,108,101,32])).bind (mr r)
def Rh:List Pw→List UInt8→St→Option St
 |[],_,st=>some st
 |f::r,s,st=>(f 4 (dD st s)).bind (Rh r [44,32])
def LW:List Pw→St→Option St
 |[],st=>some st
 |f::r,st=>(f 0 st).bind fun st=>LW r (dD st [44,32])
def lK (n:Nd) (fs:List Pw) (s:List UInt8) (bn:Int) (st:St):Option St:=if fw n false false false false∧fs.length=1 then (mq fs 0 bn (gN st [s,[40]])).bind fun st=>some (dD st [41]) else none
def Ri (n:Nd) (fs:List Pw) (s:List UInt8) (st:St):Option St:=
 if fw n false false true false∧fs.length=(if n.kind=35∨n.kind=36 then 2 else 1) then (LW fs (gN st [s,[40]])).bind fun st=>(jD n.a 1099511627776 st).bind fun st=>(jD n.b 1099511627776 (dD st [44,32])).bind fun st=>some (dD st [41]) else none
def iT (k:Int):Int:=if k=3 then 1 else if k=2 then 3 else if k=4 then 4 else if k=5 then 5 else 0
def jo (s:List UInt8):Bool:=match s.reverse.idxOf? 92 with|some i=> !decide ((32:UInt8)∈s.drop (s.length-1-i))|none=>false
def cK (sg:List UInt8→Int) (ng:List UInt8→List UInt8) (n:Nd) (fs:List Pw) (st:St):Option St:=
 if fs.length≠0 then none
 else if n.kind=1 then (if fw n true false false false∧n.name∉kC∧cf [⟨0,n.name,0⟩]≠[] then some ((dD st (cf [⟨0,n.name,0⟩])).1,jo (cf [⟨0,n.name,0⟩])) else none)
 else if fw n false true false false∧iT n.kind≠0 then
  (if n.kind=4∧sg n.value<0 then (if cf [⟨4,ng n.value,0⟩]≠[] then some (dD (dD st [45]) (cf [⟨4,ng n.value,0⟩])) else none)
   else if cf [⟨iT n.kind,n.value,0⟩]≠[] then some (dD st (cf [⟨iT n.kind,n.value,0⟩])) else none)
 else none
def fF (sg:List UInt8→Int) (ng:List UInt8→List UInt8) (n:Nd) (fs:List Pw) (st:St):Option St:=
 if n.kind=17∨n.kind=18 then (if fw n false false false false∧fs.length=0 then some (dD st (if n.kind=17 then Bv else yT)) else none)
 else if n.kind=28∨n.kind=8 then (if fw n false false false false∧fs.length=1 then mq fs 0 (pG sg n) (dD st (if n.kind=28 then rK else kg)) else none)
 else if n.kind=6 then (if fw n false false true false∧fs.length=1 then (mq fs 0 9 st).bind fun st=>(jD n.a 32768 (dD st [91])).bind fun st=>(if n.a≠n.b then jD n.b 32768 (dD st [58]) else some st).bind fun st=>some (dD st [93]) else none)
 else if n.kind=7 then (if fw n false false false false∧1≤fs.length then (Rh fs [123] st).bind fun st=>some (dD st [125]) else none)
 else cK sg ng n fs st
def vS (sg:List UInt8→Int) (n:Nd) (fs:List Pw) (st:St):Option St:=
 if n.kind=45 then (if fw n false false true false∧2≤fs.length∧fs.length≤3 then (mq fs 0 11 st).bind fun st=>(lz n.a n.b (dD st [32,45,62,32])).bind fun st=>(mr (fs.drop 2) st).bind fun st=>mq fs 1 12 (dD st [32]) else none)
 else if n.kind=47 then (if fw n false false true true∧1≤fs.length∧fs.length≤2 then (mq fs 0 13 st).bind fun st=>(jD n.a 32768 (dD st [123])).bind fun st=>(jD n.b 32768 (dD st [44,32])).bind fun st=>(lz n.c n.d (dD st [44,32])).bind fun st=>(mr (fs.drop 1) st).bind fun st=>some (dD st [125]) else none)
 else if n.kind=44 then (if fw n false false false false∧fs.length=2∧pG sg (n.kids.getD 0 jy)=13∧(n.kids.getD 0 jy).kind≠44 then (mq fs 0 13 st).bind fun st=>mq fs 1 0 (dD st [32,105,102,32]) else none)
 else if n.kind=42 then (if fw n false false false false∧fs.length=1∧(n.kids.getD 0 jy).kind=1 then lK n fs m_ 9 st else none)
 else none
def eJ (sg:List UInt8→Int) (ng:List UInt8→List UInt8) (n:Nd) (fs:List Pw) (st:St):Option St:=match kD n.kind with
 |some x=>if fw n false false false false∧fs.length=2 then (mq fs 0 x.2.2.1 st).bind fun st=>mq fs 1 x.2.2.2 (gN st [[32],x.1,[32]]) else none
 |none=>match nJ n.kind with
  |some s=>lK n fs s 0 st
  |none=>match vR n.kind with
   |some s=>lK n fs s 0 st
   |none=>match Rg n.kind with
    |some s=>Ri n fs s st
    |none=>if (45≤n.kind∧n.kind≤47)∨n.kind=44∨n.kind=42 then vS sg n fs st else fF sg ng n fs st
def xj (sg:List UInt8→Int) (ng:List UInt8→List UInt8) (n:Nd) (fs:List Pw):Pw:=fun bn st=>
 if decide (10≤pG sg n)≠decide (10≤bn) then none
 else if bn≤pG sg n then eJ sg ng n fs st
 else (eJ sg ng n fs (dD st [40])).bind fun st=>some (dD st [41])
mutual
def cQ (sg:List UInt8→Int) (ng:List UInt8→List UInt8):Nd→Pw
 |.mk k aJ nm v a b c d ks=>xj sg ng (.mk k aJ nm v a b c d ks) (aG sg ng ks)
def aG (sg:List UInt8→Int) (ng:List UInt8→List UInt8):List Nd→List Pw
 |[]=>[]
 |n::r=>cQ sg ng n::aG sg ng r
end
def gC (sg:List UInt8→Int) (ng:List UInt8→List UInt8) (n:Nd):Option (List UInt8):=
 if 32<iE n then none
 else match cQ sg ng n (if 10≤pG sg n then 10 else 0) ([],false) with
  |some st=>if (eo st.1).2.2=0 then some st.1 else none
  |none=>none
def mv (C:Nat→Prop) (W:World) (A:Option Addr) (bF:List (List Value)):Prop:=
 0<bF.length→∃b off,A=some ⟨b,off,none⟩∧¬C b∧b<W.heap.size∧∀i (h:i<bF.length) j,j<9→W.cell? ⟨b,off+i*9+j,none⟩=(bF[i])[j]?
def aw (kind aJ:Int) (name value:List UInt8) (a b c d:Int) (s:Value):List Value:=[.int .i64 kind,.int .i64 aJ,.string (ae name),.string (ae value),.int .i64 a,.int .i64 b,.int .i64 c,.int .i64 d,s]
inductive cG (C:Nat→Prop) (W:World):Nd→List Value→Prop
 |mk (kind aJ:Int) (name value:List UInt8) (a b c d:Int) (ks:List Nd) (A:Option Addr) (cap:Nat) (bF:List (List Value)) (hl:bF.length=ks.length)
  (hk:∀i (h:i<ks.length) (h':i<bF.length),cG C W ks[i] bF[i]) (hr:mv C W A bF) (cI:ks.length≤cap):cG C W (.mk kind aJ name value a b c d ks) (aw kind aJ name value a b c d (.slice A ks.length cap))
theorem mv.keeps {C:Nat→Prop} {W W':World} {A:Option Addr} {bF:List (List Value)} (h:mv C W A bF) (hk:af C W W'):mv C W' A bF:=by
 intro hp
 obtain ⟨b,off,rfl,hb,hz,hat⟩:=h hp
 exact ⟨b,off,rfl,hb,Nat.lt_of_lt_of_le hz hk.size,fun i hi j hj=>(hk.cell (p:=⟨b,_,none⟩) hz hb).trans (hat i hi j hj)⟩
theorem cG.keeps {C:Nat→Prop} {W W':World} {n:Nd} {cs:List Value} (h:cG C W n cs) (hk:af C W W'):cG C W' n cs:=by
 induction h with
 |mk kind aJ name value a b c d ks A cap bF hl _ hr cI ih=>exact .mk _ _ _ _ _ _ _ _ _ _ _ bF hl ih (hr.keeps hk) cI
theorem mv.mono {C C':Nat→Prop} {W:World} {A:Option Addr} {bF:List (List Value)} (h:mv C W A bF) (hc:∀b,C' b→C b):mv C' W A bF:=by
 intro hp
 obtain ⟨b,off,rfl,hb,hz,hat⟩:=h hp
 exact ⟨b,off,rfl,fun e=>hb (hc b e),hz,hat⟩
theorem cG.mono {C C':Nat→Prop} {W:World} {n:Nd} {cs:List Value} (h:cG C W n cs) (hc:∀b,C' b→C b):cG C' W n cs:=by
 induction h with
 |mk kind aJ name value a b c d ks A cap bF hl _ hr cI ih=>exact .mk _ _ _ _ _ _ _ _ _ _ _ bF hl ih (hr.mono hc) cI
theorem cG.len {C:Nat→Prop} {W:World} {n:Nd} {cs:List Value} (h:cG C W n cs):cs.length=9:=by cases h;rfl
theorem cG.leaf (C:Nat→Prop) (W:World) (kind aJ:Int) (name value:List UInt8) (a b c d:Int) (A:Option Addr) (cap:Nat):cG C W (.mk kind aJ name value a b c d []) (aw kind aJ name value a b c d (.slice A 0 cap)):=
 .mk kind aJ name value a b c d [] A cap [] rfl (fun i h=>absurd h (Nat.not_lt_zero _)) (fun h=>absurd h (by decide)) (Nat.zero_le _)
structure PS where
 L:List Lx
 en:Int
 sc:Int
 A:Option Addr
 cap:Nat
 b:Nat
structure LZ (x:Lx):Prop where
 num:x.kind=1→(∀c∈x.text,aZ c=true)∧1≤x.text.length∧x.text.length≤15
 len:x.text.length≤1000000
 real:x.kind=4→∃l,(∀c,l.head? =some c→aZ c=true)∧(cz l).2=0∧x.text=(cz l).1
structure bc (p:PS) (W:World) (k:Nat):Prop where
 row:Row W p.b 60 #[.slice p.A p.L.length p.cap,.int .i64 (k:Int),.int .i64 p.en,.int .i64 p.sc]
 lx:pC W p.A p.L
 ne:∀a,p.A=some a→a.block≠p.b
 le:k≤p.L.length
 small:p.L.length≤512
 gl:Gl W
 gb:3≠p.b∧2≠p.b
 good:∀x∈p.L,LZ x
theorem bc.below {p:PS} {W W':World} {k:Nat} (h:bc p W k) (hb:Below W.heap.size W W'):bc p W' k:=
 ⟨h.row.below hb h.row.lt,h.lx.below hb,h.ne,h.le,h.small,h.gl.below hb,h.gb,h.good⟩
theorem bc.above {p:PS} {W0 W W':World} {k0 k:Nat} (h0:bc p W0 k0) (h:bc p W k) (hb:Below W0.heap.size W W'):bc p W' k:=by
 refine ⟨h.row.below hb h0.row.lt,fun hp=>?_,h.ne,h.le,h.small,h.gl.low h0.gl.lt hb,h.gb,h.good⟩
 obtain ⟨bl,off,hA,hat⟩:=h.lx hp
 obtain ⟨bl0,aaQ,IX,Ty⟩:=h0.lx hp
 have hz:bl<W0.heap.size:=by
  rw [hA] at IX;cases IX
  exact World.block_lt_of_cell? W0 _ (Ty 0 hp).1
 exact ⟨bl,off,hA,fun i hi=>by
  obtain ⟨a,b,c⟩:=hat i hi
  exact ⟨(hb.cell (p:=⟨bl,_,none⟩) hz).trans a,(hb.cell (p:=⟨bl,_,none⟩) hz).trans b,(hb.cell (p:=⟨bl,_,none⟩) hz).trans c⟩⟩
theorem bc.cells {p:PS} {W:World} {k:Nat} (h:bc p W k):W.cell? ⟨p.b,0,none⟩=some (.slice p.A p.L.length p.cap)∧W.cell? ⟨p.b,1,none⟩=some (.int .i64 (k:Int))∧W.cell? ⟨p.b,2,none⟩=some (.int .i64 p.en)∧W.cell? ⟨p.b,3,none⟩=some (.int .i64 p.sc)∧W.frozen? ⟨p.b,1,none⟩=false:=
 ⟨h.row.cell 0,h.row.cell 1,h.row.cell 2,h.row.cell 3,h.row.frozen 1⟩
theorem bc.lex {p:PS} {W:World} {k:Nat} (h:bc p W k) (hk:k<p.L.length):∃bl off,p.A=some ⟨bl,off,none⟩∧bl≠p.b∧bl<W.heap.size∧W.cell? ⟨bl,off+k*3,none⟩=some (.int .i64 p.L[k].kind)∧W.cell? ⟨bl,off+k*3+1,none⟩=some (.string (ae p.L[k].text))∧W.cell? ⟨bl,off+k*3+2,none⟩=some (.int .i64 (p.L[k].aJ:Int)):=by
 obtain ⟨bl,off,hA,hz,hc⟩:=h.lx.at hk
 obtain ⟨c0,c1,c2⟩:=hc W (Below.refl _ _)
 exact ⟨bl,off,hA,h.ne _ hA,hz,c0,c1,c2⟩
theorem bc.next {p:PS} {W:World} {k:Nat} (h:bc p W k) {j:Nat} (hj:j≤p.L.length):bc p (W.setCell ⟨p.b,1,none⟩ (.int .i64 (j:Int))) j:=by
 refine ⟨h.row.bg 1 _,fun hp=>?_,h.ne,hj,h.small,h.gl.keep (fun c _ he=>Below.heap_setCell _ _ _ _ (by rcases he with rfl|rfl;exact h.gb.1;exact h.gb.2)),h.gb,h.good⟩
 obtain ⟨bl,off,hA,hat⟩:=h.lx hp
 have hne:=h.ne _ hA
 have hf:∀o,(W.setCell ⟨p.b,1,none⟩ (.int .i64 (j:Int))).cell? ⟨bl,o,none⟩=W.cell? ⟨bl,o,none⟩:=fun o=>World.cell?_of_block (Below.heap_setCell _ _ _ _ hne)
 exact ⟨bl,off,hA,fun i hi=>by rw [hf,hf,hf];exact hat i hi⟩
theorem yX {L:List Lx} {en:Int} {k:Nat} (h:k<L.length):dy L en k=(L[k].aJ:Int):=by unfold dy;rw [List.getElem?_eq_getElem h]
theorem TA {L:List Lx} {en:Int} {k:Nat} (h:L.length≤k):dy L en k=en:=by unfold dy;rw [List.getElem?_eq_none h]
theorem dZ (p:PS) (k:Nat) (w:World) (h:bc p w k):
 Calls Tryz.prog 48 #[.pointer (some ⟨p.b,0,none⟩)] w fun e w'=>e=.returned (.int .i64 (dy p.L p.en k))∧Below w.heap.size w w':=by
 obtain ⟨c0,c1,c2,c3,_⟩:=h.cells
 have hle:=h.le
 have hsm:=h.small
 by_cases hk:k<p.L.length
 ·obtain ⟨bl,off,hA,hne,hz,_,_,l2⟩:=h.lex hk
  have HV:=aa (yX (en:=p.en) hk)
  have fo:(k:Int)<(p.L.length:Int):=by omega
  have hk0:(0:Int)≤(k:Int):=by omega
  rw [hA] at c0
  generalize p.L[k]=x at*
  generalize p.L.length=n at*
  clear hle h
  go_enter Tryz.func48,Tryz.ntmps48
  go_wp2_with fail
  go_quiet (fail)
  go_wp2_with fail
  go_quiet (fail)
  go_wp2
  go_ret
  exact ⟨ix HV.out,aq (aq (Below.refl _ _) _) _⟩
 ·have HV:=aa (TA (L:=p.L) (en:=p.en) (by omega:p.L.length≤k))
  have fo:¬(k:Int)<(p.L.length:Int):=by omega
  generalize p.L.length=n at*
  clear hle h
  go_enter Tryz.func48,Tryz.ntmps48
  go_wp2_with fail
  go_quiet (fail)
  go_wp2
  go_ret
  exact ⟨ix HV.out,aq (Below.refl _ _) _⟩
def kE (a e:Int):Value:=.iface 58 (.agg #[.int .i64 a,.int .i64 e])
def L0 (a er:Int) (e:Ending):Prop:=e=.panicked [{v:=kE a er,recovered:=false}]
theorem my (p:PS) (k:Nat) (w:World) (h:bc p w k):
 Calls Tryz.prog 32 #[.pointer (some ⟨p.b,0,none⟩)] w fun e w'=>L0 (dy p.L p.en k) 3 e∧Below w.heap.size w w':=by
 have PL:=aa (dZ p k w h)
 clear h
 generalize dy p.L p.en k=a at*
 go_enter Tryz.func32,Tryz.ntmps32
 go_wp2_with fail
 refine PL.out.mono ?_
 rintro e w1 ⟨rfl,hb⟩
 go_wp2
 exact ⟨rfl,rfl,hb⟩
def bO {α:Type} (p:PS) (W0:World) (val:World→α→Value→Prop):PR α→Ending→World→Prop
 |.ok x k',e,w'=>(∃v,e=.returned v∧val w' x v)∧bc p w' k'∧af (fun c=>c=p.b) W0 w'
 |.err a er,e,w'=>L0 a er e∧af (fun c=>c=p.b) W0 w'
theorem BB {L:List Lx} {k:Nat} (h:L.length≤k) (w:List UInt8):bH L k w=false:=by
 unfold bH;rw [List.getElem?_eq_none h]
theorem L6 {L:List Lx} {k:Nat} (h:k<L.length) (w:List UInt8):bH L k w=(LU L[k]&&decide (L[k].text=w)):=by
 unfold bH;rw [List.getElem?_eq_getElem h]
theorem BC {a b:List UInt8} (h:ae a=ae b):a=b:=by
 rw [←cy a,h,cy]
theorem yY (a x:List UInt8):Lib.containsS ([ae a].take 1) (ae x)=decide (x=a):=by
 rw [Bool.eq_iff_iff,Lib.containsS_iff,decide_eq_true_eq]
 show ae x∈[ae a]↔_
 rw [List.mem_singleton]
 exact ⟨fun h=>BC h,fun h=>by rw [h]⟩
theorem TB (p:PS) (k:Nat) (bw ow c:Nat) (wd:List UInt8) (w:World) (h:bc p w k) (hw:w.cell? ⟨bw,ow,none⟩=some (.string (ae wd))):
 Calls Tryz.prog 101 #[.pointer (some ⟨p.b,0,none⟩),.slice (some ⟨bw,ow,none⟩) 1 c] w fun e w'=>e=.returned (.bool (bH p.L k wd))∧Below w.heap.size w w':=by
 obtain ⟨c0,c1,c2,c3,_⟩:=h.cells
 have hle:=h.le
 have hsm:=h.small
 by_cases hk:k<p.L.length
 ·obtain ⟨bl,off,hA,hne,hz,l0,l1,l2⟩:=h.lex hk
  have HV:=L6 hk wd
  have fo:((k:Int)==(p.L.length:Int))=false:=beq_eq_false_iff_ne.2 (by omega)
  have hk2:(k:Int)<(p.L.length:Int):=by omega
  have hk0:(0:Int)≤(k:Int):=by omega
  rw [hA] at c0
  generalize p.L[k]=x at*
  generalize bH p.L k wd=R at*
  generalize p.L.length=n at*
  have RS:=aa (fun W:World=>lr x.text W)
  have CT:=aa (fun (W:World) (hc:W.cell? ⟨bw,ow,none⟩=some (.string (ae wd)))=>show Calls Tryz.prog 141 #[.slice (some ⟨bw,ow,none⟩) 1 c,.string (ae x.text)] W fun e w'=>e=.returned (.bool (decide (x.text=wd)))∧w'=W from by
   have:=Tryz.slices_Contains_string bw ow 1 c [ae wd] (ae x.text) W (Nat.le_refl _) (by decide) (fun j hj=>by
    obtain rfl:j=0:=by simpa using hj
    exact hc)
   rwa [yY] at this)
  have hbw:bw<w.heap.size:=World.block_lt_of_cell? w _ hw
  generalize decide (x.text=wd)=E at*
  unfold LU at HV
  clear hle h
  go_enter Tryz.func101,Tryz.ntmps101
  go_wp2_with fail
  go_quiet (fail)
  go_wp2_with fail
  have Q0:∀N (o:Obj) (b' o':Nat) (v:Value),w.cell? ⟨b',o',none⟩=some v→((w.drewN N).alloc o).cell? ⟨b',o',none⟩=some v:=fun N o b' o' v hv=>(World.cell?_of_block (Below.heap_alloc _ _ _ (World.block_lt_of_cell? w _ hv))).trans hv
  have q0:=Q0 (nq+1) (Obj.cells #[.int .i64 0,.string {data:=#[]},.int .i64 0] 66) _ _ _ c0
  have q1:=Q0 (nq+1) (Obj.cells #[.int .i64 0,.string {data:=#[]},.int .i64 0] 66) _ _ _ c1
  have q2:=Q0 (nq+1) (Obj.cells #[.int .i64 0,.string {data:=#[]},.int .i64 0] 66) _ _ _ l0
  have q3:=Q0 (nq+1) (Obj.cells #[.int .i64 0,.string {data:=#[]},.int .i64 0] 66) _ _ _ l1
  have q4:=Q0 (nq+1) (Obj.cells #[.int .i64 0,.string {data:=#[]},.int .i64 0] 66) _ _ _ l2
  obtain ⟨W0,hW0⟩:∃W0,W0=(w.drewN (nq+1)).alloc (Obj.cells #[.int .i64 0,.string {data:=#[]},.int .i64 0] 66):=⟨_,rfl⟩
  have r0:Row W0 w.heap.size 66 #[.int .i64 0,.string {data:=#[]},.int .i64 0]:=by rw [hW0];exact Row.new _ _ _
  have r1:=r0.bg 0 (.int .i64 x.kind)
  have r2:=r1.bg 1 (.string (ae x.text))
  have s0:W0.cell? ⟨w.heap.size,0,none⟩=some (.int .i64 0):=r0.cell 0
  have s1:(W0.setCell ⟨w.heap.size,0,none⟩ (.int .i64 x.kind)).cell? ⟨w.heap.size,1,none⟩=some (.string {data:=#[]}):=r1.cell 1
  have s2:((W0.setCell ⟨w.heap.size,0,none⟩ (.int .i64 x.kind)).setCell ⟨w.heap.size,1,none⟩ (.string (ae x.text))).cell? ⟨w.heap.size,2,none⟩=some (.int .i64 0):=r2.cell 2
  have f0:=r0.frozen 0
  have f1:=r1.frozen 1
  have f2:=r2.frozen 2
  have r3:=aa (r2.bg 2 (.int .i64 (x.aJ:Int)))
  have hb0:=aa (show Below w.heap.size w W0 from by rw [hW0];exact (aq (Below.refl _ _) _).alloc (Nat.le_refl _) _)
  subst hW0
  clear r0 r1 r2 Q0
  go_region
  clear q0 q1 q2 q3 q4 s0 s1 s2 f0 f1 f2
  have hb3:=((hb0.out.setCell (p:=⟨w.heap.size,0,none⟩) (Nat.le_refl _) (.int .i64 x.kind)).setCell (p:=⟨w.heap.size,1,none⟩) (Nat.le_refl _) (.string (ae x.text))).setCell (p:=⟨w.heap.size,2,none⟩) (Nat.le_refl _) (.int .i64 (x.aJ:Int))
  have r4:=r3.out
  clear hb0 r3
  revert hb3 r4
  generalize World.setCell _ _ (.int .i64 (x.aJ:Int))=W1
  intro hb3 r4
  have g0:W1.cell? ⟨w.heap.size,0,none⟩=some (.int .i64 x.kind):=r4.cell 0
  have g1:W1.cell? ⟨w.heap.size,1,none⟩=some (.string (ae x.text)):=r4.cell 1
  have gw:W1.cell? ⟨bw,ow,none⟩=some (.string (ae wd)):=(hb3.cell (p:=⟨bw,ow,none⟩) hbw).trans hw
  have R4:=aa r4
  have g_:=aa hb3
  clear r4 hb3
  by_cases h6:x.kind=6
  ·have e6:(x.kind==6)=true:=beq_iff_eq.2 h6
   have IY:=aa (show R=E by rw [HV,decide_eq_true h6];simp)
   clear HV
   go_wp2_with fail
   refine (CT.out _ gw).mono ?_
   rintro e w2 ⟨rfl,rfl⟩
   go_wp2
   go_ret
   exact ⟨bD IY.out,g_.out⟩
  ·have e6:(x.kind==6)=false:=beq_eq_false_iff_ne.2 h6
   by_cases h0:x.kind=0
   ·have e0:(x.kind==0)=true:=beq_iff_eq.2 h0
    rw [decide_eq_false h6,decide_eq_true h0,Bool.false_or,Bool.true_and] at HV
    go_wp2_with fail
    refine (RS.out _).mono ?_
    rintro e w2 ⟨rfl,hb4⟩
    have gw2:w2.cell? ⟨bw,ow,none⟩=some (.string (ae wd)):=(hb4.cell (p:=⟨bw,ow,none⟩) (World.block_lt_of_cell? W1 _ gw)).trans gw
    have g2:w2.cell? ⟨w.heap.size,1,none⟩=some (.string (ae x.text)):=(hb4.cell (p:=⟨w.heap.size,1,none⟩) (World.block_lt_of_cell? W1 _ g1)).trans g1
    have qD:=aa (g_.out.trans (hb4.mono g_.out.size))
    clear hb4 gw g0 g1
    cases hr:decide (x.text∈kC) with
    |true=>
     have IY:=aa (show R=E by rw [HV,hr];simp)
     clear HV
     go_wp2_with fail
     refine (CT.out _ gw2).mono ?_
     rintro e w3 ⟨rfl,rfl⟩
     go_wp2
     go_ret
     exact ⟨bD IY.out,qD.out⟩
    |false=>
     have IY:=aa (show R=false by rw [HV,hr];rfl)
     clear HV
     go_wp2
     go_ret
     exact ⟨bD IY.out,qD.out⟩
   ·have e0:(x.kind==0)=false:=beq_eq_false_iff_ne.2 h0
    have IY:=aa (show R=false by rw [HV,decide_eq_false h6,decide_eq_false h0];rfl)
    clear HV
    go_wp2
    go_ret
    exact ⟨bD IY.out,g_.out⟩
 ·have HV:=aa (BB (L:=p.L) (by omega:p.L.length≤k) wd)
  have fo:((k:Int)==(p.L.length:Int))=true:=by
   have:k=p.L.length:=by omega
   rw [this,beq_self_eq_true]
  generalize p.L.length=n at*
  clear hle h
  go_enter Tryz.func101,Tryz.ntmps101
  go_wp2_with fail
  go_quiet (fail)
  go_wp2
  go_ret
  exact ⟨bD HV.out,aq (Below.refl _ _) _⟩
theorem sO {L:List Lx} {k:Nat} {wd:List UInt8} (h:bH L k wd=true):k<L.length:=by
 rcases Nat.lt_or_ge k L.length with h1|h1
 ·exact h1
 ·rw [BB h1] at h;cases h
theorem bc.next' {p:PS} {W:World} {k:Nat} (h:bc p W k) (hk:k<p.L.length):bc p (W.setCell ⟨p.b,1,none⟩ (.int .i64 ((k:Int)+1))) (k+1):=by
 have:=h.next (j:=k+1) hk
 rwa [show ((k+1:Nat):Int)=(k:Int)+1 by omega] at this
theorem cR (p:PS) (k:Nat) (wd:List UInt8) (w:World) (h:bc p w k):
 Calls Tryz.prog 65 #[.pointer (some ⟨p.b,0,none⟩),.string (ae wd)] w fun e w'=>e=.returned (.bool (bH p.L k wd))∧bc p w' (if bH p.L k wd=true then k+1 else k)∧af (fun c=>c=p.b) w w':=by
 have IS:=aa (TB p k w.heap.size 0 1 wd (w.alloc (.cells #[.string (ae wd)] 9)) (h.below ((Below.refl _ w).alloc (Nat.le_refl _) _)) ((Row.new w _ _).cell 0))
 have H:=aa h
 have hle:=h.le
 have hsm:=h.small
 have HL:=aa (fun h:bH p.L k wd=true=>sO h)
 clear h
 generalize bH p.L k wd=R at*
 go_enter Tryz.func65,Tryz.ntmps65
 go_wp2_with fail
 refine IS.out.mono ?_
 rintro e w2 ⟨rfl,hb⟩
 have HB:=aa (show Below w.heap.size w w2 from ((Below.refl _ w).alloc (Nat.le_refl _) _).trans (hb.mono (by simp)))
 have H2:=aa (H.out.below HB.out)
 clear hb
 obtain ⟨_,c1,_,_,f1⟩:=H2.out.cells
 cases R with
 |true=>
  have hk:=HL.out rfl
  have hw:IntKind.i64.wrap ((k:Int)+1)=(k:Int)+1:=IntWalk.i64_in _ (by omega)
  clear hle hsm
  go_wp2
  go_ret
  exact ⟨rfl,H2.out.next' hk,(af.of_below (C:=fun c=>c=p.b) HB.out (Nat.le_refl _)).set (.inl rfl) 1 _⟩
 |false=>
  go_wp2
  go_ret
  exact ⟨rfl,H2.out,af.of_below HB.out (Nat.le_refl _)⟩
def XJ (_:World) (_:Unit) (v:Value):Prop:=v=.tuple #[]
def L8 (_:World) (n:Int) (v:Value):Prop:=v=.int .i64 n
theorem eK (p:PS) (k:Nat) (wd:List UInt8) (w:World) (h:bc p w k):
 Calls Tryz.prog 100 #[.pointer (some ⟨p.b,0,none⟩),.string (ae wd)] w (bO p w XJ (ah p.L p.en k wd)):=by
 have AC:=aa (cR p k wd w h)
 have FL:=aa (fun (W:World) (h:bc p W k)=>my p k W h)
 clear h
 unfold ah fj
 generalize bH p.L k wd=R at*
 cases R with
 |true=>
  go_enter Tryz.func100,Tryz.ntmps100
  go_wp2_with fail
  refine AC.out.mono ?_
  rintro e w2 ⟨rfl,h2,hk⟩
  go_wp2
  go_end0
  exact ⟨⟨_,rfl,rfl⟩,h2,hk⟩
 |false=>
  go_enter Tryz.func100,Tryz.ntmps100
  go_wp2_with fail
  refine AC.out.mono ?_
  rintro e w2 ⟨rfl,h2,hk⟩
  have FL2:=aa (FL.out w2 h2)
  have HK:=aa hk
  clear h2 hk
  go_wp2_with fail
  refine FL2.out.mono ?_
  rintro e w3 ⟨rfl,hb⟩
  go_wp2
  exact ⟨rfl,rfl,HK.out.trans (af.of_below hb (Nat.le_refl _))⟩
end Go.Proofs.YtddoehnkgcbboaaGreatDoor
