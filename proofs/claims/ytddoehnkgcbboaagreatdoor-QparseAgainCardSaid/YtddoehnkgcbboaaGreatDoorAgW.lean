/- A part of the proof that the last file tells. -/
import Derived.Test.YtddoehnkgcbboaaGreatDoorAgV
set_option maxHeartbeats 16000000
set_option maxRecDepth 100000
set_option linter.unusedVariables false
set_option linter.unusedSimpArgs false
namespace Go.Proofs.YtddoehnkgcbboaaGreatDoor
open Go.RowKit Go.Shelf Go.Maps
open Go.ChangeMaps (setBlock)
def cnA (n:Nd) (len:Nat) (o:Option St):Option St:=
 if n.kind=1 then (if n.name∈eI then none else if bJ n true false false false=true∧len=0 then o else none)
 else (if dY n.kind=0 then none else if bJ n false true false false=true∧len=0 then o else none)
def KO (n:Nd):List UInt8:=if n.kind=1 then n.name else n.value
def TC (n:Nd):Bool:=decide (n.kind=4∧aD n.value<0)
theorem ZN (o:Option St) (n:Nd) (fs:List Pw):o.bind (dO aD aQ n fs)=((cnA n fs.length o).map fun st=>if TC n then bD st [45] else st).bind fun st=>if bL [⟨dY n.kind,if TC n then aQ n.value else KO n,0⟩]=[] then none else some (if n.kind=1 then ((bD st (bL [⟨dY n.kind,if TC n then aQ n.value else KO n,0⟩])).1,bM (bL [⟨dY n.kind,if TC n then aQ n.value else KO n,0⟩])) else bD st (bL [⟨dY n.kind,if TC n then aQ n.value else KO n,0⟩])):=by
 by_cases h1:n.kind=1
 ·have hN:TC n=false:=decide_eq_false (fun h=>by have:=h.1;omega)
  have hK:dY n.kind=0:=by rw [h1];decide
  rw [ZK o n fs h1,hN,hK];unfold cnA KO;simp only [if_pos h1,Bool.false_eq_true,if_false];by_cases hl:n.name∈eI
  ·rw [if_pos hl]
   cases (if bJ n true false false false=true∧fs.length=0 then o else none) with
   |none=>rfl
   |some st=>show (if _ then _ else _)=none;exact if_neg fun h=>h.1 hl
  ·rw [if_neg hl]
   cases (if bJ n true false false false=true∧fs.length=0 then o else none) with
   |none=>rfl
   |some st=>
    show (if _ then _ else _)=if _ then _ else _
    by_cases hj:bL [⟨0,n.name,0⟩]=[]
    ·rw [if_pos hj,if_neg fun h=>h.2 hj]
    ·rw [if_neg hj,if_pos ⟨hl,hj⟩]
 ·by_cases hs:n.kind=4∧aD n.value<0
  ·have hN:TC n=true:=decide_eq_true hs
   have hK:dY n.kind=4:=by rw [hs.1];decide
   rw [ZL o n fs hs.1 hs.2,hN,hK];unfold cnA;simp only [if_neg h1,if_true,hK,show¬(4:Int)=0 from by decide,if_false]
   cases (if bJ n false true false false=true∧fs.length=0 then o else none) with
   |none=>rfl
   |some st=>
    show (if _ then _ else _)=if _ then _ else _
    by_cases hj:bL [⟨4,aQ n.value,0⟩]=[]
    ·rw [if_pos hj,if_neg fun h=>h hj]
    ·rw [if_neg hj,if_pos hj]
  ·have hN:TC n=false:=decide_eq_false hs;rw [ZM o n fs h1 hs,hN];unfold cnA KO;simp only [if_neg h1,Bool.false_eq_true,if_false]
   cases (if bJ n false true false false=true∧fs.length=0 then o else none) with
   |none=>by_cases hl:dY n.kind=0<;>simp [hl]
   |some st=>
    by_cases hl:dY n.kind=0
    ·rw [if_pos hl];show (if _ then _ else _)=none;exact if_neg fun h=>h.1 hl
    ·rw [if_neg hl]
     show (if _ then _ else _)=if _ then _ else _
     by_cases hj:bL [⟨dY n.kind,n.value,0⟩]=[]
     ·rw [if_pos hj,if_neg fun h=>h.2 hj]
     ·rw [if_neg hj,if_pos ⟨hl,hj⟩]
theorem cz.bad {W:World} {B b:Nat} {o:Option St} {M:Nat} (h:cz W B b o M) (v:Bool) (o':Option St) (h1:v=true→o'=none) (h2:v=false→o'=o∧o≠none):Hid (cz (W.setCell ⟨b,3,none⟩ (.bool v)) B b o' M)∧aM B b W (W.setCell ⟨b,3,none⟩ (.bool v)):=by
 cases v with
 |true=>
  obtain rfl:=h1 rfl
  cases o with
  |none=>obtain ⟨_,_,_,p,t⟩:=h.kO;exact ⟨hide p,t⟩
  |some st=>exact ⟨hide (h.dC.2.2.2 true).1,(h.dC.2.2.2 true).2⟩
 |false=>
  obtain ⟨rfl,h3⟩:=h2 rfl
  cases o' with
  |none=>exact absurd rfl h3
  |some st=>exact ⟨hide (h.dC.2.2.2 false).1,(h.dC.2.2.2 false).2⟩
theorem cz.fr3 {W:World} {B b:Nat} {o:Option St} {M:Nat} (h:cz W B b o M):W.frozen? ⟨b,3,none⟩=false∧W.shape? b=some (79,4):=by
 cases o with
 |none=>exact ⟨h.kO.2.1,h.kO.2.2.1⟩
 |some st=>exact ⟨h.dC.2.1,h.dC.2.2.1⟩
theorem F5 (B b:Nat) (kd a0 xa xb xc xd:Int) (nm vl:List UInt8) (ks:List Nd) (A:Option Addr) (cap:Nat) (o:Option St) (M:Nat) (w:World) (h:cz w B b o M) (hk:sJ B w ks A) (gS:∀i (hi:i<ks.length),qs ks[i]) (hft:iJ kd xa xb xc xd nm vl) (hn:ks.length≤1000000) (hM:M+1500+2000*ax ks≤1099511627776):
 Calls Tryz.prog 151 #[.pointer (some ⟨b,0,none⟩),.agg (aB kd a0 nm vl xa xb xc xd (.slice A ks.length cap)).toArray] w (jn B b w (o.bind (dO aD aQ (.mk kd a0 nm vl xa xb xc xd ks) (aq aD aQ ks))) (M+1500+2000*ax ks)):=by
 have hlt:=h.lt.1;have hge:=h.lt.2;have oN:=hide hk
 obtain ⟨w1,hw1⟩:∃w1,w1=w.alloc (.cells (aB kd a0 nm vl xa xb xc xd (.slice A ks.length cap)).toArray 25):=⟨_,rfl⟩
 have hb1:Below w.heap.size w w1:=by rw [hw1];exact (af _ w).alloc (aa _) _
 have P1:=hide (h.keep hb1);have T1:=hide (aM.of_below (b:=b) hb1 (show B≤w.heap.size by omega));have fU:=ae (Row w1 w.heap.size 25 (aB kd a0 nm vl xa xb xc xd (.slice A ks.length cap)).toArray) (by rw [hw1];exact Row.new _ _ _);have cR:=hide hw1.symm;have oO:=hide gS;have pM:=hide hft;clear h hk hw1 hb1 gS hft;unfold aB at cR fU⊢;go_enter Tryz.func151,Tryz.ntmps151;go_upto_region 1 with fail;rw [cR.o];obtain ⟨dJ,eN,ei,ek,dF,dG,eA,eB,cj⟩:=ak fU.o;go_wp2_with fail;refine abj (fx B b kd a0 xa xb xc xd nm vl A ks.length cap 0 0 o M w1 P1.o (by omega)) T1 fU (by decide) (by omega) fun w2 o2 Q2 P2 T2 ia=>?_;clear dJ eN ei ek dF dG eA eB cj;have hzw:=T2.o.size
 have Nt:B≤w2.heap.size:=by omega
 obtain ⟨w3,hw3⟩:∃w3,w3=w2.alloc (.cells #[.int .i64 0,.string (ag vl),.int .i64 0] 66):=⟨_,rfl⟩
 have hb3:Below w2.heap.size w2 w3:=by rw [hw3];exact (af _ w2).alloc (aa _) _
 have nk:=hide hb3;have Rt3:=ae (Row w3 w2.heap.size 66 #[.int .i64 0,.string (ag vl),.int .i64 0]) (by rw [hw3];exact Row.new _ _ _);have Nu:=hide hw3.symm;clear hw3 hb3;have e3:w2.cell? ⟨w.heap.size,3,none⟩=some (.string (ag vl)):=ia.o.cell 3;have CNS:=hide (qT w3);go_upto_region 3 with fail;rw [Nu.o];clear e3;go_wp2_with fail;refine CNS.o.mono ?_;rintro e w4 ⟨rfl,hcs,hb4⟩;have hz3:w2.heap.size<w3.heap.size:=Rt3.o.lt;have hz4:w3.heap.size<w4.heap.size:=(Array.getElem?_eq_some_iff.1 hcs).1;have zN:=hide (nk.o.trans (hb4.mono (Nat.le_of_lt hz3)));have Rt4:=hide (Rt3.o.below hb4 hz3);have hrg:=run_range_map (P:=Tryz.prog) w4 124 3 3 w3.heap.size bq 5 Tryz.underlying124 hcs
 have ZO:=hide (show VS w2 kd vl w3.heap.size w4.heap.size (w4.alloc (.mapIter (some w3.heap.size) 5 #[] 5)) #[] 5 0 from
  ⟨zN.o.alloc (by omega) _,Rt4.o.alloc _,.inr ⟨rfl,fun e _ he=>absurd he (by simp)⟩,(heap_alloc_old w4 _ hz4).trans hcs,heap_alloc_new w4 _,aa _⟩)
 have HCS:=hide hcs;clear hcs hb4 CNS;go_wp2_with fail;clear hrg
 go_loopw [] (fun W=>∃(seen:Array Nat) (c0:Nat) (kv:Int),VS w2 kd vl w3.heap.size w4.heap.size W seen c0 kv) (fun W=>(leftOf bq (W.iterSeen w4.heap.size)).size)
 case atStart=>exact ⟨#[],5,0,ZO.o⟩
 case round=>
  obtain ⟨seen,c0,kv,hat⟩:=hrel;have RG:Row wr w.heap.size 25 #[.int .i64 kd,.int .i64 a0,.string (ag nm),.string (ag vl),.int .i64 xa,.int .i64 xb,.int .i64 xc,.int .i64 xd,.slice A ks.length cap]:=(aM.of_below (b:=b) hat.below Nt).row ia.o (by decide) (by omega);have law:=run_next_at (P:=Tryz.prog) wr 0 w4.heap.size w3.heap.size 5 c0 seen bq 5 hat.it hat.map fZ.1 hat.since
  rcases law with ⟨h0,hrun⟩|⟨e,he,w1',hw1,hrun⟩
  ·have hnx:∀ty,(Instr.next (.pointer (some ⟨w4.heap.size,0,none⟩)) false ty).run Tryz.prog wr=_:=fun _=>hrun
   have hall:∀e∈bq.toList,e.born∈seen:=fun e he=>by
    by_cases hc:e.born∈seen
    ·exact hc
    ·exfalso
     have:e∈leftOf bq seen:=by
      unfold leftOf;rw [Array.mem_filter];exact ⟨by simpa using he,by simpa using hc⟩
     have h1:=Array.size_pos_of_mem this;omega
   obtain rfl:kv=dY kd:=by
    rcases hat.kv with h|⟨h1,h2⟩
    ·exact h
    ·rw [h1,VR fun e he=>h2 e he (hall e he)]
   have P5:=hide (P2.o.keep hat.below);have t5:=aM.of_below (b:=b) hat.below Nt;have T5:=hide (T2.o.trans t5);have oP:=hide RG;have Rt5:=hide hat.tx
   have hgb:w2.heap.size≠b:=by omega
   have hgw:w.heap.size≤w2.heap.size:=hzw;clear hall hat hrun h0 t5 RG
   obtain ⟨lk,hlk⟩:∃z_,dY kd=z_:=⟨_,rfl⟩
   rw [hlk] at Rt5;have HLK:=hide hlk;clear hlk;have dJ:wr.cell? ⟨w.heap.size,0,none⟩=some (.int .i64 kd):=oP.o.cell 0;go_upto_if 29 with fail;clear dJ;go_cut [] (fun wx=>∃(o1:Option St) (tx:List UInt8),Hid (o1=cnA (.mk kd a0 nm vl xa xb xc xd ks) ks.length o)∧Hid (tx=KO (.mk kd a0 nm vl xa xb xc xd ks))∧Hid (cz wx B b o1 M)∧Hid (aM B b w wx)∧Hid (Row wx w.heap.size 25 #[.int .i64 kd,.int .i64 a0,.string (ag nm),.string (ag vl),.int .i64 xa,.int .i64 xb,.int .i64 xc,.int .i64 xd,.slice A ks.length cap])∧Hid (Row wx w2.heap.size 66 #[.int .i64 lk,.string (ag tx),.int .i64 0]))
   case first=>
    by_cases h1:kd=1
    ·have e1:(kd==1)=true:=by simpa using h1
     have H1:=hide h1;clear h1;obtain ⟨dJ,eN,ei,ek,dF,dG,eA,eB,cj⟩:=ak oP.o;go_wp2_with fail;refine QI (cM B b kd a0 xa xb xc xd nm vl (.slice A ks.length cap) [110] o2 M wr P5.o) T5 oP (by decide) (by omega) Rt5 (by decide) (by omega) fun w6 o6 Q6 P6 T6 oI Nv=>?_;clear e1 dJ eN ei ek dF dG eA eB cj;have kX:=ae (_=if bJ (.mk kd a0 nm vl xa xb xc xd ks) true false false false=true∧ks.length=0 then o else none) (Xo o [110]);rw [Q2.o,Q6.o] at kX;have ei:w6.cell? ⟨w.heap.size,2,none⟩=some (.string (ag nm)):=oI.o.cell 2;have ct1:w6.cell? ⟨w2.heap.size,1,none⟩=some (.string (ag vl)):=Nv.o.cell 1;have ft1:=Nv.o.frozen 1
     obtain ⟨w7,hw7⟩:∃W',W'=w6.setCell ⟨w2.heap.size,1,none⟩ (.string (ag nm)):=⟨_,rfl⟩
     have P7:=ae (cz w7 B b o6 M) (by rw [hw7];exact P6.o.setRow Nv.o (by decide) hgb Nt _ _);have T7:=ae (aM B b w w7) (by rw [hw7];exact T6.o.RA hgw Nt _ _);have Dx:=ae (Row w7 w.heap.size 25 #[.int .i64 kd,.int .i64 a0,.string (ag nm),.string (ag vl),.int .i64 xa,.int .i64 xb,.int .i64 xc,.int .i64 xd,.slice A ks.length cap]) (by rw [hw7];exact oI.o.off (by have:=ia.o.lt;omega) _ _);have Rt7:=ae (Row w7 w2.heap.size 66 #[.int .i64 lk,.string (ag nm),.int .i64 0]) (by rw [hw7];exact Nv.o.bU 1 _);have Rv:=hide hw7.symm;clear hw7;go_upto_region 11 with fail;rw [Rv.o];clear ei ct1 ft1
     cases o6 with
     |none=>
      obtain ⟨Dz,GA,GC,_⟩:=P7.o.kO;go_wp2_with fail;go_meet;obtain ⟨p_,t_⟩:=P7.o.bad true none (fun _=>rfl) nofun;exact ⟨_,_,ae (_=if kd=1 then (if nm∈eI then none else if bJ (.mk kd a0 nm vl xa xb xc xd ks) true false false false=true∧ks.length=0 then o else none) else _) (by rw [if_pos H1.o,←kX.o];split<;>rfl),ae (nm=KO (.mk kd a0 nm vl xa xb xc xd ks)) ((if_pos H1.o).symm),p_,hide (T7.o.trans t_),hide (t_.row Dx.o (by decide) (by omega)),hide (t_.row Rt7.o (by decide) (by omega))⟩
     |some st=>
      obtain ⟨Dz,GA,GC,_⟩:=P7.o.dC;have ei:w7.cell? ⟨w.heap.size,2,none⟩=some (.string (ag nm)):=Dx.o.cell 2
      obtain ⟨rb,yT⟩:∃z_,decide (nm∈eI)=z_:=⟨_,rfl⟩
      have RS:=ae (Calls Tryz.prog 140 #[.string (ag nm)] w7 fun e w'=>e=.returned (.bool rb)∧Below w7.heap.size w7 w') (by rw [←yT];exact nO nm w7);have HRB:=hide yT;clear yT;go_wp2_with fail;refine RS.o.mono ?_;rintro e w8 ⟨rfl,hbs⟩;clear Dz GA GC ei;have t8:=aM.of_below (b:=b) hbs (br P7.o.lt.2 (Nat.le_of_lt P7.o.lt.1));have P8:=hide (P7.o.keep hbs);have T8:=hide (T7.o.trans t8);have Oz:=hide (t8.row Dx.o (by decide) (by omega));have Rt8:=hide (t8.row Rt7.o (by decide) (by omega));clear t8;clear hbs RS
      cases rb with
      |true=>
       obtain ⟨Dz,GA,GC,_⟩:=P8.o.dC;go_wp2_with fail;go_meet;obtain ⟨p_,t_⟩:=P8.o.bad true none (fun _=>rfl) nofun;exact ⟨_,_,ae (_=if kd=1 then (if nm∈eI then none else if bJ (.mk kd a0 nm vl xa xb xc xd ks) true false false false=true∧ks.length=0 then o else none) else _) (by rw [if_pos H1.o,←kX.o];exact (if_pos (of_decide_eq_true HRB.o)).symm),ae (nm=KO (.mk kd a0 nm vl xa xb xc xd ks)) ((if_pos H1.o).symm),p_,hide (T8.o.trans t_),hide (t_.row Oz.o (by decide) (by omega)),hide (t_.row Rt8.o (by decide) (by omega))⟩
      |false=>
       obtain ⟨Dz,GA,GC,_⟩:=P8.o.dC;go_wp2_with fail;go_meet;obtain ⟨p_,t_⟩:=P8.o.bad false (some st) nofun (fun _=>⟨rfl,nofun⟩);exact ⟨_,_,ae (_=if kd=1 then (if nm∈eI then none else if bJ (.mk kd a0 nm vl xa xb xc xd ks) true false false false=true∧ks.length=0 then o else none) else _) (by rw [if_pos H1.o,←kX.o];exact (if_neg (of_decide_eq_false HRB.o)).symm),ae (nm=KO (.mk kd a0 nm vl xa xb xc xd ks)) ((if_pos H1.o).symm),p_,hide (T8.o.trans t_),hide (t_.row Oz.o (by decide) (by omega)),hide (t_.row Rt8.o (by decide) (by omega))⟩
    ·have e1:(kd==1)=false:=by simpa using h1
     have H1:=hide h1;clear h1;obtain ⟨dJ,eN,ei,ek,dF,dG,eA,eB,cj⟩:=ak oP.o;go_wp2_with fail;refine QI (cM B b kd a0 xa xb xc xd nm vl (.slice A ks.length cap) [118] o2 M wr P5.o) T5 oP (by decide) (by omega) Rt5 (by decide) (by omega) fun w6 o6 Q6 P6 T6 oI Nv=>?_;clear e1 dJ eN ei ek dF dG eA eB cj;have kX:=ae (_=if bJ (.mk kd a0 nm vl xa xb xc xd ks) false true false false=true∧ks.length=0 then o else none) (Xo o [118]);rw [Q2.o,Q6.o] at kX
     cases o6 with
     |none=>
      obtain ⟨Dz,GA,GC,_⟩:=P6.o.kO;have ct0:w6.cell? ⟨w2.heap.size,0,none⟩=some (.int .i64 lk):=Nv.o.cell 0;go_wp2_with fail;go_meet;obtain ⟨p_,t_⟩:=P6.o.bad true none (fun _=>rfl) nofun;exact ⟨_,_,ae (_=if kd=1 then _ else (if dY kd=0 then none else if bJ (.mk kd a0 nm vl xa xb xc xd ks) false true false false=true∧ks.length=0 then o else none)) (by rw [if_neg H1.o,HLK.o,←kX.o];split<;>rfl),ae (vl=KO (.mk kd a0 nm vl xa xb xc xd ks)) ((if_neg H1.o).symm),p_,hide (T6.o.trans t_),hide (t_.row oI.o (by decide) (by omega)),hide (t_.row Nv.o (by decide) (by omega))⟩
     |some st=>
      obtain ⟨Dz,GA,GC,_⟩:=P6.o.dC;have ct0:w6.cell? ⟨w2.heap.size,0,none⟩=some (.int .i64 lk):=Nv.o.cell 0;by_cases hl0:lk=0
      ·skip;have HL0:=hide hl0
       have el:(lk==0)=true:=by simpa using hl0
       clear hl0;go_wp2_with fail;go_meet;obtain ⟨p_,t_⟩:=P6.o.bad true none (fun _=>rfl) nofun;exact ⟨_,_,ae (_=if kd=1 then _ else (if dY kd=0 then none else if bJ (.mk kd a0 nm vl xa xb xc xd ks) false true false false=true∧ks.length=0 then o else none)) (by rw [if_neg H1.o,HLK.o,←kX.o];exact (if_pos HL0.o).symm),ae (vl=KO (.mk kd a0 nm vl xa xb xc xd ks)) ((if_neg H1.o).symm),p_,hide (T6.o.trans t_),hide (t_.row oI.o (by decide) (by omega)),hide (t_.row Nv.o (by decide) (by omega))⟩
      ·skip;have HL0:=hide hl0
       have el:(lk==0)=false:=by simpa using hl0
       clear hl0;go_wp2_with fail;go_meet;obtain ⟨p_,t_⟩:=P6.o.bad false (some st) nofun (fun _=>⟨rfl,nofun⟩);exact ⟨_,_,ae (_=if kd=1 then _ else (if dY kd=0 then none else if bJ (.mk kd a0 nm vl xa xb xc xd ks) false true false false=true∧ks.length=0 then o else none)) (by rw [if_neg H1.o,HLK.o,←kX.o];exact (if_neg HL0.o).symm),ae (vl=KO (.mk kd a0 nm vl xa xb xc xd ks)) ((if_neg H1.o).symm),p_,hide (T6.o.trans t_),hide (t_.row oI.o (by decide) (by omega)),hide (t_.row Nv.o (by decide) (by omega))⟩
   case rest=>
    obtain ⟨o1,tx,UC,HTX,P6,T6,oI,Nv⟩:=hcut
    obtain ⟨w6,e_⟩:∃x,x=wc:=⟨_,rfl⟩
    subst e_
    obtain ⟨neg,hneg⟩:∃z_,TC (.mk kd a0 nm vl xa xb xc xd ks)=z_:=⟨_,rfl⟩
    have VX:=hide hneg;clear hneg;have HVL:Hid (vl.length≤200∧nm.length≤200):=hide ⟨pM.o.vl,pM.o.nm⟩;go_upto_region 14 with fail;go_cut [71] (fun v wx=>v=.bool neg∧Hid (cz wx B b o1 M)∧Hid (aM B b w wx)∧Hid (Row wx w.heap.size 25 #[.int .i64 kd,.int .i64 a0,.string (ag nm),.string (ag vl),.int .i64 xa,.int .i64 xb,.int .i64 xc,.int .i64 xd,.slice A ks.length cap])∧Hid (Row wx w2.heap.size 66 #[.int .i64 lk,.string (ag tx),.int .i64 0]))
    case first=>
     by_cases h4:kd=4
     ·skip
      have e4:(kd==4)=true:=by simpa using h4
      have H4:=hide h4;clear h4;have dJ:w6.cell? ⟨w.heap.size,0,none⟩=some (.int .i64 kd):=oI.o.cell 0;have ek:w6.cell? ⟨w.heap.size,3,none⟩=some (.string (ag vl)):=oI.o.cell 3
      obtain ⟨sv,KC⟩:∃z_,aD vl=z_:=⟨_,rfl⟩
      have SG:=ae (Calls Tryz.prog 69 #[.string (ag vl)] w6 fun e w'=>e=.returned (.int .i64 sv)∧Below w6.heap.size w6 w') (by rw [←KC];exact Fa vl w6 (by have:=HVL.o.1;omega) P6.o.gl);have Xp:=ae (neg=decide (sv<0)) (by rw [←VX.o,←KC];exact decide_eq_decide.2 ⟨fun h=>h.2,fun h=>⟨H4.o,h⟩⟩);clear KC;go_wp2_with fail;refine SG.o.mono ?_;rintro e w7 ⟨rfl,hbs⟩;clear dJ ek;have t7:=aM.of_below (b:=b) hbs (br P6.o.lt.2 (Nat.le_of_lt P6.o.lt.1));have P7:=hide (P6.o.keep hbs);have T7:=hide (T6.o.trans t7);have Dx:=hide (t7.row oI.o (by decide) (by omega));have Rt7:=hide (t7.row Nv.o (by decide) (by omega));clear t7;clear hbs SG e4;by_cases UH:sv<0
      all_goals
       have HN3:=hide Xp.o
       first|rw [decide_eq_true UH] at HN3|rw [decide_eq_false UH] at HN3
       clear Xp;go_wp2_with fail;go_meet;exact ⟨by rw [HN3.o];first|done|exact congrArg _ (decide_eq_false (by omega)),P7,T7,Dx,Rt7⟩
     ·skip
      have e4:(kd==4)=false:=by simpa using h4
      have H4:=hide h4;clear h4;have dJ:w6.cell? ⟨w.heap.size,0,none⟩=some (.int .i64 kd):=oI.o.cell 0;go_wp2_with fail;go_meet;exact ⟨by rw [←VX.o,show TC (.mk kd a0 nm vl xa xb xc xd ks)=false from decide_eq_false fun h=>H4.o h.1],P6,T6,oI,Nv⟩
    case rest=>
     obtain ⟨rfl,P8,T8,Oz,Rt8⟩:=hcut
     obtain ⟨w8,e_⟩:∃x,x=wc:=⟨_,rfl⟩
     subst e_;go_upto_if 71 with fail;go_cut [] (fun wx=>∃(o2:Option St) (ty:List UInt8),Hid (o2=o1.map fun st=>if neg then bD st [45] else st)∧Hid (ty=if neg then aQ vl else tx)∧Hid (cz wx B b o2 (M+2))∧Hid (aM B b w wx)∧Hid (Row wx w.heap.size 25 #[.int .i64 kd,.int .i64 a0,.string (ag nm),.string (ag vl),.int .i64 xa,.int .i64 xb,.int .i64 xc,.int .i64 xd,.slice A ks.length cap])∧Hid (Row wx w2.heap.size 66 #[.int .i64 lk,.string (ag ty),.int .i64 0]))
     case first=>
      cases neg with
      |false=>
       go_wp2_with fail;go_meet;exact ⟨o1,tx,hide (by cases o1<;>rfl),hide rfl,hide (P8.o.mono (by omega)),T8,Oz,Rt8⟩
      |true=>
       go_wp2_with fail;refine QI (bT B b [45] 1 o1 M w8 P8.o (by omega)) T8 Oz (by decide) (by omega) Rt8 (by decide) (by omega) fun w9 o9 Q9 P9 T9 Xg Rt9=>?_;have ek:w9.cell? ⟨w.heap.size,3,none⟩=some (.string (ag vl)):=Xg.o.cell 3;have NGC:=ae (Calls Tryz.prog 183 #[.string (ag vl)] w9 fun e w'=>e=.returned (.string (ag (aQ vl)))∧Below w9.heap.size w9 w') (yX vl w9 (by have:=HVL.o.1;omega) P9.o.gl)
       obtain ⟨nv,hnv⟩:∃z_,aQ vl=z_:=⟨_,rfl⟩
       rw [hnv] at NGC;have HNV:=hide hnv;clear hnv;go_wp2_with fail;refine NGC.o.mono ?_;rintro e rF ⟨rfl,hbs⟩;clear ek;have t10:=aM.of_below (b:=b) hbs (br P9.o.lt.2 (Nat.le_of_lt P9.o.lt.1));have Xi:=hide (P9.o.keep hbs);have Zx:=hide (T9.o.trans t10);have Ni:=hide (t10.row Xg.o (by decide) (by omega));have Di:=hide (t10.row Rt9.o (by decide) (by omega));clear t10;clear hbs NGC;have ct1:rF.cell? ⟨w2.heap.size,1,none⟩=some (.string (ag tx)):=Di.o.cell 1;have ft1:=Di.o.frozen 1;go_wp2_with fail;go_meet;exact ⟨_,nv,hide (by rw [←Q9.o];rfl),hide HNV.o.symm,hide ((Xi.o.setRow Di.o (by decide) hgb Nt _ _).mono (by simp)),hide (Zx.o.RA hgw Nt _ _),hide (Ni.o.off (by have:=ia.o.lt;omega) _ _),hide (Di.o.bU 1 _)⟩
     case rest=>
      obtain ⟨o2,ty,HO2,HTY,Xi,Zx,Ni,Di⟩:=hcut
      obtain ⟨rF,e_⟩:∃x,x=wc:=⟨_,rfl⟩
      subst e_
      have HYL:=ae (ty.length≤201) (by
       rw [HTY.o,HTX.o];unfold KO;have h1:=VW vl;have h2:=HVL.o;have h3:Nd.name (.mk kd a0 nm vl xa xb xc xd ks)=nm:=rfl;have h4:Nd.value (.mk kd a0 nm vl xa xb xc xd ks)=vl:=rfl;rw [h3,h4];split
       ·omega
       ·split<;>omega)
      have ct0:rF.cell? ⟨w2.heap.size,0,none⟩=some (.int .i64 lk):=Di.o.cell 0;have ct1:rF.cell? ⟨w2.heap.size,1,none⟩=some (.string (ag ty)):=Di.o.cell 1;have ct2:rF.cell? ⟨w2.heap.size,2,none⟩=some (.int .i64 0):=Di.o.cell 2
      have JN:=ae (Calls Tryz.prog 184 #[.slice (some ⟨rF.heap.size,0,none⟩) 1 1] (rF.alloc (.cells #[.int .i64 lk,.string (ag ty),.int .i64 0] 66)) fun e w'=>e=.returned (.string (ag (bL [⟨lk,ty,0⟩])))∧Below (rF.alloc (.cells #[.int .i64 lk,.string (ag ty),.int .i64 0] 66)).heap.size (rF.alloc (.cells #[.int .i64 lk,.string (ag ty),.int .i64 0] 66)) w') (by
       have hr:=Row.new rF 66 #[.int .i64 lk,.string (ag ty),.int .i64 0];refine Mt (some ⟨rF.heap.size,0,none⟩) 1 [⟨lk,ty,0⟩] _ (fun _=>⟨_,_,rfl,fun i hi=>?_⟩) (by simp) (fun y hy=>by rw [List.mem_singleton.1 hy];have:=HYL.o;show ty.length≤1000;omega) (Xi.o.alloc _).gl
       obtain rfl:i=0:=by simpa using hi
       exact ⟨hr.cell 0,hr.cell 1,hr.cell 2⟩)
      obtain ⟨j,hj⟩:∃j,bL [⟨lk,ty,0⟩]=j:=⟨_,rfl⟩
      rw [hj] at JN;have HJ:=hide hj;clear hj;go_wp2_with fail;refine JN.o.mono ?_;rintro e Xj ⟨rfl,hbj⟩;have ZP:Below rF.heap.size rF Xj:=((af _ rF).alloc (aa _) _).trans (hbj.mono (by rw [aF];omega));clear ct0 ct1 ct2;have t11:=aM.of_below (b:=b) ZP (br Xi.o.lt.2 (Nat.le_of_lt Xi.o.lt.1));have Ty:=hide (Xi.o.keep ZP);have T11:=hide (Zx.o.trans t11);have VB:=hide (t11.row Ni.o (by decide) (by omega));have ac1:=hide (t11.row Di.o (by decide) (by omega));clear t11;clear hbj ZP JN;have yN:=ae ((o.bind (dO aD aQ (.mk kd a0 nm vl xa xb xc xd ks) (aq aD aQ ks)))=o2.bind fun st=>if j=[] then none else some (if kd=1 then ((bD st j).1,bM j) else bD st j)) (by rw [ZN,a_,HO2.o,UC.o,←HJ.o,HTY.o,HTX.o,←HLK.o,←VX.o];rfl);clear UC HTX HO2 HTY VX;by_cases Uf:j=[]
      ·skip
       have HRN:=ae ((o.bind (dO aD aQ (.mk kd a0 nm vl xa xb xc xd ks) (aq aD aQ ks)))=none) (by rw [yN.o];cases o2 with
        |none=>rfl
        |some st=>exact if_pos Uf)
       have ej:(ag j).toList.isEmpty=true:=by rw [isE];simpa using Uf
       have ej2:(ag j).toList=[]:=by simpa using ej
       clear Uf;obtain ⟨bd_,Dz,_⟩:=Ty.o.ZJ;obtain ⟨GA,GC⟩:=Ty.o.fr3
       have HWS:=hide (fun (x:Bool) (hx:x=true)=>show jn B b w (o.bind (dO aD aQ (.mk kd a0 nm vl xa xb xc xd ks) (aq aD aQ ks))) (M+1500+2000*ax ks) (.returned (.tuple #[])) (Xj.setCell ⟨b,3,none⟩ (.bool x)) from by
        subst hx;obtain ⟨p,t⟩:=Ty.o.bad true none (fun _=>rfl) nofun
        exact ⟨rfl,by rw [HRN.o];exact p.o.mono (by omega),T11.o.trans t⟩)
       go_wp2;go_end0;exact HWS.o _ rfl
      have ej:(ag j).toList.isEmpty=false:=by rw [isE];simpa using Uf
      have ej2:¬(ag j).toList=[]:=by simpa using ej
      have HJ0:=hide Uf;clear Uf
      cases o2 with
      |none=>
       have HRN:=ae ((o.bind (dO aD aQ (.mk kd a0 nm vl xa xb xc xd ks) (aq aD aQ ks)))=none) yN.o;have Dz:=Ty.o.kO.1;obtain ⟨GA,GC⟩:=Ty.o.fr3
       have HWS:=hide (fun (x:Bool) (hx:x=true)=>show jn B b w (o.bind (dO aD aQ (.mk kd a0 nm vl xa xb xc xd ks) (aq aD aQ ks))) (M+1500+2000*ax ks) (.returned (.tuple #[])) (Xj.setCell ⟨b,3,none⟩ (.bool x)) from by
        subst hx;obtain ⟨p,t⟩:=Ty.o.bad true none (fun _=>rfl) nofun
        exact ⟨rfl,by rw [HRN.o];exact p.o.mono (by omega),T11.o.trans t⟩)
       go_wp2;go_end0;exact HWS.o _ rfl
      |some st=>
       have hjl:j.length≤830:=by rw [←HJ.o];exact Jn _ _ (by have:=HYL.o;omega)
       have Dz:=Ty.o.dC.1;have dJ:Xj.cell? ⟨w.heap.size,0,none⟩=some (.int .i64 kd):=VB.o.cell 0;go_wp2_with fail;refine QI (kM B b j (some st) (M+2) Xj Ty.o (by omega)) T11 VB (by decide) (by omega) ac1 (by decide) (by omega) fun TB o12 Q12 Zy T12 Zz adX=>?_;clear ej ej2 Dz dJ;by_cases h1:kd=1
       ·skip
        have e1:(kd==1)=true:=by simpa using h1
        have H1:=hide h1;clear h1;have dJ:TB.cell? ⟨w.heap.size,0,none⟩=some (.int .i64 kd):=Zz.o.cell 0;have Zy:=ae (cz TB B b (some (bD st j)) ((M+2)+(j.length+1))) (by have:=Zy.o;rw [←Q12.o] at this;exact this)
        have hlq:(ag j).size<4611686018427387904:=by rw [aO];omega
        obtain ⟨ce2,IJ,se2,_⟩:=Zy.o.RB
        have HWS:=hide (fun (x:Bool) (hx:x=bM j)=>show jn B b w (o.bind (dO aD aQ (.mk kd a0 nm vl xa xb xc xd ks) (aq aD aQ ks))) (M+1500+2000*ax ks) (.returned (.tuple #[])) (TB.setCell ⟨b,2,none⟩ (.bool x)) from by
         obtain ⟨p,t⟩:=Zy.o.RB.2.2.2 x;refine ⟨rfl,?_,T12.o.trans t⟩;rw [yN.o,Option.bind_some,if_neg HJ0.o,if_pos H1.o,←hx]
         exact p.mono (by omega))
        have LI:=hide (Tryz.strings_LastIndexByte (ag j) 92 hlq TB)
        rcases Ns j HJ0.o with ⟨hl,he,hz,hc⟩|⟨i,hl,⟨hi,hci⟩,he⟩
        ·skip;rw [hl] at LI;have HW:=hide (HWS.o false he.symm)
         obtain ⟨c0,hc0⟩:∃c0,(ag j)[0]'hz=c0:=⟨_,rfl⟩
         rw [hc0] at hc
         have hcz:((c0.toNat:Int)==92)=false:=by simp;intro h;exact hc (UInt8.toNat_inj.1 (by have e:UInt8.toNat 92=92:=rfl;omega))
         have hmx:max (0:Int) (-1)=0:=by decide
         have adY:¬((c0.toNat:Int)=92):=by simpa using hcz
         clear he hl hc;go_wp2_with fail;refine LI.o.mono ?_;rintro e _ ⟨rfl,rfl⟩;go_wp2;go_end0;exact HW.o
        ·skip;rw [hl] at LI;have HW:=hide (fun (x:Bool) (hx:x= !decide (0≤Lib.indexByte ((ag j).extract i (ag j).size).data.toList 32))=>HWS.o x (hx.trans he.symm))
         have hi2:(i:Int)<((ag j).size:Int):=by omega
         have CT:=hide (Tryz.strings_Contains_one ((ag j).extract i (ag j).size) 32 TB);clear he hl;go_wp2_with fail;refine LI.o.mono ?_;rintro e _ ⟨rfl,rfl⟩;go_wp2_with fail;refine LI.o.mono ?_;rintro e _ ⟨rfl,rfl⟩;go_wp2_with fail;refine CT.o.mono ?_;rintro e _ ⟨rfl,rfl⟩;go_wp2;go_end0;exact HW.o _ (by rw [Lib.extract_data])
       ·skip
        have e1:(kd==1)=false:=by simpa using h1
        have H1:=hide h1;clear h1;have dJ:TB.cell? ⟨w.heap.size,0,none⟩=some (.int .i64 kd):=Zz.o.cell 0;have HP:=ae (cz TB B b (o.bind (dO aD aQ (.mk kd a0 nm vl xa xb xc xd ks) (aq aD aQ ks))) (M+1500+2000*ax ks)) (by rw [yN.o,Option.bind_some,if_neg HJ0.o,if_neg H1.o];exact (show cz TB B b (some (bD st j)) ((M+2)+(j.length+1)) from by have:=Zy.o;rw [←Q12.o] at this;exact this).mono (by omega));have HT:=T12;go_wp2;go_end0;exact ⟨rfl,HP.o,HT.o⟩
  ·obtain ⟨o1,hkey,hval,rG⟩:=abC e (mem_left he).1;rw [hkey,hval] at hrun;obtain ⟨b1,b2,b3,b4,b5,b6⟩:=jX (o':=.mapIter (some w3.heap.size) 5 (seen.push e.born) 5) hat.it hw1
   obtain ⟨W3,hW3⟩:∃W3,W3=setBlock w1' w4.heap.size (.mapIter (some w3.heap.size) 5 (seen.push e.born) 5):=⟨_,rfl⟩
   rw [←hW3] at hrun b1 b2 b3 b4 b5 b6
   have hB:Below w2.heap.size wr W3:=⟨b5,b4,b6,Nat.le_of_eq b3.symm,fun b hb=>b2 b (by omega)⟩
   have htx:Row W3 w2.heap.size 66 #[.int .i64 kv,.string (ag vl),.int .i64 0]:=(b2 _ (by omega)).trans hat.tx;have hmp:VO W3 w3.heap.size:=(b2 _ (by omega)).trans hat.map;have ZQ:Row W3 w.heap.size 25 #[.int .i64 kd,.int .i64 a0,.string (ag nm),.string (ag vl),.int .i64 xa,.int .i64 xb,.int .i64 xc,.int .i64 xd,.slice A ks.length cap]:=(b2 _ (by omega)).trans RG;have hnx:∀ty,(Instr.next (.pointer (some ⟨w4.heap.size,0,none⟩)) false ty).run Tryz.prog wr=_:=fun _=>hrun;have hen:=run_entry_at (P:=Tryz.prog) W3 w4.heap.size w3.heap.size 5 seen bq 5 e b1 hmp (mem_left he).1 fZ.2;rw [hkey,hval] at hen;have YR:=hide he;have HIT:=hide hat.it;have cb0:W3.cell? ⟨w.heap.size,0,none⟩=some (.int .i64 kd):=ZQ.cell 0;have ct0:W3.cell? ⟨w2.heap.size,0,none⟩=some (.int .i64 kv):=htx.cell 0;have ft0:=htx.frozen 0
   have EQ1:∀W:World,W.heap[w4.heap.size]? =some (.mapIter (some w3.heap.size) 5 (seen.push e.born) 5)→(leftOf bq (W.iterSeen w4.heap.size)).size<(leftOf bq (wr.iterSeen w4.heap.size)).size:=fun W hW=>by
    have e1:W.iterSeen w4.heap.size=seen.push e.born:=by unfold World.iterSeen;rw [hW]
    have e2:wr.iterSeen w4.heap.size=seen:=by unfold World.iterSeen;rw [HIT.o]
    rw [e1,e2];exact left_shrinks bq seen e YR.o
   have ZR:=hide EQ1;by_cases hok:o1.2=kd
   ·have eok:(o1.2==kd)=true:=by simpa using hok
    have Xp:=hide (show VS w2 kd vl w3.heap.size w4.heap.size (W3.setCell ⟨w2.heap.size,0,none⟩ (.int .i64 o1.1)) (seen.push e.born) 5 o1.1 from
     ⟨(hat.below.trans hB).setCell (p:=⟨w2.heap.size,0,none⟩) (aa _) _,htx.bU 0 _,.inl (by rw [←hok];exact rG.symm),(Below.heap_setCell _ _ _ _ (by show w3.heap.size≠w2.heap.size;omega)).trans hmp,(Below.heap_setCell _ _ _ _ (by show w4.heap.size≠w2.heap.size;omega)).trans b1,aa _⟩)
    clear hrun b1 b2 b3 b4 b5 b6 hB htx hmp ZQ RG he hkey hval rG hat hw1 hW3 hok EQ1;go_wp2;go_roundw
    case rel=>exact ⟨_,_,_,Xp.o⟩
    case measure=>exact ZR.o _ Xp.o.it
   ·have eok:(o1.2==kd)=false:=by simpa using hok
    have Xp:=hide (show VS w2 kd vl w3.heap.size w4.heap.size W3 (seen.push e.born) 5 kv from
     ⟨hat.below.trans hB,htx,by
      rcases hat.kv with h|⟨h1,h2⟩
      ·exact .inl h
      ·exact .inr ⟨h1,fun e' he' hs=>by
        rcases Array.mem_push.1 hs with h3|h3
        ·exact h2 e' he' h3
        ·have:e'=e:=by
          have h2:=find_born e bq.toList fZ.2 (mem_left he).1;have h4:=find_born e' bq.toList fZ.2 he';rw [h3] at h4;exact au (h4.symm.trans h2)
         rw [this,hval];intro h5;injection h5 with _ h5;exact hok h5⟩,hmp,b1,aa _⟩)
    clear hrun b1 b2 b3 b4 b5 b6 hB htx hmp ZQ RG he hkey hval rG hat hw1 hW3 hok EQ1;go_wp2;go_roundw
    case rel=>exact ⟨_,_,_,Xp.o⟩
    case measure=>exact ZR.o _ Xp.o.it
end Go.Proofs.YtddoehnkgcbboaaGreatDoor
namespace Go.Proofs.YtddoehnkgcbboaaGreatDoor
open Go.RowKit Go.Shelf Go.Maps
theorem VY (o:Option St) (n:Nd) (fs:List Pw) (Uv:n.kind≠17) (RH:n.kind≠18) (ZT:n.kind≠28) (h8:n.kind≠8) (h6:n.kind≠6) (h7:n.kind≠7):o.bind (bn aD aQ n fs)=o.bind (dO aD aQ n fs):=by
 cases o with
 |none=>rfl
 |some st=>
  show bn aD aQ n fs st=dO aD aQ n fs st;unfold bn;rw [if_neg (by omega),if_neg (by omega),if_neg h6,if_neg h7]
theorem Nw (B b:Nat) (kd a0 xa xb xc xd:Int) (nm vl:List UInt8) (ks:List Nd) (A:Option Addr) (cap:Nat) (Uv:kd≠17) (RH:kd≠18) (ZT:kd≠28) (h8:kd≠8) (h6:kd≠6) (h7:kd≠7) (o:Option St) (M:Nat) (w:World) (h:cz w B b o M) (hk:sJ B w ks A) (gS:∀i (hi:i<ks.length),qs ks[i]) (hft:iJ kd xa xb xc xd nm vl) (hn:ks.length≤1000000) (hM:M+1500+2000*ax ks≤1099511627776):
 Calls Tryz.prog 113 #[.pointer (some ⟨b,0,none⟩),.agg (aB kd a0 nm vl xa xb xc xd (.slice A ks.length cap)).toArray] w (jn B b w (o.bind (bn aD aQ (.mk kd a0 nm vl xa xb xc xd ks) (aq aD aQ ks))) (M+1500+2000*ax ks)):=by
 rw [VY o (.mk kd a0 nm vl xa xb xc xd ks) _ Uv RH ZT h8 h6 h7];have hk2:=hide hk;have wW:=hide gS;have oJ:=hide hft;have n17:(kd==17)=false:=aP.2 Uv;have n18:(kd==18)=false:=aP.2 RH;have n28:(kd==28)=false:=aP.2 ZT;have n8:(kd==8)=false:=aP.2 h8;have n6:(kd==6)=false:=aP.2 h6;have n7:(kd==7)=false:=aP.2 h7;clear Uv RH ZT h8 h6 h7;have hlt:=h.lt.1;have hge:=h.lt.2;have oN:=hide hk
 obtain ⟨w1,hw1⟩:∃w1,w1=w.alloc (.cells (aB kd a0 nm vl xa xb xc xd (.slice A ks.length cap)).toArray 25):=⟨_,rfl⟩
 have hb1:Below w.heap.size w w1:=by rw [hw1];exact (af _ w).alloc (aa _) _
 have P1:=hide (h.keep hb1);have T1:=hide (aM.of_below (b:=b) hb1 (show B≤w.heap.size by omega));have fU:=ae (Row w1 w.heap.size 25 (aB kd a0 nm vl xa xb xc xd (.slice A ks.length cap)).toArray) (by rw [hw1];exact Row.new _ _ _);have cR:=hide hw1.symm;have oO:=hide gS;have pM:=hide hft;clear h hk hw1 hb1 gS hft;unfold aB at cR fU⊢;go_enter Tryz.func113,Tryz.ntmps113;go_upto_region 1 with fail;rw [cR.o];obtain ⟨dJ,eN,ei,ek,dF,dG,eA,eB,cj⟩:=ak fU.o;have C2:=hide (F5 B b kd a0 xa xb xc xd nm vl ks A cap o M w1 P1.o (hk2.o.keep T1.o.below T1.o.size) wW.o oJ.o hn hM);unfold aB at C2;go_wp2_with fail;refine (C2.o).mono ?_;rintro e w2 ⟨rfl,p2,t2⟩;have P2:=hide p2;have T2:=hide (T1.o.trans t2);have ia:=hide (t2.row fU.o (by decide) (by omega));clear p2 t2 C2;clear dJ eN ei ek dF dG eA eB cj;go_wp2;go_end0;exact ⟨rfl,P2.o,T2.o⟩
theorem F6 (B b:Nat) (kd a0 xa xb xc xd:Int) (nm vl:List UInt8) (ks:List Nd) (A:Option Addr) (cap:Nat) (Jo:ks.length≤400) (o:Option St) (M:Nat) (w:World) (h:cz w B b o M) (hk:sJ B w ks A) (gS:∀i (hi:i<ks.length),qs ks[i]) (hft:iJ kd xa xb xc xd nm vl) (hn:ks.length≤1000000) (hM:M+1500+2000*ax ks≤1099511627776):
 Calls Tryz.prog 113 #[.pointer (some ⟨b,0,none⟩),.agg (aB kd a0 nm vl xa xb xc xd (.slice A ks.length cap)).toArray] w (jn B b w (o.bind (bn aD aQ (.mk kd a0 nm vl xa xb xc xd ks) (aq aD aQ ks))) (M+1500+2000*ax ks)):=by
 by_cases Uv:kd=17
 ·exact Xd B b kd a0 xa xb xc xd nm vl ks A cap oG (.inl ⟨Uv,rfl⟩) o M w h hk gS hft hn hM
 by_cases RH:kd=18
 ·exact Xd B b kd a0 xa xb xc xd nm vl ks A cap nP (.inr ⟨RH,rfl⟩) o M w h hk gS hft hn hM
 by_cases ZT:kd=28
 ·exact Xf B b kd a0 xa xb xc xd nm vl ks A cap iG 2 (.inl ⟨ZT,rfl,rfl⟩) o M w h hk gS hft hn hM
 by_cases h8:kd=8
 ·exact Xf B b kd a0 xa xb xc xd nm vl ks A cap eu 8 (.inr ⟨h8,rfl,rfl⟩) o M w h hk gS hft hn hM
 by_cases h6:kd=6
 ·subst h6;exact abw B b a0 xa xb xc xd nm vl ks A cap o M w h hk gS hft hn hM
 by_cases h7:kd=7
 ·subst h7;exact abx B b a0 xa xb xc xd nm vl ks A cap o M w h hk gS hft hn Jo hM
 exact Nw B b kd a0 xa xb xc xd nm vl ks A cap Uv RH ZT h8 h6 h7 o M w h hk gS hft hn hM
theorem Au (B b:Nat) (kd a0 xa xb xc xd:Int) (nm vl:List UInt8) (ks:List Nd) (A:Option Addr) (cap:Nat) (h4:kd=45∨kd=47∨kd=44∨kd=42) (hcap:ks.length≤cap) (KM:∀i (hi:i<ks.length),Nj ks[i]) (o:Option St) (M:Nat) (w:World) (h:cz w B b o M) (hk:sJ B w ks A) (gS:∀i (hi:i<ks.length),qs ks[i]) (hft:iJ kd xa xb xc xd nm vl) (hn:ks.length≤1000000) (hM:M+1500+2000*ax ks≤1099511627776):
 Calls Tryz.prog 112 #[.pointer (some ⟨b,0,none⟩),.agg (aB kd a0 nm vl xa xb xc xd (.slice A ks.length cap)).toArray] w (jn B b w (o.bind (fS aD (.mk kd a0 nm vl xa xb xc xd ks) (aq aD aQ ks))) (M+1500+2000*ax ks)):=by
 rcases h4 with rfl|rfl|rfl|rfl
 ·exact Zt B b a0 xa xb xc xd nm vl ks A cap o M w h hk gS hft hcap hn hM
 ·exact Zw B b a0 xa xb xc xd nm vl ks A cap o M w h hk gS hft hcap hn hM
 ·exact ZA B b a0 xa xb xc xd nm vl ks A cap o M w h hk gS hft KM hn hM
 ·exact ZC B b a0 xa xb xc xd nm vl ks A cap o M w h hk gS hft KM hn hM
theorem ub {α:Type} {c:Prop} [Decidable c] {a b:Option α} {x:α} {P:Prop} (h:(if c then a else b)=some x) (f:a=some x→P) (g:b=some x→P):P:=by
 by_cases hc:c
 ·rw [if_pos hc] at h;exact f h
 ·rw [if_neg hc] at h;exact g h
theorem RJ {k:Int} {x:List UInt8×Int×Int×Int} (h:gq k=some x):x.1.length≤3∧0≤x.2.2.1∧x.2.2.1≤13∧0≤x.2.2.2∧x.2.2.2≤13:=by
 unfold gq at h
 repeat refine ub h (fun e=>by cases e;decide) fun h=>?_
 cases h
theorem BB (o:Option St) (n:Nd) (fs:List Pw) (x0:List UInt8) (x1 x2 x3:Int) (h:gq n.kind=some (x0,x1,x2,x3)):o.bind (dZ aD aQ n fs)=o.bind fun st=>if bJ n false false false false∧fs.length=2 then (jV fs 0 x2 st).bind fun st=>jV fs 1 x3 (fB st [[32],x0,[32]]) else none:=by
 cases o with
 |none=>rfl
 |some st=>
  show dZ aD aQ n fs st=_;unfold dZ;rw [h];rfl
end Go.Proofs.YtddoehnkgcbboaaGreatDoor
