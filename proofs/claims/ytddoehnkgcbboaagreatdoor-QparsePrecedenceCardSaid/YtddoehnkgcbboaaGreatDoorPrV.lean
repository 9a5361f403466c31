/- Packed by program: a part of the proof; the last file says what is proved. -/
import Derived.Test.YtddoehnkgcbboaaGreatDoorPrU
import Derived.Test.YtddoehnkgcbboaaGreatDoorPrT
set_option maxHeartbeats 16000000
set_option maxRecDepth 100000
set_option linter.unusedVariables false
set_option linter.unusedSimpArgs false
namespace Go.Proofs.YtddoehnkgcbboaaGreatDoor
open Go.RowKit Go.Shelf Go.Maps
open Go.ChangeMaps (setBlock)
theorem Cs (p:PS) (F:Nat) (cond dm:Nat→PR Nd) (hc:bQ p 17 cond F) (hb:bQ p 127 dm F) (Rw:Prog cond) (VF:Prog dm):bQ p 268 (gA p.L p.en (bX p) cond dm) (F+1):=by
 intro k w hF h
 have aN:p.b<w.heap.size:=h.row.lt
 have hb0:Below w.heap.size w (w.alloc (.cells bJ 25)):=(Below.refl _ _).alloc (Nat.le_refl _) _
 have fO:Row (w.alloc (.cells bJ 25)) w.heap.size 25 bJ:=Row.new _ _ _
 have Rv:=aa (dZ p k _ (h.below hb0))
 have AC:=aa (fun (k:Nat) (wd:List UInt8) (W:World) (h:bc p W k)=>cR p k wd W h)
 have EX:=aa (fun (k:Nat) (wd:List UInt8) (W:World) (h:bc p W k)=>eK p k wd W h)
 have KD:=aa (fun (q:Int) (W:World) (h:bc p W k)=>uj p k q W h)
 have TK:=aa (fun (q:Int) (W:World) (h:bc p W k)=>mz p k q W h)
 have CS:=aa (fun (W:World)=>km W)
 have HC:=aa (fun (k':Nat) (W:World) (hk:k+1≤k') (h:bc p W k')=>hc k' W (by omega) h)
 have HB:=aa (fun (k':Nat) (W:World) (hk:k+1≤k') (h:bc p W k')=>hb k' W (by omega) h)
 have Fi:=aa VF
 have H:=aa h
 have H0:=aa (show pT p w (w.alloc (.cells bJ 25)) k from ⟨h.below hb0,af.of_below hb0 (Nat.le_refl _),fO⟩)
 obtain ⟨RR,jC⟩:∃RR,gA p.L p.en (bX p) cond dm k=RR:=⟨_,rfl⟩
 rw [jC]
 generalize hpl:dy p.L p.en k=pl at Rv
 have TP:=aa (fun (q:Int) (k':Nat) (W:World) (hk:k+1≤k') (h:bc p W k')=>zq p F cond hc Rw q pl k' W (by omega) h)
 have HN:=aa (fun (hn:iF p.L p.en k=none)=>show RR=(if bH p.L k Bv then .ok (.mk 17 pl [] [] 0 0 0 0 []) (k+1)
  else if bH p.L k yT then .ok (.mk 18 pl [] [] 0 0 0 0 []) (k+1)
  else if bH p.L k cj then (cond (k+1)).bind fun n k'=>(ah p.L p.en k' ay).bind fun _ k2=>.ok n k2
  else if bH p.L k cJ then (dm (k+1)).bind fun n k'=>(h_ p.L dm (p.L.length+1) [n] k').bind fun l k2=>(ah p.L p.en k2 a_).bind fun _ k3=>.ok (.mk 7 pl [] [] 0 0 0 0 l) k3
  else match iO p.L eB k with
   |some q=>(ah p.L p.en (k+1) cj).bind fun _ k1=>(cond k1).bind fun x k2=>(ah p.L p.en k2 ay).bind fun _ k3=>.ok (.mk q pl [] [] 0 0 0 0 [x]) k3
   |none=>match iO p.L cY k with
    |some q=>jn p.L p.en (bX p) cond q pl (k+1)
    |none=>fj p.L p.en k) from by rw [←jC,←hpl];unfold gA;rw [hn];rfl)
 have HS:=aa (fun (n:Nd) (hn:iF p.L p.en k=some n)=>show RR=.ok n (k+1) from by rw [←jC];unfold gA;rw [hn])
 have Dr:=aa hpl
 clear hc hb Rw VF h hb0 fO jC hpl
 go_enter Tryz.func268,Tryz.ntmps268
 go_wp2_with fail
 refine Rv.out.mono ?_
 rintro e w1 ⟨rfl,hb1⟩
 have H1:=aa (H0.out.below aN hb1)
 clear hb1
 go_wp2_with fail
 refine (CS.out w1).mono ?_
 rintro e W2 ⟨rfl,hcs,hb2⟩
 have hrg:=run_range_map (P:=Tryz.prog) W2 124 3 3 w1.heap.size aH 5 Tryz.underlying124 hcs
 have h2:=H1.out.below aN hb2
 have HA:=aa (show JG p w k w1.heap.size W2.heap.size (W2.alloc (.mapIter (some w1.heap.size) 5 #[] 5)) #[] 5 from
  ⟨h2.below aN ((Below.refl _ W2).alloc (Nat.le_refl _) _),(heap_alloc_old W2 _ (Array.getElem?_eq_some_iff.1 hcs).1).trans hcs,heap_alloc_new W2 _,Nat.le_refl _⟩)
 have hz1:=H1.out.lt
 have hz2:w1.heap.size<W2.heap.size:=(Array.getElem?_eq_some_iff.1 hcs).1
 clear hcs hb2 h2
 go_wp2_with fail
 clear hrg
 go_loopw [] (fun W=>∃(seen:Array Nat) (c0:Nat),JG p w k w1.heap.size W2.heap.size W seen c0∧∀e∈aH.toList,e.born∈seen→∀q,e.key=.int .i64 q→bT p.L k q=false) (fun W=>(leftOf aH (W.iterSeen W2.heap.size)).size)
 case atStart=>exact ⟨#[],5,HA.out,fun e _ he=>absurd he (by simp)⟩
 case round=>
  obtain ⟨seen,c0,hat,hno⟩:=hrel
  have law:=run_next_at (P:=Tryz.prog) wr 0 W2.heap.size w1.heap.size 5 c0 seen aH 5 hat.it hat.map bZ.1 hat.since
  rcases law with ⟨h0,hrun⟩|⟨e,he,Yq,hw1,hrun⟩
  ·have qf:∀ty,(Instr.next (.pointer (some ⟨W2.heap.size,0,none⟩)) false ty).run Tryz.prog wr=_:=fun _=>hrun
   have hall:∀e∈aH.toList,e.born∈seen:=fun e he=>by
    by_cases hc:e.born∈seen
    ·exact hc
    ·exfalso
     have:e∈leftOf aH seen:=by
      unfold leftOf
      rw [Array.mem_filter]
      exact ⟨by simpa using he,by simpa using hc⟩
     have h1:=Array.size_pos_of_mem this
     omega
   have hnone:iF p.L p.en k=none:=Cr fun o ho=>by
    obtain ⟨e,he,hk⟩:=JF o ho
    exact hno e he (hall e he) o.1 hk
   have Ag:=aa (HN.out hnone)
   have HPR:=aa hat.pr
   clear hno hall hnone hat hrun HN HS h0
   have vt:=aa (AC.out k [116,114,117,101] wr HPR.out.at_)
   cases hI:bH p.L k [116,114,117,101] with
   |true=>
    rw [hI] at vt
    have HV:=aa (show RR=_ from by rw [Ag.out,if_pos (show bH p.L k Bv=true from hI)])
    clear hI Ag
    go_wp2_with fail
    refine vt.out.mono ?_
    rintro e vP ⟨rfl,uS,rT⟩
    have sB:=aa (HPR.out.keep aN uS rT)
    clear uS rT
    have hres:=sB.out.res
    obtain ⟨e0,e1,e2,e3,e4,e5,e6,e7,e8⟩:=aj hres
    obtain ⟨Gr,Gs,EO,Gt,Gu,Gv,Gw,Gx,Gy⟩:=aA hres
    have HE:=aa (show RR=.ok (.mk 17 pl [] [] 0 0 0 0 []) (k+1) from by rw [HV.out])
    go_wp2_with fail
    refine bodyPost_ret (v:=.agg #[.int .i64 17,.int .i64 pl,.string {data:=#[]},.string {data:=#[]},.int .i64 0,.int .i64 0,.int .i64 0,.int .i64 0,.slice none 0 0]) (ag rfl _ _ w.heap.size 25 _ _ _ rfl (av hres _ _ _ _ _ _ _ _ _) Tryz.underlying25 rfl (by kernel_rfl)) rfl ?_
    have hbl:=ak (W:=vP) (Nat.le_refl w.heap.size) (.int .i64 17) (.int .i64 pl) (.string {data:=#[]}) (.string {data:=#[]}) (.int .i64 0) (.int .i64 0) (.int .i64 0) (.int .i64 0) (.slice none 0 0)
    rw [HE.out]
    exact ⟨⟨_,rfl,_,rfl,cG.leaf _ _ 17 pl [] [] 0 0 0 0 none 0⟩,H.out.above sB.out.at_ hbl,sB.out.keeps.over hbl⟩
   |false=>
    rw [hI] at vt
    have fB:=aa (show RR=(if bH p.L k yT then .ok (.mk 18 pl [] [] 0 0 0 0 []) (k+1)
     else if bH p.L k cj then (cond (k+1)).bind fun n k'=>(ah p.L p.en k' ay).bind fun _ k2=>.ok n k2
     else if bH p.L k cJ then (dm (k+1)).bind fun n k'=>(h_ p.L dm (p.L.length+1) [n] k').bind fun l k2=>(ah p.L p.en k2 a_).bind fun _ k3=>.ok (.mk 7 pl [] [] 0 0 0 0 l) k3
     else match iO p.L eB k with
      |some q=>(ah p.L p.en (k+1) cj).bind fun _ k1=>(cond k1).bind fun x k2=>(ah p.L p.en k2 ay).bind fun _ k3=>.ok (.mk q pl [] [] 0 0 0 0 [x]) k3
      |none=>match iO p.L cY k with
       |some q=>jn p.L p.en (bX p) cond q pl (k+1)
       |none=>fj p.L p.en k) from by rw [Ag.out,if_neg (show¬bH p.L k Bv=true from by rw [show bH p.L k Bv=false from hI];decide)])
    clear hI Ag
    go_wp2_with fail
    refine vt.out.mono ?_
    rintro e vP ⟨rfl,uS,rT⟩
    have sB:=aa (HPR.out.keep aN (show bc p vP k from uS) rT)
    clear uS rT
    have PZ:=aa (AC.out k [102,97,108,115,101] vP sB.out.at_)
    cases hI:bH p.L k [102,97,108,115,101] with
    |true=>
     rw [hI] at PZ
     have HV:=aa (show RR=_ from by rw [fB.out,if_pos (show bH p.L k yT=true from hI)])
     clear hI fB
     go_wp2_with fail
     refine PZ.out.mono ?_
     rintro e IU ⟨rfl,MS,Ct⟩
     have Fj:=aa (sB.out.keep aN MS Ct)
     clear MS Ct
     have hres:=Fj.out.res
     obtain ⟨e0,e1,e2,e3,e4,e5,e6,e7,e8⟩:=aj hres
     obtain ⟨Gr,Gs,EO,Gt,Gu,Gv,Gw,Gx,Gy⟩:=aA hres
     have HE:=aa (show RR=.ok (.mk 18 pl [] [] 0 0 0 0 []) (k+1) from by rw [HV.out])
     go_wp2_with fail
     refine bodyPost_ret (v:=.agg #[.int .i64 18,.int .i64 pl,.string {data:=#[]},.string {data:=#[]},.int .i64 0,.int .i64 0,.int .i64 0,.int .i64 0,.slice none 0 0]) (ag rfl _ _ w.heap.size 25 _ _ _ rfl (av hres _ _ _ _ _ _ _ _ _) Tryz.underlying25 rfl (by kernel_rfl)) rfl ?_
     have hbl:=ak (W:=IU) (Nat.le_refl w.heap.size) (.int .i64 18) (.int .i64 pl) (.string {data:=#[]}) (.string {data:=#[]}) (.int .i64 0) (.int .i64 0) (.int .i64 0) (.int .i64 0) (.slice none 0 0)
     rw [HE.out]
     exact ⟨⟨_,rfl,_,rfl,cG.leaf _ _ 18 pl [] [] 0 0 0 0 none 0⟩,H.out.above Fj.out.at_ hbl,Fj.out.keeps.over hbl⟩
    |false=>
     rw [hI] at PZ
     have fP:=aa (show RR=(if bH p.L k cj then (cond (k+1)).bind fun n k'=>(ah p.L p.en k' ay).bind fun _ k2=>.ok n k2
      else if bH p.L k cJ then (dm (k+1)).bind fun n k'=>(h_ p.L dm (p.L.length+1) [n] k').bind fun l k2=>(ah p.L p.en k2 a_).bind fun _ k3=>.ok (.mk 7 pl [] [] 0 0 0 0 l) k3
      else match iO p.L eB k with
       |some q=>(ah p.L p.en (k+1) cj).bind fun _ k1=>(cond k1).bind fun x k2=>(ah p.L p.en k2 ay).bind fun _ k3=>.ok (.mk q pl [] [] 0 0 0 0 [x]) k3
       |none=>match iO p.L cY k with
        |some q=>jn p.L p.en (bX p) cond q pl (k+1)
        |none=>fj p.L p.en k) from by rw [fB.out,if_neg (show¬bH p.L k yT=true from by rw [show bH p.L k yT=false from hI];decide)])
     clear hI fB
     go_wp2_with fail
     refine PZ.out.mono ?_
     rintro e IU ⟨rfl,MS,Ct⟩
     have Fj:=aa (sB.out.keep aN (show bc p IU k from MS) Ct)
     clear MS Ct
     have O_:=aa (AC.out k [40] IU Fj.out.at_)
     cases hI:bH p.L k [40] with
     |true=>
      rw [hI] at O_
      have HV:=aa (show RR=_ from by rw [fP.out,if_pos (show bH p.L k cj=true from hI)])
      clear hI fP
      go_wp2_with fail
      refine O_.out.mono ?_
      rintro e IV ⟨rfl,Cu,rU⟩
      have JH:=aa (Fj.out.keep aN Cu rU)
      clear Cu rU
      have nG:=aa (show RR=(cond (k+1)).bind fun n k'=>(ah p.L p.en k' ay).bind fun _ k2=>.ok n k2 from HV.out)
      have kp:=JH
      have X:=aa (HC.out (k+1) IV (by omega) JH.out.at_)
      cases hx:cond (k+1) with
      |err a er=>
       rw [hx] at X
       have HE:=aa (show RR=.err a er from by rw [nG.out,hx];rfl)
       clear hx
       go_wp2_with fail
       refine X.out.mono ?_
       rintro e nE ⟨rfl,bK⟩
       go_wp2
       exact ⟨rfl,by rw [HE.out];exact ⟨rfl,kp.out.keeps.trans bK⟩⟩
      |ok n k1=>
       rw [hx] at X
       have mX:=aa (show RR=(ah p.L p.en k1 ay).bind fun _ k2=>.ok n k2 from by rw [nG.out,hx];rfl)
       clear hx HV nG
       go_wp2_with fail
       refine X.out.mono ?_
       rintro e w3 ⟨⟨v,rfl,cs,rfl,aB⟩,h3,hk3⟩
       have hr3:Row w3 w.heap.size 25 bJ:=kp.out.res.keep hk3 (by show¬w.heap.size=p.b;omega)
       have hg:w.heap.size<w3.heap.size:=hr3.lt
       have hl3:=bR.new h3 (kp.out.keeps.trans hk3) hr3 aB kp.out.lt
       obtain ⟨kd,a0,nm,vl,xa,xb,xc,xd,A,len,cap,rfl⟩:=aB.nine
       generalize jA:w3.alloc (.cells (aw kd a0 nm vl xa xb xc xd (.slice A len cap)).toArray 25)=W4 at hl3
       have zN:=aa hl3
       have lB:w3.alloc (.cells #[.int .i64 kd,.int .i64 a0,.string (ae nm),.string (ae vl),.int .i64 xa,.int .i64 xb,.int .i64 xc,.int .i64 xd,.slice A len cap] 25)=W4:=jA
       clear h3 hk3 hr3 aB hl3 jA
       unfold aw
       have Qg:=aa (EX.out k1 [41] W4 zN.out.at_)
       cases hD:ah p.L p.en k1 [41] with
       |err a er=>
        rw [hD] at Qg
        have HE:=aa (show RR=.err a er from by rw [mX.out,show ah p.L p.en k1 ay=.err a er from hD];rfl)
        clear hD
        go_wp2_with fail
        refine Qg.out.mono ?_
        rintro e nE ⟨rfl,bK⟩
        go_wp2
        exact ⟨rfl,by rw [HE.out];exact ⟨rfl,zN.out.keeps.trans bK⟩⟩
       |ok u k2=>
        rw [hD] at Qg
        have HE:=aa (show RR=.ok n k2 from by rw [mX.out,show ah p.L p.en k1 ay=.ok u k2 from hD];rfl)
        clear hD
        go_wp2_with fail
        refine Qg.out.mono ?_
        rintro e W5 ⟨⟨v,rfl,rfl⟩,h5,hk5⟩
        have uT:=aa (zN.out.keep aN hg h5 hk5)
        clear h5 hk5 lB
        obtain ⟨vX,bS,hres,hrow,aB⟩:=uT.out
        obtain ⟨z0,z1,z2,z3,z4,z5,z6,z7,z8⟩:=aj hrow
        obtain ⟨y0,y1,y2,y3,y4,y5,y6,y7,y8⟩:=aj hres
        obtain ⟨zu,zv,zw,zx,zy,zz,zA,zB,zC⟩:=aA hres
        have cN:=aa aB
        clear hrow aB
        go_wp2_with fail
        refine bodyPost_ret (v:=.agg #[.int .i64 kd,.int .i64 a0,.string (ae nm),.string (ae vl),.int .i64 xa,.int .i64 xb,.int .i64 xc,.int .i64 xd,.slice A len cap]) (ag rfl _ _ w.heap.size 25 _ _ _ rfl (av hres _ _ _ _ _ _ _ _ _) Tryz.underlying25 rfl (by kernel_rfl)) rfl ?_
        have hbl:=ak (W:=W5) (Nat.le_refl w.heap.size) (.int .i64 kd) (.int .i64 a0) (.string (ae nm)) (.string (ae vl)) (.int .i64 xa) (.int .i64 xb) (.int .i64 xc) (.int .i64 xd) (.slice A len cap)
        rw [HE.out]
        exact ⟨⟨_,rfl,_,rfl,(cN.out.keeps (ax (C:=fun b=>b≤w.heap.size∨b=w3.heap.size) (.inl (Nat.le_refl _)) _ _ _ _ _ _ _ _ _)).mono (fun b hb'=>.inl (Nat.le_of_lt hb'))⟩,H.out.above vX hbl,bS.over hbl⟩
     |false=>
      rw [hI] at O_
      have gq:=aa (show RR=(if bH p.L k cJ then (dm (k+1)).bind fun n k'=>(h_ p.L dm (p.L.length+1) [n] k').bind fun l k2=>(ah p.L p.en k2 a_).bind fun _ k3=>.ok (.mk 7 pl [] [] 0 0 0 0 l) k3
       else match iO p.L eB k with
        |some q=>(ah p.L p.en (k+1) cj).bind fun _ k1=>(cond k1).bind fun x k2=>(ah p.L p.en k2 ay).bind fun _ k3=>.ok (.mk q pl [] [] 0 0 0 0 [x]) k3
        |none=>match iO p.L cY k with
         |some q=>jn p.L p.en (bX p) cond q pl (k+1)
         |none=>fj p.L p.en k) from by rw [fP.out,if_neg (show¬bH p.L k cj=true from by rw [show bH p.L k cj=false from hI];decide)])
      clear hI fP
      go_wp2_with fail
      refine O_.out.mono ?_
      rintro e IV ⟨rfl,Cu,rU⟩
      have JH:=aa (Fj.out.keep aN (show bc p IV k from Cu) rU)
      clear Cu rU
      have ZX:=aa (AC.out k [123] IV JH.out.at_)
      cases hI:bH p.L k [123] with
      |true=>
       rw [hI] at ZX
       have HV:=aa (show RR=_ from by rw [gq.out,if_pos (show bH p.L k cJ=true from hI)])
       clear hI gq
       go_wp2_with fail
       refine ZX.out.mono ?_
       rintro e J_ ⟨rfl,zO,rV⟩
       have Fk:=aa (JH.out.keep aN zO rV)
       clear zO rV
       have nG:=aa (show RR=(dm (k+1)).bind fun n k'=>(h_ p.L dm (p.L.length+1) [n] k').bind fun l k2=>(ah p.L p.en k2 a_).bind fun _ k3=>.ok (.mk 7 pl [] [] 0 0 0 0 l) k3 from HV.out)
       have kp:=Fk
       have X:=aa (HB.out (k+1) J_ (by omega) Fk.out.at_)
       cases hx:dm (k+1) with
       |err a er=>
        rw [hx] at X
        have HE:=aa (show RR=.err a er from by rw [nG.out,hx];rfl)
        clear hx
        go_wp2_with fail
        refine X.out.mono ?_
        rintro e nE ⟨rfl,bK⟩
        go_wp2
        exact ⟨rfl,by rw [HE.out];exact ⟨rfl,kp.out.keeps.trans bK⟩⟩
       |ok x k1=>
        rw [hx] at X
        have MO:=Fi.out _ _ _ hx
        have mX:=aa (show (h_ p.L dm (p.L.length+1) [x] k1).bind (fun l k2=>(ah p.L p.en k2 a_).bind fun _ k3=>.ok (.mk 7 pl [] [] 0 0 0 0 l) k3)=RR from by rw [nG.out,hx];rfl)
        clear hx HV nG
        go_wp2_with fail
        refine X.out.mono ?_
        rintro e w3 ⟨⟨v,rfl,cs,rfl,aB⟩,h3,hk3⟩
        have hr3:Row w3 w.heap.size 25 bJ:=kp.out.res.keep hk3 (by show¬w.heap.size=p.b;omega)
        obtain ⟨kd,a0,nm,vl,xa,xb,xc,xd,A,len,cap,rfl⟩:=aB.nine
        generalize jA:w3.alloc (.cells [aw kd a0 nm vl xa xb xc xd (.slice A len cap)].flatten.toArray 25)=W4
        have s4:W4.heap.size=w3.heap.size+1:=by rw [←jA,World.size_alloc]
        generalize pA:W4.alloc (.cells (aw 7 pl [] [] 0 0 0 0 (.slice (some ⟨w3.heap.size,0,none⟩) 1 1)).toArray 25)=W5
        have kX:=kj.new h3 (kp.out.keeps.trans hk3) hr3 aB kp.out.lt jA.symm pA.symm
        rw [←s4] at kX
        have PD:=aa kX
        have lB:w3.alloc (.cells #[.int .i64 kd,.int .i64 a0,.string (ae nm),.string (ae vl),.int .i64 xa,.int .i64 xb,.int .i64 xc,.int .i64 xd,.slice A len cap] 25)=W4:=jA
        have zr:W4.alloc (.cells #[.int .i64 7,.int .i64 pl,.string {data:=#[]},.string {data:=#[]},.int .i64 0,.int .i64 0,.int .i64 0,.int .i64 0,.slice (some ⟨w3.heap.size,0,none⟩) 1 1] 25)=W5:=pA
        have hg:w.heap.size<W4.heap.size:=by have:=hr3.lt;omega
        clear h3 hk3 hr3 aB kX jA pA s4
        unfold aw
        go_wp2_with fail
        clear lB zr
        go_loopw [] (fun W=>∃gk nn c ks bF k2 m,kj p w W4.heap.size W 7 pl gk nn c ks bF k2∧(h_ p.L dm m ks k2).bind (fun l k2=>(ah p.L p.en k2 a_).bind fun _ k3=>.ok (.mk 7 pl [] [] 0 0 0 0 l) k3)=RR∧p.L.length<m+k2∧k+1≤k2∧nn≤k2) (fun W=>p.L.length+1-placeOf p W)
        case atStart=>exact ⟨_,_,_,_,_,_,_,PD.out,mX.out,by omega,MO,by omega⟩
        case round=>
         obtain ⟨gk,nn,c,ks,bF,k2,m,vU,hm,hmk,gM,hnn⟩:=hrel
         have Yr:=aa vU
         have HM:=aa hm
         have hk2:=vU.at_.le
         obtain ⟨m',rfl⟩:∃m',m=m'+1:=⟨m-1,by omega⟩
         have ZY:=aa (AC.out k2 [44] wr vU.at_)
         clear vU hm
         cases hJ:bH p.L k2 [44] with
         |false=>
          rw [hJ] at ZY
          have Ys:=aa (show RR=(ah p.L p.en k2 a_).bind fun _ k3=>.ok (.mk 7 pl [] [] 0 0 0 0 ks) k3 from by rw [←HM.out];unfold h_;rw [if_neg (show¬bH p.L k2 au=true from by rw [show bH p.L k2 au=false from hJ];decide)];rfl)
          clear hJ
          go_wp2_with fail
          refine ZY.out.mono ?_
          rintro e W8 ⟨rfl,h8,Kb⟩
          have zQ:=aa (Yr.out.keep aN hg (show bc p W8 k2 from h8) Kb)
          clear h8 Kb
          have ZZ:=aa (EX.out k2 [125] W8 zQ.out.at_)
          cases hD:ah p.L p.en k2 [125] with
          |err a er=>
           rw [hD] at ZZ
           have HE:=aa (show RR=.err a er from by rw [Ys.out,show ah p.L p.en k2 a_=.err a er from hD];rfl)
           clear hD
           go_wp2_with fail
           refine ZZ.out.mono ?_
           rintro e nE ⟨rfl,bK⟩
           go_wp2
           exact ⟨rfl,by rw [HE.out];exact ⟨rfl,zQ.out.keeps.trans bK⟩⟩
          |ok u k3=>
           rw [hD] at ZZ
           have HE:=aa (show RR=.ok (.mk 7 pl [] [] 0 0 0 0 ks) k3 from by rw [Ys.out,show ah p.L p.en k2 a_=.ok u k3 from hD];rfl)
           clear hD
           go_wp2_with fail
           refine ZZ.out.mono ?_
           rintro e W9 ⟨⟨v,rfl,rfl⟩,h9,Uj⟩
           have hkn:=zQ.out.kids.num
           subst hkn
           have HL9:=aa (zQ.out.keep aN hg h9 Uj).lf
           clear h9 Uj
           obtain ⟨vX,bS,hres,hrow,aB⟩:=HL9.out
           obtain ⟨z0,z1,z2,z3,z4,z5,z6,z7,z8⟩:=aj hrow
           obtain ⟨y0,y1,y2,y3,y4,y5,y6,y7,y8⟩:=aj hres
           obtain ⟨zu,zv,zw,zx,zy,zz,zA,zB,zC⟩:=aA hres
           have cN:=aa aB
           clear hrow aB
           go_wp2_with fail
           refine bodyPost_ret (v:=.agg #[.int .i64 7,.int .i64 pl,.string {data:=#[]},.string {data:=#[]},.int .i64 0,.int .i64 0,.int .i64 0,.int .i64 0,.slice (some ⟨gk,0,none⟩) ks.length c]) (ag rfl _ _ w.heap.size 25 _ _ _ rfl (av hres _ _ _ _ _ _ _ _ _) Tryz.underlying25 rfl (by kernel_rfl)) rfl ?_
           have hbl:=ak (W:=W9) (Nat.le_refl w.heap.size) (.int .i64 7) (.int .i64 pl) (.string {data:=#[]}) (.string {data:=#[]}) (.int .i64 0) (.int .i64 0) (.int .i64 0) (.int .i64 0) (.slice (some ⟨gk,0,none⟩) ks.length c)
           rw [HE.out]
           exact ⟨⟨_,rfl,_,rfl,(cN.out.keeps (ax (C:=fun b=>b≤w.heap.size∨b=W4.heap.size) (.inl (Nat.le_refl _)) _ _ _ _ _ _ _ _ _)).mono (fun b hb'=>.inl (Nat.le_of_lt hb'))⟩,H.out.above vX hbl,bS.over hbl⟩
         |true=>
          rw [hJ] at ZY
          have Ys:=aa (show ((dm (k2+1)).bind fun x k'=>h_ p.L dm m' (ks++[x]) k').bind (fun l k2=>(ah p.L p.en k2 a_).bind fun _ k3=>.ok (.mk 7 pl [] [] 0 0 0 0 l) k3)=RR from by
           rw [←HM.out]
           conv=>rhs;unfold h_
           rw [if_pos (show bH p.L k2 au=true from hJ)])
          have hlt:=sO hJ
          clear hJ
          go_wp2_with fail
          refine ZY.out.mono ?_
          rintro e W8 ⟨rfl,h8,Kb⟩
          have zQ:=aa (Yr.out.keep aN hg (show bc p W8 (k2+1) from h8) Kb)
          clear h8 Kb
          have c8:W8.cell? ⟨W4.heap.size,8,none⟩=some (.slice (some ⟨gk,0,none⟩) nn c):=zQ.out.row.cell 8
          have CX:=aa (HB.out (k2+1) W8.drew (by omega) (zQ.out.at_.below ((Below.refl _ W8).drew)))
          go_wp2_with fail
          cases hy:dm (k2+1) with
          |err a er=>
           rw [hy] at CX
           have sQ:=aa (fun (W:World) (hk:af (fun c=>c=p.b) W8.drew W)=>show bO p w (nh w.heap.size) RR (.panicked [{v:=kE a er,recovered:=false}]) W from by
            rw [←Ys.out,hy];exact ⟨rfl,(zQ.out.keeps.drew).trans hk⟩)
           clear hy
           refine wp_region_any (by kernel_rfl) ?_
           change wpAny _ _ _ _ _ _ _ (World.drew _)
           refine wpAny_take (i:=0) (v:=?_) rfl (by kernel_rfl) (by kernel_rfl) (by kernel_rfl) (fun _ _ _ h=>h) (Or.inl ⟨by rfl,?_⟩) ?_
           rotate_left
           ·intro w;go_simp;with_reducible rfl
           refine wpAny_take (i:=2) (v:=?_) rfl (by kernel_rfl) (by kernel_rfl) (by kernel_rfl) (fun _ _ _ h=>h) (Or.inl ⟨by rfl,?_⟩) ?_
           rotate_left
           ·intro w;go_simp;with_reducible rfl
           refine wpAny_ready (rs:=[1,3]) (by kernel_rfl) (by simp) ?_
           refine AllReady.cons rfl (fun K hK=>?_) (AllReady.cons rfl (fun K hK=>?_) AllReady.nil)
           ·go_simp
            refine hK _ _ ?_
            clear hK K
            refine wpAny_ready (rs:=[3]) (by kernel_rfl) (by simp) ?_
            refine AllReady.cons rfl (fun K hK=>?_) AllReady.nil
            go_simp
            refine CX.out.mono ?_
            rintro e w5 ⟨rfl,hk5⟩
            exact ⟨rfl,sQ.out _ hk5⟩
           ·go_simp
            refine CX.out.mono ?_
            rintro e w5 ⟨rfl,hk5⟩
            exact ⟨rfl,sQ.out _ hk5⟩
          |ok y k3=>
           rw [hy] at CX
           have Cj:=Fi.out _ _ _ hy
           have HM2:=aa (show (h_ p.L dm m' (ks++[y]) k3).bind (fun l k2=>(ah p.L p.en k2 a_).bind fun _ k3=>.ok (.mk 7 pl [] [] 0 0 0 0 l) k3)=RR from by rw [←Ys.out,hy];rfl)
           clear hy
           refine wp_region_any (by kernel_rfl) ?_
           change wpAny _ _ _ _ _ _ _ (World.drew _)
           refine wpAny_take (i:=0) (v:=?_) rfl (by kernel_rfl) (by kernel_rfl) (by kernel_rfl) (fun _ _ _ h=>h) (Or.inl ⟨by rfl,?_⟩) ?_
           rotate_left
           ·intro w;go_simp;with_reducible rfl
           refine wpAny_take (i:=2) (v:=?_) rfl (by kernel_rfl) (by kernel_rfl) (by kernel_rfl) (fun _ _ _ h=>h) (Or.inl ⟨by rfl,?_⟩) ?_
           rotate_left
           ·intro w;go_simp;with_reducible rfl
           refine wpAny_ready (rs:=[1,3]) (by kernel_rfl) (by simp) ?_
           refine AllReady.cons rfl (fun K hK=>?_) (AllReady.cons rfl (fun K hK=>?_) AllReady.nil)
           ·go_simp
            refine hK _ _ ?_
            clear hK K
            refine wpAny_ready (rs:=[3]) (by kernel_rfl) (by simp) ?_
            refine AllReady.cons rfl (fun K hK=>?_) AllReady.nil
            go_simp
            refine CX.out.mono ?_
            rintro e w5 ⟨⟨v,rfl,Ye,rfl,ik⟩,h5,hk5⟩
            refine hK _ _ ?_
            clear hK K
            have cO:af (fun c=>c=p.b) W8 w5:=⟨hk5.os,hk5.tape,hk5.output,hk5.size,hk5.block⟩
            have il:=zQ.out.keep aN hg h5 cO
            obtain ⟨yk,y0,yn,yv,ya,yb,yc,yd,yA,dW,dp,rfl⟩:=ik.nine
            have uN:=ik.mono (C':=fun b=>(b≤w.heap.size∨b=W4.heap.size)∨b=gk) (fun b hb=>by
             have e1:=zQ.out.row.lt
             have e2:=zQ.out.kids.lt
             have e3:=zQ.out.res.lt
             show b<W8.heap.size
             rcases hb with (hb|rfl)|rfl<;>omega)
            unfold aw
            refine wpAny_ready (rs:=[4]) (by kernel_rfl) (by simp) ?_
            refine AllReady.cons rfl (fun K hK=>?_) AllReady.nil
            go_simp
            refine hK _ _ ?_
            clear hK K
            generalize qV:World.alloc w5 _=W9
            have b9:Below w5.heap.size w5 W9:=by rw [←qV];exact (Below.refl _ _).alloc (Nat.le_refl _) _
            have r9:Row W9 w5.heap.size 25 (aw yk y0 yn yv ya yb yc yd (.slice yA dW dp)).toArray:=by rw [←qV];exact Row.new _ _ _
            have gV:=il.keep aN hg (h5.below b9) (af.of_below b9 (Nat.le_refl _))
            obtain ⟨kq,ck,lO,cZ,cX,hgr⟩:=gV.kids.app (uN.keeps (af.of_below b9 (Nat.le_refl _))) r9 (by have:=gV.res.lt;omega) (fun b hb=>by
             have e1:=gV.row.lt
             have e3:=gV.res.lt
             rcases hb with hb|rfl<;>omega) (by have:=zQ.out.at_.small;omega)
            have uU:=gV.row.grown hgr (by intro e;exact gV.kids.not (.inr (Option.some.inj e).symm))
            have rW:=gV.app H.out hg cX hgr
            have m8:lO.cell? ⟨W4.heap.size,8,none⟩=some (.slice (some ⟨gk,0,none⟩) nn c):=uU.cell 8
            have sX:=uU.frozen 8
            have Cv:=aa rW
            clear rW gV il uU cX hgr b9 r9 uN ik h5 hk5 cO qV
            refine wpAny_ready (rs:=[5]) (by kernel_rfl) (by simp) ?_
            refine AllReady.cons rfl (fun K hK=>?_) AllReady.nil
            refine bp (by kernel_rfl) (.tmp 71) (.tmp 74) 23 rfl rfl rfl cZ ?_
            refine hK _ _ ?_
            clear hK K cZ
            refine wpAny_ready (rs:=[6]) (by kernel_rfl) (by simp) ?_
            refine AllReady.cons rfl (fun K hK=>?_) AllReady.nil
            go_simp
            refine hK _ _ ?_
            clear hK K
            refine wpAny_ready (rs:=[7]) (by kernel_rfl) (by simp) ?_
            refine AllReady.cons rfl (fun K hK=>?_) AllReady.nil
            go_simp
            refine hK _ _ ?_
            clear hK K
            refine wpAny_done (by kernel_rfl) ?_ _
            go_wp2
            go_roundw
            case rel=>exact ⟨kq,nn+1,ck,ks++[y],_,k3,m',Cv.out,HM2.out,by omega,by omega,by omega⟩
            case measure=>rw [bU Cv.out.at_,bU Yr.out.at_];omega
           ·go_simp
            refine CX.out.mono ?_
            rintro e w5 ⟨⟨v,rfl,Ye,rfl,ik⟩,h5,hk5⟩
            refine hK _ _ ?_
            clear hK K
            have cO:af (fun c=>c=p.b) W8 w5:=⟨hk5.os,hk5.tape,hk5.output,hk5.size,hk5.block⟩
            have il:=zQ.out.keep aN hg h5 cO
            obtain ⟨yk,y0,yn,yv,ya,yb,yc,yd,yA,dW,dp,rfl⟩:=ik.nine
            have uN:=ik.mono (C':=fun b=>(b≤w.heap.size∨b=W4.heap.size)∨b=gk) (fun b hb=>by
             have e1:=zQ.out.row.lt
             have e2:=zQ.out.kids.lt
             have e3:=zQ.out.res.lt
             show b<W8.heap.size
             rcases hb with (hb|rfl)|rfl<;>omega)
            unfold aw
            have c8b:w5.cell? ⟨W4.heap.size,8,none⟩=some (.slice (some ⟨gk,0,none⟩) nn c):=il.row.cell 8
            refine wpAny_ready (rs:=[1,4]) (by kernel_rfl) (by simp) ?_
            refine AllReady.cons rfl (fun K hK=>?_) (AllReady.cons rfl (fun K hK=>?_) AllReady.nil)
            ·go_simp
             refine hK _ _ ?_
             clear hK K
             refine wpAny_ready (rs:=[4]) (by kernel_rfl) (by simp) ?_
             refine AllReady.cons rfl (fun K hK=>?_) AllReady.nil
             go_simp
             refine hK _ _ ?_
             clear hK K
             generalize qV:World.alloc w5 _=W9
             have b9:Below w5.heap.size w5 W9:=by rw [←qV];exact (Below.refl _ _).alloc (Nat.le_refl _) _
             have r9:Row W9 w5.heap.size 25 (aw yk y0 yn yv ya yb yc yd (.slice yA dW dp)).toArray:=by rw [←qV];exact Row.new _ _ _
             have gV:=il.keep aN hg (h5.below b9) (af.of_below b9 (Nat.le_refl _))
             obtain ⟨kq,ck,lO,cZ,cX,hgr⟩:=gV.kids.app (uN.keeps (af.of_below b9 (Nat.le_refl _))) r9 (by have:=gV.res.lt;omega) (fun b hb=>by
              have e1:=gV.row.lt
              have e3:=gV.res.lt
              rcases hb with hb|rfl<;>omega) (by have:=zQ.out.at_.small;omega)
             have uU:=gV.row.grown hgr (by intro e;exact gV.kids.not (.inr (Option.some.inj e).symm))
             have rW:=gV.app H.out hg cX hgr
             have m8:lO.cell? ⟨W4.heap.size,8,none⟩=some (.slice (some ⟨gk,0,none⟩) nn c):=uU.cell 8
             have sX:=uU.frozen 8
             have Cv:=aa rW
             clear rW gV il uU cX hgr b9 r9 uN ik h5 hk5 cO qV
             refine wpAny_ready (rs:=[5]) (by kernel_rfl) (by simp) ?_
             refine AllReady.cons rfl (fun K hK=>?_) AllReady.nil
             refine bp (by kernel_rfl) (.tmp 71) (.tmp 74) 23 rfl rfl rfl cZ ?_
             refine hK _ _ ?_
             clear hK K cZ
             refine wpAny_ready (rs:=[6]) (by kernel_rfl) (by simp) ?_
             refine AllReady.cons rfl (fun K hK=>?_) AllReady.nil
             go_simp
             refine hK _ _ ?_
             clear hK K
             refine wpAny_ready (rs:=[7]) (by kernel_rfl) (by simp) ?_
             refine AllReady.cons rfl (fun K hK=>?_) AllReady.nil
             go_simp
             refine hK _ _ ?_
             clear hK K
             refine wpAny_done (by kernel_rfl) ?_ _
             go_wp2
             go_roundw
             case rel=>exact ⟨kq,nn+1,ck,ks++[y],_,k3,m',Cv.out,HM2.out,by omega,by omega,by omega⟩
             case measure=>rw [bU Cv.out.at_,bU Yr.out.at_];omega
            ·go_simp
             refine hK _ _ ?_
             clear hK K
             generalize qV:World.alloc w5 _=W9
             have b9:Below w5.heap.size w5 W9:=by rw [←qV];exact (Below.refl _ _).alloc (Nat.le_refl _) _
             have r9:Row W9 w5.heap.size 25 (aw yk y0 yn yv ya yb yc yd (.slice yA dW dp)).toArray:=by rw [←qV];exact Row.new _ _ _
             have gV:=il.keep aN hg (h5.below b9) (af.of_below b9 (Nat.le_refl _))
             have c8c:W9.cell? ⟨W4.heap.size,8,none⟩=some (.slice (some ⟨gk,0,none⟩) nn c):=gV.row.cell 8
             refine wpAny_ready (rs:=[1]) (by kernel_rfl) (by simp) ?_
             refine AllReady.cons rfl (fun K hK=>?_) AllReady.nil
             go_simp
             refine hK _ _ ?_
             clear hK K
             obtain ⟨kq,ck,lO,cZ,cX,hgr⟩:=gV.kids.app (uN.keeps (af.of_below b9 (Nat.le_refl _))) r9 (by have:=gV.res.lt;omega) (fun b hb=>by
              have e1:=gV.row.lt
              have e3:=gV.res.lt
              rcases hb with hb|rfl<;>omega) (by have:=zQ.out.at_.small;omega)
             have uU:=gV.row.grown hgr (by intro e;exact gV.kids.not (.inr (Option.some.inj e).symm))
             have rW:=gV.app H.out hg cX hgr
             have m8:lO.cell? ⟨W4.heap.size,8,none⟩=some (.slice (some ⟨gk,0,none⟩) nn c):=uU.cell 8
             have sX:=uU.frozen 8
             have Cv:=aa rW
             clear rW gV il uU cX hgr b9 r9 uN ik h5 hk5 cO qV
             refine wpAny_ready (rs:=[5]) (by kernel_rfl) (by simp) ?_
             refine AllReady.cons rfl (fun K hK=>?_) AllReady.nil
             refine bp (by kernel_rfl) (.tmp 71) (.tmp 74) 23 rfl rfl rfl cZ ?_
             refine hK _ _ ?_
             clear hK K cZ
             refine wpAny_ready (rs:=[6]) (by kernel_rfl) (by simp) ?_
             refine AllReady.cons rfl (fun K hK=>?_) AllReady.nil
             go_simp
             refine hK _ _ ?_
             clear hK K
             refine wpAny_ready (rs:=[7]) (by kernel_rfl) (by simp) ?_
             refine AllReady.cons rfl (fun K hK=>?_) AllReady.nil
             go_simp
             refine hK _ _ ?_
             clear hK K
             refine wpAny_done (by kernel_rfl) ?_ _
             go_wp2
             go_roundw
             case rel=>exact ⟨kq,nn+1,ck,ks++[y],_,k3,m',Cv.out,HM2.out,by omega,by omega,by omega⟩
             case measure=>rw [bU Cv.out.at_,bU Yr.out.at_];omega
      |false=>
       rw [hI] at ZX
       have su:=aa (show RR=(match iO p.L eB k with
        |some q=>(ah p.L p.en (k+1) cj).bind fun _ k1=>(cond k1).bind fun x k2=>(ah p.L p.en k2 ay).bind fun _ k3=>.ok (.mk q pl [] [] 0 0 0 0 [x]) k3
        |none=>match iO p.L cY k with
         |some q=>jn p.L p.en (bX p) cond q pl (k+1)
         |none=>fj p.L p.en k) from by rw [gq.out,if_neg (show¬bH p.L k cJ=true from by rw [show bH p.L k cJ=false from hI];decide)])
       clear hI gq
       go_wp2_with fail
       refine ZX.out.mono ?_
       rintro e J_ ⟨rfl,zO,rV⟩
       have Fk:=aa (JH.out.keep aN (show bc p J_ k from zO) rV)
       clear zO rV
       have Fl:=aa (fun (W:World) (bm:Nat) (h:bc p W k) (hm:iU W bm eB) (hb:bm≠p.b)=>fZ p k bm eB W h hm hb (by unfold cD;decide))
       have Qh:=aa (qN J_)
       cases hO:iO p.L eB k with
       |some q=>
        obtain ⟨⟨o,ho,Gp⟩,hlt⟩:=pJ hO
        have zZ:(q !=0)=true:=by
         have h1:∀o∈eB,(o.2 !=0)=true:=by decide
         rw [←Gp];exact h1 o ho
        have nG:=aa (show RR=(ah p.L p.en (k+1) cj).bind fun _ k1=>(cond k1).bind fun x k2=>(ah p.L p.en k2 ay).bind fun _ k3=>.ok (.mk q pl [] [] 0 0 0 0 [x]) k3 from by rw [su.out,hO])
        have hE:rL p.L p.en eB k=.returned (.tuple #[.int .i64 q,.int .i64 (dy p.L p.en k)]):=by unfold rL;rw [hO]
        have hN:rM p.L eB k=k+1:=by unfold rM;rw [hO]
        rw [hE,hN] at Fl
        clear hE hN
        clear hO ho Gp
        go_wp2_with fail
        refine Qh.out.mono ?_
        rintro e NY ⟨rfl,mH,mI⟩
        have uV:=aa (Fk.out.below aN mI)
        have Kh:=aa (Fl.out NY _ uV.out.at_ mH (by have:=Fk.out.at_.row.lt;omega))
        clear mH mI
        go_wp2_with fail
        refine Kh.out.mono ?_
        rintro e J' ⟨rfl,uW,mJ⟩
        have oC:=aa (uV.out.keep aN uW mJ)
        clear uW mJ
        have GN:=aa (EX.out (k+1) [40] J' oC.out.at_)
        cases hD:ah p.L p.en (k+1) [40] with
        |err a er=>
         rw [hD] at GN
         have HE:=aa (show RR=.err a er from by rw [nG.out,show ah p.L p.en (k+1) cj=.err a er from hD];rfl)
         clear hD
         go_wp2_with fail
         refine GN.out.mono ?_
         rintro e nE ⟨rfl,bK⟩
         go_wp2
         exact ⟨rfl,by rw [HE.out];exact ⟨rfl,oC.out.keeps.trans bK⟩⟩
        |ok u1 k1=>
         rw [hD] at GN
         have aa4:=Fh hD
         have mX:=aa (show RR=(cond k1).bind fun x k2=>(ah p.L p.en k2 ay).bind fun _ k3=>.ok (.mk q pl [] [] 0 0 0 0 [x]) k3 from by rw [nG.out,show ah p.L p.en (k+1) cj=.ok u1 k1 from hD];rfl)
         clear hD nG
         go_wp2_with fail
         refine GN.out.mono ?_
         rintro e Rx ⟨⟨v,rfl,rfl⟩,Yt,Cj⟩
         have kp:=aa (oC.out.keep aN Yt Cj)
         clear Yt Cj
         have X:=aa (HC.out k1 Rx (by omega) kp.out.at_)
         cases hx:cond k1 with
         |err a er=>
          rw [hx] at X
          have HE:=aa (show RR=.err a er from by rw [mX.out,hx];rfl)
          clear hx
          go_wp2_with fail
          refine X.out.mono ?_
          rintro e nE ⟨rfl,bK⟩
          go_wp2
          exact ⟨rfl,by rw [HE.out];exact ⟨rfl,kp.out.keeps.trans bK⟩⟩
         |ok x k2=>
          rw [hx] at X
          have Dl:=aa (show RR=(ah p.L p.en k2 ay).bind fun _ k3=>.ok (.mk q pl [] [] 0 0 0 0 [x]) k3 from by rw [mX.out,hx];rfl)
          clear hx mX
          go_wp2_with fail
          refine X.out.mono ?_
          rintro e w3 ⟨⟨v,rfl,cs,rfl,aB⟩,h3,hk3⟩
          have hr3:Row w3 w.heap.size 25 bJ:=kp.out.res.keep hk3 (by show¬w.heap.size=p.b;omega)
          obtain ⟨kd,a0,nm,vl,xa,xb,xc,xd,A,len,cap,rfl⟩:=aB.nine
          generalize jA:w3.alloc (.cells [aw kd a0 nm vl xa xb xc xd (.slice A len cap)].flatten.toArray 25)=W4
          have s4:W4.heap.size=w3.heap.size+1:=by rw [←jA,World.size_alloc]
          generalize pA:W4.alloc (.cells (aw q pl [] [] 0 0 0 0 (.slice (some ⟨w3.heap.size,0,none⟩) 1 1)).toArray 25)=W5
          have kX:=kj.new h3 (kp.out.keeps.trans hk3) hr3 aB kp.out.lt jA.symm pA.symm
          rw [←s4] at kX
          have PD:=aa kX
          have lB:w3.alloc (.cells #[.int .i64 kd,.int .i64 a0,.string (ae nm),.string (ae vl),.int .i64 xa,.int .i64 xb,.int .i64 xc,.int .i64 xd,.slice A len cap] 25)=W4:=jA
          have zr:W4.alloc (.cells #[.int .i64 q,.int .i64 pl,.string {data:=#[]},.string {data:=#[]},.int .i64 0,.int .i64 0,.int .i64 0,.int .i64 0,.slice (some ⟨w3.heap.size,0,none⟩) 1 1] 25)=W5:=pA
          have hg:w.heap.size<W4.heap.size:=by have:=hr3.lt;omega
          clear h3 hk3 hr3 aB kX jA pA s4
          unfold aw
          have uT:=aa PD.out.lf
          have zt:=aa (EX.out k2 [41] W5 uT.out.at_)
          cases hD:ah p.L p.en k2 [41] with
          |err a er=>
           rw [hD] at zt
           have HE:=aa (show RR=.err a er from by rw [Dl.out,show ah p.L p.en k2 ay=.err a er from hD];rfl)
           clear hD
           go_wp2_with fail
           refine zt.out.mono ?_
           rintro e nE ⟨rfl,bK⟩
           go_wp2
           exact ⟨rfl,by rw [HE.out];exact ⟨rfl,uT.out.keeps.trans bK⟩⟩
          |ok u k3=>
           rw [hD] at zt
           have HE:=aa (show RR=.ok (.mk q pl [] [] 0 0 0 0 [x]) k3 from by rw [Dl.out,show ah p.L p.en k2 ay=.ok u k3 from hD];rfl)
           clear hD
           go_wp2_with fail
           refine zt.out.mono ?_
           rintro e W6 ⟨⟨v,rfl,rfl⟩,h6,lW⟩
           have Dp:=aa (uT.out.keep aN hg h6 lW)
           clear h6 lW lB zr
           obtain ⟨vX,bS,hres,hrow,aB⟩:=Dp.out
           obtain ⟨z0,z1,z2,z3,z4,z5,z6,z7,z8⟩:=aj hrow
           obtain ⟨y0,y1,y2,y3,y4,y5,y6,y7,y8⟩:=aj hres
           obtain ⟨zu,zv,zw,zx,zy,zz,zA,zB,zC⟩:=aA hres
           have cN:=aa aB
           clear hrow aB
           go_wp2_with fail
           refine bodyPost_ret (v:=.agg #[.int .i64 q,.int .i64 pl,.string {data:=#[]},.string {data:=#[]},.int .i64 0,.int .i64 0,.int .i64 0,.int .i64 0,.slice (some ⟨w3.heap.size,0,none⟩) 1 1]) (ag rfl _ _ w.heap.size 25 _ _ _ rfl (av hres _ _ _ _ _ _ _ _ _) Tryz.underlying25 rfl (by kernel_rfl)) rfl ?_
           have hbl:=ak (W:=W6) (Nat.le_refl w.heap.size) (.int .i64 q) (.int .i64 pl) (.string {data:=#[]}) (.string {data:=#[]}) (.int .i64 0) (.int .i64 0) (.int .i64 0) (.int .i64 0) (.slice (some ⟨w3.heap.size,0,none⟩) 1 1)
           rw [HE.out]
           exact ⟨⟨_,rfl,_,rfl,(cN.out.keeps (ax (C:=fun b=>b≤w.heap.size∨b=W4.heap.size) (.inl (Nat.le_refl _)) _ _ _ _ _ _ _ _ _)).mono (fun b hb'=>.inl (Nat.le_of_lt hb'))⟩,H.out.above vX hbl,bS.over hbl⟩
       |none=>
        have nG:=aa (show RR=(match iO p.L cY k with
         |some q=>jn p.L p.en (bX p) cond q pl (k+1)
         |none=>fj p.L p.en k) from by rw [su.out,hO])
        have hE:rL p.L p.en eB k=.returned (.tuple #[.int .i64 0,.int .i64 0]):=by unfold rL;rw [hO]
        have hN:rM p.L eB k=k:=by unfold rM;rw [hO]
        rw [hE,hN] at Fl
        clear hE hN
        clear hO
        go_wp2_with fail
        refine Qh.out.mono ?_
        rintro e NY ⟨rfl,mH,mI⟩
        have uV:=aa (Fk.out.below aN mI)
        have Kh:=aa (Fl.out NY _ uV.out.at_ mH (by have:=Fk.out.at_.row.lt;omega))
        clear mH mI
        go_wp2_with fail
        refine Kh.out.mono ?_
        rintro e J' ⟨rfl,uW,mJ⟩
        have oC:=aa (uV.out.keep aN uW mJ)
        clear uW mJ
        clear Fl Kh Qh
        have Fl:=aa (fun (W:World) (bm:Nat) (h:bc p W k) (hm:iU W bm cY) (hb:bm≠p.b)=>fZ p k bm cY W h hm hb (by unfold cD;decide))
        have Qh:=aa (xo J')
        cases hO:iO p.L cY k with
        |none=>
         have HE:=aa (show RR=.err (dy p.L p.en k) 3 from by rw [nG.out,hO];rfl)
         have hE:rL p.L p.en cY k=.returned (.tuple #[.int .i64 0,.int .i64 0]):=by unfold rL;rw [hO]
         have hN:rM p.L cY k=k:=by unfold rM;rw [hO]
         rw [hE,hN] at Fl
         clear hE hN
         clear hO
         go_wp2_with fail
         refine Qh.out.mono ?_
         rintro e Rx ⟨rfl,Cw,Cy⟩
         have MT:=aa (oC.out.below aN Cy)
         have Kh:=aa (Fl.out Rx _ MT.out.at_ Cw (by have:=oC.out.at_.row.lt;omega))
         clear Cw Cy
         go_wp2_with fail
         refine Kh.out.mono ?_
         rintro e W24 ⟨rfl,MU,Cz⟩
         have Fm:=aa (MT.out.keep aN MU Cz)
         clear MU Cz
         have FL:=aa (my p k W24 Fm.out.at_)
         go_wp2_with fail
         refine FL.out.mono ?_
         rintro e W25 ⟨rfl,aa5⟩
         go_wp2
         exact ⟨rfl,by rw [HE.out];exact ⟨rfl,Fm.out.keeps.trans (af.of_below aa5 (Nat.le_refl _))⟩⟩
        |some q=>
         obtain ⟨⟨o,ho,Gp⟩,hlt⟩:=pJ hO
         have zZ:(q==0)=false:=by
          have h1:∀o∈cY,(o.2==0)=false:=by decide
          rw [←Gp];exact h1 o ho
         have mX:=aa (show RR=jn p.L p.en (bX p) cond q pl (k+1) from by rw [nG.out,hO])
         have hE:rL p.L p.en cY k=.returned (.tuple #[.int .i64 q,.int .i64 (dy p.L p.en k)]):=by unfold rL;rw [hO]
         have hN:rM p.L cY k=k+1:=by unfold rM;rw [hO]
         rw [hE,hN] at Fl
         clear hE hN
         clear hO ho Gp
         go_wp2_with fail
         refine Qh.out.mono ?_
         rintro e Rx ⟨rfl,Cw,Cy⟩
         have MT:=aa (oC.out.below aN Cy)
         have Kh:=aa (Fl.out Rx _ MT.out.at_ Cw (by have:=oC.out.at_.row.lt;omega))
         clear Cw Cy
         go_wp2_with fail
         refine Kh.out.mono ?_
         rintro e W24 ⟨rfl,MU,Cz⟩
         have Fm:=aa (MT.out.keep aN MU Cz)
         clear MU Cz
         have X:=aa (TP.out q (k+1) W24 (by omega) Fm.out.at_)
         cases hx:jn p.L p.en (bX p) cond q pl (k+1) with
         |err a er=>
          rw [hx] at X
          have HE:=aa (show RR=.err a er from by rw [mX.out,hx])
          clear hx
          go_wp2_with fail
          refine X.out.mono ?_
          rintro e nE ⟨rfl,bK⟩
          go_wp2
          exact ⟨rfl,by rw [HE.out];exact ⟨rfl,Fm.out.keeps.trans bK⟩⟩
         |ok n k2=>
          rw [hx] at X
          have HE:=aa (show RR=.ok n k2 from by rw [mX.out,hx])
          clear hx
          go_wp2_with fail
          refine X.out.mono ?_
          rintro e W25 ⟨⟨v,rfl,cs,rfl,aB⟩,h25,Yu⟩
          have Uo:=aa (Fm.out.keep aN h25 Yu)
          have aa6:=Fm.out.lt
          obtain ⟨kd,a0,nm,vl,xa,xb,xc,xd,A,len,cap,rfl⟩:=aB.nine
          have cN:=aa aB
          have hres:=Uo.out.res
          clear aB h25 Yu
          unfold aw
          obtain ⟨e0,e1,e2,e3,e4,e5,e6,e7,e8⟩:=aj hres
          obtain ⟨Gr,Gs,EO,Gt,Gu,Gv,Gw,Gx,Gy⟩:=aA hres
          go_wp2_with fail
          refine bodyPost_ret (v:=.agg #[.int .i64 kd,.int .i64 a0,.string (ae nm),.string (ae vl),.int .i64 xa,.int .i64 xb,.int .i64 xc,.int .i64 xd,.slice A len cap]) (ag rfl _ _ w.heap.size 25 _ _ _ rfl (av hres _ _ _ _ _ _ _ _ _) Tryz.underlying25 rfl (by kernel_rfl)) rfl ?_
          have hbl:=ak (W:=W25) (Nat.le_refl w.heap.size) (.int .i64 kd) (.int .i64 a0) (.string (ae nm)) (.string (ae vl)) (.int .i64 xa) (.int .i64 xb) (.int .i64 xc) (.int .i64 xd) (.slice A len cap)
          rw [HE.out]
          exact ⟨⟨_,rfl,gg cN.out aa6⟩,H.out.above Uo.out.at_ hbl,Uo.out.keeps.over hbl⟩
  ·obtain ⟨o,ho,hkey,hval⟩:=JE e (mem_left he).1
   rw [hkey,hval] at hrun
   obtain ⟨b1,b2,b3,b4,b5,b6⟩:=fL (o':=.mapIter (some w1.heap.size) 5 (seen.push e.born) 5) hat.it hw1
   obtain ⟨W3,hW3⟩:∃W3,W3=setBlock Yq W2.heap.size (.mapIter (some w1.heap.size) 5 (seen.push e.born) 5):=⟨_,rfl⟩
   rw [←hW3] at hrun b1 b2 b3 b4 b5 b6
   have hB:Below w.heap.size wr W3:=⟨b5,b4,b6,Nat.le_of_eq b3.symm,fun b hb=>b2 b (by omega)⟩
   have y9:JG p w k w1.heap.size W2.heap.size W3 (seen.push e.born) 5:=
    ⟨⟨H.out.above hat.pr.at_ hB,hat.pr.keeps.over hB,(b2 w.heap.size (by omega)).trans hat.pr.res⟩,(b2 w1.heap.size (by omega)).trans hat.map,b1,Nat.le_refl _⟩
   have qf:∀ty,(Instr.next (.pointer (some ⟨W2.heap.size,0,none⟩)) false ty).run Tryz.prog wr=_:=fun _=>hrun
   have hen:=run_entry_at (P:=Tryz.prog) W3 W2.heap.size w1.heap.size 5 seen aH 5 e b1 y9.map (mem_left he).1 bZ.2
   rw [hkey,hval] at hen
   have Pr:=aa he
   have ZG:=aa hkey
   have y_:=aa y9
   have vr:=aa hno
   have Ka:=aa hat.it
   have aa7:=aa y9.pr
   have Z0:=aa (KD.out o.1 W3 y9.pr.at_)
   clear b1 b2 b3 b4 b5 b6 hW3 hB he hkey hval hno hrun hat hw1 y9
   cases hI:bT p.L k o.1 with
   |false=>
    rw [hI] at Z0
    have HI:=aa hI
    clear hI HS HN
    go_wp2_with fail
    refine Z0.out.mono ?_
    rintro e4 W4 ⟨rfl,hb4⟩
    have Mb:=aa (y_.out.below aN hb4)
    clear hb4 qf hen
    go_wp2
    go_roundw
    case rel=>exact ⟨seen.push e.born,5,Mb.out,fun e' he' hs q hk=>by
     rcases Array.mem_push.1 hs with h1|h1
     ·exact vr.out e' he' h1 q hk
     ·have:e'=e:=by
       have h2:=find_born e aH.toList bZ.2 (mem_left Pr.out).1
       have h3:=find_born e' aH.toList bZ.2 he'
       rw [h1] at h3
       exact Option.some.inj (h3.symm.trans h2)
      subst this
      have h5:=ZG.out.symm.trans hk
      injection h5 with _ h5
      rw [←h5];exact HI.out⟩
    case measure=>
     have e1:W4.iterSeen W2.heap.size=seen.push e.born:=by unfold World.iterSeen;rw [Mb.out.it]
     have e2:wr.iterSeen W2.heap.size=seen:=by unfold World.iterSeen;rw [Ka.out]
     rw [e1,e2]
     exact left_shrinks aH seen e Pr.out
   |true=>
    rw [hI] at Z0
    have hlt:=dc hI
    have qb:=aa (HS.out _ (Cq ho hI))
    rw [Fe hlt,Dr.out] at qb
    have Ry:=aa (fun (W:World) (h:bc p W k)=>show Calls _ _ _ _ (bO p W XK (.ok (p.L[k]'hlt) (k+1))) from by
     have:=TK.out o.1 W h
     rwa [ia hI] at this)
    generalize p.L[k]'hlt=x at qb Ry
    clear hI HS HN vr ZG Pr Ka
    go_wp2_with fail
    refine Z0.out.mono ?_
    rintro e4 W4 ⟨rfl,hb4⟩
    have HP4:=aa (aa7.out.below aN hb4)
    have X:=aa (Ry.out W4 HP4.out.at_)
    clear hb4 qf hen
    go_wp2_with fail
    refine X.out.mono ?_
    rintro e5 W5 ⟨⟨v,rfl,rfl⟩,h5,hk5⟩
    have hp5:=HP4.out.keep aN h5 hk5
    have lA:=Row.new W5 66 #[.int .i64 x.kind,.string (ae x.text),.int .i64 (x.aJ:Int)]
    have bA:Below W5.heap.size W5 (W5.alloc (.cells #[.int .i64 x.kind,.string (ae x.text),.int .i64 (x.aJ:Int)] 66)):=(Below.refl _ W5).alloc (Nat.le_refl _) _
    generalize kf:W5.alloc (.cells #[.int .i64 x.kind,.string (ae x.text),.int .i64 (x.aJ:Int)] 66)=W6 at lA bA
    have g1:W6.cell? ⟨W5.heap.size,1,none⟩=some (.string (ae x.text)):=lA.cell 1
    have Yv:=aa (hp5.below aN bA)
    clear h5 hk5 hp5 lA bA
    have hres:=Yv.out.res
    obtain ⟨e0,e1,e2,e3,e4,e5,e6,e7,e8⟩:=aj hres
    obtain ⟨Gr,Gs,EO,Gt,Gu,Gv,Gw,Gx,Gy⟩:=aA hres
    by_cases h1:o.2=1
    ·have e1:(o.2==1)=true:=beq_iff_eq.2 h1
     have HE:=aa (show RR=.ok (.mk o.2 pl x.text [] 0 0 0 0 []) (k+1) from by rw [qb.out];unfold zP;rw [if_pos h1,h1])
     clear h1 qb
     go_wp2_with fail
     refine bodyPost_ret (v:=.agg #[.int .i64 o.2,.int .i64 pl,.string (ae x.text),.string {data:=#[]},.int .i64 0,.int .i64 0,.int .i64 0,.int .i64 0,.slice none 0 0]) (ag rfl _ _ w.heap.size 25 _ _ _ rfl (av hres _ _ _ _ _ _ _ _ _) Tryz.underlying25 rfl (by kernel_rfl)) rfl ?_
     have hbl:=ak (W:=W6) (Nat.le_refl w.heap.size) (.int .i64 o.2) (.int .i64 pl) (.string (ae x.text)) (.string {data:=#[]}) (.int .i64 0) (.int .i64 0) (.int .i64 0) (.int .i64 0) (.slice none 0 0)
     rw [HE.out]
     exact ⟨⟨_,rfl,_,rfl,cG.leaf _ _ o.2 pl x.text [] 0 0 0 0 none 0⟩,H.out.above Yv.out.at_ hbl,Yv.out.keeps.over hbl⟩
    ·have e1:(o.2==1)=false:=beq_eq_false_iff_ne.2 h1
     have HE:=aa (show RR=.ok (.mk o.2 pl [] x.text 0 0 0 0 []) (k+1) from by rw [qb.out];unfold zP;rw [if_neg h1])
     clear h1 qb
     go_wp2_with fail
     refine bodyPost_ret (v:=.agg #[.int .i64 o.2,.int .i64 pl,.string {data:=#[]},.string (ae x.text),.int .i64 0,.int .i64 0,.int .i64 0,.int .i64 0,.slice none 0 0]) (ag rfl _ _ w.heap.size 25 _ _ _ rfl (av hres _ _ _ _ _ _ _ _ _) Tryz.underlying25 rfl (by kernel_rfl)) rfl ?_
     have hbl:=ak (W:=W6) (Nat.le_refl w.heap.size) (.int .i64 o.2) (.int .i64 pl) (.string {data:=#[]}) (.string (ae x.text)) (.int .i64 0) (.int .i64 0) (.int .i64 0) (.int .i64 0) (.slice none 0 0)
     rw [HE.out]
     exact ⟨⟨_,rfl,_,rfl,cG.leaf _ _ o.2 pl [] x.text 0 0 0 0 none 0⟩,H.out.above Yv.out.at_ hbl,Yv.out.keeps.over hbl⟩
theorem Rz:∀e∈aH.toList,∃o:Int×Int,e.key=.int .i64 o.1∧e.val=.int .i64 o.2∧iT o.2=o.1:=by
 intro e he
 simp only [aH,List.mem_cons,List.not_mem_nil,or_false] at he
 rcases he with rfl|rfl|rfl|rfl|rfl
 ·exact ⟨(0,1),rfl,rfl,by decide⟩
 ·exact ⟨(1,3),rfl,rfl,by decide⟩
 ·exact ⟨(3,2),rfl,rfl,by decide⟩
 ·exact ⟨(4,4),rfl,rfl,by decide⟩
 ·exact ⟨(5,5),rfl,rfl,by decide⟩
theorem GO {kd:Int} (h:∀e∈aH.toList,e.val≠.int .i64 kd):iT kd=0:=by
 have h1:=h {key:=.int .i64 1,val:=.int .i64 3,born:=1} (by simp [aH])
 have h2:=h {key:=.int .i64 3,val:=.int .i64 2,born:=2} (by simp [aH])
 have h3:=h {key:=.int .i64 4,val:=.int .i64 4,born:=3} (by simp [aH])
 have h4:=h {key:=.int .i64 5,val:=.int .i64 5,born:=4} (by simp [aH])
 have g1:kd≠3:=fun e=>h1 (by rw [e])
 have g2:kd≠2:=fun e=>h2 (by rw [e])
 have g3:kd≠4:=fun e=>h3 (by rw [e])
 have g4:kd≠5:=fun e=>h4 (by rw [e])
 unfold iT
 rw [if_neg g1,if_neg g2,if_neg g3,if_neg g4]
structure CA (w2:World) (kd:Int) (vl:List UInt8) (bm it:Nat) (W:World) (seen:Array Nat) (c0:Nat) (kv:Int):Prop where
 below:Below w2.heap.size w2 W
 tx:Row W w2.heap.size 66 #[.int .i64 kv,.string (ae vl),.int .i64 0]
 kv:kv=iT kd∨(kv=0∧∀e∈aH.toList,e.born∈seen→e.val≠.int .i64 kd)
 map:MR W bm
 it:W.heap[it]? =some (.mapIter (some bm) 5 seen c0)
 since:5≤c0
theorem cC.setRow {W:World} {B b:Nat} {o:Option St} {M:Nat} (h:cC W B b o M) {g:Nat} {t:TypeId} {cs:Array Value} (hr:Row W g t cs) (ht:t≠5) (hg:g≠b) (hB:B≤g) (i:Nat) (u:Value):cC (W.setCell ⟨g,i,none⟩ u) B b o M:=by
 obtain ⟨v,st,bad,h1,h2,h3⟩:=h.at_
 obtain ⟨p,hp,hrow⟩:=h1.row
 exact ⟨⟨v,st,bad,⟨h1.ge,⟨p,hp,hrow.off (Ne.symm hg) _ _⟩,ni h1.own (iW h1.own hr ht) _ _⟩,h2,h3⟩,h.gl.low h.gB ((Below.refl B W).setCell (p:=⟨g,i,none⟩) hB u),h.gB⟩
theorem aI.Up {B b:Nat} {w W:World} (h:aI B b w W) {g:Nat} (hg:w.heap.size≤g) (hB:B≤g) (i:Nat) (u:Value):aI B b w (W.setCell ⟨g,i,none⟩ u):=
 ⟨h.below.setCell (p:=⟨g,i,none⟩) hB u,by simpa [World.setCell] using h.size,fun g' t cs ht Ro hr=>(h.rows g' t cs ht Ro hr).off (by have:=hr.lt;omega) _ _⟩
theorem cC.bW {W:World} {B b:Nat} {M:Nat} (h:cC W B b none M):W.cell? ⟨b,3,none⟩=some (.bool true)∧W.frozen? ⟨b,3,none⟩=false∧W.shape? b=some (79,4)∧
 cC (W.setCell ⟨b,3,none⟩ (.bool true)) B b none M∧aI B b W (W.setCell ⟨b,3,none⟩ (.bool true)):=by
 obtain ⟨v,Kf,bad,h1,h2,h3⟩:=h.at_
 cases bad with
 |false=>cases h3
 |true=>
  obtain ⟨⟨_,_,c3⟩,_,_,f3⟩:=h1.cells
  have ht:aI B b W (W.setCell ⟨b,3,none⟩ (.bool true)):=(aI.refl B b W).set h1.ge _ _
  exact ⟨c3,f3,h1.shape,h.next v Kf true M ht (h1.ux true) h2,ht⟩
theorem cC.MV {W:World} {B b:Nat} {st:St} {M:Nat} (h:cC W B b (some st) M):W.cell? ⟨b,2,none⟩=some (.bool st.2)∧W.frozen? ⟨b,2,none⟩=false∧W.shape? b=some (79,4)∧
 ∀x:Bool,cC (W.setCell ⟨b,2,none⟩ (.bool x)) B b (some (st.1,x)) M∧aI B b W (W.setCell ⟨b,2,none⟩ (.bool x)):=by
 obtain ⟨v,Kf,bad,h1,h2,h3⟩:=h.at_
 cases bad with
 |true=>cases h3
 |false=>
  obtain rfl:st=Kf:=by injection h3
  obtain ⟨⟨_,c2,_⟩,_,f2,_⟩:=h1.cells
  refine ⟨c2,f2,h1.shape,fun x=>?_⟩
  have ht:aI B b W (W.setCell ⟨b,2,none⟩ (.bool x)):=(aI.refl B b W).set h1.ge _ _
  exact ⟨h.next v (st.1,x) false M ht (h1.zi x) h2,ht⟩
theorem RA {kd a0 xa xb xc xd:Int} {nm vl:List UInt8} {ks:List Nd} (o:Option St) (used:List UInt8):
 nD (lS o ks.length 0 0) (decide (nm=[])) (decide (vl=[])) (decide (xa=0)) (decide (xb=0)) (decide (xc=0)) (decide (xd=0)) used=
  if fw (.mk kd a0 nm vl xa xb xc xd ks) (dN used 110) (dN used 118) (dN used 97) (dN used 99)=true∧ks.length=0 then o else none:=by
 rw [GL]
 unfold lS
 show (if fw (.mk kd a0 nm vl xa xb xc xd ks) (dN used 110) (dN used 118) (dN used 97) (dN used 99)=true then (if _ then o else none) else none)=_
 by_cases h1:ks.length=0
 ·by_cases h2:fw (.mk kd a0 nm vl xa xb xc xd ks) (dN used 110) (dN used 118) (dN used 97) (dN used 99)=true
  ·rw [if_pos h2,if_pos (by omega),if_pos ⟨h2,h1⟩]
  ·rw [if_neg h2,if_neg (fun h=>h2 h.1)]
 ·rw [if_neg (c:=_∧ks.length=0) (fun h=>h1 h.2)]
  split
  ·rw [if_neg (by omega)]
  ·rfl
theorem rf (o:Option St) (n:Nd) (fs:List Pw) (h:n.kind=1):o.bind (cK aM aT n fs)=(if fw n true false false false=true∧fs.length=0 then o else none).bind fun st=>if n.name∉kC∧cf [⟨0,n.name,0⟩]≠[] then some ((dD st (cf [⟨0,n.name,0⟩])).1,jo (cf [⟨0,n.name,0⟩])) else none:=by
 cases o with
 |none=>rw [ite_self];rfl
 |some st=>
  show cK aM aT n fs st=_
  unfold cK
  by_cases h1:fs.length=0
  ·rw [if_neg (fun e=>e h1),if_pos h]
   by_cases h2:fw n true false false false=true
   ·rw [if_pos (c:=_∧fs.length=0) ⟨h2,h1⟩,Option.bind_some]
    by_cases h3:n.name∉kC∧cf [⟨0,n.name,0⟩]≠[]
    ·rw [if_pos h3,if_pos ⟨h2,h3⟩]
    ·rw [if_neg h3,if_neg (fun e=>h3 e.2)]
   ·rw [if_neg (c:=_∧fs.length=0) (fun e=>h2 e.1),if_neg (fun e=>h2 e.1)];rfl
  ·rw [if_pos h1,if_neg (fun e=>h1 e.2)];rfl
theorem rh (o:Option St) (n:Nd) (fs:List Pw) (h:n.kind≠1) (hs:¬(n.kind=4∧aM n.value<0)):o.bind (cK aM aT n fs)=(if fw n false true false false=true∧fs.length=0 then o else none).bind fun st=>if iT n.kind≠0∧cf [⟨iT n.kind,n.value,0⟩]≠[] then some (dD st (cf [⟨iT n.kind,n.value,0⟩])) else none:=by
 cases o with
 |none=>rw [ite_self];rfl
 |some st=>
  show cK aM aT n fs st=_
  unfold cK
  by_cases h1:fs.length=0
  ·rw [if_neg (fun e=>e h1),if_neg h]
   by_cases h2:fw n false true false false=true
   ·rw [if_pos (c:=_∧fs.length=0) ⟨h2,h1⟩,Option.bind_some]
    by_cases h3:iT n.kind≠0
    ·rw [if_pos ⟨h2,h3⟩,if_neg hs]
     by_cases h4:cf [⟨iT n.kind,n.value,0⟩]≠[]
     ·rw [if_pos h4,if_pos ⟨h3,h4⟩]
     ·rw [if_neg h4,if_neg (fun e=>h4 e.2)]
    ·rw [if_neg (fun e=>h3 e.2),if_neg (fun e=>h3 e.1)]
   ·rw [if_neg (c:=_∧iT _≠0) (fun e=>h2 e.1),if_neg (fun e=>h2 e.1)];rfl
  ·rw [if_pos h1,if_neg (fun e=>h1 e.2)];rfl
theorem Qi (s:List UInt8) (i:Nat) (hi:i<s.length) (h1:s[i]=92) (h2:∀j (h:j<s.length),i<j→s[j]≠92):s.reverse.idxOf? 92=some (s.length-1-i):=by
 unfold List.idxOf?
 rw [List.findIdx?_eq_some_iff_getElem]
 refine ⟨by rw [List.length_reverse];omega,?_,fun j hj=>?_⟩
 ·rw [List.getElem_reverse]
  have:s.length-1-(s.length-1-i)=i:=by omega
  simp [this,h1]
 ·rw [List.getElem_reverse]
  simpa using h2 _ _ (by omega)
theorem Qj (s:List UInt8) (h:(92:UInt8)∉s):s.reverse.idxOf? 92=none:=by
 unfold List.idxOf?
 rw [List.findIdx?_eq_none_iff]
 intro x hx
 simp
 intro e
 subst e
 exact h (by simpa using hx)
theorem Qk (s:List UInt8) (c:UInt8):decide (0≤Lib.indexByte s c)=decide (c∈s):=by
 rw [←Lib.contains_iff_indexByte]
 simp
theorem JI (s:List UInt8) (h0:s≠[]):(Lib.lastIndexByte (ae s) 92=-1∧jo s=false∧∃(h:0<(ae s).size),(ae s)[0]'h≠92)∨
 ∃i:Nat,Lib.lastIndexByte (ae s) 92=i∧(∃h:i<(ae s).size,(ae s)[i]'h=92)∧jo s= !decide (0≤Lib.indexByte ((ae s).extract i (ae s).size).data.toList 32):=by
 have hsz:(ae s).size=s.length:=by rw [aD]
 have hb:∀j (h:j<s.length),(ae s).data[j]! =s[j]:=fun j h=>by
  show s.toArray[j]! =s[j]
  simp [h]
 rcases Lib.lastIndexByte_spec (ae s) 92 with ⟨h1,h2⟩|⟨i,hi,h1,h2,h3⟩
 ·have hn:(92:UInt8)∉s:=fun hm=>by
   obtain ⟨j,hj,e⟩:=List.getElem_of_mem hm
   refine h2 j (by omega) ?_
   rw [hb j hj,e];rfl
  refine .inl ⟨h1,?_,?_⟩
  ·unfold jo;rw [Qj s hn]
  ·cases s with
   |nil=>exact absurd rfl h0
   |cons c r=>
    refine ⟨by rw [aD];simp,?_⟩
    rw [df]
    intro e
    exact hn (by simp at e;simp [e])
 ·have hi':i<s.length:=by omega
  have hc:s[i]=92:=by
   have:=h2
   rw [hb i hi'] at this
   exact UInt8.toNat_inj.1 (by have e:UInt8.toNat 92=92:=rfl;omega)
  refine .inr ⟨i,h1,⟨hi,by rw [df];exact hc⟩,?_⟩
  unfold jo
  rw [Qi s i hi' hc (fun j hj N5 e=>h3 j N5 (by omega) (by rw [hb j hj,e];rfl))]
  show (!decide (32∈s.drop (s.length-1-(s.length-1-i))))=_
  rw [show s.length-1-(s.length-1-i)=i by omega,Qk,Hq]
  rfl
theorem uX (k:Int) (t:List UInt8) (h:t.length≤201):(cf [⟨k,t,0⟩]).length≤830:=by
 unfold cf
 split
 ·have h1:=xi (eH [⟨k,t,0⟩]) 820 (fun x hx=>by
   simp only [eH,List.map_cons,List.map_nil,List.mem_singleton] at hx
   subst hx
   have:=qI k t (by omega)
   omega)
  have h2:(eH [⟨k,t,0⟩]).length=1:=rfl
  rw [h2] at h1
  omega
 ·simp
end Go.Proofs.YtddoehnkgcbboaaGreatDoor
