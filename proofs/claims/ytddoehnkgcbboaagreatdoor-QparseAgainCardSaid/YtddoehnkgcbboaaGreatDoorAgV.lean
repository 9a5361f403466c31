/- A part of the proof that the last file tells. -/
import Derived.Test.YtddoehnkgcbboaaGreatDoorAgU
set_option maxHeartbeats 16000000
set_option maxRecDepth 100000
set_option linter.unusedVariables false
set_option linter.unusedSimpArgs false
namespace Go.Proofs.YtddoehnkgcbboaaGreatDoor
open Go.RowKit Go.Shelf Go.Maps
open Go.ChangeMaps (setBlock)
theorem FU (p:PS) (F:Nat) (cond fo:Nat→PR Nd) (hc:cY p 17 cond F) (hb:cY p 127 fo F) (hpc:Prog cond) (hpb:Prog fo):cY p 268 (eJ p.L p.en (fq p) cond fo) (F+1):=by
 intro k w hF h;have hbz:p.b<w.heap.size:=h.row.lt;have hb0:Below w.heap.size w (w.alloc (.cells cG 25)):=(af _ _).alloc (aa _) _;have iX:Row (w.alloc (.cells cG 25)) w.heap.size 25 cG:=Row.new _ _ _;have Xl:=hide (gD p k _ (h.below hb0));have AC:=hide (fun (k:Nat) (wd:List UInt8) (W:World) (h:bQ p W k)=>eW p k wd W h);have EX:=hide (fun (k:Nat) (wd:List UInt8) (W:World) (h:bQ p W k)=>h_ p k wd W h);have KD:=hide (fun (q:Int) (W:World) (h:bQ p W k)=>yG p k q W h);have TK:=hide (fun (q:Int) (W:World) (h:bQ p W k)=>pC p k q W h);have CS:=hide (fun (W:World)=>qT W);have HC:=hide (fun (k':Nat) (W:World) (hk:k+1≤k') (h:bQ p W k')=>hc k' W (by omega) h);have HB:=hide (fun (k':Nat) (W:World) (hk:k+1≤k') (h:bQ p W k')=>hb k' W (by omega) h);have Ji:=hide hpb;have H:=hide h;have H0:=ae (tZ p w (w.alloc (.cells cG 25)) k) (⟨h.below hb0,ah.of_below hb0 (aa _),iX⟩)
 obtain ⟨RR,lM⟩:∃RR,eJ p.L p.en (fq p) cond fo k=RR:=⟨_,rfl⟩
 rw [lM];generalize hpl:eO p.L p.en k=pl at Xl;have TP:=hide (fun (q:Int) (k':Nat) (W:World) (hk:k+1≤k') (h:bQ p W k')=>C8 p F cond hc hpc q pl k' W (by omega) h)
 have HN:=hide (fun (hn:iU p.L p.en k=none)=>show RR=(if b_ p.L k oG then .ok (.mk 17 pl [] [] 0 0 0 0 []) (k+1)
  else if b_ p.L k nP then .ok (.mk 18 pl [] [] 0 0 0 0 []) (k+1)
  else if b_ p.L k aV then (cond (k+1)).bind fun n k'=>(av p.L p.en k' aI).bind fun _ k2=>.ok n k2
  else if b_ p.L k bA then (fo (k+1)).bind fun n k'=>(il p.L fo (p.L.length+1) [n] k').bind fun l k2=>(av p.L p.en k2 aZ).bind fun _ k3=>.ok (.mk 7 pl [] [] 0 0 0 0 l) k3
  else match kj p.L fW k with
   |some q=>(av p.L p.en (k+1) aV).bind fun _ k1=>(cond k1).bind fun x k2=>(av p.L p.en k2 aI).bind fun _ k3=>.ok (.mk q pl [] [] 0 0 0 0 [x]) k3
   |none=>match kj p.L dV k with
    |some q=>jU p.L p.en (fq p) cond q pl (k+1)
    |none=>ik p.L p.en k) from by rw [←lM,←hpl];unfold eJ;rw [hn];rfl)
 have HS:=hide (fun (n:Nd) (hn:iU p.L p.en k=some n)=>show RR=.ok n (k+1) from by rw [←lM];unfold eJ;rw [hn]);have Gz:=hide hpl;clear hc hb hpc hpb h hb0 iX lM hpl;go_enter Tryz.func268,Tryz.ntmps268;go_wp2_with fail;refine Xl.o.mono ?_;rintro e w1 ⟨rfl,hb1⟩;have H1:=hide (H0.o.below hbz hb1);clear hb1;go_wp2_with fail;refine (CS.o w1).mono ?_;rintro e W2 ⟨rfl,hcs,hb2⟩;have hrg:=run_range_map (P:=Tryz.prog) W2 124 3 3 w1.heap.size bq 5 Tryz.underlying124 hcs;have h2:=H1.o.below hbz hb2
 have HA:=hide (show Nq p w k w1.heap.size W2.heap.size (W2.alloc (.mapIter (some w1.heap.size) 5 #[] 5)) #[] 5 from
  ⟨h2.below hbz ((af _ W2).alloc (aa _) _),(heap_alloc_old W2 _ (Array.getElem?_eq_some_iff.1 hcs).1).trans hcs,heap_alloc_new W2 _,aa _⟩)
 have hz1:=H1.o.lt;have hz2:w1.heap.size<W2.heap.size:=(Array.getElem?_eq_some_iff.1 hcs).1;clear hcs hb2 h2;go_wp2_with fail;clear hrg
 go_loopw [] (fun W=>∃(seen:Array Nat) (c0:Nat),Nq p w k w1.heap.size W2.heap.size W seen c0∧∀e∈bq.toList,e.born∈seen→∀q,e.key=.int .i64 q→cW p.L k q=false) (fun W=>(leftOf bq (W.iterSeen W2.heap.size)).size)
 case atStart=>exact ⟨#[],5,HA.o,fun e _ he=>absurd he (by simp)⟩
 case round=>
  obtain ⟨seen,c0,hat,hno⟩:=hrel;have law:=run_next_at (P:=Tryz.prog) wr 0 W2.heap.size w1.heap.size 5 c0 seen bq 5 hat.it hat.map fZ.1 hat.since
  rcases law with ⟨h0,hrun⟩|⟨e,he,w1',hw1,hrun⟩
  ·have hnx:∀ty,(Instr.next (.pointer (some ⟨W2.heap.size,0,none⟩)) false ty).run Tryz.prog wr=_:=fun _=>hrun
   have hall:∀e∈bq.toList,e.born∈seen:=fun e he=>by
    by_cases hc:e.born∈seen
    ·exact hc
    ·exfalso
     have:e∈leftOf bq seen:=by
      unfold leftOf;rw [Array.mem_filter];exact ⟨by simpa using he,by simpa using hc⟩
     have h1:=Array.size_pos_of_mem this;omega
   have hnone:iU p.L p.en k=none:=FT fun o ho=>by
    obtain ⟨e,he,hk⟩:=Np o ho;exact hno e he (hall e he) o.1 hk
   have Dy:=hide (HN.o hnone);have HPR:=hide hat.pr;clear hno hall hnone hat hrun HN HS h0;have zQ:=hide (AC.o k [116,114,117,101] wr HPR.o.at_)
   cases hI:b_ p.L k [116,114,117,101] with
   |true=>
    rw [hI] at zQ;have HV:=ae (RR=_) (by rw [Dy.o,if_pos (show b_ p.L k oG=true from hI)]);clear hI Dy;go_wp2_with fail;refine zQ.o.mono ?_;rintro e Ai ⟨rfl,zm,wj⟩;have wV:=hide (HPR.o.keep hbz zm wj);clear zm wj;have hres:=wV.o.res;obtain ⟨e0,e1,e2,e3,e4,e5,e6,e7,e8⟩:=ak hres;obtain ⟨Kr,Ks,IJ,Kt,Ku,Kv,Kw,Ky,Kz⟩:=aU hres;have HE:=ae (RR=.ok (.mk 17 pl [] [] 0 0 0 0 []) (k+1)) (by rw [HV.o]);go_wp2_with fail;refine bodyPost_ret (v:=.agg #[.int .i64 17,.int .i64 pl,.string {data:=#[]},.string {data:=#[]},.int .i64 0,.int .i64 0,.int .i64 0,.int .i64 0,.slice none 0 0]) (ai rfl _ _ w.heap.size 25 _ _ _ rfl (aJ hres _ _ _ _ _ _ _ _ _) Tryz.underlying25 rfl (by kernel_rfl)) rfl ?_;have hbl:=ay (W:=Ai) (aa w.heap.size) (.int .i64 17) (.int .i64 pl) (.string {data:=#[]}) (.string {data:=#[]}) (.int .i64 0) (.int .i64 0) (.int .i64 0) (.int .i64 0) (.slice none 0 0);rw [HE.o];exact ⟨⟨_,rfl,_,rfl,cK.leaf _ _ 17 pl [] [] 0 0 0 0 none 0⟩,H.o.above wV.o.at_ hbl,wV.o.keeps.over hbl⟩
   |false=>
    rw [hI] at zQ
    have nt:=ae (RR=(if b_ p.L k nP then .ok (.mk 18 pl [] [] 0 0 0 0 []) (k+1)
     else if b_ p.L k aV then (cond (k+1)).bind fun n k'=>(av p.L p.en k' aI).bind fun _ k2=>.ok n k2
     else if b_ p.L k bA then (fo (k+1)).bind fun n k'=>(il p.L fo (p.L.length+1) [n] k').bind fun l k2=>(av p.L p.en k2 aZ).bind fun _ k3=>.ok (.mk 7 pl [] [] 0 0 0 0 l) k3
     else match kj p.L fW k with
      |some q=>(av p.L p.en (k+1) aV).bind fun _ k1=>(cond k1).bind fun x k2=>(av p.L p.en k2 aI).bind fun _ k3=>.ok (.mk q pl [] [] 0 0 0 0 [x]) k3
      |none=>match kj p.L dV k with
       |some q=>jU p.L p.en (fq p) cond q pl (k+1)
       |none=>ik p.L p.en k)) (by rw [Dy.o,if_neg (show¬b_ p.L k oG=true from by rw [show b_ p.L k oG=false from hI];decide)])
    clear hI Dy;go_wp2_with fail;refine zQ.o.mono ?_;rintro e Ai ⟨rfl,zm,wj⟩;have wV:=hide (HPR.o.keep hbz (show bQ p Ai k from zm) wj);clear zm wj;have VC:=hide (AC.o k [102,97,108,115,101] Ai wV.o.at_)
    cases hI:b_ p.L k [102,97,108,115,101] with
    |true=>
     rw [hI] at VC;have HV:=ae (RR=_) (by rw [nt.o,if_pos (show b_ p.L k nP=true from hI)]);clear hI nt;go_wp2_with fail;refine VC.o.mono ?_;rintro e Mx ⟨rfl,Rx,FV⟩;have Jj:=hide (wV.o.keep hbz Rx FV);clear Rx FV;have hres:=Jj.o.res;obtain ⟨e0,e1,e2,e3,e4,e5,e6,e7,e8⟩:=ak hres;obtain ⟨Kr,Ks,IJ,Kt,Ku,Kv,Kw,Ky,Kz⟩:=aU hres;have HE:=ae (RR=.ok (.mk 18 pl [] [] 0 0 0 0 []) (k+1)) (by rw [HV.o]);go_wp2_with fail;refine bodyPost_ret (v:=.agg #[.int .i64 18,.int .i64 pl,.string {data:=#[]},.string {data:=#[]},.int .i64 0,.int .i64 0,.int .i64 0,.int .i64 0,.slice none 0 0]) (ai rfl _ _ w.heap.size 25 _ _ _ rfl (aJ hres _ _ _ _ _ _ _ _ _) Tryz.underlying25 rfl (by kernel_rfl)) rfl ?_;have hbl:=ay (W:=Mx) (aa w.heap.size) (.int .i64 18) (.int .i64 pl) (.string {data:=#[]}) (.string {data:=#[]}) (.int .i64 0) (.int .i64 0) (.int .i64 0) (.int .i64 0) (.slice none 0 0);rw [HE.o];exact ⟨⟨_,rfl,_,rfl,cK.leaf _ _ 18 pl [] [] 0 0 0 0 none 0⟩,H.o.above Jj.o.at_ hbl,Jj.o.keeps.over hbl⟩
    |false=>
     rw [hI] at VC
     have oz:=ae (RR=(if b_ p.L k aV then (cond (k+1)).bind fun n k'=>(av p.L p.en k' aI).bind fun _ k2=>.ok n k2
      else if b_ p.L k bA then (fo (k+1)).bind fun n k'=>(il p.L fo (p.L.length+1) [n] k').bind fun l k2=>(av p.L p.en k2 aZ).bind fun _ k3=>.ok (.mk 7 pl [] [] 0 0 0 0 l) k3
      else match kj p.L fW k with
       |some q=>(av p.L p.en (k+1) aV).bind fun _ k1=>(cond k1).bind fun x k2=>(av p.L p.en k2 aI).bind fun _ k3=>.ok (.mk q pl [] [] 0 0 0 0 [x]) k3
       |none=>match kj p.L dV k with
        |some q=>jU p.L p.en (fq p) cond q pl (k+1)
        |none=>ik p.L p.en k)) (by rw [nt.o,if_neg (show¬b_ p.L k nP=true from by rw [show b_ p.L k nP=false from hI];decide)])
     clear hI nt;go_wp2_with fail;refine VC.o.mono ?_;rintro e Mx ⟨rfl,Rx,FV⟩;have Jj:=hide (wV.o.keep hbz (show bQ p Mx k from Rx) FV);clear Rx FV;have UK:=hide (AC.o k [40] Mx Jj.o.at_)
     cases hI:b_ p.L k [40] with
     |true=>
      rw [hI] at UK;have HV:=ae (RR=_) (by rw [oz.o,if_pos (show b_ p.L k aV=true from hI)]);clear hI oz;go_wp2_with fail;refine UK.o.mono ?_;rintro e My ⟨rfl,FX,wo⟩;have Nr:=hide (Jj.o.keep hbz FX wo);clear FX wo;have nJ:=ae (RR=(cond (k+1)).bind fun n k'=>(av p.L p.en k' aI).bind fun _ k2=>.ok n k2) HV.o;have mA:=Nr;have X:=hide (HC.o (k+1) My (by omega) Nr.o.at_)
      cases hx:cond (k+1) with
      |err a er=>
       rw [hx] at X;have HE:=ae (RR=.err a er) (by rw [nJ.o,hx];rfl);clear hx;go_wp2_with fail;refine X.o.mono ?_;rintro e qJ ⟨rfl,cD⟩;go_wp2;exact ⟨rfl,by rw [HE.o];exact ⟨rfl,mA.o.keeps.trans cD⟩⟩
      |ok n k1=>
       rw [hx] at X;have nE:=ae (RR=(av p.L p.en k1 aI).bind fun _ k2=>.ok n k2) (by rw [nJ.o,hx];rfl);clear hx HV nJ;go_wp2_with fail;refine X.o.mono ?_;rintro e w3 ⟨⟨v,rfl,cs,rfl,hnd⟩,h3,hk3⟩;have hr3:Row w3 w.heap.size 25 cG:=mA.o.res.keep hk3 (by show¬w.heap.size=p.b;omega);have hg:w.heap.size<w3.heap.size:=hr3.lt;have nL:=cU.new h3 (mA.o.keeps.trans hk3) hr3 hnd mA.o.lt;obtain ⟨kd,a0,nm,vl,xa,xb,xc,xd,A,len,cap,rfl⟩:=hnd.nine;generalize lJ:w3.alloc (.cells (aB kd a0 nm vl xa xb xc xd (.slice A len cap)).toArray 25)=W4 at nL;have De:=hide nL;have nT:w3.alloc (.cells #[.int .i64 kd,.int .i64 a0,.string (ag nm),.string (ag vl),.int .i64 xa,.int .i64 xb,.int .i64 xc,.int .i64 xd,.slice A len cap] 25)=W4:=lJ;clear h3 hk3 hr3 hnd nL lJ;unfold aB;have VP:=hide (EX.o k1 [41] W4 De.o.at_)
       cases hD:av p.L p.en k1 [41] with
       |err a er=>
        rw [hD] at VP;have HE:=ae (RR=.err a er) (by rw [nE.o,show av p.L p.en k1 aI=.err a er from hD];rfl);clear hD;go_wp2_with fail;refine VP.o.mono ?_;rintro e qJ ⟨rfl,cD⟩;go_wp2;exact ⟨rfl,by rw [HE.o];exact ⟨rfl,De.o.keeps.trans cD⟩⟩
       |ok u k2=>
        rw [hD] at VP;have HE:=ae (RR=.ok n k2) (by rw [nE.o,show av p.L p.en k1 aI=.ok u k2 from hD];rfl);clear hD;go_wp2_with fail;refine VP.o.mono ?_;rintro e W5 ⟨⟨v,rfl,rfl⟩,h5,cC⟩;have zo:=hide (De.o.keep hbz hg h5 cC);clear h5 cC nT;obtain ⟨wU,dL,hres,hrow,hnd⟩:=zo.o;obtain ⟨z0,z1,z2,z3,z4,z5,z6,z7,z8⟩:=ak hrow;obtain ⟨y0,y1,y2,y3,y4,y5,y6,y7,y8⟩:=ak hres;obtain ⟨M4,M5,M6,M7,M8,M9,M_,Na,Nb⟩:=aU hres;have fR:=hide hnd;clear hrow hnd;go_wp2_with fail;refine bodyPost_ret (v:=.agg #[.int .i64 kd,.int .i64 a0,.string (ag nm),.string (ag vl),.int .i64 xa,.int .i64 xb,.int .i64 xc,.int .i64 xd,.slice A len cap]) (ai rfl _ _ w.heap.size 25 _ _ _ rfl (aJ hres _ _ _ _ _ _ _ _ _) Tryz.underlying25 rfl (by kernel_rfl)) rfl ?_;have hbl:=ay (W:=W5) (aa w.heap.size) (.int .i64 kd) (.int .i64 a0) (.string (ag nm)) (.string (ag vl)) (.int .i64 xa) (.int .i64 xb) (.int .i64 xc) (.int .i64 xd) (.slice A len cap);rw [HE.o];exact ⟨⟨_,rfl,_,rfl,(fR.o.keeps (aN (C:=fun b=>b≤w.heap.size∨b=w3.heap.size) (.inl (aa _)) _ _ _ _ _ _ _ _ _)).mono (fun b hb'=>.inl (Nat.le_of_lt hb'))⟩,H.o.above wU hbl,dL.over hbl⟩
     |false=>
      rw [hI] at UK
      have qP:=ae (RR=(if b_ p.L k bA then (fo (k+1)).bind fun n k'=>(il p.L fo (p.L.length+1) [n] k').bind fun l k2=>(av p.L p.en k2 aZ).bind fun _ k3=>.ok (.mk 7 pl [] [] 0 0 0 0 l) k3
       else match kj p.L fW k with
        |some q=>(av p.L p.en (k+1) aV).bind fun _ k1=>(cond k1).bind fun x k2=>(av p.L p.en k2 aI).bind fun _ k3=>.ok (.mk q pl [] [] 0 0 0 0 [x]) k3
        |none=>match kj p.L dV k with
         |some q=>jU p.L p.en (fq p) cond q pl (k+1)
         |none=>ik p.L p.en k)) (by rw [oz.o,if_neg (show¬b_ p.L k aV=true from by rw [show b_ p.L k aV=false from hI];decide)])
      clear hI oz;go_wp2_with fail;refine UK.o.mono ?_;rintro e My ⟨rfl,FX,wo⟩;have Nr:=hide (Jj.o.keep hbz (show bQ p My k from FX) wo);clear FX wo;have AC4:=hide (AC.o k [123] My Nr.o.at_)
      cases hI:b_ p.L k [123] with
      |true=>
       rw [hI] at AC4;have HV:=ae (RR=_) (by rw [qP.o,if_pos (show b_ p.L k bA=true from hI)]);clear hI qP;go_wp2_with fail;refine AC4.o.mono ?_;rintro e Ol ⟨rfl,Df,wu⟩;have Jk:=hide (Nr.o.keep hbz Df wu);clear Df wu;have nJ:=ae (RR=(fo (k+1)).bind fun n k'=>(il p.L fo (p.L.length+1) [n] k').bind fun l k2=>(av p.L p.en k2 aZ).bind fun _ k3=>.ok (.mk 7 pl [] [] 0 0 0 0 l) k3) HV.o;have mA:=Jk;have X:=hide (HB.o (k+1) Ol (by omega) Jk.o.at_)
       cases hx:fo (k+1) with
       |err a er=>
        rw [hx] at X;have HE:=ae (RR=.err a er) (by rw [nJ.o,hx];rfl);clear hx;go_wp2_with fail;refine X.o.mono ?_;rintro e qJ ⟨rfl,cD⟩;go_wp2;exact ⟨rfl,by rw [HE.o];exact ⟨rfl,mA.o.keeps.trans cD⟩⟩
       |ok x k1=>
        rw [hx] at X;have QZ:=Ji.o _ _ _ hx;have nE:=ae ((il p.L fo (p.L.length+1) [x] k1).bind (fun l k2=>(av p.L p.en k2 aZ).bind fun _ k3=>.ok (.mk 7 pl [] [] 0 0 0 0 l) k3)=RR) (by rw [nJ.o,hx];rfl);clear hx HV nJ;go_wp2_with fail;refine X.o.mono ?_;rintro e w3 ⟨⟨v,rfl,cs,rfl,hnd⟩,h3,hk3⟩;have hr3:Row w3 w.heap.size 25 cG:=mA.o.res.keep hk3 (by show¬w.heap.size=p.b;omega);obtain ⟨kd,a0,nm,vl,xa,xb,xc,xd,A,len,cap,rfl⟩:=hnd.nine;generalize lJ:w3.alloc (.cells [aB kd a0 nm vl xa xb xc xd (.slice A len cap)].flatten.toArray 25)=W4
        have s4:W4.heap.size=w3.heap.size+1:=by rw [←lJ,aF]
        generalize tG:W4.alloc (.cells (aB 7 pl [] [] 0 0 0 0 (.slice (some ⟨w3.heap.size,0,none⟩) 1 1)).toArray 25)=W5;have km:=n_.new h3 (mA.o.keeps.trans hk3) hr3 hnd mA.o.lt lJ.symm tG.symm;rw [←s4] at km;have Q_:=hide km;have nT:w3.alloc (.cells #[.int .i64 kd,.int .i64 a0,.string (ag nm),.string (ag vl),.int .i64 xa,.int .i64 xb,.int .i64 xc,.int .i64 xd,.slice A len cap] 25)=W4:=lJ;have C9:W4.alloc (.cells #[.int .i64 7,.int .i64 pl,.string {data:=#[]},.string {data:=#[]},.int .i64 0,.int .i64 0,.int .i64 0,.int .i64 0,.slice (some ⟨w3.heap.size,0,none⟩) 1 1] 25)=W5:=tG
        have hg:w.heap.size<W4.heap.size:=by have:=hr3.lt;omega
        clear h3 hk3 hr3 hnd km lJ tG s4;unfold aB;go_wp2_with fail;clear nT C9
        go_loopw [] (fun W=>∃gk nn c ks bH k2 m,n_ p w W4.heap.size W 7 pl gk nn c ks bH k2∧(il p.L fo m ks k2).bind (fun l k2=>(av p.L p.en k2 aZ).bind fun _ k3=>.ok (.mk 7 pl [] [] 0 0 0 0 l) k3)=RR∧p.L.length<m+k2∧k+1≤k2∧nn≤k2) (fun W=>p.L.length+1-placeOf p W)
        case atStart=>exact ⟨_,_,_,_,_,_,_,Q_.o,nE.o,by omega,QZ,by omega⟩
        case round=>
         obtain ⟨gk,nn,c,ks,bH,k2,m,ir,hm,hmk,hkk,hnn⟩:=hrel;have HKI:=hide ir;have HM:=hide hm;have hk2:=ir.at_.le
         obtain ⟨m',rfl⟩:∃m',m=m'+1:=⟨m-1,by omega⟩
         have AC7:=hide (AC.o k2 [44] wr ir.at_);clear ir hm
         cases hJ:b_ p.L k2 [44] with
         |false=>
          rw [hJ] at AC7;have HM1:=ae (RR=(av p.L p.en k2 aZ).bind fun _ k3=>.ok (.mk 7 pl [] [] 0 0 0 0 ks) k3) (by rw [←HM.o];unfold il;rw [if_neg (show¬b_ p.L k2 aG=true from by rw [show b_ p.L k2 aG=false from hJ];decide)];rfl);clear hJ;go_wp2_with fail;refine AC7.o.mono ?_;rintro e W8 ⟨rfl,h8,Oo⟩;have Dh:=hide (HKI.o.keep hbz hg (show bQ p W8 k2 from h8) Oo);clear h8 Oo;have EX8:=hide (EX.o k2 [125] W8 Dh.o.at_)
          cases hD:av p.L p.en k2 [125] with
          |err a er=>
           rw [hD] at EX8;have HE:=ae (RR=.err a er) (by rw [HM1.o,show av p.L p.en k2 aZ=.err a er from hD];rfl);clear hD;go_wp2_with fail;refine EX8.o.mono ?_;rintro e qJ ⟨rfl,cD⟩;go_wp2;exact ⟨rfl,by rw [HE.o];exact ⟨rfl,Dh.o.keeps.trans cD⟩⟩
          |ok u k3=>
           rw [hD] at EX8;have HE:=ae (RR=.ok (.mk 7 pl [] [] 0 0 0 0 ks) k3) (by rw [HM1.o,show av p.L p.en k2 aZ=.ok u k3 from hD];rfl);clear hD;go_wp2_with fail;refine EX8.o.mono ?_;rintro e W9 ⟨⟨v,rfl,rfl⟩,h9,ZE⟩;have hkn:=Dh.o.kids.num;subst hkn;have HL9:=hide (Dh.o.keep hbz hg h9 ZE).lf;clear h9 ZE;obtain ⟨wU,dL,hres,hrow,hnd⟩:=HL9.o;obtain ⟨z0,z1,z2,z3,z4,z5,z6,z7,z8⟩:=ak hrow;obtain ⟨y0,y1,y2,y3,y4,y5,y6,y7,y8⟩:=ak hres;obtain ⟨M4,M5,M6,M7,M8,M9,M_,Na,Nb⟩:=aU hres;have fR:=hide hnd;clear hrow hnd;go_wp2_with fail;refine bodyPost_ret (v:=.agg #[.int .i64 7,.int .i64 pl,.string {data:=#[]},.string {data:=#[]},.int .i64 0,.int .i64 0,.int .i64 0,.int .i64 0,.slice (some ⟨gk,0,none⟩) ks.length c]) (ai rfl _ _ w.heap.size 25 _ _ _ rfl (aJ hres _ _ _ _ _ _ _ _ _) Tryz.underlying25 rfl (by kernel_rfl)) rfl ?_;have hbl:=ay (W:=W9) (aa w.heap.size) (.int .i64 7) (.int .i64 pl) (.string {data:=#[]}) (.string {data:=#[]}) (.int .i64 0) (.int .i64 0) (.int .i64 0) (.int .i64 0) (.slice (some ⟨gk,0,none⟩) ks.length c);rw [HE.o];exact ⟨⟨_,rfl,_,rfl,(fR.o.keeps (aN (C:=fun b=>b≤w.heap.size∨b=W4.heap.size) (.inl (aa _)) _ _ _ _ _ _ _ _ _)).mono (fun b hb'=>.inl (Nat.le_of_lt hb'))⟩,H.o.above wU hbl,dL.over hbl⟩
         |true=>
          rw [hJ] at AC7
          have HM1:=ae (((fo (k2+1)).bind fun x k'=>il p.L fo m' (ks++[x]) k').bind (fun l k2=>(av p.L p.en k2 aZ).bind fun _ k3=>.ok (.mk 7 pl [] [] 0 0 0 0 l) k3)=RR) (by
           rw [←HM.o]
           conv=>rhs;unfold il
           rw [if_pos (show b_ p.L k2 aG=true from hJ)])
          have hlt:=xj hJ;clear hJ;go_wp2_with fail;refine AC7.o.mono ?_;rintro e W8 ⟨rfl,h8,Oo⟩;have Dh:=hide (HKI.o.keep hbz hg (show bQ p W8 (k2+1) from h8) Oo);clear h8 Oo;have c8:W8.cell? ⟨W4.heap.size,8,none⟩=some (.slice (some ⟨gk,0,none⟩) nn c):=Dh.o.row.cell 8;have CX:=hide (HB.o (k2+1) W8.drew (by omega) (Dh.o.at_.below ((af _ W8).drew)));go_wp2_with fail
          cases hy:fo (k2+1) with
          |err a er=>
           rw [hy] at CX
           have Ak:=hide (fun (W:World) (hk:ah (fun c=>c=p.b) W8.drew W)=>show cQ p w (qI w.heap.size) RR (.panicked [{v:=ot a er,recovered:=false}]) W from by
            rw [←HM1.o,hy];exact ⟨rfl,(Dh.o.keeps.drew).trans hk⟩)
           clear hy;refine wp_region_any (by kernel_rfl) ?_;change wpAny _ _ _ _ _ _ _ (World.drew _);refine wpAny_take (i:=0) (v:=?_) rfl (by kernel_rfl) (by kernel_rfl) (by kernel_rfl) (fun _ _ _ h=>h) (Or.inl ⟨by rfl,?_⟩) ?_;rotate_left
           ·intro w;go_simp;with_reducible rfl
           refine wpAny_take (i:=2) (v:=?_) rfl (by kernel_rfl) (by kernel_rfl) (by kernel_rfl) (fun _ _ _ h=>h) (Or.inl ⟨by rfl,?_⟩) ?_;rotate_left
           ·intro w;go_simp;with_reducible rfl
           refine oD (i:=1) (j:=3) (by kernel_rfl) rfl rfl (fun K hK=>?_) fun K hK=>?_
           ·go_simp;refine hK _ _ ?_;clear hK K;refine bK (i:=3) (by kernel_rfl) rfl fun K hK=>?_;go_simp;refine CX.o.mono ?_;rintro e w5 ⟨rfl,cC⟩;exact ⟨rfl,Ak.o _ cC⟩
           ·go_simp;refine CX.o.mono ?_;rintro e w5 ⟨rfl,cC⟩;exact ⟨rfl,Ak.o _ cC⟩
          |ok y k3=>
           rw [hy] at CX;have Fu:=Ji.o _ _ _ hy;have HM2:=ae ((il p.L fo m' (ks++[y]) k3).bind (fun l k2=>(av p.L p.en k2 aZ).bind fun _ k3=>.ok (.mk 7 pl [] [] 0 0 0 0 l) k3)=RR) (by rw [←HM1.o,hy];rfl);clear hy;refine wp_region_any (by kernel_rfl) ?_;change wpAny _ _ _ _ _ _ _ (World.drew _);refine wpAny_take (i:=0) (v:=?_) rfl (by kernel_rfl) (by kernel_rfl) (by kernel_rfl) (fun _ _ _ h=>h) (Or.inl ⟨by rfl,?_⟩) ?_;rotate_left
           ·intro w;go_simp;with_reducible rfl
           refine wpAny_take (i:=2) (v:=?_) rfl (by kernel_rfl) (by kernel_rfl) (by kernel_rfl) (fun _ _ _ h=>h) (Or.inl ⟨by rfl,?_⟩) ?_;rotate_left
           ·intro w;go_simp;with_reducible rfl
           refine oD (i:=1) (j:=3) (by kernel_rfl) rfl rfl (fun K hK=>?_) fun K hK=>?_
           ·go_simp;refine hK _ _ ?_;clear hK K;refine bK (i:=3) (by kernel_rfl) rfl fun K hK=>?_;go_simp;refine CX.o.mono ?_;rintro e w5 ⟨⟨v,rfl,csy,rfl,lD⟩,h5,cC⟩;refine hK _ _ ?_;clear hK K
            have fO:ah (fun c=>c=p.b) W8 w5:=⟨cC.os,cC.tape,cC.output,cC.size,cC.block⟩
            have pK:=Dh.o.keep hbz hg h5 fO;obtain ⟨yk,y0,yn,yv,ya,yb,yc,yd,yA,cZ,cv,rfl⟩:=lD.nine
            have I6:=lD.mono (C':=fun b=>(b≤w.heap.size∨b=W4.heap.size)∨b=gk) (fun b hb=>by
             have e1:=Dh.o.row.lt;have e2:=Dh.o.kids.lt;have e3:=Dh.o.res.lt;show b<W8.heap.size
             rcases hb with (hb|rfl)|rfl<;>omega)
            unfold aB;refine bK (i:=4) (by kernel_rfl) rfl fun K hK=>?_;go_simp;refine hK _ _ ?_;clear hK K;generalize Dw:World.alloc w5 _=W9
            have b9:Below w5.heap.size w5 W9:=by rw [←Dw];exact (af _ _).alloc (aa _) _
            have r9:Row W9 w5.heap.size 25 (aB yk y0 yn yv ya yb yc yd (.slice yA cZ cv)).toArray:=by rw [←Dw];exact Row.new _ _ _
            have jK:=pK.keep hbz hg (h5.below b9) (ah.of_below b9 (aa _))
            obtain ⟨mB,ck,Ah,gQ,iI,hgr⟩:=jK.kids.app (I6.keeps (ah.of_below b9 (aa _))) r9 (by have:=jK.res.lt;omega) (fun b hb=>by
             have e1:=jK.row.lt;have e3:=jK.res.lt
             rcases hb with hb|rfl<;>omega) (by have:=Dh.o.at_.small;omega)
            have zq:=jK.row.grown hgr (by intro e;exact jK.kids.not (.inr (au e).symm));have wA:=jK.app H.o hg iI hgr;have m8:Ah.cell? ⟨W4.heap.size,8,none⟩=some (.slice (some ⟨gk,0,none⟩) nn c):=zq.cell 8;have Fv:=zq.frozen 8;have FY:=hide wA;clear wA jK pK zq iI hgr b9 r9 I6 lD h5 cC fO Dw;refine bK (i:=5) (by kernel_rfl) rfl fun K hK=>?_;refine dn (by kernel_rfl) (.tmp 71) (.tmp 74) 23 rfl rfl rfl gQ ?_;refine hK _ _ ?_;clear hK K gQ;refine bK (i:=6) (by kernel_rfl) rfl fun K hK=>?_;go_simp;refine hK _ _ ?_;clear hK K;refine bK (i:=7) (by kernel_rfl) rfl fun K hK=>?_;go_simp;refine hK _ _ ?_;clear hK K;refine wpAny_done (by kernel_rfl) ?_ _;go_wp2;go_roundw
            case rel=>exact ⟨mB,nn+1,ck,ks++[y],_,k3,m',FY.o,HM2.o,by omega,by omega,by omega⟩
            case measure=>rw [di FY.o.at_,di HKI.o.at_];omega
           ·go_simp;refine CX.o.mono ?_;rintro e w5 ⟨⟨v,rfl,csy,rfl,lD⟩,h5,cC⟩;refine hK _ _ ?_;clear hK K
            have fO:ah (fun c=>c=p.b) W8 w5:=⟨cC.os,cC.tape,cC.output,cC.size,cC.block⟩
            have pK:=Dh.o.keep hbz hg h5 fO;obtain ⟨yk,y0,yn,yv,ya,yb,yc,yd,yA,cZ,cv,rfl⟩:=lD.nine
            have I6:=lD.mono (C':=fun b=>(b≤w.heap.size∨b=W4.heap.size)∨b=gk) (fun b hb=>by
             have e1:=Dh.o.row.lt;have e2:=Dh.o.kids.lt;have e3:=Dh.o.res.lt;show b<W8.heap.size
             rcases hb with (hb|rfl)|rfl<;>omega)
            unfold aB;have c8b:w5.cell? ⟨W4.heap.size,8,none⟩=some (.slice (some ⟨gk,0,none⟩) nn c):=pK.row.cell 8;refine oD (i:=1) (j:=4) (by kernel_rfl) rfl rfl (fun K hK=>?_) fun K hK=>?_
            ·go_simp;refine hK _ _ ?_;clear hK K;refine bK (i:=4) (by kernel_rfl) rfl fun K hK=>?_;go_simp;refine hK _ _ ?_;clear hK K;generalize Dw:World.alloc w5 _=W9
             have b9:Below w5.heap.size w5 W9:=by rw [←Dw];exact (af _ _).alloc (aa _) _
             have r9:Row W9 w5.heap.size 25 (aB yk y0 yn yv ya yb yc yd (.slice yA cZ cv)).toArray:=by rw [←Dw];exact Row.new _ _ _
             have jK:=pK.keep hbz hg (h5.below b9) (ah.of_below b9 (aa _))
             obtain ⟨mB,ck,Ah,gQ,iI,hgr⟩:=jK.kids.app (I6.keeps (ah.of_below b9 (aa _))) r9 (by have:=jK.res.lt;omega) (fun b hb=>by
              have e1:=jK.row.lt;have e3:=jK.res.lt
              rcases hb with hb|rfl<;>omega) (by have:=Dh.o.at_.small;omega)
             have zq:=jK.row.grown hgr (by intro e;exact jK.kids.not (.inr (au e).symm));have wA:=jK.app H.o hg iI hgr;have m8:Ah.cell? ⟨W4.heap.size,8,none⟩=some (.slice (some ⟨gk,0,none⟩) nn c):=zq.cell 8;have Fv:=zq.frozen 8;have FY:=hide wA;clear wA jK pK zq iI hgr b9 r9 I6 lD h5 cC fO Dw;refine bK (i:=5) (by kernel_rfl) rfl fun K hK=>?_;refine dn (by kernel_rfl) (.tmp 71) (.tmp 74) 23 rfl rfl rfl gQ ?_;refine hK _ _ ?_;clear hK K gQ;refine bK (i:=6) (by kernel_rfl) rfl fun K hK=>?_;go_simp;refine hK _ _ ?_;clear hK K;refine bK (i:=7) (by kernel_rfl) rfl fun K hK=>?_;go_simp;refine hK _ _ ?_;clear hK K;refine wpAny_done (by kernel_rfl) ?_ _;go_wp2;go_roundw
             case rel=>exact ⟨mB,nn+1,ck,ks++[y],_,k3,m',FY.o,HM2.o,by omega,by omega,by omega⟩
             case measure=>rw [di FY.o.at_,di HKI.o.at_];omega
            ·go_simp;refine hK _ _ ?_;clear hK K;generalize Dw:World.alloc w5 _=W9
             have b9:Below w5.heap.size w5 W9:=by rw [←Dw];exact (af _ _).alloc (aa _) _
             have r9:Row W9 w5.heap.size 25 (aB yk y0 yn yv ya yb yc yd (.slice yA cZ cv)).toArray:=by rw [←Dw];exact Row.new _ _ _
             have jK:=pK.keep hbz hg (h5.below b9) (ah.of_below b9 (aa _));have c8c:W9.cell? ⟨W4.heap.size,8,none⟩=some (.slice (some ⟨gk,0,none⟩) nn c):=jK.row.cell 8;refine bK (i:=1) (by kernel_rfl) rfl fun K hK=>?_;go_simp;refine hK _ _ ?_;clear hK K
             obtain ⟨mB,ck,Ah,gQ,iI,hgr⟩:=jK.kids.app (I6.keeps (ah.of_below b9 (aa _))) r9 (by have:=jK.res.lt;omega) (fun b hb=>by
              have e1:=jK.row.lt;have e3:=jK.res.lt
              rcases hb with hb|rfl<;>omega) (by have:=Dh.o.at_.small;omega)
             have zq:=jK.row.grown hgr (by intro e;exact jK.kids.not (.inr (au e).symm));have wA:=jK.app H.o hg iI hgr;have m8:Ah.cell? ⟨W4.heap.size,8,none⟩=some (.slice (some ⟨gk,0,none⟩) nn c):=zq.cell 8;have Fv:=zq.frozen 8;have FY:=hide wA;clear wA jK pK zq iI hgr b9 r9 I6 lD h5 cC fO Dw;refine bK (i:=5) (by kernel_rfl) rfl fun K hK=>?_;refine dn (by kernel_rfl) (.tmp 71) (.tmp 74) 23 rfl rfl rfl gQ ?_;refine hK _ _ ?_;clear hK K gQ;refine bK (i:=6) (by kernel_rfl) rfl fun K hK=>?_;go_simp;refine hK _ _ ?_;clear hK K;refine bK (i:=7) (by kernel_rfl) rfl fun K hK=>?_;go_simp;refine hK _ _ ?_;clear hK K;refine wpAny_done (by kernel_rfl) ?_ _;go_wp2;go_roundw
             case rel=>exact ⟨mB,nn+1,ck,ks++[y],_,k3,m',FY.o,HM2.o,by omega,by omega,by omega⟩
             case measure=>rw [di FY.o.at_,di HKI.o.at_];omega
      |false=>
       rw [hI] at AC4
       have zg:=ae (RR=(match kj p.L fW k with
        |some q=>(av p.L p.en (k+1) aV).bind fun _ k1=>(cond k1).bind fun x k2=>(av p.L p.en k2 aI).bind fun _ k3=>.ok (.mk q pl [] [] 0 0 0 0 [x]) k3
        |none=>match kj p.L dV k with
         |some q=>jU p.L p.en (fq p) cond q pl (k+1)
         |none=>ik p.L p.en k)) (by rw [qP.o,if_neg (show¬b_ p.L k bA=true from by rw [show b_ p.L k bA=false from hI];decide)])
       clear hI qP;go_wp2_with fail;refine AC4.o.mono ?_;rintro e Ol ⟨rfl,Df,wu⟩;have Jk:=hide (Nr.o.keep hbz (show bQ p Ol k from Df) wu);clear Df wu;have Jl:=hide (fun (W:World) (bm:Nat) (h:bQ p W k) (hm:nR W bm fW) (hb:bm≠p.b)=>jg p k bm fW W h hm hb (by unfold dQ;decide));have VQ:=hide (Be Ol)
       cases hO:kj p.L fW k with
       |some q=>
        obtain ⟨⟨o,ho,Kp⟩,hlt⟩:=tR hO
        have hq0:(q !=0)=true:=by
         have h1:∀o∈fW,(o.2 !=0)=true:=by decide
         rw [←Kp];exact h1 o ho
        have nJ:=ae (RR=(av p.L p.en (k+1) aV).bind fun _ k1=>(cond k1).bind fun x k2=>(av p.L p.en k2 aI).bind fun _ k3=>.ok (.mk q pl [] [] 0 0 0 0 [x]) k3) (by rw [zg.o,hO])
        have hE:vQ p.L p.en fW k=.returned (.tuple #[.int .i64 q,.int .i64 (eO p.L p.en k)]):=by unfold vQ;rw [hO]
        have hN:vR p.L fW k=k+1:=by unfold vR;rw [hO]
        rw [hE,hN] at Jl;clear hE hN;clear hO ho Kp;go_wp2_with fail;refine VQ.o.mono ?_;rintro e Tj ⟨rfl,pR,pS⟩;have zr:=hide (Jk.o.below hbz pS);have OB:=hide (Jl.o Tj _ zr.o.at_ pR (by have:=Jk.o.at_.row.lt;omega));clear pR pS;go_wp2_with fail;refine OB.o.mono ?_;rintro e Om ⟨rfl,zt,pT⟩;have sA:=hide (zr.o.keep hbz zt pT);clear zt pT;have KN:=hide (EX.o (k+1) [40] Om sA.o.at_)
        cases hD:av p.L p.en (k+1) [40] with
        |err a er=>
         rw [hD] at KN;have HE:=ae (RR=.err a er) (by rw [nJ.o,show av p.L p.en (k+1) aV=.err a er from hD];rfl);clear hD;go_wp2_with fail;refine KN.o.mono ?_;rintro e qJ ⟨rfl,cD⟩;go_wp2;exact ⟨rfl,by rw [HE.o];exact ⟨rfl,sA.o.keeps.trans cD⟩⟩
        |ok u1 k1=>
         rw [hD] at KN;have acX:=Jh hD;have nE:=ae (RR=(cond k1).bind fun x k2=>(av p.L p.en k2 aI).bind fun _ k3=>.ok (.mk q pl [] [] 0 0 0 0 [x]) k3) (by rw [nJ.o,show av p.L p.en (k+1) aV=.ok u1 k1 from hD];rfl);clear hD nJ;go_wp2_with fail;refine KN.o.mono ?_;rintro e Xm ⟨⟨v,rfl,rfl⟩,h23,Fu⟩;have mA:=hide (sA.o.keep hbz h23 Fu);clear h23 Fu;have X:=hide (HC.o k1 Xm (by omega) mA.o.at_)
         cases hx:cond k1 with
         |err a er=>
          rw [hx] at X;have HE:=ae (RR=.err a er) (by rw [nE.o,hx];rfl);clear hx;go_wp2_with fail;refine X.o.mono ?_;rintro e qJ ⟨rfl,cD⟩;go_wp2;exact ⟨rfl,by rw [HE.o];exact ⟨rfl,mA.o.keeps.trans cD⟩⟩
         |ok x k2=>
          rw [hx] at X;have S':=ae (RR=(av p.L p.en k2 aI).bind fun _ k3=>.ok (.mk q pl [] [] 0 0 0 0 [x]) k3) (by rw [nE.o,hx];rfl);clear hx nE;go_wp2_with fail;refine X.o.mono ?_;rintro e w3 ⟨⟨v,rfl,cs,rfl,hnd⟩,h3,hk3⟩;have hr3:Row w3 w.heap.size 25 cG:=mA.o.res.keep hk3 (by show¬w.heap.size=p.b;omega);obtain ⟨kd,a0,nm,vl,xa,xb,xc,xd,A,len,cap,rfl⟩:=hnd.nine;generalize lJ:w3.alloc (.cells [aB kd a0 nm vl xa xb xc xd (.slice A len cap)].flatten.toArray 25)=W4
          have s4:W4.heap.size=w3.heap.size+1:=by rw [←lJ,aF]
          generalize tG:W4.alloc (.cells (aB q pl [] [] 0 0 0 0 (.slice (some ⟨w3.heap.size,0,none⟩) 1 1)).toArray 25)=W5;have km:=n_.new h3 (mA.o.keeps.trans hk3) hr3 hnd mA.o.lt lJ.symm tG.symm;rw [←s4] at km;have Q_:=hide km;have nT:w3.alloc (.cells #[.int .i64 kd,.int .i64 a0,.string (ag nm),.string (ag vl),.int .i64 xa,.int .i64 xb,.int .i64 xc,.int .i64 xd,.slice A len cap] 25)=W4:=lJ;have C9:W4.alloc (.cells #[.int .i64 q,.int .i64 pl,.string {data:=#[]},.string {data:=#[]},.int .i64 0,.int .i64 0,.int .i64 0,.int .i64 0,.slice (some ⟨w3.heap.size,0,none⟩) 1 1] 25)=W5:=tG
          have hg:w.heap.size<W4.heap.size:=by have:=hr3.lt;omega
          clear h3 hk3 hr3 hnd km lJ tG s4;unfold aB;have zo:=hide Q_.o.lf;have C_:=hide (EX.o k2 [41] W5 zo.o.at_)
          cases hD:av p.L p.en k2 [41] with
          |err a er=>
           rw [hD] at C_;have HE:=ae (RR=.err a er) (by rw [S'.o,show av p.L p.en k2 aI=.err a er from hD];rfl);clear hD;go_wp2_with fail;refine C_.o.mono ?_;rintro e qJ ⟨rfl,cD⟩;go_wp2;exact ⟨rfl,by rw [HE.o];exact ⟨rfl,zo.o.keeps.trans cD⟩⟩
          |ok u k3=>
           rw [hD] at C_;have HE:=ae (RR=.ok (.mk q pl [] [] 0 0 0 0 [x]) k3) (by rw [S'.o,show av p.L p.en k2 aI=.ok u k3 from hD];rfl);clear hD;go_wp2_with fail;refine C_.o.mono ?_;rintro e W6 ⟨⟨v,rfl,rfl⟩,h6,ki⟩;have Gw:=hide (zo.o.keep hbz hg h6 ki);clear h6 ki nT C9;obtain ⟨wU,dL,hres,hrow,hnd⟩:=Gw.o;obtain ⟨z0,z1,z2,z3,z4,z5,z6,z7,z8⟩:=ak hrow;obtain ⟨y0,y1,y2,y3,y4,y5,y6,y7,y8⟩:=ak hres;obtain ⟨M4,M5,M6,M7,M8,M9,M_,Na,Nb⟩:=aU hres;have fR:=hide hnd;clear hrow hnd;go_wp2_with fail;refine bodyPost_ret (v:=.agg #[.int .i64 q,.int .i64 pl,.string {data:=#[]},.string {data:=#[]},.int .i64 0,.int .i64 0,.int .i64 0,.int .i64 0,.slice (some ⟨w3.heap.size,0,none⟩) 1 1]) (ai rfl _ _ w.heap.size 25 _ _ _ rfl (aJ hres _ _ _ _ _ _ _ _ _) Tryz.underlying25 rfl (by kernel_rfl)) rfl ?_;have hbl:=ay (W:=W6) (aa w.heap.size) (.int .i64 q) (.int .i64 pl) (.string {data:=#[]}) (.string {data:=#[]}) (.int .i64 0) (.int .i64 0) (.int .i64 0) (.int .i64 0) (.slice (some ⟨w3.heap.size,0,none⟩) 1 1);rw [HE.o];exact ⟨⟨_,rfl,_,rfl,(fR.o.keeps (aN (C:=fun b=>b≤w.heap.size∨b=W4.heap.size) (.inl (aa _)) _ _ _ _ _ _ _ _ _)).mono (fun b hb'=>.inl (Nat.le_of_lt hb'))⟩,H.o.above wU hbl,dL.over hbl⟩
       |none=>
        have nJ:=ae (RR=(match kj p.L dV k with
         |some q=>jU p.L p.en (fq p) cond q pl (k+1)
         |none=>ik p.L p.en k)) (by rw [zg.o,hO])
        have hE:vQ p.L p.en fW k=.returned (.tuple #[.int .i64 0,.int .i64 0]):=by unfold vQ;rw [hO]
        have hN:vR p.L fW k=k:=by unfold vR;rw [hO]
        rw [hE,hN] at Jl;clear hE hN;clear hO;go_wp2_with fail;refine VQ.o.mono ?_;rintro e Tj ⟨rfl,pR,pS⟩;have zr:=hide (Jk.o.below hbz pS);have OB:=hide (Jl.o Tj _ zr.o.at_ pR (by have:=Jk.o.at_.row.lt;omega));clear pR pS;go_wp2_with fail;refine OB.o.mono ?_;rintro e Om ⟨rfl,zt,pT⟩;have sA:=hide (zr.o.keep hbz zt pT);clear zt pT;clear Jl OB VQ;have Jl:=hide (fun (W:World) (bm:Nat) (h:bQ p W k) (hm:nR W bm dV) (hb:bm≠p.b)=>jg p k bm dV W h hm hb (by unfold dQ;decide));have VQ:=hide (Bf Om)
        cases hO:kj p.L dV k with
        |none=>
         have HE:=ae (RR=.err (eO p.L p.en k) 3) (by rw [nJ.o,hO];rfl)
         have hE:vQ p.L p.en dV k=.returned (.tuple #[.int .i64 0,.int .i64 0]):=by unfold vQ;rw [hO]
         have hN:vR p.L dV k=k:=by unfold vR;rw [hO]
         rw [hE,hN] at Jl;clear hE hN;clear hO;go_wp2_with fail;refine VQ.o.mono ?_;rintro e Xm ⟨rfl,FZ,F3⟩;have Ry:=hide (sA.o.below hbz F3);have OB:=hide (Jl.o Xm _ Ry.o.at_ FZ (by have:=sA.o.at_.row.lt;omega));clear FZ F3;go_wp2_with fail;refine OB.o.mono ?_;rintro e W24 ⟨rfl,Rz,F4⟩;have Jm:=hide (Ry.o.keep hbz Rz F4);clear Rz F4;have FL:=hide (pB p k W24 Jm.o.at_);go_wp2_with fail;refine FL.o.mono ?_;rintro e W25 ⟨rfl,acY⟩;go_wp2;exact ⟨rfl,by rw [HE.o];exact ⟨rfl,Jm.o.keeps.trans (ah.of_below acY (aa _))⟩⟩
        |some q=>
         obtain ⟨⟨o,ho,Kp⟩,hlt⟩:=tR hO
         have hq0:(q==0)=false:=by
          have h1:∀o∈dV,(o.2==0)=false:=by decide
          rw [←Kp];exact h1 o ho
         have nE:=ae (RR=jU p.L p.en (fq p) cond q pl (k+1)) (by rw [nJ.o,hO])
         have hE:vQ p.L p.en dV k=.returned (.tuple #[.int .i64 q,.int .i64 (eO p.L p.en k)]):=by unfold vQ;rw [hO]
         have hN:vR p.L dV k=k+1:=by unfold vR;rw [hO]
         rw [hE,hN] at Jl;clear hE hN;clear hO ho Kp;go_wp2_with fail;refine VQ.o.mono ?_;rintro e Xm ⟨rfl,FZ,F3⟩;have Ry:=hide (sA.o.below hbz F3);have OB:=hide (Jl.o Xm _ Ry.o.at_ FZ (by have:=sA.o.at_.row.lt;omega));clear FZ F3;go_wp2_with fail;refine OB.o.mono ?_;rintro e W24 ⟨rfl,Rz,F4⟩;have Jm:=hide (Ry.o.keep hbz Rz F4);clear Rz F4;have X:=hide (TP.o q (k+1) W24 (by omega) Jm.o.at_)
         cases hx:jU p.L p.en (fq p) cond q pl (k+1) with
         |err a er=>
          rw [hx] at X;have HE:=ae (RR=.err a er) (by rw [nE.o,hx]);clear hx;go_wp2_with fail;refine X.o.mono ?_;rintro e qJ ⟨rfl,cD⟩;go_wp2;exact ⟨rfl,by rw [HE.o];exact ⟨rfl,Jm.o.keeps.trans cD⟩⟩
         |ok n k2=>
          rw [hx] at X;have HE:=ae (RR=.ok n k2) (by rw [nE.o,hx]);clear hx;go_wp2_with fail;refine X.o.mono ?_;rintro e W25 ⟨⟨v,rfl,cs,rfl,hnd⟩,h25,abB⟩;have ZI:=hide (Jm.o.keep hbz h25 abB);have acZ:=Jm.o.lt;obtain ⟨kd,a0,nm,vl,xa,xb,xc,xd,A,len,cap,rfl⟩:=hnd.nine;have fR:=hide hnd;have hres:=ZI.o.res;clear hnd h25 abB;unfold aB;obtain ⟨e0,e1,e2,e3,e4,e5,e6,e7,e8⟩:=ak hres;obtain ⟨Kr,Ks,IJ,Kt,Ku,Kv,Kw,Ky,Kz⟩:=aU hres;go_wp2_with fail;refine bodyPost_ret (v:=.agg #[.int .i64 kd,.int .i64 a0,.string (ag nm),.string (ag vl),.int .i64 xa,.int .i64 xb,.int .i64 xc,.int .i64 xd,.slice A len cap]) (ai rfl _ _ w.heap.size 25 _ _ _ rfl (aJ hres _ _ _ _ _ _ _ _ _) Tryz.underlying25 rfl (by kernel_rfl)) rfl ?_;have hbl:=ay (W:=W25) (aa w.heap.size) (.int .i64 kd) (.int .i64 a0) (.string (ag nm)) (.string (ag vl)) (.int .i64 xa) (.int .i64 xb) (.int .i64 xc) (.int .i64 xd) (.slice A len cap);rw [HE.o];exact ⟨⟨_,rfl,ji fR.o acZ⟩,H.o.above ZI.o.at_ hbl,ZI.o.keeps.over hbl⟩
  ·obtain ⟨o,ho,hkey,hval⟩:=Nn e (mem_left he).1;rw [hkey,hval] at hrun;obtain ⟨b1,b2,b3,b4,b5,b6⟩:=jX (o':=.mapIter (some w1.heap.size) 5 (seen.push e.born) 5) hat.it hw1
   obtain ⟨W3,hW3⟩:∃W3,W3=setBlock w1' W2.heap.size (.mapIter (some w1.heap.size) 5 (seen.push e.born) 5):=⟨_,rfl⟩
   rw [←hW3] at hrun b1 b2 b3 b4 b5 b6
   have hB:Below w.heap.size wr W3:=⟨b5,b4,b6,Nat.le_of_eq b3.symm,fun b hb=>b2 b (by omega)⟩
   have CH:Nq p w k w1.heap.size W2.heap.size W3 (seen.push e.born) 5:=
    ⟨⟨H.o.above hat.pr.at_ hB,hat.pr.keeps.over hB,(b2 w.heap.size (by omega)).trans hat.pr.res⟩,(b2 w1.heap.size (by omega)).trans hat.map,b1,aa _⟩
   have hnx:∀ty,(Instr.next (.pointer (some ⟨W2.heap.size,0,none⟩)) false ty).run Tryz.prog wr=_:=fun _=>hrun;have hen:=run_entry_at (P:=Tryz.prog) W3 W2.heap.size w1.heap.size 5 seen bq 5 e b1 CH.map (mem_left he).1 fZ.2;rw [hkey,hval] at hen;have YR:=hide he;have HKE:=hide hkey;have CI:=hide CH;have Ti:=hide hno;have HIT:=hide hat.it;have ac0:=hide CH.pr;have KD3:=hide (KD.o o.1 W3 CH.pr.at_);clear b1 b2 b3 b4 b5 b6 hW3 hB he hkey hval hno hrun hat hw1 CH
   cases hI:cW p.L k o.1 with
   |false=>
    rw [hI] at KD3;have HI:=hide hI;clear hI HS HN;go_wp2_with fail;refine KD3.o.mono ?_;rintro e4 W4 ⟨rfl,hb4⟩;have Qp:=hide (CI.o.below hbz hb4);clear hb4 hnx hen;go_wp2;go_roundw
    case rel=>exact ⟨seen.push e.born,5,Qp.o,fun e' he' hs q hk=>by
     rcases Array.mem_push.1 hs with h1|h1
     ·exact Ti.o e' he' h1 q hk
     ·have:e'=e:=by
       have h2:=find_born e bq.toList fZ.2 (mem_left YR.o).1;have h3:=find_born e' bq.toList fZ.2 he';rw [h1] at h3;exact au (h3.symm.trans h2)
      subst this;have h5:=HKE.o.symm.trans hk;injection h5 with _ h5
      rw [←h5];exact HI.o⟩
    case measure=>
     have e1:W4.iterSeen W2.heap.size=seen.push e.born:=by unfold World.iterSeen;rw [Qp.o.it]
     have e2:wr.iterSeen W2.heap.size=seen:=by unfold World.iterSeen;rw [HIT.o]
     rw [e1,e2];exact left_shrinks bq seen e YR.o
   |true=>
    rw [hI] at KD3;have hlt:=fp hI;have ur:=hide (HS.o _ (FQ ho hI));rw [Je hlt,Gz.o] at ur
    have Xn:=hide (fun (W:World) (h:bQ p W k)=>show Calls _ _ _ _ (cQ p W aa9 (.ok (p.L[k]'hlt) (k+1))) from by
     have:=TK.o o.1 W h
     rwa [jW hI] at this)
    generalize p.L[k]'hlt=x at ur Xn;clear hI HS HN Ti HKE YR HIT;go_wp2_with fail;refine KD3.o.mono ?_;rintro e4 W4 ⟨rfl,hb4⟩;have HP4:=hide (ac0.o.below hbz hb4);have X:=hide (Xn.o W4 HP4.o.at_);clear hb4 hnx hen;go_wp2_with fail;refine X.o.mono ?_;rintro e5 W5 ⟨⟨v,rfl,rfl⟩,h5,cC⟩;have hp5:=HP4.o.keep hbz h5 cC;have nS:=Row.new W5 66 #[.int .i64 x.kind,.string (ag x.text),.int .i64 (x.az:Int)];have fV:Below W5.heap.size W5 (W5.alloc (.cells #[.int .i64 x.kind,.string (ag x.text),.int .i64 (x.az:Int)] 66)):=(af _ W5).alloc (aa _) _;generalize mj:W5.alloc (.cells #[.int .i64 x.kind,.string (ag x.text),.int .i64 (x.az:Int)] 66)=W6 at nS fV;have g1:W6.cell? ⟨W5.heap.size,1,none⟩=some (.string (ag x.text)):=nS.cell 1;have HP6:=hide (hp5.below hbz fV);clear h5 cC hp5 nS fV;have hres:=HP6.o.res;obtain ⟨e0,e1,e2,e3,e4,e5,e6,e7,e8⟩:=ak hres;obtain ⟨Kr,Ks,IJ,Kt,Ku,Kv,Kw,Ky,Kz⟩:=aU hres;by_cases h1:o.2=1
    ·have e1:(o.2==1)=true:=beq_iff_eq.2 h1;have HE:=ae (RR=.ok (.mk o.2 pl x.text [] 0 0 0 0 []) (k+1)) (by rw [ur.o];unfold Dg;rw [if_pos h1,h1]);clear h1 ur;go_wp2_with fail;refine bodyPost_ret (v:=.agg #[.int .i64 o.2,.int .i64 pl,.string (ag x.text),.string {data:=#[]},.int .i64 0,.int .i64 0,.int .i64 0,.int .i64 0,.slice none 0 0]) (ai rfl _ _ w.heap.size 25 _ _ _ rfl (aJ hres _ _ _ _ _ _ _ _ _) Tryz.underlying25 rfl (by kernel_rfl)) rfl ?_;have hbl:=ay (W:=W6) (aa w.heap.size) (.int .i64 o.2) (.int .i64 pl) (.string (ag x.text)) (.string {data:=#[]}) (.int .i64 0) (.int .i64 0) (.int .i64 0) (.int .i64 0) (.slice none 0 0);rw [HE.o];exact ⟨⟨_,rfl,_,rfl,cK.leaf _ _ o.2 pl x.text [] 0 0 0 0 none 0⟩,H.o.above HP6.o.at_ hbl,HP6.o.keeps.over hbl⟩
    ·have e1:(o.2==1)=false:=aP.2 h1;have HE:=ae (RR=.ok (.mk o.2 pl [] x.text 0 0 0 0 []) (k+1)) (by rw [ur.o];unfold Dg;rw [if_neg h1]);clear h1 ur;go_wp2_with fail;refine bodyPost_ret (v:=.agg #[.int .i64 o.2,.int .i64 pl,.string {data:=#[]},.string (ag x.text),.int .i64 0,.int .i64 0,.int .i64 0,.int .i64 0,.slice none 0 0]) (ai rfl _ _ w.heap.size 25 _ _ _ rfl (aJ hres _ _ _ _ _ _ _ _ _) Tryz.underlying25 rfl (by kernel_rfl)) rfl ?_;have hbl:=ay (W:=W6) (aa w.heap.size) (.int .i64 o.2) (.int .i64 pl) (.string {data:=#[]}) (.string (ag x.text)) (.int .i64 0) (.int .i64 0) (.int .i64 0) (.int .i64 0) (.slice none 0 0);rw [HE.o];exact ⟨⟨_,rfl,_,rfl,cK.leaf _ _ o.2 pl [] x.text 0 0 0 0 none 0⟩,H.o.above HP6.o.at_ hbl,HP6.o.keeps.over hbl⟩
theorem abC:∀e∈bq.toList,∃o:Int×Int,e.key=.int .i64 o.1∧e.val=.int .i64 o.2∧dY o.2=o.1:=by
 intro e he;simp only [bq,List.mem_cons,List.not_mem_nil,or_false] at he
 rcases he with rfl|rfl|rfl|rfl|rfl
 ·exact ⟨(0,1),rfl,rfl,by decide⟩
 ·exact ⟨(1,3),rfl,rfl,by decide⟩
 ·exact ⟨(3,2),rfl,rfl,by decide⟩
 ·exact ⟨(4,4),rfl,rfl,by decide⟩
 ·exact ⟨(5,5),rfl,rfl,by decide⟩
theorem VR {kd:Int} (h:∀e∈bq.toList,e.val≠.int .i64 kd):dY kd=0:=by
 have h1:=h {key:=.int .i64 1,val:=.int .i64 3,born:=1} (by simp [bq]);have h2:=h {key:=.int .i64 3,val:=.int .i64 2,born:=2} (by simp [bq]);have h3:=h {key:=.int .i64 4,val:=.int .i64 4,born:=3} (by simp [bq]);have h4:=h {key:=.int .i64 5,val:=.int .i64 5,born:=4} (by simp [bq]);have g1:kd≠3:=fun e=>h1 (by rw [e]);have g2:kd≠2:=fun e=>h2 (by rw [e]);have g3:kd≠4:=fun e=>h3 (by rw [e]);have g4:kd≠5:=fun e=>h4 (by rw [e]);unfold dY;rw [if_neg g1,if_neg g2,if_neg g3,if_neg g4]
structure VS (w2:World) (kd:Int) (vl:List UInt8) (bm it:Nat) (W:World) (seen:Array Nat) (c0:Nat) (kv:Int):Prop where
 below:Below w2.heap.size w2 W
 tx:Row W w2.heap.size 66 #[.int .i64 kv,.string (ag vl),.int .i64 0]
 kv:kv=dY kd∨(kv=0∧∀e∈bq.toList,e.born∈seen→e.val≠.int .i64 kd)
 map:VO W bm
 it:W.heap[it]? =some (.mapIter (some bm) 5 seen c0)
 since:5≤c0
theorem cz.setRow {W:World} {B b:Nat} {o:Option St} {M:Nat} (h:cz W B b o M) {g:Nat} {t:TypeId} {cs:Array Value} (hr:Row W g t cs) (ht:t≠5) (hg:g≠b) (hB:B≤g) (i:Nat) (u:Value):cz (W.setCell ⟨g,i,none⟩ u) B b o M:=by
 obtain ⟨v,st,bad,h1,h2,h3⟩:=h.at_;obtain ⟨p,hp,hrow⟩:=h1.row;exact ⟨⟨v,st,bad,⟨h1.ge,⟨p,hp,hrow.off (Ne.symm hg) _ _⟩,ql h1.own (kL h1.own hr ht) _ _⟩,h2,h3⟩,h.gl.low h.gB ((af B W).setCell (p:=⟨g,i,none⟩) hB u),h.gB⟩
theorem aM.RA {B b:Nat} {w W:World} (h:aM B b w W) {g:Nat} (hg:w.heap.size≤g) (hB:B≤g) (i:Nat) (u:Value):aM B b w (W.setCell ⟨g,i,none⟩ u):=
 ⟨h.below.setCell (p:=⟨g,i,none⟩) hB u,by simpa [World.setCell] using h.size,fun g' t cs ht hg' hr=>(h.rows g' t cs ht hg' hr).off (by have:=hr.lt;omega) _ _⟩
theorem cz.ZJ {W:World} {B b:Nat} {o:Option St} {M:Nat} (h:cz W B b o M):∃bad:Bool,W.cell? ⟨b,3,none⟩=some (.bool bad)∧(bad=true↔o=none):=by
 obtain ⟨v,st',bad,h1,h2,h3⟩:=h.at_;obtain ⟨⟨_,_,c3⟩,_,_,f3⟩:=h1.cells;refine ⟨bad,c3,?_⟩;subst h3
 cases bad<;>simp [jr]
theorem cz.kO {W:World} {B b:Nat} {M:Nat} (h:cz W B b none M):W.cell? ⟨b,3,none⟩=some (.bool true)∧W.frozen? ⟨b,3,none⟩=false∧W.shape? b=some (79,4)∧
 cz (W.setCell ⟨b,3,none⟩ (.bool true)) B b none M∧aM B b W (W.setCell ⟨b,3,none⟩ (.bool true)):=by
 obtain ⟨v,st',bad,h1,h2,h3⟩:=h.at_
 cases bad with
 |false=>cases h3
 |true=>
  obtain ⟨⟨_,_,c3⟩,_,_,f3⟩:=h1.cells;have ht:aM B b W (W.setCell ⟨b,3,none⟩ (.bool true)):=(aM.refl B b W).set h1.ge _ _;exact ⟨c3,f3,h1.shape,h.next v st' true M ht (h1.yP true) h2,ht⟩
theorem cz.RB {W:World} {B b:Nat} {st:St} {M:Nat} (h:cz W B b (some st) M):W.cell? ⟨b,2,none⟩=some (.bool st.2)∧W.frozen? ⟨b,2,none⟩=false∧W.shape? b=some (79,4)∧
 ∀x:Bool,cz (W.setCell ⟨b,2,none⟩ (.bool x)) B b (some (st.1,x)) M∧aM B b W (W.setCell ⟨b,2,none⟩ (.bool x)):=by
 obtain ⟨v,st',bad,h1,h2,h3⟩:=h.at_
 cases bad with
 |true=>cases h3
 |false=>
  obtain rfl:st=st':=by injection h3
  obtain ⟨⟨_,c2,_⟩,_,f2,_⟩:=h1.cells;refine ⟨c2,f2,h1.shape,fun x=>?_⟩;have ht:aM B b W (W.setCell ⟨b,2,none⟩ (.bool x)):=(aM.refl B b W).set h1.ge _ _;exact ⟨h.next v (st.1,x) false M ht (h1.CO x) h2,ht⟩
theorem Xo {kd a0 xa xb xc xd:Int} {nm vl:List UInt8} {ks:List Nd} (o:Option St) (used:List UInt8):
 nX (iA o ks.length 0 0) (decide (nm=[])) (decide (vl=[])) (decide (xa=0)) (decide (xb=0)) (decide (xc=0)) (decide (xd=0)) used=
  if bJ (.mk kd a0 nm vl xa xb xc xd ks) (gg used 110) (gg used 118) (gg used 97) (gg used 99)=true∧ks.length=0 then o else none:=by
 rw [KI];unfold iA;show (if bJ (.mk kd a0 nm vl xa xb xc xd ks) (gg used 110) (gg used 118) (gg used 97) (gg used 99)=true then (if _ then o else none) else none)=_;by_cases h1:ks.length=0
 ·by_cases h2:bJ (.mk kd a0 nm vl xa xb xc xd ks) (gg used 110) (gg used 118) (gg used 97) (gg used 99)=true
  ·rw [if_pos h2,if_pos (by omega),if_pos ⟨h2,h1⟩]
  ·rw [if_neg h2,if_neg (fun h=>h2 h.1)]
 ·rw [if_neg (c:=_∧ks.length=0) (fun h=>h1 h.2)]
  split
  ·rw [if_neg (by omega)]
  ·rfl
theorem ZK (o:Option St) (n:Nd) (fs:List Pw) (h:n.kind=1):o.bind (dO aD aQ n fs)=(if bJ n true false false false=true∧fs.length=0 then o else none).bind fun st=>if n.name∉eI∧bL [⟨0,n.name,0⟩]≠[] then some ((bD st (bL [⟨0,n.name,0⟩])).1,bM (bL [⟨0,n.name,0⟩])) else none:=by
 cases o with
 |none=>rw [ite_self];rfl
 |some st=>
  show dO aD aQ n fs st=_;unfold dO;by_cases h1:fs.length=0
  ·rw [if_neg (fun e=>e h1),if_pos h];by_cases h2:bJ n true false false false=true
   ·rw [if_pos (c:=_∧fs.length=0) ⟨h2,h1⟩,Option.bind_some];by_cases h3:n.name∉eI∧bL [⟨0,n.name,0⟩]≠[]
    ·rw [if_pos h3,if_pos ⟨h2,h3⟩]
    ·rw [if_neg h3,if_neg (fun e=>h3 e.2)]
   ·rw [if_neg (c:=_∧fs.length=0) (fun e=>h2 e.1),if_neg (fun e=>h2 e.1)];rfl
  ·rw [if_pos h1,if_neg (fun e=>h1 e.2)];rfl
theorem ZL (o:Option St) (n:Nd) (fs:List Pw) (h:n.kind=4) (hs:aD n.value<0):o.bind (dO aD aQ n fs)=(if bJ n false true false false=true∧fs.length=0 then o else none).bind fun st=>if bL [⟨4,aQ n.value,0⟩]≠[] then some (bD (bD st [45]) (bL [⟨4,aQ n.value,0⟩])) else none:=by
 have hl:dY n.kind≠0:=by rw [h];decide
 cases o with
 |none=>rw [ite_self];rfl
 |some st=>
  show dO aD aQ n fs st=_;unfold dO;by_cases h1:fs.length=0
  ·rw [if_neg (fun e=>e h1),if_neg (show¬n.kind=1 by omega)];by_cases h2:bJ n false true false false=true
   ·rw [if_pos ⟨h2,hl⟩,if_pos ⟨h,hs⟩,if_pos (c:=_∧fs.length=0) ⟨h2,h1⟩];rfl
   ·rw [if_neg (c:=_∧dY _≠0) (fun e=>h2 e.1),if_neg (fun e=>h2 e.1)];rfl
  ·rw [if_pos h1,if_neg (fun e=>h1 e.2)];rfl
theorem ZM (o:Option St) (n:Nd) (fs:List Pw) (h:n.kind≠1) (hs:¬(n.kind=4∧aD n.value<0)):o.bind (dO aD aQ n fs)=(if bJ n false true false false=true∧fs.length=0 then o else none).bind fun st=>if dY n.kind≠0∧bL [⟨dY n.kind,n.value,0⟩]≠[] then some (bD st (bL [⟨dY n.kind,n.value,0⟩])) else none:=by
 cases o with
 |none=>rw [ite_self];rfl
 |some st=>
  show dO aD aQ n fs st=_;unfold dO;by_cases h1:fs.length=0
  ·rw [if_neg (fun e=>e h1),if_neg h];by_cases h2:bJ n false true false false=true
   ·rw [if_pos (c:=_∧fs.length=0) ⟨h2,h1⟩,Option.bind_some];by_cases h3:dY n.kind≠0
    ·rw [if_pos ⟨h2,h3⟩,if_neg hs];by_cases h4:bL [⟨dY n.kind,n.value,0⟩]≠[]
     ·rw [if_pos h4,if_pos ⟨h3,h4⟩]
     ·rw [if_neg h4,if_neg (fun e=>h4 e.2)]
    ·rw [if_neg (fun e=>h3 e.2),if_neg (fun e=>h3 e.1)]
   ·rw [if_neg (c:=_∧dY _≠0) (fun e=>h2 e.1),if_neg (fun e=>h2 e.1)];rfl
  ·rw [if_pos h1,if_neg (fun e=>h1 e.2)];rfl
theorem VT (s:List UInt8) (i:Nat) (hi:i<s.length) (h1:s[i]=92) (h2:∀j (h:j<s.length),i<j→s[j]≠92):s.reverse.idxOf? 92=some (s.length-1-i):=by
 unfold List.idxOf?;rw [List.findIdx?_eq_some_iff_getElem];refine ⟨by rw [List.length_reverse];omega,?_,fun j hj=>?_⟩
 ·rw [List.getElem_reverse]
  have:s.length-1-(s.length-1-i)=i:=by omega
  simp [this,h1]
 ·rw [List.getElem_reverse]
  simpa using h2 _ _ (by omega)
theorem VU (s:List UInt8) (h:(92:UInt8)∉s):s.reverse.idxOf? 92=none:=by
 unfold List.idxOf?;rw [List.findIdx?_eq_none_iff];intro x hx;simp;intro e;subst e;exact h (by simpa using hx)
theorem VV (s:List UInt8) (c:UInt8):decide (0≤Lib.indexByte s c)=decide (c∈s):=by
 rw [←Lib.contains_iff_indexByte];simp
theorem Ns (s:List UInt8) (h0:s≠[]):(Lib.lastIndexByte (ag s) 92=-1∧bM s=false∧∃(h:0<(ag s).size),(ag s)[0]'h≠92)∨
 ∃i:Nat,Lib.lastIndexByte (ag s) 92=i∧(∃h:i<(ag s).size,(ag s)[i]'h=92)∧bM s= !decide (0≤Lib.indexByte ((ag s).extract i (ag s).size).data.toList 32):=by
 have hsz:(ag s).size=s.length:=by rw [aO]
 have hb:∀j (h:j<s.length),(ag s).data[j]! =s[j]:=fun j h=>by
  show s.toArray[j]! =s[j];simp [h]
 rcases Lib.lastIndexByte_spec (ag s) 92 with ⟨h1,h2⟩|⟨i,hi,h1,h2,h3⟩
 ·have hn:(92:UInt8)∉s:=fun hm=>by
   obtain ⟨j,hj,e⟩:=List.getElem_of_mem hm;refine h2 j (by omega) ?_;rw [hb j hj,e];rfl
  refine .inl ⟨h1,?_,?_⟩
  ·unfold bM;rw [VU s hn]
  ·cases s with
   |nil=>exact absurd rfl h0
   |cons c r=>
    refine ⟨by rw [aO];simp,?_⟩;rw [fu];intro e;exact hn (by simp at e;simp [e])
 ·have hi':i<s.length:=by omega
  have hc:s[i]=92:=by
   have:=h2;rw [hb i hi'] at this;exact UInt8.toNat_inj.1 (by have e:UInt8.toNat 92=92:=rfl;omega)
  refine .inr ⟨i,h1,⟨hi,by rw [fu];exact hc⟩,?_⟩;unfold bM;rw [VT s i hi' hc (fun j hj hij e=>h3 j hij (by omega) (by rw [hb j hj,e];rfl))];show (!decide (32∈s.drop (s.length-1-(s.length-1-i))))=_;rw [show s.length-1-(s.length-1-i)=i by omega,VV,LB];rfl
theorem Jn (k:Int) (t:List UInt8) (h:t.length≤201):(bL [⟨k,t,0⟩]).length≤830:=by
 unfold bL
 split
 ·have h1:=Ba (gZ [⟨k,t,0⟩]) 820 (fun x hx=>by
   simp only [gZ,List.map_cons,List.map_nil,List.mem_singleton] at hx;subst hx;have:=uU k t (by omega)
   omega)
  have h2:(gZ [⟨k,t,0⟩]).length=1:=rfl;rw [h2] at h1;omega
 ·simp
theorem VW (v:List UInt8):(aQ v).length≤v.length+1:=by
 unfold aQ
 split
 ·split
  ·simp
  ·split
   ·rw [List.length_tail];omega
   ·simp
 ·simp
end Go.Proofs.YtddoehnkgcbboaaGreatDoor
