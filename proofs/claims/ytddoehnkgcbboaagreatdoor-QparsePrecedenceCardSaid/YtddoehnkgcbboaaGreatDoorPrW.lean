/- Packed by program: a part of the proof; the last file says what is proved. -/
import Derived.Test.YtddoehnkgcbboaaGreatDoorPrV
set_option maxHeartbeats 16000000
set_option maxRecDepth 100000
set_option linter.unusedVariables false
set_option linter.unusedSimpArgs false
namespace Go.Proofs.YtddoehnkgcbboaaGreatDoor
open Go.RowKit Go.Shelf Go.Maps
open Go.ChangeMaps (setBlock)
theorem Ql (B b:Nat) (kd a0 xa xb xc xd:Int) (nm vl:List UInt8) (ks:List Nd) (A:Option Addr) (cap:Nat) (hvl:vl.length≤200) (h1:kd≠1) (h4:kd≠4) (o:Option St) (M:Nat) (w:World) (h:cC w B b o M) (hk:sw B w ks A) (gF:∀i (hi:i<ks.length),sY ks[i]) (iq:im kd xa xb xc xd nm vl) (hn:ks.length≤1000000) (hM:M+1500+2000*aC ks≤1099511627776):
 Calls Tryz.prog 151 #[.pointer (some ⟨b,0,none⟩),.agg (aw kd a0 nm vl xa xb xc xd (.slice A ks.length cap)).toArray] w (ie B b w (o.bind (cK aM aT (.mk kd a0 nm vl xa xb xc xd ks) (aG aM aT ks))) (M+1500+2000*aC ks)):=by
 have H1:=aa h1
 have H4:=aa h4
 clear h1 h4
 have hlt:=h.lt.1
 have hge:=h.lt.2
 have Ad:=aa hk
 obtain ⟨w1,hw1⟩:∃w1,w1=w.alloc (.cells (aw kd a0 nm vl xa xb xc xd (.slice A ks.length cap)).toArray 25):=⟨_,rfl⟩
 have hb1:Below w.heap.size w w1:=by rw [hw1];exact (Below.refl _ w).alloc (Nat.le_refl _) _
 have P1:=aa (h.keep hb1)
 have T1:=aa (aI.of_below (b:=b) hb1 (show B≤w.heap.size by omega))
 have gG:=aa (show Row w1 w.heap.size 25 (aw kd a0 nm vl xa xb xc xd (.slice A ks.length cap)).toArray from by rw [hw1];exact Row.new _ _ _)
 have dC:=aa hw1.symm
 have Ae:=aa gF
 have Ke:=aa iq
 clear h hk hw1 hb1 gF iq
 unfold aw at dC gG⊢
 go_enter Tryz.func151,Tryz.ntmps151
 go_upto_region 1 with fail
 rw [dC.out]
 obtain ⟨fc,iX,ir,iY,iI,iJ,iZ,i_,gv⟩:=aj gG.out
 have C2:=aa (kM B b kd a0 xa xb xc xd nm vl A ks.length cap 0 0 o M w1 P1.out (by omega))
 obtain ⟨o2,q2⟩:∃z_,lS o ks.length 0 0=z_:=⟨_,rfl⟩
 rw [q2] at C2
 have Q2:=aa q2
 clear q2
 unfold aw at C2
 go_wp2_with fail
 refine (C2.out).mono ?_
 rintro e w2 ⟨rfl,p2,t2⟩
 have P2:=aa p2
 have T2:=aa (T1.out.trans t2)
 have ko:=aa (t2.row gG.out (by decide) (by omega))
 clear p2 t2 C2
 clear fc iX ir iY iI iJ iZ i_ gv
 have hzw:=T2.out.size
 have Fo:B≤w2.heap.size:=by omega
 obtain ⟨w3,hw3⟩:∃w3,w3=w2.alloc (.cells #[.int .i64 0,.string (ae vl),.int .i64 0] 66):=⟨_,rfl⟩
 have hb3:Below w2.heap.size w2 w3:=by rw [hw3];exact (Below.refl _ w2).alloc (Nat.le_refl _) _
 have g_:=aa hb3
 have Yw:=aa (show Row w3 w2.heap.size 66 #[.int .i64 0,.string (ae vl),.int .i64 0] from by rw [hw3];exact Row.new _ _ _)
 have CB:=aa hw3.symm
 clear hw3 hb3
 have e3:w2.cell? ⟨w.heap.size,3,none⟩=some (.string (ae vl)):=ko.out.cell 3
 have Yx:=aa (km w3)
 go_upto_region 3 with fail
 rw [CB.out]
 clear e3
 go_wp2_with fail
 refine Yx.out.mono ?_
 rintro e w4 ⟨rfl,hcs,hb4⟩
 have hz3:w2.heap.size<w3.heap.size:=Yw.out.lt
 have VE:w3.heap.size<w4.heap.size:=(Array.getElem?_eq_some_iff.1 hcs).1
 have qD:=aa (g_.out.trans (hb4.mono (Nat.le_of_lt hz3)))
 have Rt4:=aa (Yw.out.below hb4 hz3)
 have hrg:=run_range_map (P:=Tryz.prog) w4 124 3 3 w3.heap.size aH 5 Tryz.underlying124 hcs
 have Qm:=aa (show CA w2 kd vl w3.heap.size w4.heap.size (w4.alloc (.mapIter (some w3.heap.size) 5 #[] 5)) #[] 5 0 from
  ⟨qD.out.alloc (by omega) _,Rt4.out.alloc _,.inr ⟨rfl,fun e _ he=>absurd he (by simp)⟩,(heap_alloc_old w4 _ VE).trans hcs,heap_alloc_new w4 _,Nat.le_refl _⟩)
 have HCS:=aa hcs
 clear hcs hb4 Yx
 go_wp2_with fail
 clear hrg
 go_loopw [] (fun W=>∃(seen:Array Nat) (c0:Nat) (kv:Int),CA w2 kd vl w3.heap.size w4.heap.size W seen c0 kv) (fun W=>(leftOf aH (W.iterSeen w4.heap.size)).size)
 case atStart=>exact ⟨#[],5,0,Qm.out⟩
 case round=>
  obtain ⟨seen,c0,kv,hat⟩:=hrel
  have uY:Row wr w.heap.size 25 #[.int .i64 kd,.int .i64 a0,.string (ae nm),.string (ae vl),.int .i64 xa,.int .i64 xb,.int .i64 xc,.int .i64 xd,.slice A ks.length cap]:=(aI.of_below (b:=b) hat.below Fo).row ko.out (by decide) (by omega)
  have law:=run_next_at (P:=Tryz.prog) wr 0 w4.heap.size w3.heap.size 5 c0 seen aH 5 hat.it hat.map bZ.1 hat.since
  rcases law with ⟨h0,hrun⟩|⟨e,he,Yq,hw1,hrun⟩
  ·have qf:∀ty,(Instr.next (.pointer (some ⟨w4.heap.size,0,none⟩)) false ty).run Tryz.prog wr=_:=fun _=>hrun
   have hall:∀e∈aH.toList,e.born∈seen:=fun e he=>by
    by_cases hc:e.born∈seen
    ·exact hc
    ·exfalso
     have:e∈leftOf aH seen:=by
      unfold leftOf
      rw [Array.mem_filter]
      exact ⟨by simpa using he,by simpa using hc⟩
     have h1:=Array.size_pos_of_mem this
     omega
   obtain rfl:kv=iT kd:=by
    rcases hat.kv with h|⟨h1,h2⟩
    ·exact h
    ·rw [h1,GO fun e he=>h2 e he (hall e he)]
   have P5:=aa (P2.out.keep hat.below)
   have t5:=aI.of_below (b:=b) hat.below Fo
   have T5:=aa (T2.out.trans t5)
   have sA:=aa uY
   have Yy:=aa hat.tx
   have hgb:w2.heap.size≠b:=by omega
   have hgw:w.heap.size≤w2.heap.size:=hzw
   clear hall hat hrun h0 t5 uY
   obtain ⟨lk,hlk⟩:∃z_,iT kd=z_:=⟨_,rfl⟩
   rw [hlk] at Yy
   have Yz:=aa hlk
   clear hlk
   have Qn:=aa hvl
   have e1:(kd==1)=false:=by simpa using H1.out
   obtain ⟨fc,iX,ir,iY,iI,iJ,iZ,i_,gv⟩:=aj sA.out
   have C6:=aa (gP B b kd a0 xa xb xc xd nm vl (.slice A ks.length cap) [118] o2 M wr P5.out)
   obtain ⟨o6,q6⟩:∃z_,nD o2 (decide (nm=[])) (decide (vl=[])) (decide (xa=0)) (decide (xb=0)) (decide (xc=0)) (decide (xd=0)) [118]=z_:=⟨_,rfl⟩
   rw [q6] at C6
   have Q6:=aa q6
   clear q6
   unfold aw at C6
   have pQ:=aa (show _=if fw (.mk kd a0 nm vl xa xb xc xd ks) false true false false=true∧ks.length=0 then o else none from RA o [118])
   rw [Q2.out,Q6.out] at pQ
   go_wp2_with fail
   refine (C6.out).mono ?_
   rintro e w6 ⟨rfl,p6,t6⟩
   have P6:=aa p6
   have T6:=aa (T5.out.trans t6)
   have Jw:=aa (t6.row sA.out (by decide) (by omega))
   have MW:=aa (t6.row Yy.out (by decide) (by omega))
   clear p6 t6 C6
   clear e1 fc iX ir iY iI iJ iZ i_ gv
   cases o6 with
   |none=>
    obtain ⟨mK,mL,mM,_⟩:=P6.out.bW
    have zR:w6.cell? ⟨w2.heap.size,0,none⟩=some (.int .i64 lk):=MW.out.cell 0
    go_upto_region 14 with fail
    obtain ⟨w7,Ah⟩:∃W',W'=w6.setCell ⟨b,3,none⟩ (.bool true):=⟨_,rfl⟩
    obtain ⟨_,_,_,p7,t7⟩:=P6.out.bW
    rw [←Ah] at p7 t7
    have P7:=aa p7
    have T7:=aa (T6.out.trans t7)
    have Fb:=aa (t7.row Jw.out (by decide) (by omega))
    have CE:=aa (t7.row MW.out (by decide) (by omega))
    have kn:=aa Ah.symm
    clear p7 t7 Ah
    rw [kn.out]
    clear mK mL mM zR
    have fc:w7.cell? ⟨w.heap.size,0,none⟩=some (.int .i64 kd):=Fb.out.cell 0
    have e4:(kd==4)=false:=by simpa using H4.out
    go_upto_region 17 with fail
    clear fc e4
    have zR:w7.cell? ⟨w2.heap.size,0,none⟩=some (.int .i64 lk):=CE.out.cell 0
    have JJ:w7.cell? ⟨w2.heap.size,1,none⟩=some (.string (ae vl)):=CE.out.cell 1
    have MX:w7.cell? ⟨w2.heap.size,2,none⟩=some (.int .i64 0):=CE.out.cell 2
    have JN:=aa (show Calls Tryz.prog 184 #[.slice (some ⟨w7.heap.size,0,none⟩) 1 1] (w7.alloc (.cells #[.int .i64 lk,.string (ae vl),.int .i64 0] 66)) fun e w'=>e=.returned (.string (ae (cf [⟨lk,vl,0⟩])))∧Below (w7.alloc (.cells #[.int .i64 lk,.string (ae vl),.int .i64 0] 66)).heap.size (w7.alloc (.cells #[.int .i64 lk,.string (ae vl),.int .i64 0] 66)) w' from by
     have hr:=Row.new w7 66 #[.int .i64 lk,.string (ae vl),.int .i64 0]
     refine jf (some ⟨w7.heap.size,0,none⟩) 1 [⟨lk,vl,0⟩] _ (fun _=>⟨_,_,rfl,fun i hi=>?_⟩) (by simp) (fun y hy=>by rw [List.mem_singleton.1 hy];have:=Qn.out;show vl.length≤1000;omega) (P7.out.alloc _).gl
     obtain rfl:i=0:=by simpa using hi
     exact ⟨hr.cell 0,hr.cell 1,hr.cell 2⟩)
    obtain ⟨j,hj⟩:∃j,cf [⟨lk,vl,0⟩]=j:=⟨_,rfl⟩
    rw [hj] at JN
    have HJ:=aa hj
    clear hj
    go_wp2_with fail
    refine JN.out.mono ?_
    rintro e w8 ⟨rfl,CG⟩
    have jw:Below w7.heap.size w7 w8:=((Below.refl _ w7).alloc (Nat.le_refl _) _).trans (CG.mono (by rw [World.size_alloc];omega))
    clear zR JJ MX
    have t8:=aI.of_below (b:=b) jw (Nat.le_trans P7.out.lt.2 (Nat.le_of_lt P7.out.lt.1))
    have P8:=aa (P7.out.keep jw)
    have T8:=aa (T7.out.trans t8)
    have JA:=aa (t8.row Fb.out (by decide) (by omega))
    have MY:=aa (t8.row CE.out (by decide) (by omega))
    clear t8
    clear CG jw JN
    by_cases hj0:j=[]
    ·skip
     have ej:(ae j).toList.isEmpty=true:=by rw [GI];simpa using hj0
     have JK:(ae j).toList=[]:=by simpa using ej
     clear hj0
     obtain ⟨mK,mL,mM,_⟩:=P8.out.bW
     have kn:∀x:Bool,x=true→ie B b w (o.bind (cK aM aT (.mk kd a0 nm vl xa xb xc xd ks) (aG aM aT ks))) (M+1500+2000*aC ks) (.returned (.tuple #[])) (w8.setCell ⟨b,3,none⟩ (.bool x)):=fun x hx=>by
      subst hx
      obtain ⟨_,_,_,p,t⟩:=P8.out.bW
      have hp:cC (w8.setCell ⟨b,3,none⟩ (.bool true)) B b none M:=p
      refine ⟨rfl,?_,T8.out.trans t⟩
      rw [rh o (.mk kd a0 nm vl xa xb xc xd ks) (aG aM aT ks) H1.out (fun h=>H4.out h.1),bh,←pQ.out]
      show cC _ B b none _
      exact hp.mono (by first|omega|(simp only [List.length_cons,List.length_nil];omega))
     have vA:=aa kn
     clear kn
     go_wp2
     go_end0
     exact vA.out _ rfl
    ·skip
     have ej:(ae j).toList.isEmpty=false:=by rw [GI];simpa using hj0
     have JK:¬(ae j).toList=[]:=by simpa using ej
     clear hj0
     obtain ⟨mK,mL,mM,_⟩:=P8.out.bW
     have kn:∀x:Bool,x=true→ie B b w (o.bind (cK aM aT (.mk kd a0 nm vl xa xb xc xd ks) (aG aM aT ks))) (M+1500+2000*aC ks) (.returned (.tuple #[])) (w8.setCell ⟨b,3,none⟩ (.bool x)):=fun x hx=>by
      subst hx
      obtain ⟨_,_,_,p,t⟩:=P8.out.bW
      have hp:cC (w8.setCell ⟨b,3,none⟩ (.bool true)) B b none M:=p
      refine ⟨rfl,?_,T8.out.trans t⟩
      rw [rh o (.mk kd a0 nm vl xa xb xc xd ks) (aG aM aT ks) H1.out (fun h=>H4.out h.1),bh,←pQ.out]
      show cC _ B b none _
      exact hp.mono (by first|omega|(simp only [List.length_cons,List.length_nil];omega))
     have vA:=aa kn
     clear kn
     go_wp2
     go_end0
     exact vA.out _ rfl
   |some st=>
    obtain ⟨hc,ho⟩:=nu pQ.out
    have Jv:=aa (And.intro hc ho)
    clear hc ho
    by_cases hl0:lk=0
    ·skip
     have Z1:=aa hl0
     have el:(lk==0)=true:=by simpa using hl0
     clear hl0
     obtain ⟨mK,mL,mM,_⟩:=P6.out.cU
     have zR:w6.cell? ⟨w2.heap.size,0,none⟩=some (.int .i64 lk):=MW.out.cell 0
     go_upto_region 14 with fail
     obtain ⟨w7,Ah⟩:∃W',W'=w6.setCell ⟨b,3,none⟩ (.bool true):=⟨_,rfl⟩
     obtain ⟨p7,t7⟩:=P6.out.cU.2.2.2 true
     rw [←Ah] at p7 t7
     have P7:=aa (show cC w7 B b none M from p7)
     have T7:=aa (T6.out.trans t7)
     have Fb:=aa (t7.row Jw.out (by decide) (by omega))
     have CE:=aa (t7.row MW.out (by decide) (by omega))
     have kn:=aa Ah.symm
     clear p7 t7 Ah
     rw [kn.out]
     clear el mK mL mM zR
     have fc:w7.cell? ⟨w.heap.size,0,none⟩=some (.int .i64 kd):=Fb.out.cell 0
     have e4:(kd==4)=false:=by simpa using H4.out
     go_upto_region 17 with fail
     clear fc e4
     have zR:w7.cell? ⟨w2.heap.size,0,none⟩=some (.int .i64 lk):=CE.out.cell 0
     have JJ:w7.cell? ⟨w2.heap.size,1,none⟩=some (.string (ae vl)):=CE.out.cell 1
     have MX:w7.cell? ⟨w2.heap.size,2,none⟩=some (.int .i64 0):=CE.out.cell 2
     have JN:=aa (show Calls Tryz.prog 184 #[.slice (some ⟨w7.heap.size,0,none⟩) 1 1] (w7.alloc (.cells #[.int .i64 lk,.string (ae vl),.int .i64 0] 66)) fun e w'=>e=.returned (.string (ae (cf [⟨lk,vl,0⟩])))∧Below (w7.alloc (.cells #[.int .i64 lk,.string (ae vl),.int .i64 0] 66)).heap.size (w7.alloc (.cells #[.int .i64 lk,.string (ae vl),.int .i64 0] 66)) w' from by
      have hr:=Row.new w7 66 #[.int .i64 lk,.string (ae vl),.int .i64 0]
      refine jf (some ⟨w7.heap.size,0,none⟩) 1 [⟨lk,vl,0⟩] _ (fun _=>⟨_,_,rfl,fun i hi=>?_⟩) (by simp) (fun y hy=>by rw [List.mem_singleton.1 hy];have:=Qn.out;show vl.length≤1000;omega) (P7.out.alloc _).gl
      obtain rfl:i=0:=by simpa using hi
      exact ⟨hr.cell 0,hr.cell 1,hr.cell 2⟩)
     obtain ⟨j,hj⟩:∃j,cf [⟨lk,vl,0⟩]=j:=⟨_,rfl⟩
     rw [hj] at JN
     have HJ:=aa hj
     clear hj
     go_wp2_with fail
     refine JN.out.mono ?_
     rintro e w8 ⟨rfl,CG⟩
     have jw:Below w7.heap.size w7 w8:=((Below.refl _ w7).alloc (Nat.le_refl _) _).trans (CG.mono (by rw [World.size_alloc];omega))
     clear zR JJ MX
     have t8:=aI.of_below (b:=b) jw (Nat.le_trans P7.out.lt.2 (Nat.le_of_lt P7.out.lt.1))
     have P8:=aa (P7.out.keep jw)
     have T8:=aa (T7.out.trans t8)
     have JA:=aa (t8.row Fb.out (by decide) (by omega))
     have MY:=aa (t8.row CE.out (by decide) (by omega))
     clear t8
     clear CG jw JN
     by_cases hj0:j=[]
     ·skip
      have ej:(ae j).toList.isEmpty=true:=by rw [GI];simpa using hj0
      have JK:(ae j).toList=[]:=by simpa using ej
      clear hj0
      obtain ⟨mK,mL,mM,_⟩:=P8.out.bW
      have kn:∀x:Bool,x=true→ie B b w (o.bind (cK aM aT (.mk kd a0 nm vl xa xb xc xd ks) (aG aM aT ks))) (M+1500+2000*aC ks) (.returned (.tuple #[])) (w8.setCell ⟨b,3,none⟩ (.bool x)):=fun x hx=>by
       subst hx
       obtain ⟨_,_,_,p,t⟩:=P8.out.bW
       have hp:cC (w8.setCell ⟨b,3,none⟩ (.bool true)) B b none M:=p
       refine ⟨rfl,?_,T8.out.trans t⟩
       rw [rh o (.mk kd a0 nm vl xa xb xc xd ks) (aG aM aT ks) H1.out (fun h=>H4.out h.1),bh,←pQ.out]
       rw [Option.bind_some,if_neg (fun h=>h.1 (by rw [show iT (Nd.kind (.mk kd a0 nm vl xa xb xc xd ks))=lk from Yz.out];exact Z1.out))]
       exact hp.mono (by first|omega|(simp only [List.length_cons,List.length_nil];omega))
      have vA:=aa kn
      clear kn
      go_wp2
      go_end0
      exact vA.out _ rfl
     ·skip
      have ej:(ae j).toList.isEmpty=false:=by rw [GI];simpa using hj0
      have JK:¬(ae j).toList=[]:=by simpa using ej
      clear hj0
      obtain ⟨mK,mL,mM,_⟩:=P8.out.bW
      have kn:∀x:Bool,x=true→ie B b w (o.bind (cK aM aT (.mk kd a0 nm vl xa xb xc xd ks) (aG aM aT ks))) (M+1500+2000*aC ks) (.returned (.tuple #[])) (w8.setCell ⟨b,3,none⟩ (.bool x)):=fun x hx=>by
       subst hx
       obtain ⟨_,_,_,p,t⟩:=P8.out.bW
       have hp:cC (w8.setCell ⟨b,3,none⟩ (.bool true)) B b none M:=p
       refine ⟨rfl,?_,T8.out.trans t⟩
       rw [rh o (.mk kd a0 nm vl xa xb xc xd ks) (aG aM aT ks) H1.out (fun h=>H4.out h.1),bh,←pQ.out]
       rw [Option.bind_some,if_neg (fun h=>h.1 (by rw [show iT (Nd.kind (.mk kd a0 nm vl xa xb xc xd ks))=lk from Yz.out];exact Z1.out))]
       exact hp.mono (by first|omega|(simp only [List.length_cons,List.length_nil];omega))
      have vA:=aa kn
      clear kn
      go_wp2
      go_end0
      exact vA.out _ rfl
    ·skip
     have Z1:=aa hl0
     have el:(lk==0)=false:=by simpa using hl0
     clear hl0
     obtain ⟨mK,mL,mM,_⟩:=P6.out.cU
     have zR:w6.cell? ⟨w2.heap.size,0,none⟩=some (.int .i64 lk):=MW.out.cell 0
     go_upto_region 14 with fail
     obtain ⟨w7,Ah⟩:∃W',W'=w6.setCell ⟨b,3,none⟩ (.bool false):=⟨_,rfl⟩
     obtain ⟨p7,t7⟩:=P6.out.cU.2.2.2 false
     rw [←Ah] at p7 t7
     have P7:=aa p7
     have T7:=aa (T6.out.trans t7)
     have Fb:=aa (t7.row Jw.out (by decide) (by omega))
     have CE:=aa (t7.row MW.out (by decide) (by omega))
     have kn:=aa Ah.symm
     clear p7 t7 Ah
     rw [kn.out]
     clear el mK mL mM zR
     have P7:=aa (show cC w7 B b (some st) M from P7.out)
     have fc:w7.cell? ⟨w.heap.size,0,none⟩=some (.int .i64 kd):=Fb.out.cell 0
     have e4:(kd==4)=false:=by simpa using H4.out
     go_upto_region 17 with fail
     clear fc e4
     have zR:w7.cell? ⟨w2.heap.size,0,none⟩=some (.int .i64 lk):=CE.out.cell 0
     have JJ:w7.cell? ⟨w2.heap.size,1,none⟩=some (.string (ae vl)):=CE.out.cell 1
     have MX:w7.cell? ⟨w2.heap.size,2,none⟩=some (.int .i64 0):=CE.out.cell 2
     have JN:=aa (show Calls Tryz.prog 184 #[.slice (some ⟨w7.heap.size,0,none⟩) 1 1] (w7.alloc (.cells #[.int .i64 lk,.string (ae vl),.int .i64 0] 66)) fun e w'=>e=.returned (.string (ae (cf [⟨lk,vl,0⟩])))∧Below (w7.alloc (.cells #[.int .i64 lk,.string (ae vl),.int .i64 0] 66)).heap.size (w7.alloc (.cells #[.int .i64 lk,.string (ae vl),.int .i64 0] 66)) w' from by
      have hr:=Row.new w7 66 #[.int .i64 lk,.string (ae vl),.int .i64 0]
      refine jf (some ⟨w7.heap.size,0,none⟩) 1 [⟨lk,vl,0⟩] _ (fun _=>⟨_,_,rfl,fun i hi=>?_⟩) (by simp) (fun y hy=>by rw [List.mem_singleton.1 hy];have:=Qn.out;show vl.length≤1000;omega) (P7.out.alloc _).gl
      obtain rfl:i=0:=by simpa using hi
      exact ⟨hr.cell 0,hr.cell 1,hr.cell 2⟩)
     obtain ⟨j,hj⟩:∃j,cf [⟨lk,vl,0⟩]=j:=⟨_,rfl⟩
     rw [hj] at JN
     have HJ:=aa hj
     clear hj
     go_wp2_with fail
     refine JN.out.mono ?_
     rintro e w8 ⟨rfl,CG⟩
     have jw:Below w7.heap.size w7 w8:=((Below.refl _ w7).alloc (Nat.le_refl _) _).trans (CG.mono (by rw [World.size_alloc];omega))
     clear zR JJ MX
     have t8:=aI.of_below (b:=b) jw (Nat.le_trans P7.out.lt.2 (Nat.le_of_lt P7.out.lt.1))
     have P8:=aa (P7.out.keep jw)
     have T8:=aa (T7.out.trans t8)
     have JA:=aa (t8.row Fb.out (by decide) (by omega))
     have MY:=aa (t8.row CE.out (by decide) (by omega))
     clear t8
     clear CG jw JN
     by_cases hj0:j=[]
     ·skip
      have ej:(ae j).toList.isEmpty=true:=by rw [GI];simpa using hj0
      have JK:(ae j).toList=[]:=by simpa using ej
      have RB:=aa hj0
      clear hj0
      obtain ⟨mK,mL,mM,_⟩:=P8.out.cU
      have kn:∀x:Bool,x=true→ie B b w (o.bind (cK aM aT (.mk kd a0 nm vl xa xb xc xd ks) (aG aM aT ks))) (M+1500+2000*aC ks) (.returned (.tuple #[])) (w8.setCell ⟨b,3,none⟩ (.bool x)):=fun x hx=>by
       subst hx
       obtain ⟨p,t⟩:=P8.out.cU.2.2.2 true
       have hp:cC (w8.setCell ⟨b,3,none⟩ (.bool true)) B b none M:=p
       refine ⟨rfl,?_,T8.out.trans t⟩
       rw [rh o (.mk kd a0 nm vl xa xb xc xd ks) (aG aM aT ks) H1.out (fun h=>H4.out h.1),bh,←pQ.out]
       rw [Option.bind_some,show cf [⟨iT (Nd.kind (.mk kd a0 nm vl xa xb xc xd ks)),Nd.value (.mk kd a0 nm vl xa xb xc xd ks),0⟩]=j from by rw [show iT (Nd.kind (.mk kd a0 nm vl xa xb xc xd ks))=lk from Yz.out];exact HJ.out,if_neg (fun h=>h.2 RB.out)]
       exact hp.mono (by first|omega|(simp only [List.length_cons,List.length_nil];omega))
      have vA:=aa kn
      clear kn
      go_wp2
      go_end0
      exact vA.out _ rfl
     ·skip
      have ej:(ae j).toList.isEmpty=false:=by rw [GI];simpa using hj0
      have JK:¬(ae j).toList=[]:=by simpa using ej
      have RB:=aa hj0
      have JY:j.length≤830:=by rw [←HJ.out];exact uX _ _ (by have:=Qn.out;omega)
      clear hj0
      obtain ⟨mK,mL,mM,_⟩:=P8.out.cU
      have C9:=aa (show Calls Tryz.prog 73 #[.pointer (some ⟨b,0,none⟩),.slice (some ⟨w8.heap.size,0,none⟩) 1 1] (w8.alloc (.cells #[.string (ae j)] 9)) (ie B b w8 (some (dD st j)) (M+(j.length+1))) from dM B b j (some st) M w8 P8.out (by omega))
      have fc:w8.cell? ⟨w.heap.size,0,none⟩=some (.int .i64 kd):=JA.out.cell 0
      go_wp2_with fail
      refine (C9.out).mono ?_
      rintro e w9 ⟨rfl,p9,t9⟩
      have P9:=aa p9
      have T9:=aa (T8.out.trans t9)
      have PY:=aa (t9.row JA.out (by decide) (by omega))
      have MZ:=aa (t9.row MY.out (by decide) (by omega))
      clear p9 t9 C9
      clear ej JK mK mL mM fc
      have fc:w9.cell? ⟨w.heap.size,0,none⟩=some (.int .i64 kd):=PY.out.cell 0
      have e1:(kd==1)=false:=by simpa using H1.out
      have HP:=aa (show cC w9 B b (o.bind (cK aM aT (.mk kd a0 nm vl xa xb xc xd ks) (aG aM aT ks))) (M+1500+2000*aC ks) from by
       have hp:=P9.out
       rw [rh o (.mk kd a0 nm vl xa xb xc xd ks) (aG aM aT ks) H1.out (fun h=>H4.out h.1),bh,←pQ.out]
       rw [Option.bind_some,show cf [⟨iT (Nd.kind (.mk kd a0 nm vl xa xb xc xd ks)),Nd.value (.mk kd a0 nm vl xa xb xc xd ks),0⟩]=j from by rw [show iT (Nd.kind (.mk kd a0 nm vl xa xb xc xd ks))=lk from Yz.out];exact HJ.out,if_pos ⟨(by rw [show iT (Nd.kind (.mk kd a0 nm vl xa xb xc xd ks))=lk from Yz.out];exact Z1.out),RB.out⟩]
       exact hp.mono (by first|omega|(simp only [List.length_cons,List.length_nil];omega)))
      have HT:=T9
      go_wp2
      go_end0
      exact ⟨rfl,HP.out,HT.out⟩
  ·obtain ⟨o1,hkey,hval,ln⟩:=Rz e (mem_left he).1
   rw [hkey,hval] at hrun
   obtain ⟨b1,b2,b3,b4,b5,b6⟩:=fL (o':=.mapIter (some w3.heap.size) 5 (seen.push e.born) 5) hat.it hw1
   obtain ⟨W3,hW3⟩:∃W3,W3=setBlock Yq w4.heap.size (.mapIter (some w3.heap.size) 5 (seen.push e.born) 5):=⟨_,rfl⟩
   rw [←hW3] at hrun b1 b2 b3 b4 b5 b6
   have hB:Below w2.heap.size wr W3:=⟨b5,b4,b6,Nat.le_of_eq b3.symm,fun b hb=>b2 b (by omega)⟩
   have fT:Row W3 w2.heap.size 66 #[.int .i64 kv,.string (ae vl),.int .i64 0]:=(b2 _ (by omega)).trans hat.tx
   have M0:MR W3 w3.heap.size:=(b2 _ (by omega)).trans hat.map
   have Fp:Row W3 w.heap.size 25 #[.int .i64 kd,.int .i64 a0,.string (ae nm),.string (ae vl),.int .i64 xa,.int .i64 xb,.int .i64 xc,.int .i64 xd,.slice A ks.length cap]:=(b2 _ (by omega)).trans uY
   have qf:∀ty,(Instr.next (.pointer (some ⟨w4.heap.size,0,none⟩)) false ty).run Tryz.prog wr=_:=fun _=>hrun
   have hen:=run_entry_at (P:=Tryz.prog) W3 w4.heap.size w3.heap.size 5 seen aH 5 e b1 M0 (mem_left he).1 bZ.2
   rw [hkey,hval] at hen
   have Pr:=aa he
   have Ka:=aa hat.it
   have cb0:W3.cell? ⟨w.heap.size,0,none⟩=some (.int .i64 kd):=Fp.cell 0
   have zR:W3.cell? ⟨w2.heap.size,0,none⟩=some (.int .i64 kv):=fT.cell 0
   have ft0:=fT.frozen 0
   have Uq:∀W:World,W.heap[w4.heap.size]? =some (.mapIter (some w3.heap.size) 5 (seen.push e.born) 5)→(leftOf aH (W.iterSeen w4.heap.size)).size<(leftOf aH (wr.iterSeen w4.heap.size)).size:=fun W hW=>by
    have e1:W.iterSeen w4.heap.size=seen.push e.born:=by unfold World.iterSeen;rw [hW]
    have e2:wr.iterSeen w4.heap.size=seen:=by unfold World.iterSeen;rw [Ka.out]
    rw [e1,e2]
    exact left_shrinks aH seen e Pr.out
   have YA:=aa Uq
   by_cases sH:o1.2=kd
   ·have eok:(o1.2==kd)=true:=by simpa using sH
    have M3:=aa (show CA w2 kd vl w3.heap.size w4.heap.size (W3.setCell ⟨w2.heap.size,0,none⟩ (.int .i64 o1.1)) (seen.push e.born) 5 o1.1 from
     ⟨(hat.below.trans hB).setCell (p:=⟨w2.heap.size,0,none⟩) (Nat.le_refl _) _,fT.bg 0 _,.inl (by rw [←sH];exact ln.symm),(Below.heap_setCell _ _ _ _ (by show w3.heap.size≠w2.heap.size;omega)).trans M0,(Below.heap_setCell _ _ _ _ (by show w4.heap.size≠w2.heap.size;omega)).trans b1,Nat.le_refl _⟩)
    clear hrun b1 b2 b3 b4 b5 b6 hB fT M0 Fp uY he hkey hval ln hat hw1 hW3 sH Uq
    go_wp2
    go_roundw
    case rel=>exact ⟨_,_,_,M3.out⟩
    case measure=>exact YA.out _ M3.out.it
   ·have eok:(o1.2==kd)=false:=by simpa using sH
    have M3:=aa (show CA w2 kd vl w3.heap.size w4.heap.size W3 (seen.push e.born) 5 kv from
     ⟨hat.below.trans hB,fT,by
      rcases hat.kv with h|⟨h1,h2⟩
      ·exact .inl h
      ·exact .inr ⟨h1,fun e' he' hs=>by
        rcases Array.mem_push.1 hs with h3|h3
        ·exact h2 e' he' h3
        ·have:e'=e:=by
          have h2:=find_born e aH.toList bZ.2 (mem_left he).1
          have h4:=find_born e' aH.toList bZ.2 he'
          rw [h3] at h4
          exact Option.some.inj (h4.symm.trans h2)
         rw [this,hval];intro h5;injection h5 with _ h5;exact sH h5⟩,M0,b1,Nat.le_refl _⟩)
    clear hrun b1 b2 b3 b4 b5 b6 hB fT M0 Fp uY he hkey hval ln hat hw1 hW3 sH Uq
    go_wp2
    go_roundw
    case rel=>exact ⟨_,_,_,M3.out⟩
    case measure=>exact YA.out _ M3.out.it
theorem Qo (B b:Nat) (a0 xa xb xc xd:Int) (nm vl:List UInt8) (ks:List Nd) (A:Option Addr) (cap:Nat) (hnl:nm.length≤200) (o:Option St) (M:Nat) (w:World) (h:cC w B b o M) (hk:sw B w ks A) (gF:∀i (hi:i<ks.length),sY ks[i]) (iq:im 1 xa xb xc xd nm vl) (hn:ks.length≤1000000) (hM:M+1500+2000*aC ks≤1099511627776):
 Calls Tryz.prog 151 #[.pointer (some ⟨b,0,none⟩),.agg (aw 1 a0 nm vl xa xb xc xd (.slice A ks.length cap)).toArray] w (ie B b w (o.bind (cK aM aT (.mk 1 a0 nm vl xa xb xc xd ks) (aG aM aT ks))) (M+1500+2000*aC ks)):=by
 have hlt:=h.lt.1
 have hge:=h.lt.2
 have Ad:=aa hk
 obtain ⟨w1,hw1⟩:∃w1,w1=w.alloc (.cells (aw 1 a0 nm vl xa xb xc xd (.slice A ks.length cap)).toArray 25):=⟨_,rfl⟩
 have hb1:Below w.heap.size w w1:=by rw [hw1];exact (Below.refl _ w).alloc (Nat.le_refl _) _
 have P1:=aa (h.keep hb1)
 have T1:=aa (aI.of_below (b:=b) hb1 (show B≤w.heap.size by omega))
 have gG:=aa (show Row w1 w.heap.size 25 (aw 1 a0 nm vl xa xb xc xd (.slice A ks.length cap)).toArray from by rw [hw1];exact Row.new _ _ _)
 have dC:=aa hw1.symm
 have Ae:=aa gF
 have Ke:=aa iq
 clear h hk hw1 hb1 gF iq
 unfold aw at dC gG⊢
 go_enter Tryz.func151,Tryz.ntmps151
 go_upto_region 1 with fail
 rw [dC.out]
 obtain ⟨fc,iX,ir,iY,iI,iJ,iZ,i_,gv⟩:=aj gG.out
 have C2:=aa (kM B b 1 a0 xa xb xc xd nm vl A ks.length cap 0 0 o M w1 P1.out (by omega))
 obtain ⟨o2,q2⟩:∃z_,lS o ks.length 0 0=z_:=⟨_,rfl⟩
 rw [q2] at C2
 have Q2:=aa q2
 clear q2
 unfold aw at C2
 go_wp2_with fail
 refine (C2.out).mono ?_
 rintro e w2 ⟨rfl,p2,t2⟩
 have P2:=aa p2
 have T2:=aa (T1.out.trans t2)
 have ko:=aa (t2.row gG.out (by decide) (by omega))
 clear p2 t2 C2
 clear fc iX ir iY iI iJ iZ i_ gv
 have hzw:=T2.out.size
 have Fo:B≤w2.heap.size:=by omega
 obtain ⟨w3,hw3⟩:∃w3,w3=w2.alloc (.cells #[.int .i64 0,.string (ae vl),.int .i64 0] 66):=⟨_,rfl⟩
 have hb3:Below w2.heap.size w2 w3:=by rw [hw3];exact (Below.refl _ w2).alloc (Nat.le_refl _) _
 have g_:=aa hb3
 have Yw:=aa (show Row w3 w2.heap.size 66 #[.int .i64 0,.string (ae vl),.int .i64 0] from by rw [hw3];exact Row.new _ _ _)
 have CB:=aa hw3.symm
 clear hw3 hb3
 have e3:w2.cell? ⟨w.heap.size,3,none⟩=some (.string (ae vl)):=ko.out.cell 3
 have Yx:=aa (km w3)
 go_upto_region 3 with fail
 rw [CB.out]
 clear e3
 go_wp2_with fail
 refine Yx.out.mono ?_
 rintro e w4 ⟨rfl,hcs,hb4⟩
 have hz3:w2.heap.size<w3.heap.size:=Yw.out.lt
 have VE:w3.heap.size<w4.heap.size:=(Array.getElem?_eq_some_iff.1 hcs).1
 have qD:=aa (g_.out.trans (hb4.mono (Nat.le_of_lt hz3)))
 have Rt4:=aa (Yw.out.below hb4 hz3)
 have hrg:=run_range_map (P:=Tryz.prog) w4 124 3 3 w3.heap.size aH 5 Tryz.underlying124 hcs
 have Qm:=aa (show CA w2 1 vl w3.heap.size w4.heap.size (w4.alloc (.mapIter (some w3.heap.size) 5 #[] 5)) #[] 5 0 from
  ⟨qD.out.alloc (by omega) _,Rt4.out.alloc _,.inr ⟨rfl,fun e _ he=>absurd he (by simp)⟩,(heap_alloc_old w4 _ VE).trans hcs,heap_alloc_new w4 _,Nat.le_refl _⟩)
 have HCS:=aa hcs
 clear hcs hb4 Yx
 go_wp2_with fail
 clear hrg
 go_loopw [] (fun W=>∃(seen:Array Nat) (c0:Nat) (kv:Int),CA w2 1 vl w3.heap.size w4.heap.size W seen c0 kv) (fun W=>(leftOf aH (W.iterSeen w4.heap.size)).size)
 case atStart=>exact ⟨#[],5,0,Qm.out⟩
 case round=>
  obtain ⟨seen,c0,kv,hat⟩:=hrel
  have uY:Row wr w.heap.size 25 #[.int .i64 1,.int .i64 a0,.string (ae nm),.string (ae vl),.int .i64 xa,.int .i64 xb,.int .i64 xc,.int .i64 xd,.slice A ks.length cap]:=(aI.of_below (b:=b) hat.below Fo).row ko.out (by decide) (by omega)
  have law:=run_next_at (P:=Tryz.prog) wr 0 w4.heap.size w3.heap.size 5 c0 seen aH 5 hat.it hat.map bZ.1 hat.since
  rcases law with ⟨h0,hrun⟩|⟨e,he,Yq,hw1,hrun⟩
  ·have qf:∀ty,(Instr.next (.pointer (some ⟨w4.heap.size,0,none⟩)) false ty).run Tryz.prog wr=_:=fun _=>hrun
   have hall:∀e∈aH.toList,e.born∈seen:=fun e he=>by
    by_cases hc:e.born∈seen
    ·exact hc
    ·exfalso
     have:e∈leftOf aH seen:=by
      unfold leftOf
      rw [Array.mem_filter]
      exact ⟨by simpa using he,by simpa using hc⟩
     have h1:=Array.size_pos_of_mem this
     omega
   obtain rfl:kv=iT 1:=by
    rcases hat.kv with h|⟨h1,h2⟩
    ·exact h
    ·rw [h1,GO fun e he=>h2 e he (hall e he)]
   have P5:=aa (P2.out.keep hat.below)
   have t5:=aI.of_below (b:=b) hat.below Fo
   have T5:=aa (T2.out.trans t5)
   have sA:=aa uY
   have Yy:=aa hat.tx
   have hgb:w2.heap.size≠b:=by omega
   have hgw:w.heap.size≤w2.heap.size:=hzw
   clear hall hat hrun h0 t5 uY
   have RE:iT 1=0:=by decide
   rw [RE] at Yy
   have Qn:=aa hnl
   obtain ⟨fc,iX,ir,iY,iI,iJ,iZ,i_,gv⟩:=aj sA.out
   have C6:=aa (gP B b 1 a0 xa xb xc xd nm vl (.slice A ks.length cap) [110] o2 M wr P5.out)
   obtain ⟨o6,q6⟩:∃z_,nD o2 (decide (nm=[])) (decide (vl=[])) (decide (xa=0)) (decide (xb=0)) (decide (xc=0)) (decide (xd=0)) [110]=z_:=⟨_,rfl⟩
   rw [q6] at C6
   have Q6:=aa q6
   clear q6
   unfold aw at C6
   have pQ:=aa (show _=if fw (.mk 1 a0 nm vl xa xb xc xd ks) true false false false=true∧ks.length=0 then o else none from RA o [110])
   rw [Q2.out,Q6.out] at pQ
   go_wp2_with fail
   refine (C6.out).mono ?_
   rintro e w6 ⟨rfl,p6,t6⟩
   have P6:=aa p6
   have T6:=aa (T5.out.trans t6)
   have Jw:=aa (t6.row sA.out (by decide) (by omega))
   have MW:=aa (t6.row Yy.out (by decide) (by omega))
   clear p6 t6 C6
   clear fc iX ir iY iI iJ iZ i_ gv
   have ir:w6.cell? ⟨w.heap.size,2,none⟩=some (.string (ae nm)):=Jw.out.cell 2
   have JJ:w6.cell? ⟨w2.heap.size,1,none⟩=some (.string (ae vl)):=MW.out.cell 1
   have ft1:=MW.out.frozen 1
   obtain ⟨w7,Ah⟩:∃W',W'=w6.setCell ⟨w2.heap.size,1,none⟩ (.string (ae nm)):=⟨_,rfl⟩
   have P7:=aa (show cC w7 B b o6 M from by rw [Ah];exact P6.out.setRow MW.out (by decide) hgb Fo _ _)
   have T7:=aa (show aI B b w w7 from by rw [Ah];exact T6.out.Up hgw Fo _ _)
   have Fb:=aa (show Row w7 w.heap.size 25 #[.int .i64 1,.int .i64 a0,.string (ae nm),.string (ae vl),.int .i64 xa,.int .i64 xb,.int .i64 xc,.int .i64 xd,.slice A ks.length cap] from by rw [Ah];exact Jw.out.off (by have:=ko.out.lt;omega) _ _)
   have CE:=aa (show Row w7 w2.heap.size 66 #[.int .i64 0,.string (ae nm),.int .i64 0] from by rw [Ah];exact MW.out.bg 1 _)
   have kn:=aa Ah.symm
   clear Ah
   go_upto_region 11 with fail
   rw [kn.out]
   clear ir JJ ft1
   cases o6 with
   |none=>
    obtain ⟨mK,mL,mM,_⟩:=P7.out.bW
    go_upto_region 14 with fail
    obtain ⟨w8,hw8⟩:∃W',W'=w7.setCell ⟨b,3,none⟩ (.bool true):=⟨_,rfl⟩
    obtain ⟨_,_,_,p8,t8⟩:=P7.out.bW
    rw [←hw8] at p8 t8
    have P8:=aa p8
    have T8:=aa (T7.out.trans t8)
    have JA:=aa (t8.row Fb.out (by decide) (by omega))
    have MY:=aa (t8.row CE.out (by decide) (by omega))
    have kn:=aa hw8.symm
    clear p8 t8 hw8
    rw [kn.out]
    clear mK mL mM
    have fc:w8.cell? ⟨w.heap.size,0,none⟩=some (.int .i64 1):=JA.out.cell 0
    go_upto_region 17 with fail
    clear fc
    have zR:w8.cell? ⟨w2.heap.size,0,none⟩=some (.int .i64 0):=MY.out.cell 0
    have JJ:w8.cell? ⟨w2.heap.size,1,none⟩=some (.string (ae nm)):=MY.out.cell 1
    have MX:w8.cell? ⟨w2.heap.size,2,none⟩=some (.int .i64 0):=MY.out.cell 2
    have JN:=aa (show Calls Tryz.prog 184 #[.slice (some ⟨w8.heap.size,0,none⟩) 1 1] (w8.alloc (.cells #[.int .i64 0,.string (ae nm),.int .i64 0] 66)) fun e w'=>e=.returned (.string (ae (cf [⟨0,nm,0⟩])))∧Below (w8.alloc (.cells #[.int .i64 0,.string (ae nm),.int .i64 0] 66)).heap.size (w8.alloc (.cells #[.int .i64 0,.string (ae nm),.int .i64 0] 66)) w' from by
     have hr:=Row.new w8 66 #[.int .i64 0,.string (ae nm),.int .i64 0]
     refine jf (some ⟨w8.heap.size,0,none⟩) 1 [⟨0,nm,0⟩] _ (fun _=>⟨_,_,rfl,fun i hi=>?_⟩) (by simp) (fun y hy=>by rw [List.mem_singleton.1 hy];have:=Qn.out;show nm.length≤1000;omega) (P8.out.alloc _).gl
     obtain rfl:i=0:=by simpa using hi
     exact ⟨hr.cell 0,hr.cell 1,hr.cell 2⟩)
    obtain ⟨j,hj⟩:∃j,cf [⟨0,nm,0⟩]=j:=⟨_,rfl⟩
    rw [hj] at JN
    have HJ:=aa hj
    clear hj
    go_wp2_with fail
    refine JN.out.mono ?_
    rintro e w9 ⟨rfl,CG⟩
    have jw:Below w8.heap.size w8 w9:=((Below.refl _ w8).alloc (Nat.le_refl _) _).trans (CG.mono (by rw [World.size_alloc];omega))
    clear zR JJ MX
    have t9:=aI.of_below (b:=b) jw (Nat.le_trans P8.out.lt.2 (Nat.le_of_lt P8.out.lt.1))
    have P9:=aa (P8.out.keep jw)
    have T9:=aa (T8.out.trans t9)
    have PY:=aa (t9.row JA.out (by decide) (by omega))
    have MZ:=aa (t9.row MY.out (by decide) (by omega))
    clear t9
    clear CG jw JN
    by_cases hj0:j=[]
    ·skip
     have ej:(ae j).toList.isEmpty=true:=by rw [GI];simpa using hj0
     have JK:(ae j).toList=[]:=by simpa using ej
     clear hj0
     obtain ⟨mK,mL,mM,_⟩:=P9.out.bW
     have kn:∀x:Bool,x=true→ie B b w (o.bind (cK aM aT (.mk 1 a0 nm vl xa xb xc xd ks) (aG aM aT ks))) (M+1500+2000*aC ks) (.returned (.tuple #[])) (w9.setCell ⟨b,3,none⟩ (.bool x)):=fun x hx=>by
      subst hx
      obtain ⟨_,_,_,p,t⟩:=P9.out.bW
      have hp:cC (w9.setCell ⟨b,3,none⟩ (.bool true)) B b none M:=p
      refine ⟨rfl,?_,T9.out.trans t⟩
      rw [rf o (.mk 1 a0 nm vl xa xb xc xd ks) (aG aM aT ks) rfl,bh,←pQ.out]
      show cC _ B b none _
      exact hp.mono (by first|omega|(simp only [List.length_cons,List.length_nil];omega))
     have vA:=aa kn
     clear kn
     go_wp2
     go_end0
     exact vA.out _ rfl
    ·skip
     have ej:(ae j).toList.isEmpty=false:=by rw [GI];simpa using hj0
     have JK:¬(ae j).toList=[]:=by simpa using ej
     clear hj0
     obtain ⟨mK,mL,mM,_⟩:=P9.out.bW
     have kn:∀x:Bool,x=true→ie B b w (o.bind (cK aM aT (.mk 1 a0 nm vl xa xb xc xd ks) (aG aM aT ks))) (M+1500+2000*aC ks) (.returned (.tuple #[])) (w9.setCell ⟨b,3,none⟩ (.bool x)):=fun x hx=>by
      subst hx
      obtain ⟨_,_,_,p,t⟩:=P9.out.bW
      have hp:cC (w9.setCell ⟨b,3,none⟩ (.bool true)) B b none M:=p
      refine ⟨rfl,?_,T9.out.trans t⟩
      rw [rf o (.mk 1 a0 nm vl xa xb xc xd ks) (aG aM aT ks) rfl,bh,←pQ.out]
      show cC _ B b none _
      exact hp.mono (by first|omega|(simp only [List.length_cons,List.length_nil];omega))
     have vA:=aa kn
     clear kn
     go_wp2
     go_end0
     exact vA.out _ rfl
   |some st=>
    obtain ⟨hc,ho⟩:=nu pQ.out
    have Jv:=aa (And.intro hc ho)
    clear hc ho
    obtain ⟨mK,mL,mM,_⟩:=P7.out.cU
    have ir:w7.cell? ⟨w.heap.size,2,none⟩=some (.string (ae nm)):=Fb.out.cell 2
    obtain ⟨rb,Pg⟩:∃z_,decide (nm∈kC)=z_:=⟨_,rfl⟩
    have RS:=aa (show Calls Tryz.prog 140 #[.string (ae nm)] w7 fun e w'=>e=.returned (.bool rb)∧Below w7.heap.size w7 w' from by rw [←Pg];exact lr nm w7)
    have HRB:=aa Pg
    clear Pg
    go_wp2_with fail
    refine RS.out.mono ?_
    rintro e w8 ⟨rfl,DJ⟩
    clear mK mL mM ir
    have t8:=aI.of_below (b:=b) DJ (Nat.le_trans P7.out.lt.2 (Nat.le_of_lt P7.out.lt.1))
    have P8:=aa (P7.out.keep DJ)
    have T8:=aa (T7.out.trans t8)
    have JA:=aa (t8.row Fb.out (by decide) (by omega))
    have MY:=aa (t8.row CE.out (by decide) (by omega))
    clear t8
    clear DJ RS
    cases rb with
    |true=>
     obtain ⟨mK,mL,mM,_⟩:=P8.out.cU
     go_upto_region 14 with fail
     obtain ⟨w9,Ur⟩:∃W',W'=w8.setCell ⟨b,3,none⟩ (.bool true):=⟨_,rfl⟩
     obtain ⟨p9,t9⟩:=P8.out.cU.2.2.2 true
     rw [←Ur] at p9 t9
     have P9:=aa (show cC w9 B b none M from p9)
     have T9:=aa (T8.out.trans t9)
     have PY:=aa (t9.row JA.out (by decide) (by omega))
     have MZ:=aa (t9.row MY.out (by decide) (by omega))
     have kn:=aa Ur.symm
     clear p9 t9 Ur
     rw [kn.out]
     clear mK mL mM
     have fc:w9.cell? ⟨w.heap.size,0,none⟩=some (.int .i64 1):=PY.out.cell 0
     go_upto_region 17 with fail
     clear fc
     have zR:w9.cell? ⟨w2.heap.size,0,none⟩=some (.int .i64 0):=MZ.out.cell 0
     have JJ:w9.cell? ⟨w2.heap.size,1,none⟩=some (.string (ae nm)):=MZ.out.cell 1
     have MX:w9.cell? ⟨w2.heap.size,2,none⟩=some (.int .i64 0):=MZ.out.cell 2
     have JN:=aa (show Calls Tryz.prog 184 #[.slice (some ⟨w9.heap.size,0,none⟩) 1 1] (w9.alloc (.cells #[.int .i64 0,.string (ae nm),.int .i64 0] 66)) fun e w'=>e=.returned (.string (ae (cf [⟨0,nm,0⟩])))∧Below (w9.alloc (.cells #[.int .i64 0,.string (ae nm),.int .i64 0] 66)).heap.size (w9.alloc (.cells #[.int .i64 0,.string (ae nm),.int .i64 0] 66)) w' from by
      have hr:=Row.new w9 66 #[.int .i64 0,.string (ae nm),.int .i64 0]
      refine jf (some ⟨w9.heap.size,0,none⟩) 1 [⟨0,nm,0⟩] _ (fun _=>⟨_,_,rfl,fun i hi=>?_⟩) (by simp) (fun y hy=>by rw [List.mem_singleton.1 hy];have:=Qn.out;show nm.length≤1000;omega) (P9.out.alloc _).gl
      obtain rfl:i=0:=by simpa using hi
      exact ⟨hr.cell 0,hr.cell 1,hr.cell 2⟩)
     obtain ⟨j,hj⟩:∃j,cf [⟨0,nm,0⟩]=j:=⟨_,rfl⟩
     rw [hj] at JN
     have HJ:=aa hj
     clear hj
     go_wp2_with fail
     refine JN.out.mono ?_
     rintro e sK ⟨rfl,CG⟩
     have jw:Below w9.heap.size w9 sK:=((Below.refl _ w9).alloc (Nat.le_refl _) _).trans (CG.mono (by rw [World.size_alloc];omega))
     clear zR JJ MX
     have t10:=aI.of_below (b:=b) jw (Nat.le_trans P9.out.lt.2 (Nat.le_of_lt P9.out.lt.1))
     have Qp:=aa (P9.out.keep jw)
     have YB:=aa (T9.out.trans t10)
     have Us:=aa (t10.row PY.out (by decide) (by omega))
     have YC:=aa (t10.row MZ.out (by decide) (by omega))
     clear t10
     clear CG jw JN
     by_cases hj0:j=[]
     ·skip
      have ej:(ae j).toList.isEmpty=true:=by rw [GI];simpa using hj0
      have JK:(ae j).toList=[]:=by simpa using ej
      clear hj0
      obtain ⟨mK,mL,mM,_⟩:=Qp.out.bW
      have kn:∀x:Bool,x=true→ie B b w (o.bind (cK aM aT (.mk 1 a0 nm vl xa xb xc xd ks) (aG aM aT ks))) (M+1500+2000*aC ks) (.returned (.tuple #[])) (sK.setCell ⟨b,3,none⟩ (.bool x)):=fun x hx=>by
       subst hx
       obtain ⟨_,_,_,p,t⟩:=Qp.out.bW
       have hp:cC (sK.setCell ⟨b,3,none⟩ (.bool true)) B b none M:=p
       refine ⟨rfl,?_,YB.out.trans t⟩
       rw [rf o (.mk 1 a0 nm vl xa xb xc xd ks) (aG aM aT ks) rfl,bh,←pQ.out]
       rw [Option.bind_some,if_neg (fun h=>h.1 (of_decide_eq_true HRB.out))]
       exact hp.mono (by first|omega|(simp only [List.length_cons,List.length_nil];omega))
      have vA:=aa kn
      clear kn
      go_wp2
      go_end0
      exact vA.out _ rfl
     ·skip
      have ej:(ae j).toList.isEmpty=false:=by rw [GI];simpa using hj0
      have JK:¬(ae j).toList=[]:=by simpa using ej
      clear hj0
      obtain ⟨mK,mL,mM,_⟩:=Qp.out.bW
      have kn:∀x:Bool,x=true→ie B b w (o.bind (cK aM aT (.mk 1 a0 nm vl xa xb xc xd ks) (aG aM aT ks))) (M+1500+2000*aC ks) (.returned (.tuple #[])) (sK.setCell ⟨b,3,none⟩ (.bool x)):=fun x hx=>by
       subst hx
       obtain ⟨_,_,_,p,t⟩:=Qp.out.bW
       have hp:cC (sK.setCell ⟨b,3,none⟩ (.bool true)) B b none M:=p
       refine ⟨rfl,?_,YB.out.trans t⟩
       rw [rf o (.mk 1 a0 nm vl xa xb xc xd ks) (aG aM aT ks) rfl,bh,←pQ.out]
       rw [Option.bind_some,if_neg (fun h=>h.1 (of_decide_eq_true HRB.out))]
       exact hp.mono (by first|omega|(simp only [List.length_cons,List.length_nil];omega))
      have vA:=aa kn
      clear kn
      go_wp2
      go_end0
      exact vA.out _ rfl
    |false=>
     obtain ⟨mK,mL,mM,_⟩:=P8.out.cU
     go_upto_region 14 with fail
     obtain ⟨w9,Ur⟩:∃W',W'=w8.setCell ⟨b,3,none⟩ (.bool false):=⟨_,rfl⟩
     obtain ⟨p9,t9⟩:=P8.out.cU.2.2.2 false
     rw [←Ur] at p9 t9
     have P9:=aa p9
     have T9:=aa (T8.out.trans t9)
     have PY:=aa (t9.row JA.out (by decide) (by omega))
     have MZ:=aa (t9.row MY.out (by decide) (by omega))
     have kn:=aa Ur.symm
     clear p9 t9 Ur
     rw [kn.out]
     clear mK mL mM
     have P9:=aa (show cC w9 B b (some st) M from P9.out)
     have fc:w9.cell? ⟨w.heap.size,0,none⟩=some (.int .i64 1):=PY.out.cell 0
     go_upto_region 17 with fail
     clear fc
     have zR:w9.cell? ⟨w2.heap.size,0,none⟩=some (.int .i64 0):=MZ.out.cell 0
     have JJ:w9.cell? ⟨w2.heap.size,1,none⟩=some (.string (ae nm)):=MZ.out.cell 1
     have MX:w9.cell? ⟨w2.heap.size,2,none⟩=some (.int .i64 0):=MZ.out.cell 2
     have JN:=aa (show Calls Tryz.prog 184 #[.slice (some ⟨w9.heap.size,0,none⟩) 1 1] (w9.alloc (.cells #[.int .i64 0,.string (ae nm),.int .i64 0] 66)) fun e w'=>e=.returned (.string (ae (cf [⟨0,nm,0⟩])))∧Below (w9.alloc (.cells #[.int .i64 0,.string (ae nm),.int .i64 0] 66)).heap.size (w9.alloc (.cells #[.int .i64 0,.string (ae nm),.int .i64 0] 66)) w' from by
      have hr:=Row.new w9 66 #[.int .i64 0,.string (ae nm),.int .i64 0]
      refine jf (some ⟨w9.heap.size,0,none⟩) 1 [⟨0,nm,0⟩] _ (fun _=>⟨_,_,rfl,fun i hi=>?_⟩) (by simp) (fun y hy=>by rw [List.mem_singleton.1 hy];have:=Qn.out;show nm.length≤1000;omega) (P9.out.alloc _).gl
      obtain rfl:i=0:=by simpa using hi
      exact ⟨hr.cell 0,hr.cell 1,hr.cell 2⟩)
     obtain ⟨j,hj⟩:∃j,cf [⟨0,nm,0⟩]=j:=⟨_,rfl⟩
     rw [hj] at JN
     have HJ:=aa hj
     clear hj
     go_wp2_with fail
     refine JN.out.mono ?_
     rintro e sK ⟨rfl,CG⟩
     have jw:Below w9.heap.size w9 sK:=((Below.refl _ w9).alloc (Nat.le_refl _) _).trans (CG.mono (by rw [World.size_alloc];omega))
     clear zR JJ MX
     have t10:=aI.of_below (b:=b) jw (Nat.le_trans P9.out.lt.2 (Nat.le_of_lt P9.out.lt.1))
     have Qp:=aa (P9.out.keep jw)
     have YB:=aa (T9.out.trans t10)
     have Us:=aa (t10.row PY.out (by decide) (by omega))
     have YC:=aa (t10.row MZ.out (by decide) (by omega))
     clear t10
     clear CG jw JN
     by_cases hj0:j=[]
     ·skip
      have ej:(ae j).toList.isEmpty=true:=by rw [GI];simpa using hj0
      have JK:(ae j).toList=[]:=by simpa using ej
      have RB:=aa hj0
      clear hj0
      obtain ⟨mK,mL,mM,_⟩:=Qp.out.cU
      have kn:∀x:Bool,x=true→ie B b w (o.bind (cK aM aT (.mk 1 a0 nm vl xa xb xc xd ks) (aG aM aT ks))) (M+1500+2000*aC ks) (.returned (.tuple #[])) (sK.setCell ⟨b,3,none⟩ (.bool x)):=fun x hx=>by
       subst hx
       obtain ⟨p,t⟩:=Qp.out.cU.2.2.2 true
       have hp:cC (sK.setCell ⟨b,3,none⟩ (.bool true)) B b none M:=p
       refine ⟨rfl,?_,YB.out.trans t⟩
       rw [rf o (.mk 1 a0 nm vl xa xb xc xd ks) (aG aM aT ks) rfl,bh,←pQ.out]
       rw [Option.bind_some,show cf [⟨0,Nd.name (.mk 1 a0 nm vl xa xb xc xd ks),0⟩]=j from HJ.out,if_neg (fun h=>h.2 RB.out)]
       exact hp.mono (by first|omega|(simp only [List.length_cons,List.length_nil];omega))
      have vA:=aa kn
      clear kn
      go_wp2
      go_end0
      exact vA.out _ rfl
     ·skip
      have ej:(ae j).toList.isEmpty=false:=by rw [GI];simpa using hj0
      have JK:¬(ae j).toList=[]:=by simpa using ej
      have RB:=aa hj0
      have JY:j.length≤830:=by rw [←HJ.out];exact uX _ _ (by have:=Qn.out;omega)
      clear hj0
      obtain ⟨mK,mL,mM,_⟩:=Qp.out.cU
      have C11:=aa (show Calls Tryz.prog 73 #[.pointer (some ⟨b,0,none⟩),.slice (some ⟨sK.heap.size,0,none⟩) 1 1] (sK.alloc (.cells #[.string (ae j)] 9)) (ie B b sK (some (dD st j)) (M+(j.length+1))) from dM B b j (some st) M sK Qp.out (by omega))
      have fc:sK.cell? ⟨w.heap.size,0,none⟩=some (.int .i64 1):=Us.out.cell 0
      go_wp2_with fail
      refine (C11.out).mono ?_
      rintro e Z2 ⟨rfl,p11,t11⟩
      have P11:=aa p11
      have T11:=aa (YB.out.trans t11)
      have aa8:=aa (t11.row Us.out (by decide) (by omega))
      have ab7:=aa (t11.row YC.out (by decide) (by omega))
      clear p11 t11 C11
      clear ej JK mK mL mM fc
      have fc:Z2.cell? ⟨w.heap.size,0,none⟩=some (.int .i64 1):=aa8.out.cell 0
      have hlq:(ae j).size<4611686018427387904:=by rw [aD];omega
      obtain ⟨ce2,EO,se2,_⟩:=P11.out.MV
      have vA:=aa (fun (x:Bool) (hx:x=jo j)=>show ie B b w (o.bind (cK aM aT (.mk 1 a0 nm vl xa xb xc xd ks) (aG aM aT ks))) (M+1500+2000*aC ks) (.returned (.tuple #[])) (Z2.setCell ⟨b,2,none⟩ (.bool x)) from by
       obtain ⟨p,t⟩:=P11.out.MV.2.2.2 x
       refine ⟨rfl,?_,T11.out.trans t⟩
       rw [rf o (.mk 1 a0 nm vl xa xb xc xd ks) (aG aM aT ks) rfl,bh,←pQ.out]
       rw [Option.bind_some,show cf [⟨0,Nd.name (.mk 1 a0 nm vl xa xb xc xd ks),0⟩]=j from HJ.out,if_pos ⟨of_decide_eq_false HRB.out,RB.out⟩,←hx]
       exact p.mono (by omega))
      have LI:=aa (Tryz.strings_LastIndexByte (ae j) 92 hlq Z2)
      rcases JI j RB.out with ⟨hl,he,hz,hc⟩|⟨i,hl,⟨hi,hci⟩,he⟩
      ·skip
       rw [hl] at LI
       have HW:=aa (vA.out false he.symm)
       obtain ⟨c0,hc0⟩:∃c0,(ae j)[0]'hz=c0:=⟨_,rfl⟩
       rw [hc0] at hc
       have hcz:((c0.toNat:Int)==92)=false:=by simp;intro h;exact hc (UInt8.toNat_inj.1 (by have e:UInt8.toNat 92=92:=rfl;omega))
       have hmx:max (0:Int) (-1)=0:=by decide
       have ab8:¬((c0.toNat:Int)=92):=by simpa using hcz
       clear he hl hc
       go_wp2_with fail
       refine LI.out.mono ?_
       rintro e _ ⟨rfl,rfl⟩
       go_wp2
       go_end0
       exact HW.out
      ·skip
       rw [hl] at LI
       have HW:=aa (fun (x:Bool) (hx:x= !decide (0≤Lib.indexByte ((ae j).extract i (ae j).size).data.toList 32))=>vA.out x (hx.trans he.symm))
       have UX:(i:Int)<((ae j).size:Int):=by omega
       have CT:=aa (Tryz.strings_Contains_one ((ae j).extract i (ae j).size) 32 Z2)
       clear he hl
       go_wp2_with fail
       refine LI.out.mono ?_
       rintro e _ ⟨rfl,rfl⟩
       go_wp2_with fail
       refine LI.out.mono ?_
       rintro e _ ⟨rfl,rfl⟩
       go_wp2_with fail
       refine CT.out.mono ?_
       rintro e _ ⟨rfl,rfl⟩
       go_wp2
       go_end0
       exact HW.out _ (by rw [Lib.extract_data])
  ·obtain ⟨o1,hkey,hval,ln⟩:=Rz e (mem_left he).1
   rw [hkey,hval] at hrun
   obtain ⟨b1,b2,b3,b4,b5,b6⟩:=fL (o':=.mapIter (some w3.heap.size) 5 (seen.push e.born) 5) hat.it hw1
   obtain ⟨W3,hW3⟩:∃W3,W3=setBlock Yq w4.heap.size (.mapIter (some w3.heap.size) 5 (seen.push e.born) 5):=⟨_,rfl⟩
   rw [←hW3] at hrun b1 b2 b3 b4 b5 b6
   have hB:Below w2.heap.size wr W3:=⟨b5,b4,b6,Nat.le_of_eq b3.symm,fun b hb=>b2 b (by omega)⟩
   have fT:Row W3 w2.heap.size 66 #[.int .i64 kv,.string (ae vl),.int .i64 0]:=(b2 _ (by omega)).trans hat.tx
   have M0:MR W3 w3.heap.size:=(b2 _ (by omega)).trans hat.map
   have Fp:Row W3 w.heap.size 25 #[.int .i64 1,.int .i64 a0,.string (ae nm),.string (ae vl),.int .i64 xa,.int .i64 xb,.int .i64 xc,.int .i64 xd,.slice A ks.length cap]:=(b2 _ (by omega)).trans uY
   have qf:∀ty,(Instr.next (.pointer (some ⟨w4.heap.size,0,none⟩)) false ty).run Tryz.prog wr=_:=fun _=>hrun
   have hen:=run_entry_at (P:=Tryz.prog) W3 w4.heap.size w3.heap.size 5 seen aH 5 e b1 M0 (mem_left he).1 bZ.2
   rw [hkey,hval] at hen
   have Pr:=aa he
   have Ka:=aa hat.it
   have cb0:W3.cell? ⟨w.heap.size,0,none⟩=some (.int .i64 1):=Fp.cell 0
   have zR:W3.cell? ⟨w2.heap.size,0,none⟩=some (.int .i64 kv):=fT.cell 0
   have ft0:=fT.frozen 0
   have Uq:∀W:World,W.heap[w4.heap.size]? =some (.mapIter (some w3.heap.size) 5 (seen.push e.born) 5)→(leftOf aH (W.iterSeen w4.heap.size)).size<(leftOf aH (wr.iterSeen w4.heap.size)).size:=fun W hW=>by
    have e1:W.iterSeen w4.heap.size=seen.push e.born:=by unfold World.iterSeen;rw [hW]
    have e2:wr.iterSeen w4.heap.size=seen:=by unfold World.iterSeen;rw [Ka.out]
    rw [e1,e2]
    exact left_shrinks aH seen e Pr.out
   have YA:=aa Uq
   by_cases sH:o1.2=1
   ·have eok:(o1.2==1)=true:=by simpa using sH
    have M3:=aa (show CA w2 1 vl w3.heap.size w4.heap.size (W3.setCell ⟨w2.heap.size,0,none⟩ (.int .i64 o1.1)) (seen.push e.born) 5 o1.1 from
     ⟨(hat.below.trans hB).setCell (p:=⟨w2.heap.size,0,none⟩) (Nat.le_refl _) _,fT.bg 0 _,.inl (by rw [←sH];exact ln.symm),(Below.heap_setCell _ _ _ _ (by show w3.heap.size≠w2.heap.size;omega)).trans M0,(Below.heap_setCell _ _ _ _ (by show w4.heap.size≠w2.heap.size;omega)).trans b1,Nat.le_refl _⟩)
    clear hrun b1 b2 b3 b4 b5 b6 hB fT M0 Fp uY he hkey hval ln hat hw1 hW3 sH Uq
    go_wp2
    go_roundw
    case rel=>exact ⟨_,_,_,M3.out⟩
    case measure=>exact YA.out _ M3.out.it
   ·have eok:(o1.2==1)=false:=by simpa using sH
    have M3:=aa (show CA w2 1 vl w3.heap.size w4.heap.size W3 (seen.push e.born) 5 kv from
     ⟨hat.below.trans hB,fT,by
      rcases hat.kv with h|⟨h1,h2⟩
      ·exact .inl h
      ·exact .inr ⟨h1,fun e' he' hs=>by
        rcases Array.mem_push.1 hs with h3|h3
        ·exact h2 e' he' h3
        ·have:e'=e:=by
          have h2:=find_born e aH.toList bZ.2 (mem_left he).1
          have h4:=find_born e' aH.toList bZ.2 he'
          rw [h3] at h4
          exact Option.some.inj (h4.symm.trans h2)
         rw [this,hval];intro h5;injection h5 with _ h5;exact sH h5⟩,M0,b1,Nat.le_refl _⟩)
    clear hrun b1 b2 b3 b4 b5 b6 hB fT M0 Fp uY he hkey hval ln hat hw1 hW3 sH Uq
    go_wp2
    go_roundw
    case rel=>exact ⟨_,_,_,M3.out⟩
    case measure=>exact YA.out _ M3.out.it
end Go.Proofs.YtddoehnkgcbboaaGreatDoor
namespace Go.Proofs.YtddoehnkgcbboaaGreatDoor
open Go.RowKit Go.Shelf Go.Maps
theorem Qq (o:Option St) (n:Nd) (fs:List Pw) (U_:n.kind≠17) (RG:n.kind≠18) (EW:n.kind≠28) (h8:n.kind≠8) (h6:n.kind≠6) (h7:n.kind≠7):o.bind (fF aM aT n fs)=o.bind (cK aM aT n fs):=by
 cases o with
 |none=>rfl
 |some st=>
  show fF aM aT n fs st=cK aM aT n fs st
  unfold fF
  rw [if_neg (by omega),if_neg (by omega),if_neg h6,if_neg h7]
theorem JL (B b:Nat) (kd a0 xa xb xc xd:Int) (nm vl:List UInt8) (ks:List Nd) (A:Option Addr) (cap:Nat) (Z3:kd=0∨kd=1) (o:Option St) (M:Nat) (w:World) (h:cC w B b o M) (hk:sw B w ks A) (gF:∀i (hi:i<ks.length),sY ks[i]) (iq:im kd xa xb xc xd nm vl) (hn:ks.length≤1000000) (hM:M+1500+2000*aC ks≤1099511627776):
 Calls Tryz.prog 151 #[.pointer (some ⟨b,0,none⟩),.agg (aw kd a0 nm vl xa xb xc xd (.slice A ks.length cap)).toArray] w (ie B b w (o.bind (cK aM aT (.mk kd a0 nm vl xa xb xc xd ks) (aG aM aT ks))) (M+1500+2000*aC ks)):=by
 rcases Z3 with rfl|rfl
 ·exact Ql B b 0 a0 xa xb xc xd nm vl ks A cap iq.vl (by decide) (by decide) o M w h hk gF iq hn hM
 ·exact Qo B b a0 xa xb xc xd nm vl ks A cap iq.nm o M w h hk gF iq hn hM
theorem uZ (B b:Nat) (kd a0 xa xb xc xd:Int) (nm vl:List UInt8) (ks:List Nd) (A:Option Addr) (cap:Nat) (Z3:kd=0∨kd=1) (U_:kd≠17) (RG:kd≠18) (EW:kd≠28) (h8:kd≠8) (h6:kd≠6) (h7:kd≠7) (o:Option St) (M:Nat) (w:World) (h:cC w B b o M) (hk:sw B w ks A) (gF:∀i (hi:i<ks.length),sY ks[i]) (iq:im kd xa xb xc xd nm vl) (hn:ks.length≤1000000) (hM:M+1500+2000*aC ks≤1099511627776):
 Calls Tryz.prog 113 #[.pointer (some ⟨b,0,none⟩),.agg (aw kd a0 nm vl xa xb xc xd (.slice A ks.length cap)).toArray] w (ie B b w (o.bind (fF aM aT (.mk kd a0 nm vl xa xb xc xd ks) (aG aM aT ks))) (M+1500+2000*aC ks)):=by
 have H01:=aa Z3
 clear Z3
 rw [Qq o (.mk kd a0 nm vl xa xb xc xd ks) _ U_ RG EW h8 h6 h7]
 have hk2:=aa hk
 have sD:=aa gF
 have lT:=aa iq
 have n17:(kd==17)=false:=beq_eq_false_iff_ne.2 U_
 have n18:(kd==18)=false:=beq_eq_false_iff_ne.2 RG
 have n28:(kd==28)=false:=beq_eq_false_iff_ne.2 EW
 have n8:(kd==8)=false:=beq_eq_false_iff_ne.2 h8
 have n6:(kd==6)=false:=beq_eq_false_iff_ne.2 h6
 have n7:(kd==7)=false:=beq_eq_false_iff_ne.2 h7
 clear U_ RG EW h8 h6 h7
 have hlt:=h.lt.1
 have hge:=h.lt.2
 have Ad:=aa hk
 obtain ⟨w1,hw1⟩:∃w1,w1=w.alloc (.cells (aw kd a0 nm vl xa xb xc xd (.slice A ks.length cap)).toArray 25):=⟨_,rfl⟩
 have hb1:Below w.heap.size w w1:=by rw [hw1];exact (Below.refl _ w).alloc (Nat.le_refl _) _
 have P1:=aa (h.keep hb1)
 have T1:=aa (aI.of_below (b:=b) hb1 (show B≤w.heap.size by omega))
 have gG:=aa (show Row w1 w.heap.size 25 (aw kd a0 nm vl xa xb xc xd (.slice A ks.length cap)).toArray from by rw [hw1];exact Row.new _ _ _)
 have dC:=aa hw1.symm
 have Ae:=aa gF
 have Ke:=aa iq
 clear h hk hw1 hb1 gF iq
 unfold aw at dC gG⊢
 go_enter Tryz.func113,Tryz.ntmps113
 go_upto_region 1 with fail
 rw [dC.out]
 obtain ⟨fc,iX,ir,iY,iI,iJ,iZ,i_,gv⟩:=aj gG.out
 have C2:=aa (JL B b kd a0 xa xb xc xd nm vl ks A cap H01.out o M w1 P1.out (hk2.out.keep T1.out.below T1.out.size) sD.out lT.out hn hM)
 unfold aw at C2
 go_wp2_with fail
 refine (C2.out).mono ?_
 rintro e w2 ⟨rfl,p2,t2⟩
 have P2:=aa p2
 have T2:=aa (T1.out.trans t2)
 have ko:=aa (t2.row gG.out (by decide) (by omega))
 clear p2 t2 C2
 clear fc iX ir iY iI iJ iZ i_ gv
 go_wp2
 go_end0
 exact ⟨rfl,P2.out,T2.out⟩
theorem xR (B b:Nat) (kd a0 xa xb xc xd:Int) (nm vl:List UInt8) (ks:List Nd) (A:Option Addr) (cap:Nat) (hS:kd=0∨kd=1∨kd=28) (o:Option St) (M:Nat) (w:World) (h:cC w B b o M) (hk:sw B w ks A) (gF:∀i (hi:i<ks.length),sY ks[i]) (iq:im kd xa xb xc xd nm vl) (hn:ks.length≤1000000) (hM:M+1500+2000*aC ks≤1099511627776):
 Calls Tryz.prog 113 #[.pointer (some ⟨b,0,none⟩),.agg (aw kd a0 nm vl xa xb xc xd (.slice A ks.length cap)).toArray] w (ie B b w (o.bind (fF aM aT (.mk kd a0 nm vl xa xb xc xd ks) (aG aM aT ks))) (M+1500+2000*aC ks)):=by
 rcases hS with rfl|rfl|rfl
 ·exact uZ B b 0 a0 xa xb xc xd nm vl ks A cap (.inl rfl) (by decide) (by decide) (by decide) (by decide) (by decide) (by decide) o M w h hk gF iq hn hM
 ·exact uZ B b 1 a0 xa xb xc xd nm vl ks A cap (.inr rfl) (by decide) (by decide) (by decide) (by decide) (by decide) (by decide) o M w h hk gF iq hn hM
 ·exact Uh B b a0 xa xb xc xd nm vl ks A cap o M w h hk gF iq hn hM
theorem CH (B b:Nat) (kd a0 xa xb xc xd:Int) (nm vl:List UInt8) (ks:List Nd) (A:Option Addr) (cap:Nat) (h4:kd=45) (cI:ks.length≤cap) (M4:∀i (hi:i<ks.length),JB ks[i]) (o:Option St) (M:Nat) (w:World) (h:cC w B b o M) (hk:sw B w ks A) (gF:∀i (hi:i<ks.length),sY ks[i]) (iq:im kd xa xb xc xd nm vl) (hn:ks.length≤1000000) (hM:M+1500+2000*aC ks≤1099511627776):
 Calls Tryz.prog 112 #[.pointer (some ⟨b,0,none⟩),.agg (aw kd a0 nm vl xa xb xc xd (.slice A ks.length cap)).toArray] w (ie B b w (o.bind (vS aM (.mk kd a0 nm vl xa xb xc xd ks) (aG aM aT ks))) (M+1500+2000*aC ks)):=by
 subst h4
 exact Ui B b a0 xa xb xc xd nm vl ks A cap o M w h hk gF iq cI hn hM
end Go.Proofs.YtddoehnkgcbboaaGreatDoor
