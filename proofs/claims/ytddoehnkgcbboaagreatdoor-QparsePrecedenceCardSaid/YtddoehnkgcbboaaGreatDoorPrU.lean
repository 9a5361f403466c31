/- Packed by program: a part of the proof; the last file says what is proved. -/
import Derived.Test.YtddoehnkgcbboaaGreatDoorPrN
import Derived.Test.YtddoehnkgcbboaaGreatDoorPrS
set_option maxHeartbeats 16000000
set_option maxRecDepth 100000
set_option linter.unusedVariables false
set_option linter.unusedSimpArgs false
namespace Go.Proofs.YtddoehnkgcbboaaGreatDoor
open Go.RowKit Go.Shelf
theorem Fe {L:List Lx} {k:Nat} (h:k<L.length):fX L k=L[k].text:=by unfold fX;rw [List.getElem?_eq_getElem h]
theorem JC (p:PS) (F:Nat) (un qK:Nat→PR Nd) (mA:sq p) (hu:bQ p 249 un F) (Ym:bQ p 268 qK (F+1)):bQ p 249 (Gj p.L p.en un qK) (F+1):=by
 intro k w hF h
 have aN:p.b<w.heap.size:=h.row.lt
 have hb0:Below w.heap.size w (w.alloc (.cells bJ 25)):=(Below.refl _ _).alloc (Nat.le_refl _) _
 have fO:Row (w.alloc (.cells bJ 25)) w.heap.size 25 bJ:=Row.new _ _ _
 have PL:=aa (fun (k:Nat) (W:World) (h:bc p W k)=>dZ p k W h)
 have Rv:=aa (dZ p k _ (h.below hb0))
 have AC:=aa (fun (k:Nat) (wd:List UInt8) (W:World) (h:bc p W k)=>cR p k wd W h)
 have EX:=aa (fun (k:Nat) (wd:List UInt8) (W:World) (h:bc p W k)=>eK p k wd W h)
 have NM:=aa (fun (k:Nat) (W:World) (h:bc p W k)=>oq p k 32768 W h)
 have HN:=aa (fun (W:World) (h:bc p W (k+1))=>hu (k+1) W (by omega) h)
 have HP:=aa (fun (W:World) (h:bc p W k)=>Ym k W hF h)
 have H:=aa h
 have ke:=aa hb0
 have lN:=aa fO
 have HNG:=aa mA
 obtain ⟨RR,jC⟩:∃RR,Gj p.L p.en un qK k=RR:=⟨_,rfl⟩
 have ze:=aa jC
 rw [jC]
 generalize hpl:dy p.L p.en k=pl at Rv
 have Dr:=aa hpl
 clear hu Ym mA h hb0 fO jC hpl
 go_enter Tryz.func249,Tryz.ntmps249
 go_wp2_with fail
 refine Rv.out.mono ?_
 rintro e w1 ⟨rfl,hb1⟩
 have hr1:Row w1 w.heap.size 25 bJ:=lN.out.below hb1 lN.out.lt
 have hb2:Below w.heap.size w w1:=ke.out.trans (hb1.mono ke.out.size)
 have vt:=aa (AC.out k [126] w1 (H.out.below hb2))
 have gJ:=aa hr1
 have fu:=aa hb2
 clear hb1 hb2 hr1
 cases hI:bH p.L k [126] with
 |true=>
  rw [hI] at vt
  have HU:=aa (show RR=(un (k+1)).bind fun x k'=>.ok (.mk 8 pl [] [] 0 0 0 0 [x]) k' from by rw [←ze.out];unfold Gj;rw [if_pos (show bH p.L k kg=true from hI),Dr.out])
  clear HP hI
  go_wp2_with fail
  refine vt.out.mono ?_
  rintro e w2 ⟨rfl,h2,hk2⟩
  have nz:=aa (gJ.out.keep hk2 (by show¬w.heap.size=p.b;omega))
  have Ac:=aa ((af.of_below (C:=fun c=>c=p.b) fu.out (Nat.le_refl _)).trans hk2)
  have hz2:w.heap.size<w2.heap.size:=nz.out.lt
  have X:=aa (HN.out w2 h2)
  clear h2 hk2
  cases hx:un (k+1) with
  |err a er=>
   rw [hx] at X
   have HE:=aa (show RR=.err a er from by rw [HU.out,hx];rfl)
   clear hx
   go_wp2_with fail
   refine X.out.mono ?_
   rintro e w3 ⟨rfl,hk3⟩
   go_wp2
   exact ⟨rfl,by rw [HE.out];exact ⟨rfl,Ac.out.trans hk3⟩⟩
  |ok x k'=>
   rw [hx] at X
   have HE:=aa (show RR=.ok (.mk 8 pl [] [] 0 0 0 0 [x]) k' from by rw [HU.out,hx];rfl)
   clear hx
   go_wp2_with fail
   refine X.out.mono ?_
   rintro e w3 ⟨⟨v,rfl,cs,rfl,aB⟩,h3,hk3⟩
   have hr3:Row w3 w.heap.size 25 bJ:=nz.out.keep hk3 (by show¬w.heap.size=p.b;omega)
   have gM:=Ac.out.trans hk3
   have hz3:=hk3.size
   have cN:=aa aB
   cases aB with
   |mk kd a0 nm vl xa xb xc xd ks A cap bF hl iG hr=>
    unfold aw
    have hr4:=hr3.alloc (.cells [aw kd a0 nm vl xa xb xc xd (.slice A ks.length cap)].flatten.toArray 25)
    have hb4:Below w3.heap.size w3 (w3.alloc (.cells [aw kd a0 nm vl xa xb xc xd (.slice A ks.length cap)].flatten.toArray 25)):=(Below.refl _ _).alloc (Nat.le_refl _) _
    generalize jA:w3.alloc (.cells [aw kd a0 nm vl xa xb xc xd (.slice A ks.length cap)].flatten.toArray 25)=W4 at hr4 hb4
    have lB:w3.alloc (.cells #[.int .i64 kd,.int .i64 a0,.string (ae nm),.string (ae vl),.int .i64 xa,.int .i64 xb,.int .i64 xc,.int .i64 xd,.slice A ks.length cap] 25)=W4:=jA
    have NK:=aa (zg cN.out hz2 hz3 jA.symm 8 pl 0 0 0 0 [] [] 1)
    obtain ⟨e0,e1,e2,e3,e4,e5,e6,e7,e8⟩:=aj hr4
    obtain ⟨Gr,Gs,EO,Gt,Gu,Gv,Gw,Gx,Gy⟩:=aA hr4
    clear hl iG hr jA hr3
    go_wp2_with fail
    refine bodyPost_ret (v:=.agg #[.int .i64 8,.int .i64 pl,.string {data:=#[]},.string {data:=#[]},.int .i64 0,.int .i64 0,.int .i64 0,.int .i64 0,.slice (some ⟨w3.heap.size,0,none⟩) 1 1]) (ag rfl _ _ w.heap.size 25 _ _ _ rfl (av hr4 _ _ _ _ _ _ _ _ _) Tryz.underlying25 rfl (by kernel_rfl)) rfl ?_
    have hbl:=ak (W:=W4) (Nat.le_refl w.heap.size) (.int .i64 8) (.int .i64 pl) (.string {data:=#[]}) (.string {data:=#[]}) (.int .i64 0) (.int .i64 0) (.int .i64 0) (.int .i64 0) (.slice (some ⟨w3.heap.size,0,none⟩) 1 1)
    rw [HE.out]
    exact ⟨⟨_,rfl,NK.out⟩,H.out.above (h3.below hb4) hbl,(gM.trans (af.of_below hb4 (Nat.le_refl _))).over hbl⟩
 |false=>
  rw [hI] at vt
  clear HN
  go_wp2_with fail
  refine vt.out.mono ?_
  rintro e w2 ⟨rfl,h2,hk2⟩
  have nz:=aa (gJ.out.keep hk2 (by show¬w.heap.size=p.b;omega))
  have Ac:=aa ((af.of_below (C:=fun c=>c=p.b) fu.out (Nat.le_refl _)).trans hk2)
  have h2':bc p w2 k:=h2
  have PZ:=aa (AC.out k [45] w2 h2')
  have H2:=aa h2'
  clear h2 h2' hk2
  cases hJ:bH p.L k [45] with
  |true=>
   rw [hJ] at PZ
   have hU:=aa (show RR=(if bT p.L (k+1) 4 then .ok (.mk 4 pl [] (yV (fX p.L (k+1))) 0 0 0 0 []) (k+2) else fj p.L p.en (k+1)) from by
    rw [←ze.out];unfold Gj
    rw [if_neg (show¬bH p.L k kg=true from by rw [show bH p.L k kg=false from hI];decide),if_pos (show bH p.L k qJ=true from hJ),Dr.out])
   clear HP hI hJ
   go_wp2_with fail
   refine PZ.out.mono ?_
   rintro e w3 ⟨rfl,h3,hk3⟩
   have qa:=aa (nz.out.keep hk3 (by show¬w.heap.size=p.b;omega))
   have Kc:=aa (Ac.out.trans hk3)
   have X:=aa (mz p (k+1) 4 w3 h3)
   clear h3 hk3
   cases hk4:bT p.L (k+1) 4 with
   |false=>
    rw [pI hk4] at X
    have HE:=aa (show RR=.err (dy p.L p.en (k+1)) 3 from by rw [hU.out,if_neg (by rw [hk4];decide)];rfl)
    clear hU hk4
    go_wp2_with fail
    refine X.out.mono ?_
    rintro e w4 ⟨rfl,hk5⟩
    go_wp2
    exact ⟨rfl,by rw [HE.out];exact ⟨rfl,Kc.out.trans hk5⟩⟩
   |true=>
    rw [ia hk4] at X
    have hlt:=dc hk4
    have yL:(p.L[k+1]'hlt).kind=4:=by
     rw [pH hlt,Bool.and_eq_true,decide_eq_true_eq] at hk4;exact hk4.1
    have NG:=aa (HNG.out _ (List.getElem_mem hlt) yL)
    have HE:=aa (show RR=.ok (.mk 4 pl [] (yV (p.L[k+1]'hlt).text) 0 0 0 0 []) (k+2) from by rw [hU.out,if_pos hk4,Fe hlt])
    generalize p.L[k+1]=x at*
    have hfd:∀W:World,(Instr.field 66 (.agg #[.int .i64 x.kind,.string (ae x.text),.int .i64 (x.aJ:Int)]) 1).run Tryz.prog W=.ok (.string (ae x.text)) W:=fun _=>by kernel_rfl
    rw [yL] at hfd
    clear hU hk4 hlt
    go_wp2_with fail
    refine X.out.mono ?_
    rintro e w4 ⟨⟨v,rfl,rfl⟩,h4,hk5⟩
    have hr4:Row w4 w.heap.size 25 bJ:=qa.out.keep hk5 (by show¬w.heap.size=p.b;omega)
    have Lg:=aa hr4
    have ZS:=aa (Kc.out.trans hk5)
    have H4:=aa h4
    clear hr4 h4 hk5
    go_wp2_with fail
    refine (NG.out w4 H4.out.gl).mono ?_
    rintro e w5 ⟨rfl,hb5⟩
    have lV:Row w5 w.heap.size 25 bJ:=Lg.out.below hb5 Lg.out.lt
    have uw:=aa (ZS.out.trans (af.of_below hb5 (Nat.le_refl _)))
    have H5:=aa (H4.out.below hb5)
    clear hb5
    obtain ⟨e0,e1,e2,e3,e4,e5,e6,e7,e8⟩:=aj lV
    obtain ⟨Gr,Gs,EO,Gt,Gu,Gv,Gw,Gx,Gy⟩:=aA lV
    go_wp2_with fail
    refine bodyPost_ret (v:=.agg #[.int .i64 4,.int .i64 pl,.string {data:=#[]},.string (ae (yV x.text)),.int .i64 0,.int .i64 0,.int .i64 0,.int .i64 0,.slice none 0 0]) (ag rfl _ _ w.heap.size 25 _ _ _ rfl (av lV _ _ _ _ _ _ _ _ _) Tryz.underlying25 rfl (by kernel_rfl)) rfl ?_
    have hbl:=ak (W:=w5) (Nat.le_refl w.heap.size) (.int .i64 4) (.int .i64 pl) (.string {data:=#[]}) (.string (ae (yV x.text))) (.int .i64 0) (.int .i64 0) (.int .i64 0) (.int .i64 0) (.slice none 0 0)
    rw [HE.out]
    exact ⟨⟨_,rfl,_,rfl,cG.leaf _ _ 4 pl [] (yV x.text) 0 0 0 0 none 0⟩,H.out.above H5.out hbl,uw.out.over hbl⟩
  |false=>
   rw [hJ] at PZ
   have HU:=aa (show RR=(qK k).bind fun n k1=>if bH p.L k1 fh then mn p.L p.en n k1 else .ok n k1 from by
    rw [←ze.out];unfold Gj
    rw [if_neg (show¬bH p.L k kg=true from by rw [show bH p.L k kg=false from hI];decide),if_neg (show¬bH p.L k qJ=true from by rw [show bH p.L k qJ=false from hJ];decide)])
   clear hI hJ ze Dr
   go_wp2_with fail
   refine PZ.out.mono ?_
   rintro e w3 ⟨rfl,h3,hk3⟩
   have qa:=aa (nz.out.keep hk3 (by show¬w.heap.size=p.b;omega))
   have Kc:=aa (Ac.out.trans hk3)
   have hz3:w.heap.size<w3.heap.size:=qa.out.lt
   have X:=aa (HP.out w3 h3)
   clear h3 hk3
   cases hx:qK k with
   |err a er=>
    rw [hx] at X
    have HE:=aa (show RR=.err a er from by rw [HU.out,hx];rfl)
    clear hx
    go_wp2_with fail
    refine X.out.mono ?_
    rintro e w4 ⟨rfl,hk4⟩
    go_wp2
    exact ⟨rfl,by rw [HE.out];exact ⟨rfl,Kc.out.trans hk4⟩⟩
   |ok n k1=>
    rw [hx] at X
    have fB:=aa (show RR=if bH p.L k1 fh then mn p.L p.en n k1 else .ok n k1 from by rw [HU.out,hx];rfl)
    clear hx
    go_wp2_with fail
    refine X.out.mono ?_
    rintro e w4 ⟨⟨v,rfl,cs,rfl,aB⟩,h4,hk4⟩
    have hr4:Row w4 w.heap.size 25 bJ:=qa.out.keep hk4 (by show¬w.heap.size=p.b;omega)
    have hB1:w.heap.size<w4.heap.size:=hr4.lt
    have zN:=aa (bR.new h4 (Kc.out.trans hk4) hr4 aB hz3)
    cases aB with
    |mk kd a0 nm vl xa xb xc xd ks A cap bF hl iG hr=>
     clear hl iG hr h4 hk4 hr4
     generalize pA:w4.alloc (.cells (aw kd a0 nm vl xa xb xc xd (.slice A ks.length cap)).toArray 25)=W5 at zN
     have zr:w4.alloc (.cells #[.int .i64 kd,.int .i64 a0,.string (ae nm),.string (ae vl),.int .i64 xa,.int .i64 xb,.int .i64 xc,.int .i64 xd,.slice A ks.length cap] 25)=W5:=pA
     clear pA
     unfold aw
     have PL5:=aa (PL.out k1 W5 zN.out.at_)
     go_wp2_with fail
     clear zr
     refine PL5.out.mono ?_
     rintro e W6 ⟨rfl,bA⟩
     have Co:=zN.out.below aN hB1 bA
     have ZT:=aa (AC.out k1 [91] W6 Co.at_)
     have Dp:=aa Co
     clear bA Co
     cases hK:bH p.L k1 [91] with
     |false=>
      rw [hK] at ZT
      have HE:=aa (show RR=.ok (.mk kd a0 nm vl xa xb xc xd ks) k1 from by rw [fB.out,if_neg (show¬bH p.L k1 fh=true from by rw [show bH p.L k1 fh=false from hK];decide)])
      clear hK HU fB
      go_wp2_with fail
      refine ZT.out.mono ?_
      rintro e W7 ⟨rfl,h7,XX⟩
      have ZU:=Dp.out.keep aN hB1 h7 XX
      obtain ⟨h7,bS,hres,hrow,aB⟩:=ZU
      obtain ⟨d0,d1,d2,d3,d4,d5,d6,d7,d8⟩:=aj hrow
      obtain ⟨e0,e1,e2,e3,e4,e5,e6,e7,e8⟩:=aj hres
      obtain ⟨Gr,Gs,EO,Gt,Gu,Gv,Gw,Gx,Gy⟩:=aA hres
      have cN:=aa aB
      clear hrow aB
      go_wp2_with fail
      refine bodyPost_ret (v:=.agg #[.int .i64 kd,.int .i64 a0,.string (ae nm),.string (ae vl),.int .i64 xa,.int .i64 xb,.int .i64 xc,.int .i64 xd,.slice A ks.length cap]) (ag rfl _ _ w.heap.size 25 _ _ _ rfl (av hres _ _ _ _ _ _ _ _ _) Tryz.underlying25 rfl (by kernel_rfl)) rfl ?_
      have hbl:=ak (W:=W7) (Nat.le_refl w.heap.size) (.int .i64 kd) (.int .i64 a0) (.string (ae nm)) (.string (ae vl)) (.int .i64 xa) (.int .i64 xb) (.int .i64 xc) (.int .i64 xd) (.slice A ks.length cap)
      rw [HE.out]
      exact ⟨⟨_,rfl,_,rfl,(cN.out.keeps (ax (C:=fun b=>b≤w.heap.size∨b=w4.heap.size) (.inl (Nat.le_refl _)) _ _ _ _ _ _ _ _ _)).mono (fun b hb'=>.inl (Nat.le_of_lt hb'))⟩,H.out.above h7 hbl,bS.over hbl⟩
     |true=>
      rw [hK] at ZT
      have fP:=aa (show RR=mn p.L p.en (.mk kd a0 nm vl xa xb xc xd ks) k1 from by rw [fB.out,if_pos (show bH p.L k1 fh=true from hK)])
      generalize Yn:dy p.L p.en k1=Kg
      have aa3:=aa Yn
      clear hK HU fB Yn
      go_wp2_with fail
      refine ZT.out.mono ?_
      rintro e W7 ⟨rfl,h7,XX⟩
      have ZU:=Dp.out.keep aN hB1 h7 XX
      have HL7:=aa ZU
      obtain ⟨h7,bS,hres,hrow,aB⟩:=ZU
      obtain ⟨d0,d1,d2,d3,d4,d5,d6,d7,d8⟩:=aj hrow
      have oB:=hrow.alloc (.cells [aw kd a0 nm vl xa xb xc xd (.slice A ks.length cap)].flatten.toArray 25)
      generalize P_:W7.alloc (.cells [aw kd a0 nm vl xa xb xc xd (.slice A ks.length cap)].flatten.toArray 25)=W8 at oB
      have ab6:W7.alloc (.cells #[.int .i64 kd,.int .i64 a0,.string (ae nm),.string (ae vl),.int .i64 xa,.int .i64 xb,.int .i64 xc,.int .i64 xd,.slice A ks.length cap] 25)=W8:=P_
      have HL8:=aa (bR.wrap H.out aN hB1 HL7.out P_.symm 6 Kg)
      obtain ⟨g0,g1,g2,g3,g4,g5,g6,g7,g8⟩:=aj oB
      obtain ⟨fg0,fg1,fg2,fg3,fg4,fg5,fg6,fg7,fg8⟩:=aA oB
      clear P_ hrow hres aB bS
      have ZV:=aa (NM.out (k1+1) _ HL8.out.at_)
      cases hA:eC p.L p.en (k1+1) 32768 with
      |err a er=>
       rw [hA] at ZV
       have HE:=aa (show RR=.err a er from by rw [fP.out];unfold mn;rw [hA];rfl)
       clear hA
       go_wp2_with fail
       refine ZV.out.mono ?_
       rintro e W9 ⟨rfl,Uj⟩
       go_wp2
       exact ⟨rfl,by rw [HE.out];exact ⟨rfl,HL8.out.keeps.trans Uj⟩⟩
      |ok na k2=>
       rw [hA] at ZV
       have gq:=aa (show RR=if bH p.L k2 ug then (eC p.L p.en (k2+1) 32768).bind fun b k3=>(ah p.L p.en k3 dU).bind fun _ k4=>.ok (.mk 6 Kg [] [] na b 0 0 [.mk kd a0 nm vl xa xb xc xd ks]) k4
        else (ah p.L p.en k2 dU).bind fun _ k4=>.ok (.mk 6 Kg [] [] na na 0 0 [.mk kd a0 nm vl xa xb xc xd ks]) k4 from by rw [fP.out];unfold mn;rw [hA,aa3.out];rfl)
       clear hA fP
       go_wp2_with fail
       refine ZV.out.mono ?_
       rintro e W9 ⟨⟨v,rfl,rfl⟩,h9,Uj⟩
       have Yo:=HL8.out.keep aN hB1 h9 Uj
       have HL9:=aa Yo
       have i4:W9.cell? ⟨w4.heap.size,4,none⟩=some (.int .i64 0):=Yo.row.cell 4
       have Ub:=Yo.row.frozen 4
       have JD:=Yo.uC H.out hB1 na
       generalize MQ:W9.setCell ⟨w4.heap.size,4,none⟩ (.int .i64 na)=lO at JD
       have j4:lO.cell? ⟨w4.heap.size,4,none⟩=some (.int .i64 na):=JD.row.cell 4
       have j5:lO.cell? ⟨w4.heap.size,5,none⟩=some (.int .i64 0):=JD.row.cell 5
       have fj5:=JD.row.frozen 5
       have P':=JD.sr H.out hB1 na
       generalize uS:lO.setCell ⟨w4.heap.size,5,none⟩ (.int .i64 na)=vP at P'
       have Yp:=aa P'
       have Qa:=aa (AC.out k2 [58] vP P'.at_)
       clear Yo JD P' h9 Uj
       cases hC:bH p.L k2 [58] with
       |false=>
        rw [hC] at Qa
        have su:=aa (show RR=(ah p.L p.en k2 dU).bind fun _ k4=>.ok (.mk 6 Kg [] [] na na 0 0 [.mk kd a0 nm vl xa xb xc xd ks]) k4 from by rw [gq.out,if_neg (show¬bH p.L k2 ug=true from by rw [show bH p.L k2 ug=false from hC];decide)])
        clear hC gq
        go_wp2_with fail
        refine Qa.out.mono ?_
        rintro e IU ⟨rfl,Ab,vW⟩
        have Ff:=aa (Yp.out.keep aN hB1 Ab vW)
        clear Ab vW MQ uS
        have Qb:=aa (EX.out k2 [93] IU Ff.out.at_)
        cases hD:ah p.L p.en k2 [93] with
        |err a er=>
         rw [hD] at Qb
         have HE:=aa (show RR=.err a er from by rw [su.out,show ah p.L p.en k2 dU=.err a er from hD];rfl)
         clear hD
         go_wp2_with fail
         refine Qb.out.mono ?_
         rintro e Rf ⟨rfl,Fg⟩
         go_wp2
         exact ⟨rfl,by rw [HE.out];exact ⟨rfl,Ff.out.keeps.trans Fg⟩⟩
        |ok u k4=>
         rw [hD] at Qb
         have HE:=aa (show RR=.ok (.mk 6 Kg [] [] na na 0 0 [.mk kd a0 nm vl xa xb xc xd ks]) k4 from by rw [su.out,show ah p.L p.en k2 dU=.ok u k4 from hD];rfl)
         clear hD
         go_wp2_with fail
         refine Qb.out.mono ?_
         rintro e Rf ⟨⟨v,rfl,rfl⟩,Uk,Fg⟩
         have Ul:=Ff.out.keep aN hB1 Uk Fg
         obtain ⟨Uk,bS,hres,hrow,aB⟩:=Ul
         obtain ⟨z0,z1,z2,z3,z4,z5,z6,z7,z8⟩:=aj hrow
         obtain ⟨y0,y1,y2,y3,y4,y5,y6,y7,y8⟩:=aj hres
         obtain ⟨zu,zv,zw,zx,zy,zz,zA,zB,zC⟩:=aA hres
         have cN:=aa aB
         clear hrow aB
         go_wp2_with fail
         refine bodyPost_ret (v:=.agg #[.int .i64 6,.int .i64 Kg,.string {data:=#[]},.string {data:=#[]},.int .i64 na,.int .i64 na,.int .i64 0,.int .i64 0,.slice (some ⟨W7.heap.size,0,none⟩) 1 1]) (ag rfl _ _ w.heap.size 25 _ _ _ rfl (av hres _ _ _ _ _ _ _ _ _) Tryz.underlying25 rfl (by kernel_rfl)) rfl ?_
         have hbl:=ak (W:=Rf) (Nat.le_refl w.heap.size) (.int .i64 6) (.int .i64 Kg) (.string {data:=#[]}) (.string {data:=#[]}) (.int .i64 na) (.int .i64 na) (.int .i64 0) (.int .i64 0) (.slice (some ⟨W7.heap.size,0,none⟩) 1 1)
         rw [HE.out]
         exact ⟨⟨_,rfl,_,rfl,(cN.out.keeps (ax (C:=fun b=>b≤w.heap.size∨b=w4.heap.size) (.inl (Nat.le_refl _)) _ _ _ _ _ _ _ _ _)).mono (fun b hb'=>.inl (Nat.le_of_lt hb'))⟩,H.out.above Uk hbl,bS.over hbl⟩
       |true=>
        rw [hC] at Qa
        have su:=aa (show RR=(eC p.L p.en (k2+1) 32768).bind fun b k3=>(ah p.L p.en k3 dU).bind fun _ k4=>.ok (.mk 6 Kg [] [] na b 0 0 [.mk kd a0 nm vl xa xb xc xd ks]) k4 from by rw [gq.out,if_pos (show bH p.L k2 ug=true from hC)])
        clear hC gq
        go_wp2_with fail
        refine Qa.out.mono ?_
        rintro e IU ⟨rfl,Ab,vW⟩
        have Ff:=aa (Yp.out.keep aN hB1 Ab vW)
        clear Ab vW MQ uS
        have Qc:=aa (NM.out (k2+1) IU Ff.out.at_)
        cases hA:eC p.L p.en (k2+1) 32768 with
        |err a er=>
         rw [hA] at Qc
         have HE:=aa (show RR=.err a er from by rw [su.out,hA];rfl)
         clear hA
         go_wp2_with fail
         refine Qc.out.mono ?_
         rintro e IV ⟨rfl,Qd⟩
         go_wp2
         exact ⟨rfl,by rw [HE.out];exact ⟨rfl,Ff.out.keeps.trans Qd⟩⟩
        |ok nb k3=>
         rw [hA] at Qc
         have sW:=aa (show RR=(ah p.L p.en k3 dU).bind fun _ k4=>.ok (.mk 6 Kg [] [] na nb 0 0 [.mk kd a0 nm vl xa xb xc xd ks]) k4 from by rw [su.out,hA];rfl)
         clear hA su
         go_wp2_with fail
         refine Qc.out.mono ?_
         rintro e IV ⟨⟨v,rfl,rfl⟩,za,Qd⟩
         have Qe:=Ff.out.keep aN hB1 za Qd
         have i5:IV.cell? ⟨w4.heap.size,5,none⟩=some (.int .i64 na):=Qe.row.cell 5
         have Uc:=Qe.row.frozen 5
         have Um:=Qe.sr H.out hB1 nb
         generalize zO:IV.setCell ⟨w4.heap.size,5,none⟩ (.int .i64 nb)=J_ at Um
         have Un:=aa Um
         clear Qe Um za Qd
         have Qf:=aa (EX.out k3 [93] J_ Un.out.at_)
         cases hD:ah p.L p.en k3 [93] with
         |err a er=>
          rw [hD] at Qf
          have HE:=aa (show RR=.err a er from by rw [sW.out,show ah p.L p.en k3 dU=.err a er from hD];rfl)
          clear hD
          go_wp2_with fail
          refine Qf.out.mono ?_
          rintro e Rf ⟨rfl,Fg⟩
          go_wp2
          exact ⟨rfl,by rw [HE.out];exact ⟨rfl,Un.out.keeps.trans Fg⟩⟩
         |ok u k4=>
          rw [hD] at Qf
          have HE:=aa (show RR=.ok (.mk 6 Kg [] [] na nb 0 0 [.mk kd a0 nm vl xa xb xc xd ks]) k4 from by rw [sW.out,show ah p.L p.en k3 dU=.ok u k4 from hD];rfl)
          clear hD
          go_wp2_with fail
          refine Qf.out.mono ?_
          rintro e Rf ⟨⟨v,rfl,rfl⟩,Uk,Fg⟩
          have Ul:=Un.out.keep aN hB1 Uk Fg
          obtain ⟨Uk,bS,hres,hrow,aB⟩:=Ul
          obtain ⟨z0,z1,z2,z3,z4,z5,z6,z7,z8⟩:=aj hrow
          obtain ⟨y0,y1,y2,y3,y4,y5,y6,y7,y8⟩:=aj hres
          obtain ⟨zu,zv,zw,zx,zy,zz,zA,zB,zC⟩:=aA hres
          have cN:=aa aB
          clear hrow aB
          go_wp2_with fail
          refine bodyPost_ret (v:=.agg #[.int .i64 6,.int .i64 Kg,.string {data:=#[]},.string {data:=#[]},.int .i64 na,.int .i64 nb,.int .i64 0,.int .i64 0,.slice (some ⟨W7.heap.size,0,none⟩) 1 1]) (ag rfl _ _ w.heap.size 25 _ _ _ rfl (av hres _ _ _ _ _ _ _ _ _) Tryz.underlying25 rfl (by kernel_rfl)) rfl ?_
          have hbl:=ak (W:=Rf) (Nat.le_refl w.heap.size) (.int .i64 6) (.int .i64 Kg) (.string {data:=#[]}) (.string {data:=#[]}) (.int .i64 na) (.int .i64 nb) (.int .i64 0) (.int .i64 0) (.slice (some ⟨W7.heap.size,0,none⟩) 1 1)
          rw [HE.out]
          exact ⟨⟨_,rfl,_,rfl,(cN.out.keeps (ax (C:=fun b=>b≤w.heap.size∨b=w4.heap.size) (.inl (Nat.le_refl _)) _ _ _ _ _ _ _ _ _)).mono (fun b hb'=>.inl (Nat.le_of_lt hb'))⟩,H.out.above Uk hbl,bS.over hbl⟩
end Go.Proofs.YtddoehnkgcbboaaGreatDoor
namespace Go.Proofs.YtddoehnkgcbboaaGreatDoor
open Go.RowKit Go.Shelf Go.Maps
open Go.ChangeMaps (setBlock)
def nw:List (Int×Int):=[(0,1),(1,3),(3,2),(4,4),(5,5)]
def aH:Array MapEntry:=#[{key:=.int .i64 0,val:=.int .i64 1,born:=0},{key:=.int .i64 1,val:=.int .i64 3,born:=1},{key:=.int .i64 3,val:=.int .i64 2,born:=2},{key:=.int .i64 4,val:=.int .i64 4,born:=3},{key:=.int .i64 5,val:=.int .i64 5,born:=4}]
def MR (w:World) (r:Nat):Prop:=w.heap[r]? =some (.map aH 5)
theorem km (w:World):Calls Tryz.prog 182 #[] w fun e w'=>e=.returned (.map (some w.heap.size))∧MR w' w.heap.size∧Below w.heap.size w w':=by
 have hmm:=@run_makeMap Tryz.prog
 have hb0:(w.alloc (.map #[] 0)).heap[w.heap.size]? =some (.map #[] 0):=(MapKept.heap_alloc w _).1
 obtain ⟨W1,r1,hb1,b1⟩:=s9 _ _ _ _ _ _ _ _ (.int .i64 0) (.int .i64 1) Tryz.underlying124 Tryz.underlying3 rfl hb0 rfl
 obtain ⟨W2,r2,hb2,b2⟩:=s9 _ _ _ _ _ _ _ _ (.int .i64 1) (.int .i64 3) Tryz.underlying124 Tryz.underlying3 rfl hb1 rfl
 obtain ⟨W3,r3,hb3,b3⟩:=s9 _ _ _ _ _ _ _ _ (.int .i64 3) (.int .i64 2) Tryz.underlying124 Tryz.underlying3 rfl hb2 rfl
 obtain ⟨W4,r4,hb4,b4⟩:=s9 _ _ _ _ _ _ _ _ (.int .i64 4) (.int .i64 4) Tryz.underlying124 Tryz.underlying3 rfl hb3 rfl
 obtain ⟨W5,r5,hb5,b5⟩:=s9 _ _ _ _ _ _ _ _ (.int .i64 5) (.int .i64 5) Tryz.underlying124 Tryz.underlying3 rfl hb4 rfl
 have B:=((((((Below.refl w.heap.size w).alloc (Nat.le_refl _) _).trans (b1 _ (Nat.le_refl _))).trans (b2 _ (Nat.le_refl _))).trans (b3 _ (Nat.le_refl _))).trans (b4 _ (Nat.le_refl _))).trans (b5 _ (Nat.le_refl _))
 go_enter Tryz.func182,Tryz.ntmps182
 go_wp2
 go_ret
 exact ⟨rfl,hb5,B⟩
theorem JE:∀e∈aH.toList,∃o∈nw,e.key=.int .i64 o.1∧e.val=.int .i64 o.2:=by
 intro e he
 simp only [aH,List.mem_cons,List.not_mem_nil,or_false] at he
 rcases he with rfl|rfl|rfl|rfl|rfl
 ·exact ⟨(0,1),by decide,rfl,rfl⟩
 ·exact ⟨(1,3),by decide,rfl,rfl⟩
 ·exact ⟨(3,2),by decide,rfl,rfl⟩
 ·exact ⟨(4,4),by decide,rfl,rfl⟩
 ·exact ⟨(5,5),by decide,rfl,rfl⟩
theorem JF:∀o∈nw,∃e∈aH.toList,e.key=.int .i64 o.1:=by
 intro o ho
 simp only [nw,List.mem_cons,List.not_mem_nil,or_false] at ho
 rcases ho with rfl|rfl|rfl|rfl|rfl
 ·exact ⟨_,List.mem_cons_self,rfl⟩
 ·exact ⟨_,List.mem_cons_of_mem _ List.mem_cons_self,rfl⟩
 ·exact ⟨_,List.mem_cons_of_mem _ (List.mem_cons_of_mem _ List.mem_cons_self),rfl⟩
 ·exact ⟨_,List.mem_cons_of_mem _ (List.mem_cons_of_mem _ (List.mem_cons_of_mem _ List.mem_cons_self)),rfl⟩
 ·exact ⟨_,List.mem_cons_of_mem _ (List.mem_cons_of_mem _ (List.mem_cons_of_mem _ (List.mem_cons_of_mem _ List.mem_cons_self))),rfl⟩
theorem bZ:(∀e∈aH.toList,e.born<5)∧(aH.toList.map (·.born)).Nodup:=by
 refine ⟨?_,by decide⟩
 intro e he
 simp only [aH,List.mem_cons,List.not_mem_nil,or_false] at he
 rcases he with rfl|rfl|rfl|rfl|rfl<;>decide
theorem Cp {L:List Lx} {k:Nat} {q:Int} (h:bT L k q=true):(L[k]'(dc h)).kind=q:=by
 rw [pH (dc h),Bool.and_eq_true,decide_eq_true_eq] at h;exact h.1
theorem eb {L:List Lx} {k:Nat} {q r:Int} (h:bT L k q=true) (hr:r≠q):bT L k r=false:=by
 cases h2:bT L k r with
 |false=>rfl
 |true=>exact absurd ((Cp h2).symm.trans (Cp h)) hr
def zP (pl:Int) (kd:Int) (txt:List UInt8):Nd:=if kd=1 then .mk 1 pl txt [] 0 0 0 0 [] else .mk kd pl [] txt 0 0 0 0 []
theorem Cq {L:List Lx} {en:Int} {k:Nat} {o:Int×Int} (ho:o∈nw) (h:bT L k o.1=true):iF L en k=some (zP (dy L en k) o.2 (fX L k)):=by
 simp only [nw,List.mem_cons,List.not_mem_nil,or_false] at ho
 unfold iF zP
 rcases ho with rfl|rfl|rfl|rfl|rfl
 ·rw [if_pos h,if_pos rfl]
 ·rw [if_neg (by rw [eb h (r:=0) (by decide)];decide),if_pos h,if_neg (by decide)]
 ·rw [if_neg (by rw [eb h (r:=0) (by decide)];decide),if_neg (by rw [eb h (r:=1) (by decide)];decide),if_pos h,if_neg (by decide)]
 ·rw [if_neg (by rw [eb h (r:=0) (by decide)];decide),if_neg (by rw [eb h (r:=1) (by decide)];decide),if_neg (by rw [eb h (r:=3) (by decide)];decide),if_pos h,if_neg (by decide)]
 ·rw [if_neg (by rw [eb h (r:=0) (by decide)];decide),if_neg (by rw [eb h (r:=1) (by decide)];decide),if_neg (by rw [eb h (r:=3) (by decide)];decide),if_neg (by rw [eb h (r:=4) (by decide)];decide),if_pos h,if_neg (by decide)]
theorem Cr {L:List Lx} {en:Int} {k:Nat} (h:∀o∈nw,bT L k o.1=false):iF L en k=none:=by
 have h0:=h (0,1) (by decide)
 have h1:=h (1,3) (by decide)
 have h3:=h (3,2) (by decide)
 have h4:=h (4,4) (by decide)
 have h5:=h (5,5) (by decide)
 simp only at h0 h1 h3 h4 h5
 unfold iF
 rw [h0,h1,h3,h4,h5]
 rfl
structure pT (p:PS) (w:World) (W:World) (k:Nat):Prop where
 at_:bc p W k
 keeps:af (fun c=>c=p.b) w W
 res:Row W w.heap.size 25 bJ
theorem pT.keep {p:PS} {w W W':World} {k k':Nat} (h:pT p w W k) (hb:p.b<w.heap.size) (ha:bc p W' k') (hk:af (fun c=>c=p.b) W W'):pT p w W' k':=
 ⟨ha,h.keeps.trans hk,h.res.keep hk (by show¬w.heap.size=p.b;omega)⟩
theorem pT.below {p:PS} {w W W':World} {k:Nat} (h:pT p w W k) (hb:p.b<w.heap.size) (hk:Below W.heap.size W W'):pT p w W' k:=h.keep hb (h.at_.below hk) (af.of_below hk (Nat.le_refl _))
theorem pT.lt {p:PS} {w W:World} {k:Nat} (h:pT p w W k):w.heap.size<W.heap.size:=h.res.lt
structure JG (p:PS) (w:World) (k bm it:Nat) (W:World) (seen:Array Nat) (c0:Nat):Prop where
 pr:pT p w W k
 map:MR W bm
 it:W.heap[it]? =some (.mapIter (some bm) 5 seen c0)
 since:5≤c0
theorem JG.below {p:PS} {w W W':World} {k bm it c0:Nat} {seen:Array Nat} (h:JG p w k bm it W seen c0) (hb:p.b<w.heap.size) (hk:Below W.heap.size W W'):JG p w k bm it W' seen c0:=
 ⟨h.pr.below hb hk,(hk.block _ (Array.getElem?_eq_some_iff.1 h.map).1).trans h.map,(hk.block _ (Array.getElem?_eq_some_iff.1 h.it).1).trans h.it,h.since⟩
theorem Fh {L:List Lx} {en:Int} {k k':Nat} {wd:List UInt8} {u:Unit} (h:ah L en k wd=.ok u k'):k≤k':=by
 unfold ah at h
 split at h
 ·cases h;exact Nat.le_succ _
 ·cases h
end Go.Proofs.YtddoehnkgcbboaaGreatDoor
