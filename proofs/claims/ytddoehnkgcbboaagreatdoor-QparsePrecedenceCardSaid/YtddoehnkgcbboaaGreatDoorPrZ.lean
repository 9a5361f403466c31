/- Packed by program: a part of the proof; the last file says what is proved. -/
import Derived.Test.YtddoehnkgcbboaaGreatDoorPrY
set_option maxHeartbeats 16000000
set_option maxRecDepth 100000
set_option linter.unusedVariables false
set_option linter.unusedSimpArgs false
namespace Go.Proofs.YtddoehnkgcbboaaGreatDoor
open Go.RowKit Go.Shelf Go.Maps
theorem Nj (p:PS) (mA:sq p) (F:Nat) (pat:Nat→PR Nd) (hq:bQ p 25 pat F):bQ p 98 (mo p.L p.en (cM p.L p.en (bX p)) pat) (F+1):=by
 intro k w hF h
 have aN:p.b<w.heap.size:=h.row.lt
 have hb0:Below w.heap.size w (w.alloc (.cells bJ 25)):=(Below.refl _ _).alloc (Nat.le_refl _) _
 have fO:Row (w.alloc (.cells bJ 25)) w.heap.size 25 bJ:=Row.new _ _ _
 have PL:=aa (fun (k:Nat) (W:World) (h:bc p W k)=>dZ p k W h)
 have Z_:=aa (cR p k [40] _ (h.below hb0))
 have AC:=aa (fun (k:Nat) (wd:List UInt8) (W:World) (h:bc p W k)=>cR p k wd W h)
 have EX:=aa (fun (k:Nat) (wd:List UInt8) (W:World) (h:bc p W k)=>eK p k wd W h)
 have HQ:=aa (fun (k':Nat) (W:World) (hk:k+1≤k') (h:bc p W k')=>hq k' W (by omega) h)
 have EV:=aa (fun (W:World) (h:bc p W k)=>JQ p mA k W h)
 have HC:=aa (fun (k':Nat) (W:World) (h:bc p W k')=>pW p mA k' W h)
 have H:=aa h
 have H0:=aa (show pT p w (w.alloc (.cells bJ 25)) k from ⟨h.below hb0,af.of_below hb0 (Nat.le_refl _),fO⟩)
 obtain ⟨cond,Ki⟩:∃c,cM p.L p.en (bX p)=c:=⟨_,rfl⟩
 rw [Ki] at EV HC⊢
 obtain ⟨RR,jC⟩:∃RR,mo p.L p.en cond pat k=RR:=⟨_,rfl⟩
 rw [jC]
 have Ag:=aa (show RR=if bH p.L k cj then (pat (k+1)).bind fun n k1=>(ah p.L p.en k1 ay).bind fun _ k2=>.ok n k2
  else (kh p.L p.en cond k).bind fun n k1=>if bH p.L k1 O9 then (cond (k1+1)).bind fun c k2=>.ok (.mk 44 (dy p.L p.en k1) [] [] 0 0 0 0 [n,c]) k2 else .ok n k1 from jC.symm)
 clear hq h hb0 fO jC Ki
 go_enter Tryz.func98,Tryz.ntmps98
 cases hI:bH p.L k [40] with
 |true=>
  rw [hI] at Z_
  have fB:=aa (show RR=(pat (k+1)).bind fun n k1=>(ah p.L p.en k1 ay).bind fun _ k2=>.ok n k2 from by rw [Ag.out,if_pos (show bH p.L k cj=true from hI)])
  clear hI Ag
  go_wp2_with fail
  refine Z_.out.mono ?_
  rintro e W2 ⟨rfl,h2,hk2⟩
  have H2:=aa (H0.out.keep aN h2 hk2)
  clear h2 hk2
  have nG:=aa (show RR=(pat (k+1)).bind fun n k'=>(ah p.L p.en k' ay).bind fun _ k2=>.ok n k2 from fB.out)
  have kp:=H2
  have X:=aa (HQ.out (k+1) W2 (by omega) H2.out.at_)
  cases hx:pat (k+1) with
  |err a er=>
   rw [hx] at X
   have HE:=aa (show RR=.err a er from by rw [nG.out,hx];rfl)
   clear hx
   go_wp2_with fail
   refine X.out.mono ?_
   rintro e nE ⟨rfl,bK⟩
   go_wp2
   exact ⟨rfl,by rw [HE.out];exact ⟨rfl,kp.out.keeps.trans bK⟩⟩
  |ok n k1=>
   rw [hx] at X
   have mX:=aa (show RR=(ah p.L p.en k1 ay).bind fun _ k2=>.ok n k2 from by rw [nG.out,hx];rfl)
   clear hx fB nG
   go_wp2_with fail
   refine X.out.mono ?_
   rintro e w3 ⟨⟨v,rfl,cs,rfl,aB⟩,h3,hk3⟩
   have hr3:Row w3 w.heap.size 25 bJ:=kp.out.res.keep hk3 (by show¬w.heap.size=p.b;omega)
   have hg:w.heap.size<w3.heap.size:=hr3.lt
   have hl3:=bR.new h3 (kp.out.keeps.trans hk3) hr3 aB kp.out.lt
   obtain ⟨kd,a0,nm,vl,xa,xb,xc,xd,A,len,cap,rfl⟩:=aB.nine
   generalize jA:w3.alloc (.cells (aw kd a0 nm vl xa xb xc xd (.slice A len cap)).toArray 25)=W4 at hl3
   have zN:=aa hl3
   have lB:w3.alloc (.cells #[.int .i64 kd,.int .i64 a0,.string (ae nm),.string (ae vl),.int .i64 xa,.int .i64 xb,.int .i64 xc,.int .i64 xd,.slice A len cap] 25)=W4:=jA
   clear h3 hk3 hr3 aB hl3 jA
   unfold aw
   have Qg:=aa (EX.out k1 [41] W4 zN.out.at_)
   cases hD:ah p.L p.en k1 [41] with
   |err a er=>
    rw [hD] at Qg
    have HE:=aa (show RR=.err a er from by rw [mX.out,show ah p.L p.en k1 ay=.err a er from hD];rfl)
    clear hD
    go_wp2_with fail
    refine Qg.out.mono ?_
    rintro e nE ⟨rfl,bK⟩
    go_wp2
    exact ⟨rfl,by rw [HE.out];exact ⟨rfl,zN.out.keeps.trans bK⟩⟩
   |ok u k2=>
    rw [hD] at Qg
    have HE:=aa (show RR=.ok n k2 from by rw [mX.out,show ah p.L p.en k1 ay=.ok u k2 from hD];rfl)
    clear hD
    go_wp2_with fail
    refine Qg.out.mono ?_
    rintro e W5 ⟨⟨v,rfl,rfl⟩,h5,hk5⟩
    have uT:=aa (zN.out.keep aN hg h5 hk5)
    clear h5 hk5 lB
    obtain ⟨vX,bS,hres,hrow,aB⟩:=uT.out
    obtain ⟨z0,z1,z2,z3,z4,z5,z6,z7,z8⟩:=aj hrow
    obtain ⟨y0,y1,y2,y3,y4,y5,y6,y7,y8⟩:=aj hres
    obtain ⟨zu,zv,zw,zx,zy,zz,zA,zB,zC⟩:=aA hres
    have cN:=aa aB
    clear hrow aB
    go_wp2_with fail
    refine bodyPost_ret (v:=.agg #[.int .i64 kd,.int .i64 a0,.string (ae nm),.string (ae vl),.int .i64 xa,.int .i64 xb,.int .i64 xc,.int .i64 xd,.slice A len cap]) (ag rfl _ _ w.heap.size 25 _ _ _ rfl (av hres _ _ _ _ _ _ _ _ _) Tryz.underlying25 rfl (by kernel_rfl)) rfl ?_
    have hbl:=ak (W:=W5) (Nat.le_refl w.heap.size) (.int .i64 kd) (.int .i64 a0) (.string (ae nm)) (.string (ae vl)) (.int .i64 xa) (.int .i64 xb) (.int .i64 xc) (.int .i64 xd) (.slice A len cap)
    rw [HE.out]
    exact ⟨⟨_,rfl,_,rfl,(cN.out.keeps (ax (C:=fun b=>b≤w.heap.size∨b=w3.heap.size) (.inl (Nat.le_refl _)) _ _ _ _ _ _ _ _ _)).mono (fun b hb'=>.inl (Nat.le_of_lt hb'))⟩,H.out.above vX hbl,bS.over hbl⟩
 |false=>
  rw [hI] at Z_
  have fB:=aa (show RR=(kh p.L p.en cond k).bind fun n k1=>if bH p.L k1 O9 then (cond (k1+1)).bind fun c k2=>.ok (.mk 44 (dy p.L p.en k1) [] [] 0 0 0 0 [n,c]) k2 else .ok n k1 from by rw [Ag.out,if_neg (show¬bH p.L k cj=true from by rw [show bH p.L k cj=false from hI];decide)])
  clear hI Ag
  go_wp2_with fail
  refine Z_.out.mono ?_
  rintro e W2 ⟨rfl,h2,hk2⟩
  have kp:=aa (H0.out.keep aN (show bc p W2 k from h2) hk2)
  clear h2 hk2
  have X:=aa (EV.out W2 kp.out.at_)
  cases hx:kh p.L p.en cond k with
  |err a er=>
   rw [hx] at X
   have HE:=aa (show RR=.err a er from by rw [fB.out,hx];rfl)
   clear hx
   go_wp2_with fail
   refine X.out.mono ?_
   rintro e nE ⟨rfl,bK⟩
   go_wp2
   exact ⟨rfl,by rw [HE.out];exact ⟨rfl,kp.out.keeps.trans bK⟩⟩
  |ok n k1=>
   rw [hx] at X
   have fP:=aa (show RR=if bH p.L k1 O9 then (cond (k1+1)).bind fun c k2=>.ok (.mk 44 (dy p.L p.en k1) [] [] 0 0 0 0 [n,c]) k2 else .ok n k1 from by rw [fB.out,hx];rfl)
   clear hx fB
   go_wp2_with fail
   refine X.out.mono ?_
   rintro e w3 ⟨⟨v,rfl,cs,rfl,aB⟩,h3,hk3⟩
   have hr3:Row w3 w.heap.size 25 bJ:=kp.out.res.keep hk3 (by show¬w.heap.size=p.b;omega)
   have hg:w.heap.size<w3.heap.size:=hr3.lt
   have hl3:=bR.new h3 (kp.out.keeps.trans hk3) hr3 aB kp.out.lt
   obtain ⟨kd,a0,nm,vl,xa,xb,xc,xd,A,len,cap,rfl⟩:=aB.nine
   generalize jA:w3.alloc (.cells (aw kd a0 nm vl xa xb xc xd (.slice A len cap)).toArray 25)=W4 at hl3
   have zN:=aa hl3
   have lB:w3.alloc (.cells #[.int .i64 kd,.int .i64 a0,.string (ae nm),.string (ae vl),.int .i64 xa,.int .i64 xb,.int .i64 xc,.int .i64 xd,.slice A len cap] 25)=W4:=jA
   clear h3 hk3 hr3 aB hl3 jA
   unfold aw
   have RH:=aa (PL.out k1 W4 zN.out.at_)
   generalize hpl:dy p.L p.en k1=pl at RH
   have Dr:=aa hpl
   clear hpl
   go_wp2_with fail
   refine RH.out.mono ?_
   rintro e W5 ⟨rfl,hb5⟩
   have uT:=aa (zN.out.below aN hg hb5)
   clear hb5 lB
   have GU:=aa (AC.out k1 [105,102] W5 uT.out.at_)
   cases hJ:bH p.L k1 [105,102] with
   |false=>
    rw [hJ] at GU
    have HE:=aa (show RR=.ok n k1 from by rw [fP.out,if_neg (show¬bH p.L k1 O9=true from by rw [show bH p.L k1 O9=false from hJ];decide)])
    clear hJ fP
    go_wp2_with fail
    refine GU.out.mono ?_
    rintro e W6 ⟨rfl,h6,lW⟩
    have Dp:=aa (uT.out.keep aN hg (show bc p W6 k1 from h6) lW)
    clear h6 lW
    obtain ⟨vX,bS,hres,hrow,aB⟩:=Dp.out
    obtain ⟨z0,z1,z2,z3,z4,z5,z6,z7,z8⟩:=aj hrow
    obtain ⟨y0,y1,y2,y3,y4,y5,y6,y7,y8⟩:=aj hres
    obtain ⟨zu,zv,zw,zx,zy,zz,zA,zB,zC⟩:=aA hres
    have cN:=aa aB
    clear hrow aB
    go_wp2_with fail
    refine bodyPost_ret (v:=.agg #[.int .i64 kd,.int .i64 a0,.string (ae nm),.string (ae vl),.int .i64 xa,.int .i64 xb,.int .i64 xc,.int .i64 xd,.slice A len cap]) (ag rfl _ _ w.heap.size 25 _ _ _ rfl (av hres _ _ _ _ _ _ _ _ _) Tryz.underlying25 rfl (by kernel_rfl)) rfl ?_
    have hbl:=ak (W:=W6) (Nat.le_refl w.heap.size) (.int .i64 kd) (.int .i64 a0) (.string (ae nm)) (.string (ae vl)) (.int .i64 xa) (.int .i64 xb) (.int .i64 xc) (.int .i64 xd) (.slice A len cap)
    rw [HE.out]
    exact ⟨⟨_,rfl,_,rfl,(cN.out.keeps (ax (C:=fun b=>b≤w.heap.size∨b=w3.heap.size) (.inl (Nat.le_refl _)) _ _ _ _ _ _ _ _ _)).mono (fun b hb'=>.inl (Nat.le_of_lt hb'))⟩,H.out.above vX hbl,bS.over hbl⟩
   |true=>
    rw [hJ] at GU
    have gq:=aa (show RR=(cond (k1+1)).bind fun c k2=>.ok (.mk 44 pl [] [] 0 0 0 0 [n,c]) k2 from by rw [fP.out,if_pos (show bH p.L k1 O9=true from hJ),Dr.out])
    clear hJ fP
    go_wp2_with fail
    refine GU.out.mono ?_
    rintro e W6 ⟨rfl,h6,lW⟩
    obtain ⟨h6,bS,hres,hrow,aB⟩:=uT.out.keep aN hg h6 lW
    obtain ⟨d0,d1,d2,d3,d4,d5,d6,d7,d8⟩:=aj hrow
    have CX:=aa (HC.out (k1+1) W6.drew (h6.below ((Below.refl _ W6).drew)))
    have Rk:¬(w3.heap.size=p.b):=by omega
    have I5:=aa hres
    have sk:=aa hrow
    have cN:=aa aB
    clear hrow hres aB
    go_wp2_with fail
    cases hy:cond (k1+1) with
    |err a er=>
     rw [hy] at CX
     have sQ:=aa (fun (W:World) (hk:af (fun c=>c=p.b) W6.drew W)=>show bO p w (nh w.heap.size) RR (.panicked [{v:=kE a er,recovered:=false}]) W from by
      rw [gq.out,hy];exact ⟨rfl,(bS.drew).trans hk⟩)
     clear hy
     refine wp_region_any (by kernel_rfl) ?_
     change wpAny _ _ _ _ _ _ _ (World.drew _)
     refine wpAny_take (i:=0) (v:=?_) rfl (by kernel_rfl) (by kernel_rfl) (by kernel_rfl) (fun _ _ _ h=>h) (Or.inl ⟨by rfl,?_⟩) ?_
     rotate_left
     ·intro w;go_simp;with_reducible rfl
     refine wpAny_take (i:=2) (v:=?_) rfl (by kernel_rfl) (by kernel_rfl) (by kernel_rfl) (fun _ _ _ h=>h) (Or.inl ⟨by rfl,?_⟩) ?_
     rotate_left
     ·intro w;go_simp;with_reducible rfl
     refine wpAny_ready (rs:=[1,3]) (by kernel_rfl) (by simp) ?_
     refine AllReady.cons rfl (fun K hK=>?_) (AllReady.cons rfl (fun K hK=>?_) AllReady.nil)
     ·go_simp
      refine hK _ _ ?_
      clear hK K
      refine wpAny_ready (rs:=[3]) (by kernel_rfl) (by simp) ?_
      refine AllReady.cons rfl (fun K hK=>?_) AllReady.nil
      go_simp
      refine CX.out.mono ?_
      rintro e w5 ⟨rfl,hk5⟩
      exact ⟨rfl,sQ.out _ hk5⟩
     ·go_simp
      refine CX.out.mono ?_
      rintro e w5 ⟨rfl,hk5⟩
      exact ⟨rfl,sQ.out _ hk5⟩
    |ok c k2=>
     rw [hy] at CX
     have HE:=aa (show RR=.ok (.mk 44 pl [] [] 0 0 0 0 [n,c]) k2 from by rw [gq.out,hy];rfl)
     clear hy gq
     refine wp_region_any (by kernel_rfl) ?_
     change wpAny _ _ _ _ _ _ _ (World.drew _)
     refine wpAny_take (i:=0) (v:=?_) rfl (by kernel_rfl) (by kernel_rfl) (by kernel_rfl) (fun _ _ _ h=>h) (Or.inl ⟨by rfl,?_⟩) ?_
     rotate_left
     ·intro w;go_simp;with_reducible rfl
     refine wpAny_take (i:=2) (v:=?_) rfl (by kernel_rfl) (by kernel_rfl) (by kernel_rfl) (fun _ _ _ h=>h) (Or.inl ⟨by rfl,?_⟩) ?_
     rotate_left
     ·intro w;go_simp;with_reducible rfl
     refine wpAny_ready (rs:=[1,3]) (by kernel_rfl) (by simp) ?_
     refine AllReady.cons rfl (fun K hK=>?_) (AllReady.cons rfl (fun K hK=>?_) AllReady.nil)
     ·go_simp
      refine hK _ _ ?_
      clear hK K
      refine wpAny_ready (rs:=[3]) (by kernel_rfl) (by simp) ?_
      refine AllReady.cons rfl (fun K hK=>?_) AllReady.nil
      go_simp
      refine CX.out.mono ?_
      rintro e w5 ⟨⟨v,rfl,ou,rfl,gO⟩,h5,hk5⟩
      refine hK _ _ ?_
      clear hK K
      have cO:af (fun c=>c=p.b) W6 w5:=⟨hk5.os,hk5.tape,hk5.output,hk5.size,hk5.block⟩
      have lV:=sk.out.keep cO Rk
      have kG:Row w5 w.heap.size 25 bJ:=I5.out.keep cO (by show¬w.heap.size=p.b;omega)
      obtain ⟨yk,y0,yn,yv,ya,yb,yc,yd,yA,dW,dp,rfl⟩:=gO.nine
      have Me:=aa gO
      have H5:=aa h5
      have uw:=aa cO
      unfold aw
      clear h5 hk5 cO gO
      refine wpAny_ready (rs:=[4]) (by kernel_rfl) (by simp) ?_
      refine AllReady.cons rfl (fun K hK=>?_) AllReady.nil
      go_simp
      refine hK _ _ ?_
      clear hK K
      generalize kf:World.alloc w5 _=W7
      have lA:Row W7 w.heap.size 25 bJ:=by rw [←kf];exact kG.alloc _
      have bA:Below w5.heap.size w5 W7:=by rw [←kf];exact (Below.refl _ _).alloc (Nat.le_refl _) _
      have mg:=uw.out.size
      have hz3:w3.heap.size<W6.heap.size:=sk.out.lt
      have NK:=aa (sS (B:=w.heap.size+1) (((cN.out.keeps (uw.out.mono (fun b hb=>.inl (by show b≤_;have:b=p.b:=hb;omega)))).mono (fun b hb=>.inl (Nat.le_of_lt_succ hb)))) (Me.out.mono (fun b hb=>Nat.lt_of_lt_of_le hb (show w.heap.size+1≤W6.heap.size by omega))) (Nat.lt_succ_self _) (by omega) kf.symm 44 pl 0 0 0 0 [] [] 2)
      obtain ⟨e0,e1,e2,e3,e4,e5,e6,e7,e8⟩:=aj lA
      obtain ⟨Gr,Gs,EO,Gt,Gu,Gv,Gw,Gx,Gy⟩:=aA lA
      clear lV kG kf
      refine wpAny_ready (rs:=[5]) (by kernel_rfl) (by simp) ?_
      refine AllReady.cons rfl (fun K hK=>?_) AllReady.nil
      go_simp
      refine hK _ _ ?_
      clear hK K
      refine wpAny_ready (rs:=[6]) (by kernel_rfl) (by simp) ?_
      refine AllReady.cons rfl (fun K hK=>?_) AllReady.nil
      go_simp
      refine hK _ _ ?_
      clear hK K
      refine wpAny_done (by kernel_rfl) ?_ _
      go_wp2_with fail
      refine bodyPost_ret (v:=.agg #[.int .i64 44,.int .i64 pl,.string {data:=#[]},.string {data:=#[]},.int .i64 0,.int .i64 0,.int .i64 0,.int .i64 0,.slice (some ⟨w5.heap.size,0,none⟩) 2 2]) (ag rfl _ _ w.heap.size 25 _ _ _ rfl (av lA _ _ _ _ _ _ _ _ _) Tryz.underlying25 rfl (by kernel_rfl)) rfl ?_
      have hbl:=ak (W:=W7) (Nat.le_refl w.heap.size) (.int .i64 44) (.int .i64 pl) (.string {data:=#[]}) (.string {data:=#[]}) (.int .i64 0) (.int .i64 0) (.int .i64 0) (.int .i64 0) (.slice (some ⟨w5.heap.size,0,none⟩) 2 2)
      rw [HE.out]
      exact ⟨⟨_,rfl,NK.out⟩,H.out.above (H5.out.below bA) hbl,((bS.trans uw.out).trans (af.of_below bA (Nat.le_refl _))).over hbl⟩
     ·go_simp
      refine CX.out.mono ?_
      rintro e w5 ⟨⟨v,rfl,ou,rfl,gO⟩,h5,hk5⟩
      refine hK _ _ ?_
      clear hK K
      have cO:af (fun c=>c=p.b) W6 w5:=⟨hk5.os,hk5.tape,hk5.output,hk5.size,hk5.block⟩
      have lV:=sk.out.keep cO Rk
      have kG:Row w5 w.heap.size 25 bJ:=I5.out.keep cO (by show¬w.heap.size=p.b;omega)
      obtain ⟨yk,y0,yn,yv,ya,yb,yc,yd,yA,dW,dp,rfl⟩:=gO.nine
      have Me:=aa gO
      have H5:=aa h5
      have uw:=aa cO
      unfold aw
      clear h5 hk5 cO gO
      obtain ⟨c0,c1,c2,c3,c4,c5,c6,c7,c8⟩:=aj lV
      refine wpAny_ready (rs:=[1]) (by kernel_rfl) (by simp) ?_
      refine AllReady.cons rfl (fun K hK=>?_) AllReady.nil
      go_simp
      refine hK _ _ ?_
      clear hK K
      refine wpAny_ready (rs:=[4]) (by kernel_rfl) (by simp) ?_
      refine AllReady.cons rfl (fun K hK=>?_) AllReady.nil
      go_simp
      refine hK _ _ ?_
      clear hK K
      generalize kf:World.alloc w5 _=W7
      have lA:Row W7 w.heap.size 25 bJ:=by rw [←kf];exact kG.alloc _
      have bA:Below w5.heap.size w5 W7:=by rw [←kf];exact (Below.refl _ _).alloc (Nat.le_refl _) _
      have mg:=uw.out.size
      have hz3:w3.heap.size<W6.heap.size:=sk.out.lt
      have NK:=aa (sS (B:=w.heap.size+1) (((cN.out.keeps (uw.out.mono (fun b hb=>.inl (by show b≤_;have:b=p.b:=hb;omega)))).mono (fun b hb=>.inl (Nat.le_of_lt_succ hb)))) (Me.out.mono (fun b hb=>Nat.lt_of_lt_of_le hb (show w.heap.size+1≤W6.heap.size by omega))) (Nat.lt_succ_self _) (by omega) kf.symm 44 pl 0 0 0 0 [] [] 2)
      obtain ⟨e0,e1,e2,e3,e4,e5,e6,e7,e8⟩:=aj lA
      obtain ⟨Gr,Gs,EO,Gt,Gu,Gv,Gw,Gx,Gy⟩:=aA lA
      clear lV kG kf
      refine wpAny_ready (rs:=[5]) (by kernel_rfl) (by simp) ?_
      refine AllReady.cons rfl (fun K hK=>?_) AllReady.nil
      go_simp
      refine hK _ _ ?_
      clear hK K
      refine wpAny_ready (rs:=[6]) (by kernel_rfl) (by simp) ?_
      refine AllReady.cons rfl (fun K hK=>?_) AllReady.nil
      go_simp
      refine hK _ _ ?_
      clear hK K
      refine wpAny_done (by kernel_rfl) ?_ _
      go_wp2_with fail
      refine bodyPost_ret (v:=.agg #[.int .i64 44,.int .i64 pl,.string {data:=#[]},.string {data:=#[]},.int .i64 0,.int .i64 0,.int .i64 0,.int .i64 0,.slice (some ⟨w5.heap.size,0,none⟩) 2 2]) (ag rfl _ _ w.heap.size 25 _ _ _ rfl (av lA _ _ _ _ _ _ _ _ _) Tryz.underlying25 rfl (by kernel_rfl)) rfl ?_
      have hbl:=ak (W:=W7) (Nat.le_refl w.heap.size) (.int .i64 44) (.int .i64 pl) (.string {data:=#[]}) (.string {data:=#[]}) (.int .i64 0) (.int .i64 0) (.int .i64 0) (.int .i64 0) (.slice (some ⟨w5.heap.size,0,none⟩) 2 2)
      rw [HE.out]
      exact ⟨⟨_,rfl,NK.out⟩,H.out.above (H5.out.below bA) hbl,((bS.trans uw.out).trans (af.of_below bA (Nat.le_refl _))).over hbl⟩
def Nk (C:Nat→Prop) (Y:World) (gk:Nat) (l:List Nd) (v:Value):Prop:=
 (l=[]∧v=.slice none 0 0)∨∃c gs cs,l=[c]∧v=.slice (some ⟨gs,0,none⟩) 1 1∧Row Y gs 25 cs.toArray∧cG (fun b=>C b∨b=gk) Y c cs
theorem bR.kids {p:PS} {w W':World} {g k k0 gk n c:Nat} {kd pl xa xb xc xd:Int} {ks:List Nd} {bF:List (List Value)} (H:bc p w k0) (hg:w.heap.size<g) (ha:bc p W' k) (bS:af (fun c=>c=p.b) w W') (hres:Row W' w.heap.size 25 bJ)
 (hrow:Row W' g 25 (aw kd pl [] [] xa xb xc xd (.slice none 0 0)).toArray) (hk:bV (fun b=>b≤w.heap.size∨b=g) W' (w.heap.size+1) gk n c ks bF):
 bR p w g (W'.setCell ⟨g,8,none⟩ (.slice (some ⟨gk,0,none⟩) ks.length c)) (.mk kd pl [] [] xa xb xc xd ks) (aw kd pl [] [] xa xb xc xd (.slice (some ⟨gk,0,none⟩) ks.length c)) k:=by
 have e:=hk.num
 subst e
 have hB2:Below w.heap.size W' (W'.setCell ⟨g,8,none⟩ (.slice (some ⟨gk,0,none⟩) ks.length c)):=(Below.refl _ W').setCell (p:=⟨g,8,none⟩) (Nat.le_of_lt hg) _
 have hk2:af (fun b=>b≤w.heap.size∨b=g) W' (W'.setCell ⟨g,8,none⟩ (.slice (some ⟨gk,0,none⟩) ks.length c)):=(af.refl _ W').set (.inl (.inr rfl)) 8 _
 have h2:=(hk.keep hk2 (fun b hb=>hb)).node kd pl xa xb xc xd [] []
 exact ⟨H.above ha hB2,bS.over hB2,hres.off (by omega) _ _,hrow.bg 8 _,h2⟩
theorem oF {p:PS} {w Y:World} {g k k0 gk n c:Nat} {kd pl xa xb xc xd:Int} {ks l:List Nd} {bF:List (List Value)} {v:Value} (H:bc p w k0) (hg:w.heap.size<g) (ha:bc p Y k) (bS:af (fun c=>c=p.b) w Y) (hres:Row Y w.heap.size 25 bJ)
 (hrow:Row Y g 25 (aw kd pl [] [] xa xb xc xd (.slice none 0 0)).toArray) (hk:bV (fun b=>b≤w.heap.size∨b=g) Y (w.heap.size+1) gk n c ks bF) (hn:n≤1000) (hw:Nk (fun b=>b≤w.heap.size∨b=g) Y gk l v):
 ∃vw c' W',(Builtin.append_ #[23,23] 23 #[.slice (some ⟨gk,0,none⟩) n c,v]).run Tryz.prog Y=.ok (.slice (some ⟨vw,0,none⟩) (ks++l).length c') W'∧
  W'.cell? ⟨g,8,none⟩=some (.slice none 0 0)∧W'.frozen? ⟨g,8,none⟩=false∧
  bR p w g (W'.setCell ⟨g,8,none⟩ (.slice (some ⟨vw,0,none⟩) (ks++l).length c')) (.mk kd pl [] [] xa xb xc xd (ks++l)) (aw kd pl [] [] xa xb xc xd (.slice (some ⟨vw,0,none⟩) (ks++l).length c')) k:=by
 have Nl:=hk.num
 rcases hw with ⟨rfl,rfl⟩|⟨y,gs,cs,rfl,rfl,Oa,hny⟩
 ·obtain ⟨iN,VC,hz⟩:=Option.map_eq_some_iff.1 E5
  refine ⟨gk,c,Y,?_,hrow.cell 8,hrow.frozen 8,?_⟩
  ·rw [List.append_nil,Nl]
   exact run_append_owned_none Y (w.heap.size+1) 23 23 25 iN 9 Tryz.underlying23 VC _ n _ hk.own
  ·rw [List.append_nil]
   exact bR.kids H hg ha bS hres hrow hk
 ·have hb0:=hk.cur.1
  have hne:g≠gk:=fun e=>hk.not (.inr e.symm)
  obtain ⟨vw,c',W',cZ,cX,hgr⟩:=hk.app hny Oa (by have:=hres.lt;omega) (fun b hb=>by
   have e1:=hrow.lt
   have e3:=hres.lt
   rcases hb with hb|rfl<;>omega) (by omega)
  have hB:Below (w.heap.size+1) Y W':=⟨hgr.os,hgr.tape,hgr.output,hgr.size,fun b hb=>hgr.block b (Nat.lt_of_lt_of_le hb (by have:=hres.lt;omega)) (by intro e;cases e;omega)⟩
  have YH:Below w.heap.size Y W':=⟨hB.os,hB.tape,hB.output,hB.size,fun b hb=>hB.block b (Nat.lt_succ_of_lt hb)⟩
  have hrow':=hrow.grown hgr (fun e=>hne (Option.some.inj e))
  refine ⟨vw,c',W',?_,hrow'.cell 8,hrow'.frozen 8,bR.kids H hg (H.above ha YH) (bS.over YH) (hres.below hB (Nat.lt_succ_self _)) hrow' cX⟩
  rw [List.length_append,Nl]
  exact cZ
structure iv (p:PS) (w:World) (g3 g5:Nat) (W:World) (n:Nd) (cs:List Value) (kd pl xa xb xc xd:Int) (k:Nat):Prop where
 at_:bc p W k
 keeps:af (fun c=>c=p.b) w W
 res:Row W w.heap.size 25 bJ
 fJ:Row W g3 25 cs.toArray
 gy:Row W g5 25 (aw kd pl [] [] xa xb xc xd (.slice none 0 0)).toArray
 nd:cG (fun b=>(b≤w.heap.size∨b=g5)∨b=g3) W n cs
theorem iv.keep {p:PS} {w W W':World} {g3 g5 k k':Nat} {n:Nd} {cs:List Value} {kd pl xa xb xc xd:Int} (h:iv p w g3 g5 W n cs kd pl xa xb xc xd k) (hb:p.b<w.heap.size) (h3:w.heap.size<g3) (h5:w.heap.size<g5) (ha:bc p W' k') (hk:af (fun c=>c=p.b) W W'):iv p w g3 g5 W' n cs kd pl xa xb xc xd k':=
 ⟨ha,h.keeps.trans hk,h.res.keep hk (by show¬w.heap.size=p.b;omega),h.fJ.keep hk (by show¬g3=p.b;omega),h.gy.keep hk (by show¬g5=p.b;omega),h.nd.keeps (hk.mono (fun b hb'=>.inl (.inl (by show b≤_;have:b=p.b:=hb';omega))))⟩
theorem iv.new {p:PS} {w W W5:World} {g k:Nat} {n:Nd} {cs:List Value} (h:bR p w g W n cs k) (hb:p.b<w.heap.size) (kd pl:Int) (hW:W5=W.alloc (.cells (aw kd pl [] [] 0 0 0 0 (.slice none 0 0)).toArray 25)):iv p w g W.heap.size W5 n cs kd pl 0 0 0 0 k:=by
 have b5:Below W.heap.size W W5:=by rw [hW];exact (Below.refl _ _).alloc (Nat.le_refl _) _
 have r5:Row W5 W.heap.size 25 (aw kd pl [] [] 0 0 0 0 (.slice none 0 0)).toArray:=by rw [hW];exact Row.new _ _ _
 exact ⟨h.at_.below b5,h.keeps.trans (af.of_below b5 (Nat.le_refl _)),h.res.below b5 h.res.lt,h.row.below b5 h.row.lt,r5,(h.nd.ge b5).mono (fun b hb=>by
  rcases hb with (hb|rfl)|rfl
  ·exact .inl (.inl hb)
  ·exact .inr (Nat.le_refl _)
  ·exact .inl (.inr rfl))⟩
theorem iv.uC {p:PS} {w W:World} {g3 g5 k k0:Nat} {n:Nd} {cs:List Value} {kd pl xa xb xc xd:Int} (H:bc p w k0) (h5:w.heap.size<g5) (wo:g3≠g5) (h:iv p w g3 g5 W n cs kd pl xa xb xc xd k) (v:Int):iv p w g3 g5 (W.setCell ⟨g5,4,none⟩ (.int .i64 v)) n cs kd pl v xb xc xd k:=by
 have hb:Below w.heap.size W (W.setCell ⟨g5,4,none⟩ (.int .i64 v)):=(Below.refl _ W).setCell (p:=⟨g5,4,none⟩) (Nat.le_of_lt h5) _
 have hk:af (fun b=>(b≤w.heap.size∨b=g5)∨b=g3) W (W.setCell ⟨g5,4,none⟩ (.int .i64 v)):=(af.refl _ W).set (.inl (.inl (.inr rfl))) 4 _
 exact ⟨H.above h.at_ hb,h.keeps.over hb,h.res.off (by omega) _ _,h.fJ.off wo _ _,h.gy.bg 4 _,h.nd.keeps hk⟩
theorem iv.sr {p:PS} {w W:World} {g3 g5 k k0:Nat} {n:Nd} {cs:List Value} {kd pl xa xb xc xd:Int} (H:bc p w k0) (h5:w.heap.size<g5) (wo:g3≠g5) (h:iv p w g3 g5 W n cs kd pl xa xb xc xd k) (v:Int):iv p w g3 g5 (W.setCell ⟨g5,5,none⟩ (.int .i64 v)) n cs kd pl xa v xc xd k:=by
 have hb:Below w.heap.size W (W.setCell ⟨g5,5,none⟩ (.int .i64 v)):=(Below.refl _ W).setCell (p:=⟨g5,5,none⟩) (Nat.le_of_lt h5) _
 have hk:af (fun b=>(b≤w.heap.size∨b=g5)∨b=g3) W (W.setCell ⟨g5,5,none⟩ (.int .i64 v)):=(af.refl _ W).set (.inl (.inl (.inr rfl))) 5 _
 exact ⟨H.above h.at_ hb,h.keeps.over hb,h.res.off (by omega) _ _,h.fJ.off wo _ _,h.gy.bg 5 _,h.nd.keeps hk⟩
theorem iv.XY {p:PS} {w W:World} {g3 g5 k k0:Nat} {n:Nd} {cs:List Value} {kd pl xa xb xc xd:Int} (H:bc p w k0) (h5:w.heap.size<g5) (wo:g3≠g5) (h:iv p w g3 g5 W n cs kd pl xa xb xc xd k) (v:Int):iv p w g3 g5 (W.setCell ⟨g5,6,none⟩ (.int .i64 v)) n cs kd pl xa xb v xd k:=by
 have hb:Below w.heap.size W (W.setCell ⟨g5,6,none⟩ (.int .i64 v)):=(Below.refl _ W).setCell (p:=⟨g5,6,none⟩) (Nat.le_of_lt h5) _
 have hk:af (fun b=>(b≤w.heap.size∨b=g5)∨b=g3) W (W.setCell ⟨g5,6,none⟩ (.int .i64 v)):=(af.refl _ W).set (.inl (.inl (.inr rfl))) 6 _
 exact ⟨H.above h.at_ hb,h.keeps.over hb,h.res.off (by omega) _ _,h.fJ.off wo _ _,h.gy.bg 6 _,h.nd.keeps hk⟩
theorem iv.Tq {p:PS} {w W:World} {g3 g5 k k0:Nat} {n:Nd} {cs:List Value} {kd pl xa xb xc xd:Int} (H:bc p w k0) (h5:w.heap.size<g5) (wo:g3≠g5) (h:iv p w g3 g5 W n cs kd pl xa xb xc xd k) (v:Int):iv p w g3 g5 (W.setCell ⟨g5,7,none⟩ (.int .i64 v)) n cs kd pl xa xb xc v k:=by
 have hb:Below w.heap.size W (W.setCell ⟨g5,7,none⟩ (.int .i64 v)):=(Below.refl _ W).setCell (p:=⟨g5,7,none⟩) (Nat.le_of_lt h5) _
 have hk:af (fun b=>(b≤w.heap.size∨b=g5)∨b=g3) W (W.setCell ⟨g5,7,none⟩ (.int .i64 v)):=(af.refl _ W).set (.inl (.inl (.inr rfl))) 7 _
 exact ⟨H.above h.at_ hb,h.keeps.over hb,h.res.off (by omega) _ _,h.fJ.off wo _ _,h.gy.bg 7 _,h.nd.keeps hk⟩
theorem Nn {p:PS} {w W Wd Wa Y:World} {g3 g5 k k':Nat} {n:Nd} {cs:List Value} {kd pl xa xb xc xd:Int} {l:List Nd} {v:Value} (hb:p.b<w.heap.size) (h3:w.heap.size<g3) (h5:w.heap.size<g5) (h:iv p w g3 g5 W n cs kd pl xa xb xc xd k) (Wv:Below W.heap.size W Wd) (hs:Wd.heap.size=W.heap.size)
 (Qw:Wa=Wd.alloc (.cells [cs].flatten.toArray 25)) (hY:bc p Y k') (hk:af (fun c=>c=p.b) Wa Y) (hv:VL Wa.heap.size Y l v):
 iv p w g3 g5 Y n cs kd pl xa xb xc xd k'∧bV (fun b=>b≤w.heap.size∨b=g5) Y (w.heap.size+1) W.heap.size 1 1 [n] [cs]∧Nk (fun b=>b≤w.heap.size∨b=g5) Y W.heap.size l v:=by
 have hz:=h.res.lt
 have mg:=h.gy.lt
 have hzb:=h.at_.row.lt
 have bd:Below W.heap.size W Wa:=by rw [Qw];exact Wv.alloc (by omega) _
 have sa:Wa.heap.size=W.heap.size+1:=by rw [Qw,World.size_alloc,hs]
 have ea:iv p w g3 g5 Wa n cs kd pl xa xb xc xd k:=h.keep hb h3 h5 (h.at_.below bd) (af.of_below bd (Nat.le_refl _))
 have hn:=(h.nd.ge bd).mono (C':=fun b=>(b≤w.heap.size∨b=g5)∨b=Wd.heap.size) (fun b hb=>by
  rcases hb with hb|rfl
  ·exact .inl (.inl hb)
  ·exact .inr (by omega))
 have ka:=bV.one (C:=fun b=>b≤w.heap.size∨b=g5) (base:=w.heap.size+1) hn Qw (by omega) (by rintro (h|h)<;>omega)
 rw [hs] at ka
 refine ⟨ea.keep hb h3 h5 hY hk,ka.keep hk (fun b hb'=>.inl (by show b≤_;have:b=p.b:=hb';omega)),?_⟩
 rcases hv with hv|⟨c,gs,cs',e1,e2,_,hr,hc⟩
 ·exact .inl hv
 ·exact .inr ⟨c,gs,cs',e1,e2,hr,hc.mono (fun b hb=>.inl (by
   show b<Wa.heap.size
   rcases hb with (hb|rfl)|rfl<;>omega))⟩
theorem x_ {p:PS} {w W Y Ya:World} {g3 g5 k k':Nat} {n:Nd} {cs:List Value} {kd pl xa xb xc xd:Int} {l:List Nd} {v:Value} (hb:p.b<w.heap.size) (h3:w.heap.size<g3) (h5:w.heap.size<g5) (h:iv p w g3 g5 W n cs kd pl xa xb xc xd k) (hY:bc p Y k') (hk:af (fun c=>c=p.b) W Y) (hv:VL W.heap.size Y l v)
 (CR:Ya=Y.alloc (.cells [cs].flatten.toArray 25)):
 iv p w g3 g5 Ya n cs kd pl xa xb xc xd k'∧bV (fun b=>b≤w.heap.size∨b=g5) Ya (w.heap.size+1) Y.heap.size 1 1 [n] [cs]∧Nk (fun b=>b≤w.heap.size∨b=g5) Ya Y.heap.size l v:=by
 have hz:=h.res.lt
 have mg:=h.gy.lt
 have hs:=hk.size
 have ey:=h.keep hb h3 h5 hY hk
 have bd:Below Y.heap.size Y Ya:=by rw [CR];exact (Below.refl _ _).alloc (Nat.le_refl _) _
 have hn:=(ey.nd.ge bd).mono (C':=fun b=>(b≤w.heap.size∨b=g5)∨b=Y.heap.size) (fun b hb=>by
  rcases hb with hb|rfl
  ·exact .inl (.inl hb)
  ·exact .inr (Nat.le_refl _))
 refine ⟨ey.keep hb h3 h5 (hY.below bd) (af.of_below bd (Nat.le_refl _)),bV.one (C:=fun b=>b≤w.heap.size∨b=g5) (base:=w.heap.size+1) hn CR (by omega) (by rintro (h|h)<;>omega),?_⟩
 rcases hv with hv|⟨c,gs,cs',e1,e2,_,hr,hc⟩
 ·exact .inl hv
 ·exact .inr ⟨c,gs,cs',e1,e2,hr.below bd hr.lt,(hc.ge bd).mono (fun b hb=>by
   rcases hb with (hb|rfl)|rfl
   ·exact .inl (.inl (by show b<W.heap.size;omega))
   ·exact .inl (.inl mg)
   ·exact .inr (Nat.le_refl _))⟩
theorem rX (p:PS) (mA:sq p) (F:Nat) (pat:Nat→PR Nd) (hq:bQ p 25 pat F):bQ p 64 (fK p.L p.en (bX p) (cM p.L p.en (bX p)) pat) (F+1):=by
 intro k w hF h
 have aN:p.b<w.heap.size:=h.row.lt
 have hb0:Below w.heap.size w (w.alloc (.cells bJ 25)):=(Below.refl _ _).alloc (Nat.le_refl _) _
 have fO:Row (w.alloc (.cells bJ 25)) w.heap.size 25 bJ:=Row.new _ _ _
 have PL:=aa (fun (k:Nat) (W:World) (h:bc p W k)=>dZ p k W h)
 have AC:=aa (fun (k:Nat) (wd:List UInt8) (W:World) (h:bc p W k)=>cR p k wd W h)
 have EX:=aa (fun (k:Nat) (wd:List UInt8) (W:World) (h:bc p W k)=>eK p k wd W h)
 have NM:=aa (fun (k:Nat) (W:World) (h:bc p W k)=>oq p k 32768 W h)
 have DL:=aa (fun (k:Nat) (W:World) (h:bc p W k)=>xZ p k W h)
 have WH:=aa (fun (k:Nat) (W:World) (h:bc p W k)=>x9 p mA k W h)
 have X:=aa (Nj p mA F pat hq k _ hF (h.below hb0))
 have H:=aa h
 have kp:=aa (show pT p w (w.alloc (.cells bJ 25)) k from ⟨h.below hb0,af.of_below hb0 (Nat.le_refl _),fO⟩)
 obtain ⟨cond,Ki⟩:∃c,cM p.L p.en (bX p)=c:=⟨_,rfl⟩
 rw [Ki] at X WH⊢
 obtain ⟨RR,jC⟩:∃RR,fK p.L p.en (bX p) cond pat k=RR:=⟨_,rfl⟩
 rw [jC]
 have fB:=aa (show RR=(mo p.L p.en cond pat k).bind fun n k1=>if bH p.L k1 cJ then (eC p.L p.en (k1+1) 32768).bind fun a k2=>(ah p.L p.en k2 au).bind fun _ k3=>(eC p.L p.en k3 32768).bind fun b k4=>(ah p.L p.en k4 au).bind fun _ k5=>fY p.L p.en (bX p) k5 fun c d k6=>(cF p.L cond k6).bind fun l k7=>(ah p.L p.en k7 a_).bind fun _ k8=>.ok (.mk 47 (dy p.L p.en k1) [] [] a b c d (n::l)) k8
  else .ok n k1 from jC.symm)
 simp only [vg] at fB
 clear hq h hb0 fO jC Ki
 go_enter Tryz.func64,Tryz.ntmps64
 cases hx:mo p.L p.en cond pat k with
 |err a er=>
  rw [hx] at X
  have HE:=aa (show RR=.err a er from by rw [fB.out,hx];rfl)
  clear hx
  go_wp2_with fail
  refine X.out.mono ?_
  rintro e nE ⟨rfl,bK⟩
  go_wp2
  exact ⟨rfl,by rw [HE.out];exact ⟨rfl,kp.out.keeps.trans bK⟩⟩
 |ok n k1=>
  rw [hx] at X
  have fP:=aa (show RR=if bH p.L k1 cJ then (eC p.L p.en (k1+1) 32768).bind fun a k2=>(ah p.L p.en k2 au).bind fun _ k3=>(eC p.L p.en k3 32768).bind fun b k4=>(ah p.L p.en k4 au).bind fun _ k5=>(dP p k5).bind fun ab k6=>(cF p.L cond k6).bind fun l k7=>(ah p.L p.en k7 a_).bind fun _ k8=>.ok (.mk 47 (dy p.L p.en k1) [] [] a b ab.1 ab.2 (n::l)) k8
   else .ok n k1 from by rw [fB.out,hx];rfl)
  clear hx fB
  go_wp2_with fail
  refine X.out.mono ?_
  rintro e w3 ⟨⟨v,rfl,cs,rfl,aB⟩,h3,hk3⟩
  have hr3:Row w3 w.heap.size 25 bJ:=kp.out.res.keep hk3 (by show¬w.heap.size=p.b;omega)
  have hg:w.heap.size<w3.heap.size:=hr3.lt
  have hl3:=bR.new h3 (kp.out.keeps.trans hk3) hr3 aB kp.out.lt
  obtain ⟨kd,a0,nm,vl,xa,xb,xc,xd,A,len,cap,rfl⟩:=aB.nine
  generalize jA:w3.alloc (.cells (aw kd a0 nm vl xa xb xc xd (.slice A len cap)).toArray 25)=W4 at hl3
  have zN:=aa hl3
  have lB:w3.alloc (.cells #[.int .i64 kd,.int .i64 a0,.string (ae nm),.string (ae vl),.int .i64 xa,.int .i64 xb,.int .i64 xc,.int .i64 xd,.slice A len cap] 25)=W4:=jA
  clear h3 hk3 hr3 aB hl3 jA
  unfold aw
  have RH:=aa (PL.out k1 W4 zN.out.at_)
  generalize hpl:dy p.L p.en k1=pl at RH
  have Dr:=aa hpl
  clear hpl
  go_wp2_with fail
  refine RH.out.mono ?_
  rintro e W5 ⟨rfl,hb5⟩
  have uT:=aa (zN.out.below aN hg hb5)
  clear hb5 lB
  have GU:=aa (AC.out k1 [123] W5 uT.out.at_)
  cases hJ:bH p.L k1 [123] with
  |false=>
   rw [hJ] at GU
   have HE:=aa (show RR=.ok n k1 from by rw [fP.out,if_neg (show¬bH p.L k1 cJ=true from by rw [show bH p.L k1 cJ=false from hJ];decide)])
   clear hJ fP
   go_wp2_with fail
   refine GU.out.mono ?_
   rintro e W6 ⟨rfl,h6,lW⟩
   have Dp:=aa (uT.out.keep aN hg (show bc p W6 k1 from h6) lW)
   clear h6 lW
   obtain ⟨vX,bS,hres,hrow,aB⟩:=Dp.out
   obtain ⟨z0,z1,z2,z3,z4,z5,z6,z7,z8⟩:=aj hrow
   obtain ⟨y0,y1,y2,y3,y4,y5,y6,y7,y8⟩:=aj hres
   obtain ⟨zu,zv,zw,zx,zy,zz,zA,zB,zC⟩:=aA hres
   have cN:=aa aB
   clear hrow aB
   go_wp2_with fail
   refine bodyPost_ret (v:=.agg #[.int .i64 kd,.int .i64 a0,.string (ae nm),.string (ae vl),.int .i64 xa,.int .i64 xb,.int .i64 xc,.int .i64 xd,.slice A len cap]) (ag rfl _ _ w.heap.size 25 _ _ _ rfl (av hres _ _ _ _ _ _ _ _ _) Tryz.underlying25 rfl (by kernel_rfl)) rfl ?_
   have hbl:=ak (W:=W6) (Nat.le_refl w.heap.size) (.int .i64 kd) (.int .i64 a0) (.string (ae nm)) (.string (ae vl)) (.int .i64 xa) (.int .i64 xb) (.int .i64 xc) (.int .i64 xd) (.slice A len cap)
   rw [HE.out]
   exact ⟨⟨_,rfl,_,rfl,(cN.out.keeps (ax (C:=fun b=>b≤w.heap.size∨b=w3.heap.size) (.inl (Nat.le_refl _)) _ _ _ _ _ _ _ _ _)).mono (fun b hb'=>.inl (Nat.le_of_lt hb'))⟩,H.out.above vX hbl,bS.over hbl⟩
  |true=>
   rw [hJ] at GU
   have Ln:=aa (show RR=(eC p.L p.en (k1+1) 32768).bind fun a k2=>(ah p.L p.en k2 au).bind fun _ k3=>(eC p.L p.en k3 32768).bind fun b k4=>(ah p.L p.en k4 au).bind fun _ k5=>(dP p k5).bind fun ab k6=>(cF p.L cond k6).bind fun l k7=>(ah p.L p.en k7 a_).bind fun _ k8=>.ok (.mk 47 pl [] [] a b ab.1 ab.2 (n::l)) k8 from by rw [fP.out,if_pos (show bH p.L k1 cJ=true from hJ),Dr.out])
   clear hJ fP
   go_wp2_with fail
   refine GU.out.mono ?_
   rintro e W6 ⟨rfl,h6,lW⟩
   have Co:=uT.out.keep aN hg h6 lW
   have zU:w3.heap.size≠W6.heap.size:=by have:=Co.row.lt;omega
   have jz:w.heap.size<W6.heap.size:=Co.res.lt
   generalize oA:W6.alloc (.cells (aw 47 pl [] [] 0 0 0 0 (.slice none 0 0)).toArray 25)=W7
   have UA:=aa (iv.new Co aN 47 pl oA.symm)
   have YI:W6.alloc (.cells #[.int .i64 47,.int .i64 pl,.string {data:=#[]},.string {data:=#[]},.int .i64 0,.int .i64 0,.int .i64 0,.int .i64 0,.slice none 0 0] 25)=W7:=oA
   have YJ:=aa YI
   clear h6 lW Co oA YI
   have X1:=aa (NM.out (k1+1) W7 UA.out.at_)
   cases hD:eC p.L p.en (k1+1) 32768 with
   |err a er=>
    rw [hD] at X1
    have HE:=aa (show RR=.err a er from by rw [Ln.out,show eC p.L p.en (k1+1) 32768=.err a er from hD];rfl)
    clear hD
    go_wp2_with fail
    rw [YJ.out]
    refine X1.out.mono ?_
    rintro e nE ⟨rfl,bK⟩
    go_wp2
    exact ⟨rfl,by rw [HE.out];exact ⟨rfl,UA.out.keeps.trans bK⟩⟩
   |ok na k2=>
    rw [hD] at X1
    have qb:=aa (show RR=(ah p.L p.en k2 au).bind fun _ k3=>(eC p.L p.en k3 32768).bind fun b k4=>(ah p.L p.en k4 au).bind fun _ k5=>(dP p k5).bind fun ab k6=>(cF p.L cond k6).bind fun l k7=>(ah p.L p.en k7 a_).bind fun _ k8=>.ok (.mk 47 pl [] [] na b ab.1 ab.2 (n::l)) k8 from by rw [Ln.out,show eC p.L p.en (k1+1) 32768=.ok na k2 from hD];rfl)
    clear hD Ln
    go_wp2_with fail
    rw [YJ.out]
    refine X1.out.mono ?_
    rintro e W8 ⟨⟨v,rfl,rfl⟩,P_,Np⟩
    have zV:=UA.out.keep aN hg jz P_ Np
    clear P_ Np
    have aba:W8.cell? ⟨W6.heap.size,4,none⟩=some (.int .i64 0):=zV.gy.cell 4
    have YK:=zV.gy.frozen 4
    have zW:=zV.uC H.out jz zU na
    generalize UB:W8.setCell ⟨W6.heap.size,4,none⟩ (.int .i64 na)=W9 at zW
    have HE9:=aa zW
    clear zV zW
    have X2:=aa (EX.out k2 [44] W9 HE9.out.at_)
    cases hD:ah p.L p.en k2 [44] with
    |err a er=>
     rw [hD] at X2
     have HE:=aa (show RR=.err a er from by rw [qb.out,show ah p.L p.en k2 au=.err a er from hD];rfl)
     clear hD
     go_wp2_with fail
     refine X2.out.mono ?_
     rintro e nE ⟨rfl,bK⟩
     go_wp2
     exact ⟨rfl,by rw [HE.out];exact ⟨rfl,HE9.out.keeps.trans bK⟩⟩
    |ok u2 k3=>
     rw [hD] at X2
     have O3:=aa (show RR=(eC p.L p.en k3 32768).bind fun b k4=>(ah p.L p.en k4 au).bind fun _ k5=>(dP p k5).bind fun ab k6=>(cF p.L cond k6).bind fun l k7=>(ah p.L p.en k7 a_).bind fun _ k8=>.ok (.mk 47 pl [] [] na b ab.1 ab.2 (n::l)) k8 from by rw [qb.out,show ah p.L p.en k2 au=.ok u2 k3 from hD];rfl)
     clear hD qb
     go_wp2_with fail
     refine X2.out.mono ?_
     rintro e lO ⟨⟨v,rfl,rfl⟩,MQ,RJ⟩
     have yf:=HE9.out.keep aN hg jz MQ RJ
     clear MQ RJ
     have vZ:=aa yf
     clear yf UB
     have X3:=aa (NM.out k3 lO vZ.out.at_)
     cases hD:eC p.L p.en k3 32768 with
     |err a er=>
      rw [hD] at X3
      have HE:=aa (show RR=.err a er from by rw [O3.out,show eC p.L p.en k3 32768=.err a er from hD];rfl)
      clear hD
      go_wp2_with fail
      refine X3.out.mono ?_
      rintro e nE ⟨rfl,bK⟩
      go_wp2
      exact ⟨rfl,by rw [HE.out];exact ⟨rfl,vZ.out.keeps.trans bK⟩⟩
     |ok nb k4=>
      rw [hD] at X3
      have QY:=aa (show RR=(ah p.L p.en k4 au).bind fun _ k5=>(dP p k5).bind fun ab k6=>(cF p.L cond k6).bind fun l k7=>(ah p.L p.en k7 a_).bind fun _ k8=>.ok (.mk 47 pl [] [] na nb ab.1 ab.2 (n::l)) k8 from by rw [O3.out,show eC p.L p.en k3 32768=.ok nb k4 from hD];rfl)
      clear hD O3
      go_wp2_with fail
      refine X3.out.mono ?_
      rintro e vP ⟨⟨v,rfl,rfl⟩,uS,rT⟩
      have GV:=vZ.out.keep aN hg jz uS rT
      clear uS rT
      have abq:vP.cell? ⟨W6.heap.size,5,none⟩=some (.int .i64 0):=GV.gy.cell 5
      have abb:=GV.gy.frozen 5
      have Nq:=GV.sr H.out jz zU nb
      generalize YL:vP.setCell ⟨W6.heap.size,5,none⟩ (.int .i64 nb)=IU at Nq
      have UC:=aa Nq
      clear GV Nq
      have X4:=aa (EX.out k4 [44] IU UC.out.at_)
      cases hD:ah p.L p.en k4 [44] with
      |err a er=>
       rw [hD] at X4
       have HE:=aa (show RR=.err a er from by rw [QY.out,show ah p.L p.en k4 au=.err a er from hD];rfl)
       clear hD
       go_wp2_with fail
       refine X4.out.mono ?_
       rintro e nE ⟨rfl,bK⟩
       go_wp2
       exact ⟨rfl,by rw [HE.out];exact ⟨rfl,UC.out.keeps.trans bK⟩⟩
      |ok u4 k5=>
       rw [hD] at X4
       have PI:=aa (show RR=(dP p k5).bind fun ab k6=>(cF p.L cond k6).bind fun l k7=>(ah p.L p.en k7 a_).bind fun _ k8=>.ok (.mk 47 pl [] [] na nb ab.1 ab.2 (n::l)) k8 from by rw [QY.out,show ah p.L p.en k4 au=.ok u4 k5 from hD];rfl)
       clear hD QY
       go_wp2_with fail
       refine X4.out.mono ?_
       rintro e IV ⟨⟨v,rfl,rfl⟩,Cu,rU⟩
       have RM:=UC.out.keep aN hg jz Cu rU
       clear Cu rU
       have UD:=aa RM
       clear RM YL
       have X5:=aa (DL.out k5 IV UD.out.at_)
       cases hD:dP p k5 with
       |err a er=>
        rw [hD] at X5
        have HE:=aa (show RR=.err a er from by rw [PI.out,show dP p k5=.err a er from hD];rfl)
        clear hD
        go_wp2_with fail
        refine X5.out.mono ?_
        rintro e nE ⟨rfl,bK⟩
        go_wp2
        exact ⟨rfl,by rw [HE.out];exact ⟨rfl,UD.out.keeps.trans bK⟩⟩
       |ok cd k6=>
        rw [hD] at X5
        have Pc:=aa (show RR=(cF p.L cond k6).bind fun l k7=>(ah p.L p.en k7 a_).bind fun _ k8=>.ok (.mk 47 pl [] [] na nb cd.1 cd.2 (n::l)) k8 from by rw [PI.out,show dP p k5=.ok cd k6 from hD];rfl)
        clear hD PI
        go_wp2_with fail
        refine X5.out.mono ?_
        rintro e J_ ⟨⟨v,rfl,rfl⟩,zO,rV⟩
        have GW:=UD.out.keep aN hg jz zO rV
        clear zO rV
        obtain ⟨nc,nd⟩:=cd
        have abr:J_.cell? ⟨W6.heap.size,6,none⟩=some (.int .i64 0):=GW.gy.cell 6
        have abc:=GW.gy.frozen 6
        have CU:=GW.XY H.out jz zU nc
        generalize abt:J_.setCell ⟨W6.heap.size,6,none⟩ (.int .i64 nc)=XA at CU
        have abu:XA.cell? ⟨W6.heap.size,7,none⟩=some (.int .i64 0):=CU.gy.cell 7
        have abd:=CU.gy.frozen 7
        have Nr:=CU.Tq H.out jz zU nd
        generalize abv:XA.setCell ⟨W6.heap.size,7,none⟩ (.int .i64 nd)=sj at Nr
        have kU:=aa Nr
        clear GW CU Nr
        obtain ⟨d0,d1,d2,d3,d4,d5,d6,d7,d8⟩:=aj kU.out.fJ
        have CX:=aa (fun (W:World) (h:bc p W k6)=>WH.out k6 W h)
        go_wp2_with fail
        cases hy:cF p.L cond k6 with
        |err a er=>
         have sQ:=aa (fun (W1 W:World) (h1:Below sj.heap.size sj W1) (hk:af (fun c=>c=p.b) W1 W)=>show bO p w (nh w.heap.size) RR (.panicked [{v:=kE a er,recovered:=false}]) W from by
          rw [Pc.out,hy];exact ⟨rfl,(kU.out.keeps.trans (af.of_below h1 (Nat.le_refl _))).trans hk⟩)
         rw [hy] at CX
         clear hy
         refine wp_region_any (by kernel_rfl) ?_
         change wpAny _ _ _ _ _ _ _ (World.drew _)
         refine wpAny_take (i:=2) (v:=?_) rfl (by kernel_rfl) (by kernel_rfl) (by kernel_rfl) (fun _ _ _ h=>h) (Or.inl ⟨by rfl,?_⟩) ?_
         rotate_left
         ·intro w;go_simp;with_reducible rfl
         refine wpAny_ready (rs:=[0,3]) (by kernel_rfl) (by simp) ?_
         refine AllReady.cons rfl (fun K hK=>?_) (AllReady.cons rfl (fun K hK=>?_) AllReady.nil)
         ·go_simp
          refine hK _ _ ?_
          clear hK K
          refine wpAny_ready (rs:=[1,3]) (by kernel_rfl) (by simp) ?_
          refine AllReady.cons rfl (fun K hK=>?_) (AllReady.cons rfl (fun K hK=>?_) AllReady.nil)
          ·go_simp
           refine hK _ _ ?_
           clear hK K
           generalize Qw:World.alloc _ _=Wa
           have YM:Below sj.heap.size sj Wa:=by rw [←Qw];exact (Below.refl _ sj).alloc (Nat.le_refl _) _
           have CXa:=aa (CX.out Wa.drew (kU.out.at_.below YM.drew))
           refine wpAny_ready (rs:=[3]) (by kernel_rfl) (by simp) ?_
           refine AllReady.cons rfl (fun K hK=>?_) AllReady.nil
           go_simp
           refine CXa.out.mono ?_
           rintro e w5 ⟨rfl,hk5⟩
           exact ⟨rfl,sQ.out _ _ YM.drew hk5⟩
          ·have UE:=aa (CX.out sj.drew (kU.out.at_.below ((Below.refl _ sj).drew)))
           go_simp
           refine UE.out.mono ?_
           rintro e w5 ⟨rfl,hk5⟩
           exact ⟨rfl,sQ.out _ _ ((Below.refl _ sj).drew) hk5⟩
         ·have UE:=aa (CX.out sj.drew (kU.out.at_.below ((Below.refl _ sj).drew)))
          go_simp
          refine UE.out.mono ?_
          rintro e w5 ⟨rfl,hk5⟩
          exact ⟨rfl,sQ.out _ _ ((Below.refl _ sj).drew) hk5⟩
        |ok l k7=>
         rw [hy] at CX
         have Qx:=aa (show RR=(ah p.L p.en k7 a_).bind fun _ k8=>.ok (.mk 47 pl [] [] na nb nc nd (n::l)) k8 from by rw [Pc.out,hy];rfl)
         clear hy Pc
         refine wp_region_any (by kernel_rfl) ?_
         change wpAny _ _ _ _ _ _ _ (World.drew _)
         refine wpAny_take (i:=2) (v:=?_) rfl (by kernel_rfl) (by kernel_rfl) (by kernel_rfl) (fun _ _ _ h=>h) (Or.inl ⟨by rfl,?_⟩) ?_
         rotate_left
         ·intro w;go_simp;with_reducible rfl
         refine wpAny_ready (rs:=[0,3]) (by kernel_rfl) (by simp) ?_
         refine AllReady.cons rfl (fun K hK=>?_) (AllReady.cons rfl (fun K hK=>?_) AllReady.nil)
         ·go_simp
          refine hK _ _ ?_
          clear hK K
          refine wpAny_ready (rs:=[1,3]) (by kernel_rfl) (by simp) ?_
          refine AllReady.cons rfl (fun K hK=>?_) (AllReady.cons rfl (fun K hK=>?_) AllReady.nil)
          ·go_simp
           refine hK _ _ ?_
           clear hK K
           generalize Qw:World.alloc _ _=Wa
           have YN:=aa Qw.symm
           refine wpAny_ready (rs:=[3]) (by kernel_rfl) (by simp) ?_
           refine AllReady.cons rfl (fun K hK=>?_) AllReady.nil
           have YM:Below sj.heap.size sj Wa:=by rw [←Qw];exact (Below.refl _ sj).alloc (Nat.le_refl _) _
           have CXa:=aa (CX.out Wa.drew (kU.out.at_.below YM.drew))
           go_simp
           refine CXa.out.mono ?_
           rintro e Y ⟨⟨v,rfl,hv⟩,hY,fg⟩
           refine hK _ _ ?_
           clear hK K
           have nM:af (fun c=>c=p.b) Wa Y:=⟨fg.os,fg.tape,fg.output,fg.size,fg.block⟩
           obtain ⟨eY,kY,vY⟩:=Nn aN hg jz kU.out (Below.refl _ sj) rfl YN.out hY nM hv
           clear hv hY nM fg Qw YN YM
           obtain ⟨kq,ck,Yb,cZ,m8,sX,tT⟩:=oF H.out jz eY.at_ eY.keeps eY.res eY.gy kY (by decide) vY
           have cB:(Builtin.append_ #[23,23] 23 #[.slice (some ⟨sj.heap.size,0,none⟩) 1 1,v]).run Tryz.prog Y=.ok (.slice (some ⟨kq,0,none⟩) (n::l).length ck) Yb:=cZ
           have jx:bR p w W6.heap.size (Yb.setCell ⟨W6.heap.size,8,none⟩ (.slice (some ⟨kq,0,none⟩) (n::l).length ck)) (.mk 47 pl [] [] na nb nc nd (n::l)) (aw 47 pl [] [] na nb nc nd (.slice (some ⟨kq,0,none⟩) (n::l).length ck)) k7:=tT
           generalize Kj:Yb.setCell ⟨W6.heap.size,8,none⟩ (.slice (some ⟨kq,0,none⟩) (n::l).length ck)=Yc at jx
           have Dt:=aa jx
           clear cZ tT jx eY kY vY
           generalize hlen:(n::l).length=Qy at cB Kj Dt
           refine wpAny_ready (rs:=[4]) (by kernel_rfl) (by simp) ?_
           refine AllReady.cons rfl (fun K hK=>?_) AllReady.nil
           refine bp (by kernel_rfl) (.tmp 34) (.tmp 36) 23 rfl rfl rfl cB ?_
           refine hK _ _ ?_
           clear hK K cB
           refine wpAny_ready (rs:=[5]) (by kernel_rfl) (by simp) ?_
           refine AllReady.cons rfl (fun K hK=>?_) AllReady.nil
           go_simp
           refine hK _ _ ?_
           clear hK K
           refine wpAny_ready (rs:=[6]) (by kernel_rfl) (by simp) ?_
           refine AllReady.cons rfl (fun K hK=>?_) AllReady.nil
           go_simp
           refine hK _ _ ?_
           clear hK K
           refine wpAny_done (by kernel_rfl) ?_ _
           clear m8 sX Kj
           have X7:=aa (EX.out k7 [125] Yc Dt.out.at_)
           cases hD:ah p.L p.en k7 [125] with
           |err a er=>
            rw [hD] at X7
            have HE:=aa (show RR=.err a er from by rw [Qx.out,show ah p.L p.en k7 a_=.err a er from hD];rfl)
            clear hD
            go_wp2_with fail
            refine X7.out.mono ?_
            rintro e nE ⟨rfl,bK⟩
            go_wp2
            exact ⟨rfl,by rw [HE.out];exact ⟨rfl,Dt.out.keeps.trans bK⟩⟩
           |ok u7 k8=>
            rw [hD] at X7
            have HE:=aa (show RR=.ok (.mk 47 pl [] [] na nb nc nd (n::l)) k8 from by rw [Qx.out,show ah p.L p.en k7 a_=.ok u7 k8 from hD];rfl)
            clear hD Qx
            go_wp2_with fail
            refine X7.out.mono ?_
            rintro e Kd ⟨⟨v,rfl,rfl⟩,RO,jG⟩
            subst hlen
            have Ns:=aa (Dt.out.keep aN jz RO jG)
            clear RO jG
            obtain ⟨vX,bS,hres,hrow,aB⟩:=Ns.out
            obtain ⟨z0,z1,z2,z3,z4,z5,z6,z7,z8⟩:=aj hrow
            obtain ⟨y0,y1,y2,y3,y4,y5,y6,y7,y8⟩:=aj hres
            obtain ⟨zu,zv,zw,zx,zy,zz,zA,zB,zC⟩:=aA hres
            have cN:=aa aB
            clear hrow aB
            go_wp2_with fail
            refine bodyPost_ret (v:=.agg #[.int .i64 47,.int .i64 pl,.string {data:=#[]},.string {data:=#[]},.int .i64 na,.int .i64 nb,.int .i64 nc,.int .i64 nd,.slice (some ⟨kq,0,none⟩) (n::l).length ck]) (ag rfl _ _ w.heap.size 25 _ _ _ rfl (av hres _ _ _ _ _ _ _ _ _) Tryz.underlying25 rfl (by kernel_rfl)) rfl ?_
            have hbl:=ak (W:=Kd) (Nat.le_refl w.heap.size) (.int .i64 47) (.int .i64 pl) (.string {data:=#[]}) (.string {data:=#[]}) (.int .i64 na) (.int .i64 nb) (.int .i64 nc) (.int .i64 nd) (.slice (some ⟨kq,0,none⟩) (n::l).length ck)
            rw [HE.out]
            exact ⟨⟨_,rfl,_,rfl,(cN.out.keeps (ax (C:=fun b=>b≤w.heap.size∨b=W6.heap.size) (.inl (Nat.le_refl _)) _ _ _ _ _ _ _ _ _)).mono (fun b hb'=>.inl (Nat.le_of_lt hb'))⟩,H.out.above vX hbl,bS.over hbl⟩
          ·skip
           have UE:=aa (CX.out sj.drew (kU.out.at_.below ((Below.refl _ sj).drew)))
           go_simp
           refine UE.out.mono ?_
           rintro e Y ⟨⟨v,rfl,hv⟩,hY,fg⟩
           refine hK _ _ ?_
           clear hK K
           have nM:af (fun c=>c=p.b) sj Y:=⟨fg.os,fg.tape,fg.output,fg.size,fg.block⟩
           refine wpAny_ready (rs:=[1]) (by kernel_rfl) (by simp) ?_
           refine AllReady.cons rfl (fun K hK=>?_) AllReady.nil
           go_simp
           refine hK _ _ ?_
           clear hK K
           generalize CR:World.alloc Y _=Ya
           obtain ⟨eY,kY,vY⟩:=x_ aN hg jz kU.out hY nM hv CR.symm
           clear hv hY nM fg CR
           obtain ⟨kq,ck,Yb,cZ,m8,sX,tT⟩:=oF H.out jz eY.at_ eY.keeps eY.res eY.gy kY (by decide) vY
           have cB:(Builtin.append_ #[23,23] 23 #[.slice (some ⟨Y.heap.size,0,none⟩) 1 1,v]).run Tryz.prog Ya=.ok (.slice (some ⟨kq,0,none⟩) (n::l).length ck) Yb:=cZ
           have jx:bR p w W6.heap.size (Yb.setCell ⟨W6.heap.size,8,none⟩ (.slice (some ⟨kq,0,none⟩) (n::l).length ck)) (.mk 47 pl [] [] na nb nc nd (n::l)) (aw 47 pl [] [] na nb nc nd (.slice (some ⟨kq,0,none⟩) (n::l).length ck)) k7:=tT
           generalize Kj:Yb.setCell ⟨W6.heap.size,8,none⟩ (.slice (some ⟨kq,0,none⟩) (n::l).length ck)=Yc at jx
           have Dt:=aa jx
           clear cZ tT jx eY kY vY
           generalize hlen:(n::l).length=Qy at cB Kj Dt
           refine wpAny_ready (rs:=[4]) (by kernel_rfl) (by simp) ?_
           refine AllReady.cons rfl (fun K hK=>?_) AllReady.nil
           refine bp (by kernel_rfl) (.tmp 34) (.tmp 36) 23 rfl rfl rfl cB ?_
           refine hK _ _ ?_
           clear hK K cB
           refine wpAny_ready (rs:=[5]) (by kernel_rfl) (by simp) ?_
           refine AllReady.cons rfl (fun K hK=>?_) AllReady.nil
           go_simp
           refine hK _ _ ?_
           clear hK K
           refine wpAny_ready (rs:=[6]) (by kernel_rfl) (by simp) ?_
           refine AllReady.cons rfl (fun K hK=>?_) AllReady.nil
           go_simp
           refine hK _ _ ?_
           clear hK K
           refine wpAny_done (by kernel_rfl) ?_ _
           clear m8 sX Kj
           have X7:=aa (EX.out k7 [125] Yc Dt.out.at_)
           cases hD:ah p.L p.en k7 [125] with
           |err a er=>
            rw [hD] at X7
            have HE:=aa (show RR=.err a er from by rw [Qx.out,show ah p.L p.en k7 a_=.err a er from hD];rfl)
            clear hD
            go_wp2_with fail
            refine X7.out.mono ?_
            rintro e nE ⟨rfl,bK⟩
            go_wp2
            exact ⟨rfl,by rw [HE.out];exact ⟨rfl,Dt.out.keeps.trans bK⟩⟩
           |ok u7 k8=>
            rw [hD] at X7
            have HE:=aa (show RR=.ok (.mk 47 pl [] [] na nb nc nd (n::l)) k8 from by rw [Qx.out,show ah p.L p.en k7 a_=.ok u7 k8 from hD];rfl)
            clear hD Qx
            go_wp2_with fail
            refine X7.out.mono ?_
            rintro e Kd ⟨⟨v,rfl,rfl⟩,RO,jG⟩
            subst hlen
            have Ns:=aa (Dt.out.keep aN jz RO jG)
            clear RO jG
            obtain ⟨vX,bS,hres,hrow,aB⟩:=Ns.out
            obtain ⟨z0,z1,z2,z3,z4,z5,z6,z7,z8⟩:=aj hrow
            obtain ⟨y0,y1,y2,y3,y4,y5,y6,y7,y8⟩:=aj hres
            obtain ⟨zu,zv,zw,zx,zy,zz,zA,zB,zC⟩:=aA hres
            have cN:=aa aB
            clear hrow aB
            go_wp2_with fail
            refine bodyPost_ret (v:=.agg #[.int .i64 47,.int .i64 pl,.string {data:=#[]},.string {data:=#[]},.int .i64 na,.int .i64 nb,.int .i64 nc,.int .i64 nd,.slice (some ⟨kq,0,none⟩) (n::l).length ck]) (ag rfl _ _ w.heap.size 25 _ _ _ rfl (av hres _ _ _ _ _ _ _ _ _) Tryz.underlying25 rfl (by kernel_rfl)) rfl ?_
            have hbl:=ak (W:=Kd) (Nat.le_refl w.heap.size) (.int .i64 47) (.int .i64 pl) (.string {data:=#[]}) (.string {data:=#[]}) (.int .i64 na) (.int .i64 nb) (.int .i64 nc) (.int .i64 nd) (.slice (some ⟨kq,0,none⟩) (n::l).length ck)
            rw [HE.out]
            exact ⟨⟨_,rfl,_,rfl,(cN.out.keeps (ax (C:=fun b=>b≤w.heap.size∨b=W6.heap.size) (.inl (Nat.le_refl _)) _ _ _ _ _ _ _ _ _)).mono (fun b hb'=>.inl (Nat.le_of_lt hb'))⟩,H.out.above vX hbl,bS.over hbl⟩
         ·skip
          have UE:=aa (CX.out sj.drew (kU.out.at_.below ((Below.refl _ sj).drew)))
          go_simp
          refine UE.out.mono ?_
          rintro e Y ⟨⟨v,rfl,hv⟩,hY,fg⟩
          refine hK _ _ ?_
          clear hK K
          have nM:af (fun c=>c=p.b) sj Y:=⟨fg.os,fg.tape,fg.output,fg.size,fg.block⟩
          have c0:Y.cell? ⟨w3.heap.size,0,none⟩=some (.int .i64 kd):=(kU.out.keep aN hg jz hY nM).fJ.cell 0
          have c1:Y.cell? ⟨w3.heap.size,1,none⟩=some (.int .i64 a0):=(kU.out.keep aN hg jz hY nM).fJ.cell 1
          have c2:Y.cell? ⟨w3.heap.size,2,none⟩=some (.string (ae nm)):=(kU.out.keep aN hg jz hY nM).fJ.cell 2
          have c3:Y.cell? ⟨w3.heap.size,3,none⟩=some (.string (ae vl)):=(kU.out.keep aN hg jz hY nM).fJ.cell 3
          have c4:Y.cell? ⟨w3.heap.size,4,none⟩=some (.int .i64 xa):=(kU.out.keep aN hg jz hY nM).fJ.cell 4
          have c5:Y.cell? ⟨w3.heap.size,5,none⟩=some (.int .i64 xb):=(kU.out.keep aN hg jz hY nM).fJ.cell 5
          have c6:Y.cell? ⟨w3.heap.size,6,none⟩=some (.int .i64 xc):=(kU.out.keep aN hg jz hY nM).fJ.cell 6
          have c7:Y.cell? ⟨w3.heap.size,7,none⟩=some (.int .i64 xd):=(kU.out.keep aN hg jz hY nM).fJ.cell 7
          have c8:Y.cell? ⟨w3.heap.size,8,none⟩=some (.slice A len cap):=(kU.out.keep aN hg jz hY nM).fJ.cell 8
          refine wpAny_ready (rs:=[0]) (by kernel_rfl) (by simp) ?_
          refine AllReady.cons rfl (fun K hK=>?_) AllReady.nil
          go_simp
          refine hK _ _ ?_
          clear hK K
          refine wpAny_ready (rs:=[1]) (by kernel_rfl) (by simp) ?_
          refine AllReady.cons rfl (fun K hK=>?_) AllReady.nil
          go_simp
          refine hK _ _ ?_
          clear hK K
          generalize CR:World.alloc Y _=Ya
          obtain ⟨eY,kY,vY⟩:=x_ aN hg jz kU.out hY nM hv CR.symm
          clear hv hY nM fg CR
          obtain ⟨kq,ck,Yb,cZ,m8,sX,tT⟩:=oF H.out jz eY.at_ eY.keeps eY.res eY.gy kY (by decide) vY
          have cB:(Builtin.append_ #[23,23] 23 #[.slice (some ⟨Y.heap.size,0,none⟩) 1 1,v]).run Tryz.prog Ya=.ok (.slice (some ⟨kq,0,none⟩) (n::l).length ck) Yb:=cZ
          have jx:bR p w W6.heap.size (Yb.setCell ⟨W6.heap.size,8,none⟩ (.slice (some ⟨kq,0,none⟩) (n::l).length ck)) (.mk 47 pl [] [] na nb nc nd (n::l)) (aw 47 pl [] [] na nb nc nd (.slice (some ⟨kq,0,none⟩) (n::l).length ck)) k7:=tT
          generalize Kj:Yb.setCell ⟨W6.heap.size,8,none⟩ (.slice (some ⟨kq,0,none⟩) (n::l).length ck)=Yc at jx
          have Dt:=aa jx
          clear cZ tT jx eY kY vY
          generalize hlen:(n::l).length=Qy at cB Kj Dt
          refine wpAny_ready (rs:=[4]) (by kernel_rfl) (by simp) ?_
          refine AllReady.cons rfl (fun K hK=>?_) AllReady.nil
          refine bp (by kernel_rfl) (.tmp 34) (.tmp 36) 23 rfl rfl rfl cB ?_
          refine hK _ _ ?_
          clear hK K cB
          refine wpAny_ready (rs:=[5]) (by kernel_rfl) (by simp) ?_
          refine AllReady.cons rfl (fun K hK=>?_) AllReady.nil
          go_simp
          refine hK _ _ ?_
          clear hK K
          refine wpAny_ready (rs:=[6]) (by kernel_rfl) (by simp) ?_
          refine AllReady.cons rfl (fun K hK=>?_) AllReady.nil
          go_simp
          refine hK _ _ ?_
          clear hK K
          refine wpAny_done (by kernel_rfl) ?_ _
          clear m8 sX Kj
          have X7:=aa (EX.out k7 [125] Yc Dt.out.at_)
          cases hD:ah p.L p.en k7 [125] with
          |err a er=>
           rw [hD] at X7
           have HE:=aa (show RR=.err a er from by rw [Qx.out,show ah p.L p.en k7 a_=.err a er from hD];rfl)
           clear hD
           go_wp2_with fail
           refine X7.out.mono ?_
           rintro e nE ⟨rfl,bK⟩
           go_wp2
           exact ⟨rfl,by rw [HE.out];exact ⟨rfl,Dt.out.keeps.trans bK⟩⟩
          |ok u7 k8=>
           rw [hD] at X7
           have HE:=aa (show RR=.ok (.mk 47 pl [] [] na nb nc nd (n::l)) k8 from by rw [Qx.out,show ah p.L p.en k7 a_=.ok u7 k8 from hD];rfl)
           clear hD Qx
           go_wp2_with fail
           refine X7.out.mono ?_
           rintro e Kd ⟨⟨v,rfl,rfl⟩,RO,jG⟩
           subst hlen
           have Ns:=aa (Dt.out.keep aN jz RO jG)
           clear RO jG
           obtain ⟨vX,bS,hres,hrow,aB⟩:=Ns.out
           obtain ⟨z0,z1,z2,z3,z4,z5,z6,z7,z8⟩:=aj hrow
           obtain ⟨y0,y1,y2,y3,y4,y5,y6,y7,y8⟩:=aj hres
           obtain ⟨zu,zv,zw,zx,zy,zz,zA,zB,zC⟩:=aA hres
           have cN:=aa aB
           clear hrow aB
           go_wp2_with fail
           refine bodyPost_ret (v:=.agg #[.int .i64 47,.int .i64 pl,.string {data:=#[]},.string {data:=#[]},.int .i64 na,.int .i64 nb,.int .i64 nc,.int .i64 nd,.slice (some ⟨kq,0,none⟩) (n::l).length ck]) (ag rfl _ _ w.heap.size 25 _ _ _ rfl (av hres _ _ _ _ _ _ _ _ _) Tryz.underlying25 rfl (by kernel_rfl)) rfl ?_
           have hbl:=ak (W:=Kd) (Nat.le_refl w.heap.size) (.int .i64 47) (.int .i64 pl) (.string {data:=#[]}) (.string {data:=#[]}) (.int .i64 na) (.int .i64 nb) (.int .i64 nc) (.int .i64 nd) (.slice (some ⟨kq,0,none⟩) (n::l).length ck)
           rw [HE.out]
           exact ⟨⟨_,rfl,_,rfl,(cN.out.keeps (ax (C:=fun b=>b≤w.heap.size∨b=W6.heap.size) (.inl (Nat.le_refl _)) _ _ _ _ _ _ _ _ _)).mono (fun b hb'=>.inl (Nat.le_of_lt hb'))⟩,H.out.above vX hbl,bS.over hbl⟩
end Go.Proofs.YtddoehnkgcbboaaGreatDoor
