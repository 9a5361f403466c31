/- Packed by program: a part of the proof; the last file says what is proved. -/
import Derived.Test.YtddoehnkgcbboaaGreatDoorPrR
import Derived.Lib.AppendZeros
set_option maxHeartbeats 16000000
set_option maxRecDepth 100000
set_option linter.unusedVariables false
set_option linter.unusedSimpArgs false
namespace Go.Proofs.YtddoehnkgcbboaaGreatDoor
open Go.RowKit Go.Shelf Go.Maps
theorem cG.nine {C:Nat→Prop} {W:World} {n:Nd} {cs:List Value} (h:cG C W n cs):∃kd a0 nm vl xa xb xc xd A len cap,cs=aw kd a0 nm vl xa xb xc xd (.slice A len cap):=by
 cases h;exact ⟨_,_,_,_,_,_,_,_,_,_,_,rfl⟩
theorem bp {P:Program} {w w':World} {ops:Array Oper} {o:Oper} {a:Act} {K:Act→World→Prop} {Q:Exit→Act→World→Prop} {E:Prop} (hw:Region.wanted o (yielded ops a.tmps)=true) (s x:Operand) (t:TypeId)
 (ho:o.op=.call {callee:=.builtin .append,args:=#[s,x],argTypes:=#[t,t]}) {v u r:Value} (hs:a.eval s=v) (hx:a.eval x=u)
 (hr:(Builtin.append_ #[t,t] o.type #[v,u]).run P w=.ok r w') (h:K (a.put o.dst r) w'):
 if Region.wanted o (yielded ops a.tmps)=true then Oper.wp P o a w K Q else E:=by
 rw [if_pos hw]
 exact Lib.wp_append_run w s x t t ho _ _ hs hx _ _ hr h
theorem zq (p:PS) (F:Nat) (cond:Nat→PR Nd) (hc:bQ p 17 cond F) (hp:Prog cond) (q aJ:Int) (k:Nat) (w:World) (hF:p.L.length<F+k) (h:bc p w k):
 Calls Tryz.prog 278 #[.pointer (some ⟨p.b,0,none⟩),.int .i64 q,.int .i64 aJ] w (bO p w (nh w.heap.size) (jn p.L p.en (bX p) cond q aJ k)):=by
 have aN:p.b<w.heap.size:=h.row.lt
 have hb0:Below w.heap.size w (w.alloc (.cells bJ 25)):=(Below.refl _ _).alloc (Nat.le_refl _) _
 have fO:Row (w.alloc (.cells bJ 25)) w.heap.size 25 bJ:=Row.new _ _ _
 have EX:=aa (fun (k:Nat) (wd:List UInt8) (W:World) (h:bc p W k)=>eK p k wd W h)
 have ZQ:=aa (eK p k [40] _ (h.below hb0))
 have TM:=aa (fun (k:Nat) (W:World) (h:bc p W k)=>Ci p k W h)
 have HC:=aa (fun (k':Nat) (W:World) (hk:k≤k') (h:bc p W k')=>hc k' W (by omega) h)
 have HPG:=aa hp
 have H:=aa h
 have ke:=aa hb0
 have lN:=aa fO
 obtain ⟨RR,jC⟩:∃RR,jn p.L p.en (bX p) cond q aJ k=RR:=⟨_,rfl⟩
 have ze:=aa jC
 rw [jC]
 clear hc hp h hb0 fO jC
 go_enter Tryz.func278,Tryz.ntmps278
 cases Ua:ah p.L p.en k [40] with
 |err a er=>
  rw [Ua] at ZQ
  have HE:=aa (show RR=.err a er from by rw [←ze.out];unfold jn;rw [show ah p.L p.en k cj=.err a er from Ua];rfl)
  clear Ua
  go_wp2_with fail
  refine ZQ.out.mono ?_
  rintro e w1 ⟨rfl,fo⟩
  go_wp2
  exact ⟨rfl,by rw [HE.out];exact ⟨rfl,(af.of_below ke.out (Nat.le_refl _)).trans fo⟩⟩
 |ok u0 k1=>
  rw [Ua] at ZQ
  have MO:k≤k1:=by
   have h1:ah p.L p.en k [40]=.ok u0 k1:=Ua
   unfold ah at h1
   split at h1
   ·cases h1;exact Nat.le_succ _
   ·cases h1
  have HU:=aa (show RR=(cond k1).bind fun x k2=>(ah p.L p.en k2 au).bind fun _ k3=>
   if q=35∨q=36 then (cond k3).bind fun y k4=>(ah p.L p.en k4 au).bind fun _ k5=>fE p.L p.en (bX p) k5 fun a b k6=>(ah p.L p.en k6 ay).bind fun _ k7=>.ok (.mk q aJ [] [] a b 0 0 [x,y]) k7
   else fE p.L p.en (bX p) k3 fun a b k6=>(ah p.L p.en k6 ay).bind fun _ k7=>.ok (.mk q aJ [] [] a b 0 0 [x]) k7 from by rw [←ze.out];unfold jn;rw [show ah p.L p.en k cj=.ok u0 k1 from Ua];rfl)
  clear Ua ze
  go_wp2_with fail
  refine ZQ.out.mono ?_
  rintro e w1 ⟨⟨v,rfl,rfl⟩,h1,fo⟩
  have gJ:=aa (lN.out.keep fo (by show¬w.heap.size=p.b;omega))
  have Lh:=aa ((af.of_below (C:=fun c=>c=p.b) ke.out (Nat.le_refl _)).trans fo)
  have hz1:w.heap.size<w1.heap.size:=gJ.out.lt
  have X:=aa (HC.out k1 w1 MO h1)
  clear h1 fo
  cases hx:cond k1 with
  |err a er=>
   rw [hx] at X
   have HE:=aa (show RR=.err a er from by rw [HU.out,hx];rfl)
   clear hx
   go_wp2_with fail
   refine X.out.mono ?_
   rintro e w3 ⟨rfl,hk3⟩
   go_wp2
   exact ⟨rfl,by rw [HE.out];exact ⟨rfl,Lh.out.trans hk3⟩⟩
  |ok x k2=>
   rw [hx] at X
   have vW:=HPG.out _ _ _ hx
   have fP:=aa (show RR=(ah p.L p.en k2 au).bind fun _ k3=>
    if q=35∨q=36 then (cond k3).bind fun y k4=>(ah p.L p.en k4 au).bind fun _ k5=>fE p.L p.en (bX p) k5 fun a b k6=>(ah p.L p.en k6 ay).bind fun _ k7=>.ok (.mk q aJ [] [] a b 0 0 [x,y]) k7
    else fE p.L p.en (bX p) k3 fun a b k6=>(ah p.L p.en k6 ay).bind fun _ k7=>.ok (.mk q aJ [] [] a b 0 0 [x]) k7 from by rw [HU.out,hx];rfl)
   clear hx HU
   go_wp2_with fail
   refine X.out.mono ?_
   rintro e w3 ⟨⟨v,rfl,cs,rfl,aB⟩,h3,hk3⟩
   have hr3:Row w3 w.heap.size 25 bJ:=gJ.out.keep hk3 (by show¬w.heap.size=p.b;omega)
   have gM:=Lh.out.trans hk3
   obtain ⟨kd,a0,nm,vl,xa,xb,xc,xd,A,len,cap,rfl⟩:=aB.nine
   have cN:=aa aB
   generalize jA:w3.alloc (.cells [aw kd a0 nm vl xa xb xc xd (.slice A len cap)].flatten.toArray 25)=W4
   have s4:W4.heap.size=w3.heap.size+1:=by rw [←jA,World.size_alloc]
   generalize pA:W4.alloc (.cells (aw q aJ [] [] 0 0 0 0 (.slice (some ⟨w3.heap.size,0,none⟩) 1 1)).toArray 25)=W5
   have kX:=kj.new h3 gM hr3 cN.out hz1 jA.symm pA.symm
   rw [←s4] at kX
   have PD:=aa kX
   have lB:w3.alloc (.cells #[.int .i64 kd,.int .i64 a0,.string (ae nm),.string (ae vl),.int .i64 xa,.int .i64 xb,.int .i64 xc,.int .i64 xd,.slice A len cap] 25)=W4:=jA
   have zr:W4.alloc (.cells #[.int .i64 q,.int .i64 aJ,.string {data:=#[]},.string {data:=#[]},.int .i64 0,.int .i64 0,.int .i64 0,.int .i64 0,.slice (some ⟨w3.heap.size,0,none⟩) 1 1] 25)=W5:=pA
   have hg:w.heap.size<W4.heap.size:=by have:=hr3.lt;omega
   have zt:=aa (EX.out k2 [44] W5 PD.out.at_)
   clear h3 hk3 hr3 gM jA pA aB kX s4
   unfold aw
   cases hD:ah p.L p.en k2 [44] with
   |err a er=>
    rw [hD] at zt
    have HE:=aa (show RR=.err a er from by rw [fP.out,show ah p.L p.en k2 au=.err a er from hD];rfl)
    clear hD
    go_wp2_with fail
    refine zt.out.mono ?_
    rintro e W6 ⟨rfl,lW⟩
    go_wp2
    exact ⟨rfl,by rw [HE.out];exact ⟨rfl,PD.out.keeps.trans lW⟩⟩
   |ok u5 k3=>
    rw [hD] at zt
    have Cj:k2≤k3:=by
     have h1:ah p.L p.en k2 [44]=.ok u5 k3:=hD
     unfold ah at h1
     split at h1
     ·cases h1;exact Nat.le_succ _
     ·cases h1
    have gq:=aa (show RR=if q=35∨q=36 then (cond k3).bind fun y k4=>(ah p.L p.en k4 au).bind fun _ k5=>fE p.L p.en (bX p) k5 fun a b k6=>(ah p.L p.en k6 ay).bind fun _ k7=>.ok (.mk q aJ [] [] a b 0 0 [x,y]) k7
     else fE p.L p.en (bX p) k3 fun a b k6=>(ah p.L p.en k6 ay).bind fun _ k7=>.ok (.mk q aJ [] [] a b 0 0 [x]) k7 from by rw [fP.out,show ah p.L p.en k2 au=.ok u5 k3 from hD];rfl)
    clear hD fP
    go_wp2_with fail
    refine zt.out.mono ?_
    rintro e W6 ⟨⟨v,rfl,rfl⟩,h6,lW⟩
    clear lB zr
    have uM:=aa (PD.out.keep aN hg h6 lW)
    clear h6 lW
    by_cases wo:q=35
    ·have e35:(q==35)=true:=beq_iff_eq.2 wo
     have su:=aa (show RR=_ from by rw [gq.out,if_pos (.inl wo)])
     clear gq wo
     have hgp:¬(W4.heap.size=p.b):=by omega
     have c8:W6.cell? ⟨W4.heap.size,8,none⟩=some (.slice (some ⟨w3.heap.size,0,none⟩) 1 1):=uM.out.row.cell 8
     have CX:=aa (HC.out k3 W6.drew (by omega) (uM.out.at_.below ((Below.refl _ W6).drew)))
     go_wp2_with fail
     cases hy:cond k3 with
     |err a er=>
      rw [hy] at CX
      have sQ:=aa (fun (W:World) (hk:af (fun c=>c=p.b) W6.drew W)=>show bO p w (nh w.heap.size) RR (.panicked [{v:=kE a er,recovered:=false}]) W from by
       rw [su.out,hy];exact ⟨rfl,(uM.out.keeps.drew).trans hk⟩)
      clear hy
      refine wp_region_any (by kernel_rfl) ?_
      change wpAny _ _ _ _ _ _ _ (World.drew _)
      refine wpAny_take (i:=0) (v:=?_) rfl (by kernel_rfl) (by kernel_rfl) (by kernel_rfl) (fun _ _ _ h=>h) (Or.inl ⟨by rfl,?_⟩) ?_
      rotate_left
      ·intro w;go_simp;with_reducible rfl
      refine wpAny_take (i:=2) (v:=?_) rfl (by kernel_rfl) (by kernel_rfl) (by kernel_rfl) (fun _ _ _ h=>h) (Or.inl ⟨by rfl,?_⟩) ?_
      rotate_left
      ·intro w;go_simp;with_reducible rfl
      refine wpAny_ready (rs:=[1,3]) (by kernel_rfl) (by simp) ?_
      refine AllReady.cons rfl (fun K hK=>?_) (AllReady.cons rfl (fun K hK=>?_) AllReady.nil)
      ·go_simp
       refine hK _ _ ?_
       clear hK K
       refine wpAny_ready (rs:=[3]) (by kernel_rfl) (by simp) ?_
       refine AllReady.cons rfl (fun K hK=>?_) AllReady.nil
       go_simp
       refine CX.out.mono ?_
       rintro e w5 ⟨rfl,hk5⟩
       exact ⟨rfl,sQ.out _ hk5⟩
      ·go_simp
       refine CX.out.mono ?_
       rintro e w5 ⟨rfl,hk5⟩
       exact ⟨rfl,sQ.out _ hk5⟩
     |ok y k4=>
      rw [hy] at CX
      have sW:=aa (show RR=(ah p.L p.en k4 au).bind fun _ k5=>fE p.L p.en (bX p) k5 fun a b k6=>(ah p.L p.en k6 ay).bind fun _ k7=>.ok (.mk q aJ [] [] a b 0 0 [x,y]) k7 from by rw [su.out,hy];rfl)
      clear hy su
      refine wp_region_any (by kernel_rfl) ?_
      change wpAny _ _ _ _ _ _ _ (World.drew _)
      refine wpAny_take (i:=0) (v:=?_) rfl (by kernel_rfl) (by kernel_rfl) (by kernel_rfl) (fun _ _ _ h=>h) (Or.inl ⟨by rfl,?_⟩) ?_
      rotate_left
      ·intro w;go_simp;with_reducible rfl
      refine wpAny_take (i:=2) (v:=?_) rfl (by kernel_rfl) (by kernel_rfl) (by kernel_rfl) (fun _ _ _ h=>h) (Or.inl ⟨by rfl,?_⟩) ?_
      rotate_left
      ·intro w;go_simp;with_reducible rfl
      refine wpAny_ready (rs:=[1,3]) (by kernel_rfl) (by simp) ?_
      refine AllReady.cons rfl (fun K hK=>?_) (AllReady.cons rfl (fun K hK=>?_) AllReady.nil)
      ·go_simp
       refine hK _ _ ?_
       clear hK K
       refine wpAny_ready (rs:=[3]) (by kernel_rfl) (by simp) ?_
       refine AllReady.cons rfl (fun K hK=>?_) AllReady.nil
       go_simp
       refine CX.out.mono ?_
       rintro e w5 ⟨⟨v,rfl,Ye,rfl,ik⟩,h5,hk5⟩
       refine hK _ _ ?_
       clear hK K
       have cO:af (fun c=>c=p.b) W6 w5:=⟨hk5.os,hk5.tape,hk5.output,hk5.size,hk5.block⟩
       have il:=uM.out.keep aN hg h5 cO
       obtain ⟨yk,y0,yn,yv,ya,yb,yc,yd,yA,dW,dp,rfl⟩:=ik.nine
       have uN:=ik.mono (C':=fun b=>(b≤w.heap.size∨b=W4.heap.size)∨b=w3.heap.size) (fun b hb=>by
        have e1:=uM.out.row.lt
        have e2:=uM.out.kids.lt
        have e3:=uM.out.res.lt
        show b<W6.heap.size
        rcases hb with (hb|rfl)|rfl<;>omega)
       unfold aw
       refine wpAny_ready (rs:=[4]) (by kernel_rfl) (by simp) ?_
       refine AllReady.cons rfl (fun K hK=>?_) AllReady.nil
       go_simp
       refine hK _ _ ?_
       clear hK K
       generalize oA:World.alloc w5 _=W7
       have b7:Below w5.heap.size w5 W7:=by rw [←oA];exact (Below.refl _ _).alloc (Nat.le_refl _) _
       have r7:Row W7 w5.heap.size 25 (aw yk y0 yn yv ya yb yc yd (.slice yA dW dp)).toArray:=by rw [←oA];exact Row.new _ _ _
       have cu:=il.keep aN hg (h5.below b7) (af.of_below b7 (Nat.le_refl _))
       obtain ⟨gk,ck,W8,cZ,cX,hgr⟩:=cu.kids.app (uN.keeps (af.of_below b7 (Nat.le_refl _))) r7 (by have:=cu.res.lt;omega) (fun b hb=>by
        have e1:=cu.row.lt
        have e3:=cu.res.lt
        rcases hb with hb|rfl<;>omega) (by omega)
       have oB:=cu.row.grown hgr (by intro e;exact cu.kids.not (.inr (Option.some.inj e).symm))
       have jt:kj p w W4.heap.size (W8.setCell ⟨W4.heap.size,8,none⟩ (.slice (some ⟨gk,0,none⟩) 2 ck)) q aJ gk 2 ck [x,y] _ k4:=cu.app H.out hg cX hgr
       have cB:(Builtin.append_ #[23,23] 23 #[.slice (some ⟨w3.heap.size,0,none⟩) 1 1,.slice (some ⟨w5.heap.size,0,none⟩) 1 1]).run Tryz.prog W7=.ok (.slice (some ⟨gk,0,none⟩) 2 ck) W8:=cZ
       have m8:W8.cell? ⟨W4.heap.size,8,none⟩=some (.slice (some ⟨w3.heap.size,0,none⟩) 1 1):=oB.cell 8
       have sX:=oB.frozen 8
       generalize qV:W8.setCell ⟨W4.heap.size,8,none⟩ (.slice (some ⟨gk,0,none⟩) 2 ck)=W9 at jt
       have uO:=aa jt
       clear jt cu il oB cX hgr cZ b7 r7 uN ik h5 hk5 cO oA
       refine wpAny_ready (rs:=[5]) (by kernel_rfl) (by simp) ?_
       refine AllReady.cons rfl (fun K hK=>?_) AllReady.nil
       refine bp (by kernel_rfl) (.tmp 25) (.tmp 28) 23 rfl rfl rfl cB ?_
       refine hK _ _ ?_
       clear hK K cB
       refine wpAny_ready (rs:=[6]) (by kernel_rfl) (by simp) ?_
       refine AllReady.cons rfl (fun K hK=>?_) AllReady.nil
       go_simp
       refine hK _ _ ?_
       clear hK K
       refine wpAny_ready (rs:=[7]) (by kernel_rfl) (by simp) ?_
       refine AllReady.cons rfl (fun K hK=>?_) AllReady.nil
       go_simp
       refine hK _ _ ?_
       clear hK K
       refine wpAny_done (by kernel_rfl) ?_ _
       have pP:=aa (EX.out k4 [44] W9 uO.out.at_)
       cases hD:ah p.L p.en k4 [44] with
       |err a er=>
        rw [hD] at pP
        have HE:=aa (show RR=.err a er from by rw [sW.out,show ah p.L p.en k4 au=.err a er from hD];rfl)
        clear hD
        go_wp2_with fail
        refine pP.out.mono ?_
        rintro e lO ⟨rfl,gh⟩
        go_wp2
        exact ⟨rfl,by rw [HE.out];exact ⟨rfl,uO.out.keeps.trans gh⟩⟩
       |ok u9 k5=>
        rw [hD] at pP
        have uP:=aa (show RR=fE p.L p.en (bX p) k5 fun a b k6=>(ah p.L p.en k6 ay).bind fun _ k7=>.ok (.mk q aJ [] [] a b 0 0 [x,y]) k7 from by rw [sW.out,show ah p.L p.en k4 au=.ok u9 k5 from hD];rfl)
        clear hD sW
        go_wp2_with fail
        refine pP.out.mono ?_
        rintro e lO ⟨⟨v,rfl,rfl⟩,h10,gh⟩
        have ju:=aa (uO.out.keep aN hg h10 gh).lf
        clear h10 gh qV m8 sX
        have nk:=aa (TM.out k5 lO ju.out.at_)
        cases hA:aP p.L p.en (bX p) k5 with
        |err a er=>
         rw [hA] at nk
         have HE:=aa (show RR=.err a er from by rw [uP.out];unfold fE;rw [hA];rfl)
         clear hA
         go_wp2_with fail
         refine nk.out.mono ?_
         rintro e Kd ⟨rfl,jG⟩
         go_wp2
         exact ⟨rfl,by rw [HE.out];exact ⟨rfl,ju.out.keeps.trans jG⟩⟩
        |ok na ka=>
         rw [hA] at nk
         have fB:=aa (show RR=(ah p.L p.en ka au).bind fun _ k2=>(aP p.L p.en (bX p) k2).bind fun b k3=>(ah p.L p.en k3 ay).bind fun _ k7=>.ok (.mk q aJ [] [] na b 0 0 [x,y]) k7 from by rw [uP.out];unfold fE;rw [hA];rfl)
         clear hA uP
         go_wp2_with fail
         refine nk.out.mono ?_
         rintro e xI ⟨⟨v,rfl,rfl⟩,xJ,kQ⟩
         have eR:=ju.out.keep aN hg xJ kQ
         have i4:xI.cell? ⟨W4.heap.size,4,none⟩=some (.int .i64 0):=eR.row.cell 4
         have Ub:=eR.row.frozen 4
         have eT:=eR.uC H.out hg na
         generalize qW:xI.setCell ⟨W4.heap.size,4,none⟩ (.int .i64 na)=Jt at eT
         have kR:=aa eT
         have eU:=aa (EX.out ka [44] Jt eT.at_)
         clear eR eT xJ kQ
         cases hC:ah p.L p.en ka [44] with
         |err a er=>
          rw [hC] at eU
          have HE:=aa (show RR=.err a er from by rw [fB.out,show ah p.L p.en ka au=.err a er from hC];rfl)
          clear hC
          go_wp2_with fail
          refine eU.out.mono ?_
          rintro e xK ⟨rfl,eV⟩
          go_wp2
          exact ⟨rfl,by rw [HE.out];exact ⟨rfl,kR.out.keeps.trans eV⟩⟩
         |ok uc kb=>
          rw [hC] at eU
          have fP:=aa (show RR=(aP p.L p.en (bX p) kb).bind fun b k3=>(ah p.L p.en k3 ay).bind fun _ k7=>.ok (.mk q aJ [] [] na b 0 0 [x,y]) k7 from by rw [fB.out,show ah p.L p.en ka au=.ok uc kb from hC];rfl)
          clear hC fB
          go_wp2_with fail
          refine eU.out.mono ?_
          rintro e xK ⟨⟨v,rfl,rfl⟩,vz,eV⟩
          clear qW
          have gT:=aa (kR.out.keep aN hg vz eV)
          clear vz eV
          have np:=aa (TM.out kb xK gT.out.at_)
          cases hA:aP p.L p.en (bX p) kb with
          |err a er=>
           rw [hA] at np
           have HE:=aa (show RR=.err a er from by rw [fP.out,hA];rfl)
           clear hA
           go_wp2_with fail
           refine np.out.mono ?_
           rintro e nY ⟨rfl,eL⟩
           go_wp2
           exact ⟨rfl,by rw [HE.out];exact ⟨rfl,gT.out.keeps.trans eL⟩⟩
          |ok nb kc=>
           rw [hA] at np
           have gq:=aa (show RR=(ah p.L p.en kc ay).bind fun _ k7=>.ok (.mk q aJ [] [] na nb 0 0 [x,y]) k7 from by rw [fP.out,hA];rfl)
           clear hA fP
           go_wp2_with fail
           refine np.out.mono ?_
           rintro e nY ⟨⟨v,rfl,rfl⟩,rF,eL⟩
           have eW:=gT.out.keep aN hg rF eL
           have i5:nY.cell? ⟨W4.heap.size,5,none⟩=some (.int .i64 0):=eW.row.cell 5
           have Uc:=eW.row.frozen 5
           have eX:=eW.sr H.out hg nb
           generalize qX:nY.setCell ⟨W4.heap.size,5,none⟩ (.int .i64 nb)=Ju at eX
           have kS:=aa eX
           have eZ:=aa (EX.out kc [41] Ju eX.at_)
           clear eW eX rF eL
           cases hC:ah p.L p.en kc [41] with
           |err a er=>
            rw [hC] at eZ
            have HE:=aa (show RR=.err a er from by rw [gq.out,show ah p.L p.en kc ay=.err a er from hC];rfl)
            clear hC
            go_wp2_with fail
            refine eZ.out.mono ?_
            rintro e xL ⟨rfl,gU⟩
            go_wp2
            exact ⟨rfl,by rw [HE.out];exact ⟨rfl,kS.out.keeps.trans gU⟩⟩
           |ok ud xM=>
            rw [hC] at eZ
            have HE:=aa (show RR=.ok (.mk q aJ [] [] na nb 0 0 [x,y]) xM from by rw [gq.out,show ah p.L p.en kc ay=.ok ud xM from hC];rfl)
            clear hC gq
            go_wp2_with fail
            refine eZ.out.mono ?_
            rintro e xL ⟨⟨v,rfl,rfl⟩,nr,gU⟩
            have qY:=kS.out.keep aN hg nr gU
            obtain ⟨nr,bS,hres,hrow,aB⟩:=qY
            obtain ⟨z0,z1,z2,z3,z4,z5,z6,z7,z8⟩:=aj hrow
            obtain ⟨y0,y1,y2,y3,y4,y5,y6,y7,y8⟩:=aj hres
            obtain ⟨zu,zv,zw,zx,zy,zz,zA,zB,zC⟩:=aA hres
            have cN:=aa aB
            clear hrow aB qX
            go_wp2_with fail
            refine bodyPost_ret (v:=.agg #[.int .i64 q,.int .i64 aJ,.string {data:=#[]},.string {data:=#[]},.int .i64 na,.int .i64 nb,.int .i64 0,.int .i64 0,.slice (some ⟨gk,0,none⟩) 2 ck]) (ag rfl _ _ w.heap.size 25 _ _ _ rfl (av hres _ _ _ _ _ _ _ _ _) Tryz.underlying25 rfl (by kernel_rfl)) rfl ?_
            have hbl:=ak (W:=xL) (Nat.le_refl w.heap.size) (.int .i64 q) (.int .i64 aJ) (.string {data:=#[]}) (.string {data:=#[]}) (.int .i64 na) (.int .i64 nb) (.int .i64 0) (.int .i64 0) (.slice (some ⟨gk,0,none⟩) 2 ck)
            rw [HE.out]
            exact ⟨⟨_,rfl,_,rfl,(cN.out.keeps (ax (C:=fun b=>b≤w.heap.size∨b=W4.heap.size) (.inl (Nat.le_refl _)) _ _ _ _ _ _ _ _ _)).mono (fun b hb'=>.inl (Nat.le_of_lt hb'))⟩,H.out.above nr hbl,bS.over hbl⟩
      ·go_simp
       refine CX.out.mono ?_
       rintro e w5 ⟨⟨v,rfl,Ye,rfl,ik⟩,h5,hk5⟩
       refine hK _ _ ?_
       clear hK K
       have cO:af (fun c=>c=p.b) W6 w5:=⟨hk5.os,hk5.tape,hk5.output,hk5.size,hk5.block⟩
       have il:=uM.out.keep aN hg h5 cO
       obtain ⟨yk,y0,yn,yv,ya,yb,yc,yd,yA,dW,dp,rfl⟩:=ik.nine
       have uN:=ik.mono (C':=fun b=>(b≤w.heap.size∨b=W4.heap.size)∨b=w3.heap.size) (fun b hb=>by
        have e1:=uM.out.row.lt
        have e2:=uM.out.kids.lt
        have e3:=uM.out.res.lt
        show b<W6.heap.size
        rcases hb with (hb|rfl)|rfl<;>omega)
       unfold aw
       have c8b:w5.cell? ⟨W4.heap.size,8,none⟩=some (.slice (some ⟨w3.heap.size,0,none⟩) 1 1):=il.row.cell 8
       refine wpAny_ready (rs:=[1,4]) (by kernel_rfl) (by simp) ?_
       refine AllReady.cons rfl (fun K hK=>?_) (AllReady.cons rfl (fun K hK=>?_) AllReady.nil)
       ·go_simp
        refine hK _ _ ?_
        clear hK K
        refine wpAny_ready (rs:=[4]) (by kernel_rfl) (by simp) ?_
        refine AllReady.cons rfl (fun K hK=>?_) AllReady.nil
        go_simp
        refine hK _ _ ?_
        clear hK K
        generalize oA:World.alloc w5 _=W7
        have b7:Below w5.heap.size w5 W7:=by rw [←oA];exact (Below.refl _ _).alloc (Nat.le_refl _) _
        have r7:Row W7 w5.heap.size 25 (aw yk y0 yn yv ya yb yc yd (.slice yA dW dp)).toArray:=by rw [←oA];exact Row.new _ _ _
        have cu:=il.keep aN hg (h5.below b7) (af.of_below b7 (Nat.le_refl _))
        obtain ⟨gk,ck,W8,cZ,cX,hgr⟩:=cu.kids.app (uN.keeps (af.of_below b7 (Nat.le_refl _))) r7 (by have:=cu.res.lt;omega) (fun b hb=>by
         have e1:=cu.row.lt
         have e3:=cu.res.lt
         rcases hb with hb|rfl<;>omega) (by omega)
        have oB:=cu.row.grown hgr (by intro e;exact cu.kids.not (.inr (Option.some.inj e).symm))
        have jt:kj p w W4.heap.size (W8.setCell ⟨W4.heap.size,8,none⟩ (.slice (some ⟨gk,0,none⟩) 2 ck)) q aJ gk 2 ck [x,y] _ k4:=cu.app H.out hg cX hgr
        have cB:(Builtin.append_ #[23,23] 23 #[.slice (some ⟨w3.heap.size,0,none⟩) 1 1,.slice (some ⟨w5.heap.size,0,none⟩) 1 1]).run Tryz.prog W7=.ok (.slice (some ⟨gk,0,none⟩) 2 ck) W8:=cZ
        have m8:W8.cell? ⟨W4.heap.size,8,none⟩=some (.slice (some ⟨w3.heap.size,0,none⟩) 1 1):=oB.cell 8
        have sX:=oB.frozen 8
        generalize qV:W8.setCell ⟨W4.heap.size,8,none⟩ (.slice (some ⟨gk,0,none⟩) 2 ck)=W9 at jt
        have uO:=aa jt
        clear jt cu il oB cX hgr cZ b7 r7 uN ik h5 hk5 cO oA
        refine wpAny_ready (rs:=[5]) (by kernel_rfl) (by simp) ?_
        refine AllReady.cons rfl (fun K hK=>?_) AllReady.nil
        refine bp (by kernel_rfl) (.tmp 25) (.tmp 28) 23 rfl rfl rfl cB ?_
        refine hK _ _ ?_
        clear hK K cB
        refine wpAny_ready (rs:=[6]) (by kernel_rfl) (by simp) ?_
        refine AllReady.cons rfl (fun K hK=>?_) AllReady.nil
        go_simp
        refine hK _ _ ?_
        clear hK K
        refine wpAny_ready (rs:=[7]) (by kernel_rfl) (by simp) ?_
        refine AllReady.cons rfl (fun K hK=>?_) AllReady.nil
        go_simp
        refine hK _ _ ?_
        clear hK K
        refine wpAny_done (by kernel_rfl) ?_ _
        have pP:=aa (EX.out k4 [44] W9 uO.out.at_)
        cases hD:ah p.L p.en k4 [44] with
        |err a er=>
         rw [hD] at pP
         have HE:=aa (show RR=.err a er from by rw [sW.out,show ah p.L p.en k4 au=.err a er from hD];rfl)
         clear hD
         go_wp2_with fail
         refine pP.out.mono ?_
         rintro e lO ⟨rfl,gh⟩
         go_wp2
         exact ⟨rfl,by rw [HE.out];exact ⟨rfl,uO.out.keeps.trans gh⟩⟩
        |ok u9 k5=>
         rw [hD] at pP
         have uP:=aa (show RR=fE p.L p.en (bX p) k5 fun a b k6=>(ah p.L p.en k6 ay).bind fun _ k7=>.ok (.mk q aJ [] [] a b 0 0 [x,y]) k7 from by rw [sW.out,show ah p.L p.en k4 au=.ok u9 k5 from hD];rfl)
         clear hD sW
         go_wp2_with fail
         refine pP.out.mono ?_
         rintro e lO ⟨⟨v,rfl,rfl⟩,h10,gh⟩
         have ju:=aa (uO.out.keep aN hg h10 gh).lf
         clear h10 gh qV m8 sX
         have nk:=aa (TM.out k5 lO ju.out.at_)
         cases hA:aP p.L p.en (bX p) k5 with
         |err a er=>
          rw [hA] at nk
          have HE:=aa (show RR=.err a er from by rw [uP.out];unfold fE;rw [hA];rfl)
          clear hA
          go_wp2_with fail
          refine nk.out.mono ?_
          rintro e Kd ⟨rfl,jG⟩
          go_wp2
          exact ⟨rfl,by rw [HE.out];exact ⟨rfl,ju.out.keeps.trans jG⟩⟩
         |ok na ka=>
          rw [hA] at nk
          have fB:=aa (show RR=(ah p.L p.en ka au).bind fun _ k2=>(aP p.L p.en (bX p) k2).bind fun b k3=>(ah p.L p.en k3 ay).bind fun _ k7=>.ok (.mk q aJ [] [] na b 0 0 [x,y]) k7 from by rw [uP.out];unfold fE;rw [hA];rfl)
          clear hA uP
          go_wp2_with fail
          refine nk.out.mono ?_
          rintro e xI ⟨⟨v,rfl,rfl⟩,xJ,kQ⟩
          have eR:=ju.out.keep aN hg xJ kQ
          have i4:xI.cell? ⟨W4.heap.size,4,none⟩=some (.int .i64 0):=eR.row.cell 4
          have Ub:=eR.row.frozen 4
          have eT:=eR.uC H.out hg na
          generalize qW:xI.setCell ⟨W4.heap.size,4,none⟩ (.int .i64 na)=Jt at eT
          have kR:=aa eT
          have eU:=aa (EX.out ka [44] Jt eT.at_)
          clear eR eT xJ kQ
          cases hC:ah p.L p.en ka [44] with
          |err a er=>
           rw [hC] at eU
           have HE:=aa (show RR=.err a er from by rw [fB.out,show ah p.L p.en ka au=.err a er from hC];rfl)
           clear hC
           go_wp2_with fail
           refine eU.out.mono ?_
           rintro e xK ⟨rfl,eV⟩
           go_wp2
           exact ⟨rfl,by rw [HE.out];exact ⟨rfl,kR.out.keeps.trans eV⟩⟩
          |ok uc kb=>
           rw [hC] at eU
           have fP:=aa (show RR=(aP p.L p.en (bX p) kb).bind fun b k3=>(ah p.L p.en k3 ay).bind fun _ k7=>.ok (.mk q aJ [] [] na b 0 0 [x,y]) k7 from by rw [fB.out,show ah p.L p.en ka au=.ok uc kb from hC];rfl)
           clear hC fB
           go_wp2_with fail
           refine eU.out.mono ?_
           rintro e xK ⟨⟨v,rfl,rfl⟩,vz,eV⟩
           clear qW
           have gT:=aa (kR.out.keep aN hg vz eV)
           clear vz eV
           have np:=aa (TM.out kb xK gT.out.at_)
           cases hA:aP p.L p.en (bX p) kb with
           |err a er=>
            rw [hA] at np
            have HE:=aa (show RR=.err a er from by rw [fP.out,hA];rfl)
            clear hA
            go_wp2_with fail
            refine np.out.mono ?_
            rintro e nY ⟨rfl,eL⟩
            go_wp2
            exact ⟨rfl,by rw [HE.out];exact ⟨rfl,gT.out.keeps.trans eL⟩⟩
           |ok nb kc=>
            rw [hA] at np
            have gq:=aa (show RR=(ah p.L p.en kc ay).bind fun _ k7=>.ok (.mk q aJ [] [] na nb 0 0 [x,y]) k7 from by rw [fP.out,hA];rfl)
            clear hA fP
            go_wp2_with fail
            refine np.out.mono ?_
            rintro e nY ⟨⟨v,rfl,rfl⟩,rF,eL⟩
            have eW:=gT.out.keep aN hg rF eL
            have i5:nY.cell? ⟨W4.heap.size,5,none⟩=some (.int .i64 0):=eW.row.cell 5
            have Uc:=eW.row.frozen 5
            have eX:=eW.sr H.out hg nb
            generalize qX:nY.setCell ⟨W4.heap.size,5,none⟩ (.int .i64 nb)=Ju at eX
            have kS:=aa eX
            have eZ:=aa (EX.out kc [41] Ju eX.at_)
            clear eW eX rF eL
            cases hC:ah p.L p.en kc [41] with
            |err a er=>
             rw [hC] at eZ
             have HE:=aa (show RR=.err a er from by rw [gq.out,show ah p.L p.en kc ay=.err a er from hC];rfl)
             clear hC
             go_wp2_with fail
             refine eZ.out.mono ?_
             rintro e xL ⟨rfl,gU⟩
             go_wp2
             exact ⟨rfl,by rw [HE.out];exact ⟨rfl,kS.out.keeps.trans gU⟩⟩
            |ok ud xM=>
             rw [hC] at eZ
             have HE:=aa (show RR=.ok (.mk q aJ [] [] na nb 0 0 [x,y]) xM from by rw [gq.out,show ah p.L p.en kc ay=.ok ud xM from hC];rfl)
             clear hC gq
             go_wp2_with fail
             refine eZ.out.mono ?_
             rintro e xL ⟨⟨v,rfl,rfl⟩,nr,gU⟩
             have qY:=kS.out.keep aN hg nr gU
             obtain ⟨nr,bS,hres,hrow,aB⟩:=qY
             obtain ⟨z0,z1,z2,z3,z4,z5,z6,z7,z8⟩:=aj hrow
             obtain ⟨y0,y1,y2,y3,y4,y5,y6,y7,y8⟩:=aj hres
             obtain ⟨zu,zv,zw,zx,zy,zz,zA,zB,zC⟩:=aA hres
             have cN:=aa aB
             clear hrow aB qX
             go_wp2_with fail
             refine bodyPost_ret (v:=.agg #[.int .i64 q,.int .i64 aJ,.string {data:=#[]},.string {data:=#[]},.int .i64 na,.int .i64 nb,.int .i64 0,.int .i64 0,.slice (some ⟨gk,0,none⟩) 2 ck]) (ag rfl _ _ w.heap.size 25 _ _ _ rfl (av hres _ _ _ _ _ _ _ _ _) Tryz.underlying25 rfl (by kernel_rfl)) rfl ?_
             have hbl:=ak (W:=xL) (Nat.le_refl w.heap.size) (.int .i64 q) (.int .i64 aJ) (.string {data:=#[]}) (.string {data:=#[]}) (.int .i64 na) (.int .i64 nb) (.int .i64 0) (.int .i64 0) (.slice (some ⟨gk,0,none⟩) 2 ck)
             rw [HE.out]
             exact ⟨⟨_,rfl,_,rfl,(cN.out.keeps (ax (C:=fun b=>b≤w.heap.size∨b=W4.heap.size) (.inl (Nat.le_refl _)) _ _ _ _ _ _ _ _ _)).mono (fun b hb'=>.inl (Nat.le_of_lt hb'))⟩,H.out.above nr hbl,bS.over hbl⟩
       ·go_simp
        refine hK _ _ ?_
        clear hK K
        generalize oA:World.alloc w5 _=W7
        have b7:Below w5.heap.size w5 W7:=by rw [←oA];exact (Below.refl _ _).alloc (Nat.le_refl _) _
        have r7:Row W7 w5.heap.size 25 (aw yk y0 yn yv ya yb yc yd (.slice yA dW dp)).toArray:=by rw [←oA];exact Row.new _ _ _
        have cu:=il.keep aN hg (h5.below b7) (af.of_below b7 (Nat.le_refl _))
        have c8c:W7.cell? ⟨W4.heap.size,8,none⟩=some (.slice (some ⟨w3.heap.size,0,none⟩) 1 1):=cu.row.cell 8
        refine wpAny_ready (rs:=[1]) (by kernel_rfl) (by simp) ?_
        refine AllReady.cons rfl (fun K hK=>?_) AllReady.nil
        go_simp
        refine hK _ _ ?_
        clear hK K
        obtain ⟨gk,ck,W8,cZ,cX,hgr⟩:=cu.kids.app (uN.keeps (af.of_below b7 (Nat.le_refl _))) r7 (by have:=cu.res.lt;omega) (fun b hb=>by
         have e1:=cu.row.lt
         have e3:=cu.res.lt
         rcases hb with hb|rfl<;>omega) (by omega)
        have oB:=cu.row.grown hgr (by intro e;exact cu.kids.not (.inr (Option.some.inj e).symm))
        have jt:kj p w W4.heap.size (W8.setCell ⟨W4.heap.size,8,none⟩ (.slice (some ⟨gk,0,none⟩) 2 ck)) q aJ gk 2 ck [x,y] _ k4:=cu.app H.out hg cX hgr
        have cB:(Builtin.append_ #[23,23] 23 #[.slice (some ⟨w3.heap.size,0,none⟩) 1 1,.slice (some ⟨w5.heap.size,0,none⟩) 1 1]).run Tryz.prog W7=.ok (.slice (some ⟨gk,0,none⟩) 2 ck) W8:=cZ
        have m8:W8.cell? ⟨W4.heap.size,8,none⟩=some (.slice (some ⟨w3.heap.size,0,none⟩) 1 1):=oB.cell 8
        have sX:=oB.frozen 8
        generalize qV:W8.setCell ⟨W4.heap.size,8,none⟩ (.slice (some ⟨gk,0,none⟩) 2 ck)=W9 at jt
        have uO:=aa jt
        clear jt cu il oB cX hgr cZ b7 r7 uN ik h5 hk5 cO oA
        refine wpAny_ready (rs:=[5]) (by kernel_rfl) (by simp) ?_
        refine AllReady.cons rfl (fun K hK=>?_) AllReady.nil
        refine bp (by kernel_rfl) (.tmp 25) (.tmp 28) 23 rfl rfl rfl cB ?_
        refine hK _ _ ?_
        clear hK K cB
        refine wpAny_ready (rs:=[6]) (by kernel_rfl) (by simp) ?_
        refine AllReady.cons rfl (fun K hK=>?_) AllReady.nil
        go_simp
        refine hK _ _ ?_
        clear hK K
        refine wpAny_ready (rs:=[7]) (by kernel_rfl) (by simp) ?_
        refine AllReady.cons rfl (fun K hK=>?_) AllReady.nil
        go_simp
        refine hK _ _ ?_
        clear hK K
        refine wpAny_done (by kernel_rfl) ?_ _
        have pP:=aa (EX.out k4 [44] W9 uO.out.at_)
        cases hD:ah p.L p.en k4 [44] with
        |err a er=>
         rw [hD] at pP
         have HE:=aa (show RR=.err a er from by rw [sW.out,show ah p.L p.en k4 au=.err a er from hD];rfl)
         clear hD
         go_wp2_with fail
         refine pP.out.mono ?_
         rintro e lO ⟨rfl,gh⟩
         go_wp2
         exact ⟨rfl,by rw [HE.out];exact ⟨rfl,uO.out.keeps.trans gh⟩⟩
        |ok u9 k5=>
         rw [hD] at pP
         have uP:=aa (show RR=fE p.L p.en (bX p) k5 fun a b k6=>(ah p.L p.en k6 ay).bind fun _ k7=>.ok (.mk q aJ [] [] a b 0 0 [x,y]) k7 from by rw [sW.out,show ah p.L p.en k4 au=.ok u9 k5 from hD];rfl)
         clear hD sW
         go_wp2_with fail
         refine pP.out.mono ?_
         rintro e lO ⟨⟨v,rfl,rfl⟩,h10,gh⟩
         have ju:=aa (uO.out.keep aN hg h10 gh).lf
         clear h10 gh qV m8 sX
         have nk:=aa (TM.out k5 lO ju.out.at_)
         cases hA:aP p.L p.en (bX p) k5 with
         |err a er=>
          rw [hA] at nk
          have HE:=aa (show RR=.err a er from by rw [uP.out];unfold fE;rw [hA];rfl)
          clear hA
          go_wp2_with fail
          refine nk.out.mono ?_
          rintro e Kd ⟨rfl,jG⟩
          go_wp2
          exact ⟨rfl,by rw [HE.out];exact ⟨rfl,ju.out.keeps.trans jG⟩⟩
         |ok na ka=>
          rw [hA] at nk
          have fB:=aa (show RR=(ah p.L p.en ka au).bind fun _ k2=>(aP p.L p.en (bX p) k2).bind fun b k3=>(ah p.L p.en k3 ay).bind fun _ k7=>.ok (.mk q aJ [] [] na b 0 0 [x,y]) k7 from by rw [uP.out];unfold fE;rw [hA];rfl)
          clear hA uP
          go_wp2_with fail
          refine nk.out.mono ?_
          rintro e xI ⟨⟨v,rfl,rfl⟩,xJ,kQ⟩
          have eR:=ju.out.keep aN hg xJ kQ
          have i4:xI.cell? ⟨W4.heap.size,4,none⟩=some (.int .i64 0):=eR.row.cell 4
          have Ub:=eR.row.frozen 4
          have eT:=eR.uC H.out hg na
          generalize qW:xI.setCell ⟨W4.heap.size,4,none⟩ (.int .i64 na)=Jt at eT
          have kR:=aa eT
          have eU:=aa (EX.out ka [44] Jt eT.at_)
          clear eR eT xJ kQ
          cases hC:ah p.L p.en ka [44] with
          |err a er=>
           rw [hC] at eU
           have HE:=aa (show RR=.err a er from by rw [fB.out,show ah p.L p.en ka au=.err a er from hC];rfl)
           clear hC
           go_wp2_with fail
           refine eU.out.mono ?_
           rintro e xK ⟨rfl,eV⟩
           go_wp2
           exact ⟨rfl,by rw [HE.out];exact ⟨rfl,kR.out.keeps.trans eV⟩⟩
          |ok uc kb=>
           rw [hC] at eU
           have fP:=aa (show RR=(aP p.L p.en (bX p) kb).bind fun b k3=>(ah p.L p.en k3 ay).bind fun _ k7=>.ok (.mk q aJ [] [] na b 0 0 [x,y]) k7 from by rw [fB.out,show ah p.L p.en ka au=.ok uc kb from hC];rfl)
           clear hC fB
           go_wp2_with fail
           refine eU.out.mono ?_
           rintro e xK ⟨⟨v,rfl,rfl⟩,vz,eV⟩
           clear qW
           have gT:=aa (kR.out.keep aN hg vz eV)
           clear vz eV
           have np:=aa (TM.out kb xK gT.out.at_)
           cases hA:aP p.L p.en (bX p) kb with
           |err a er=>
            rw [hA] at np
            have HE:=aa (show RR=.err a er from by rw [fP.out,hA];rfl)
            clear hA
            go_wp2_with fail
            refine np.out.mono ?_
            rintro e nY ⟨rfl,eL⟩
            go_wp2
            exact ⟨rfl,by rw [HE.out];exact ⟨rfl,gT.out.keeps.trans eL⟩⟩
           |ok nb kc=>
            rw [hA] at np
            have gq:=aa (show RR=(ah p.L p.en kc ay).bind fun _ k7=>.ok (.mk q aJ [] [] na nb 0 0 [x,y]) k7 from by rw [fP.out,hA];rfl)
            clear hA fP
            go_wp2_with fail
            refine np.out.mono ?_
            rintro e nY ⟨⟨v,rfl,rfl⟩,rF,eL⟩
            have eW:=gT.out.keep aN hg rF eL
            have i5:nY.cell? ⟨W4.heap.size,5,none⟩=some (.int .i64 0):=eW.row.cell 5
            have Uc:=eW.row.frozen 5
            have eX:=eW.sr H.out hg nb
            generalize qX:nY.setCell ⟨W4.heap.size,5,none⟩ (.int .i64 nb)=Ju at eX
            have kS:=aa eX
            have eZ:=aa (EX.out kc [41] Ju eX.at_)
            clear eW eX rF eL
            cases hC:ah p.L p.en kc [41] with
            |err a er=>
             rw [hC] at eZ
             have HE:=aa (show RR=.err a er from by rw [gq.out,show ah p.L p.en kc ay=.err a er from hC];rfl)
             clear hC
             go_wp2_with fail
             refine eZ.out.mono ?_
             rintro e xL ⟨rfl,gU⟩
             go_wp2
             exact ⟨rfl,by rw [HE.out];exact ⟨rfl,kS.out.keeps.trans gU⟩⟩
            |ok ud xM=>
             rw [hC] at eZ
             have HE:=aa (show RR=.ok (.mk q aJ [] [] na nb 0 0 [x,y]) xM from by rw [gq.out,show ah p.L p.en kc ay=.ok ud xM from hC];rfl)
             clear hC gq
             go_wp2_with fail
             refine eZ.out.mono ?_
             rintro e xL ⟨⟨v,rfl,rfl⟩,nr,gU⟩
             have qY:=kS.out.keep aN hg nr gU
             obtain ⟨nr,bS,hres,hrow,aB⟩:=qY
             obtain ⟨z0,z1,z2,z3,z4,z5,z6,z7,z8⟩:=aj hrow
             obtain ⟨y0,y1,y2,y3,y4,y5,y6,y7,y8⟩:=aj hres
             obtain ⟨zu,zv,zw,zx,zy,zz,zA,zB,zC⟩:=aA hres
             have cN:=aa aB
             clear hrow aB qX
             go_wp2_with fail
             refine bodyPost_ret (v:=.agg #[.int .i64 q,.int .i64 aJ,.string {data:=#[]},.string {data:=#[]},.int .i64 na,.int .i64 nb,.int .i64 0,.int .i64 0,.slice (some ⟨gk,0,none⟩) 2 ck]) (ag rfl _ _ w.heap.size 25 _ _ _ rfl (av hres _ _ _ _ _ _ _ _ _) Tryz.underlying25 rfl (by kernel_rfl)) rfl ?_
             have hbl:=ak (W:=xL) (Nat.le_refl w.heap.size) (.int .i64 q) (.int .i64 aJ) (.string {data:=#[]}) (.string {data:=#[]}) (.int .i64 na) (.int .i64 nb) (.int .i64 0) (.int .i64 0) (.slice (some ⟨gk,0,none⟩) 2 ck)
             rw [HE.out]
             exact ⟨⟨_,rfl,_,rfl,(cN.out.keeps (ax (C:=fun b=>b≤w.heap.size∨b=W4.heap.size) (.inl (Nat.le_refl _)) _ _ _ _ _ _ _ _ _)).mono (fun b hb'=>.inl (Nat.le_of_lt hb'))⟩,H.out.above nr hbl,bS.over hbl⟩
    ·have e35:(q==35)=false:=beq_eq_false_iff_ne.2 wo
     by_cases nr:q=36
     ·have e36:(q==36)=true:=beq_iff_eq.2 nr
      have su:=aa (show RR=_ from by rw [gq.out,if_pos (.inr nr)])
      clear gq wo nr
      have hgp:¬(W4.heap.size=p.b):=by omega
      have c8:W6.cell? ⟨W4.heap.size,8,none⟩=some (.slice (some ⟨w3.heap.size,0,none⟩) 1 1):=uM.out.row.cell 8
      have CX:=aa (HC.out k3 W6.drew (by omega) (uM.out.at_.below ((Below.refl _ W6).drew)))
      go_wp2_with fail
      cases hy:cond k3 with
      |err a er=>
       rw [hy] at CX
       have sQ:=aa (fun (W:World) (hk:af (fun c=>c=p.b) W6.drew W)=>show bO p w (nh w.heap.size) RR (.panicked [{v:=kE a er,recovered:=false}]) W from by
        rw [su.out,hy];exact ⟨rfl,(uM.out.keeps.drew).trans hk⟩)
       clear hy
       refine wp_region_any (by kernel_rfl) ?_
       change wpAny _ _ _ _ _ _ _ (World.drew _)
       refine wpAny_take (i:=0) (v:=?_) rfl (by kernel_rfl) (by kernel_rfl) (by kernel_rfl) (fun _ _ _ h=>h) (Or.inl ⟨by rfl,?_⟩) ?_
       rotate_left
       ·intro w;go_simp;with_reducible rfl
       refine wpAny_take (i:=2) (v:=?_) rfl (by kernel_rfl) (by kernel_rfl) (by kernel_rfl) (fun _ _ _ h=>h) (Or.inl ⟨by rfl,?_⟩) ?_
       rotate_left
       ·intro w;go_simp;with_reducible rfl
       refine wpAny_ready (rs:=[1,3]) (by kernel_rfl) (by simp) ?_
       refine AllReady.cons rfl (fun K hK=>?_) (AllReady.cons rfl (fun K hK=>?_) AllReady.nil)
       ·go_simp
        refine hK _ _ ?_
        clear hK K
        refine wpAny_ready (rs:=[3]) (by kernel_rfl) (by simp) ?_
        refine AllReady.cons rfl (fun K hK=>?_) AllReady.nil
        go_simp
        refine CX.out.mono ?_
        rintro e w5 ⟨rfl,hk5⟩
        exact ⟨rfl,sQ.out _ hk5⟩
       ·go_simp
        refine CX.out.mono ?_
        rintro e w5 ⟨rfl,hk5⟩
        exact ⟨rfl,sQ.out _ hk5⟩
      |ok y k4=>
       rw [hy] at CX
       have sW:=aa (show RR=(ah p.L p.en k4 au).bind fun _ k5=>fE p.L p.en (bX p) k5 fun a b k6=>(ah p.L p.en k6 ay).bind fun _ k7=>.ok (.mk q aJ [] [] a b 0 0 [x,y]) k7 from by rw [su.out,hy];rfl)
       clear hy su
       refine wp_region_any (by kernel_rfl) ?_
       change wpAny _ _ _ _ _ _ _ (World.drew _)
       refine wpAny_take (i:=0) (v:=?_) rfl (by kernel_rfl) (by kernel_rfl) (by kernel_rfl) (fun _ _ _ h=>h) (Or.inl ⟨by rfl,?_⟩) ?_
       rotate_left
       ·intro w;go_simp;with_reducible rfl
       refine wpAny_take (i:=2) (v:=?_) rfl (by kernel_rfl) (by kernel_rfl) (by kernel_rfl) (fun _ _ _ h=>h) (Or.inl ⟨by rfl,?_⟩) ?_
       rotate_left
       ·intro w;go_simp;with_reducible rfl
       refine wpAny_ready (rs:=[1,3]) (by kernel_rfl) (by simp) ?_
       refine AllReady.cons rfl (fun K hK=>?_) (AllReady.cons rfl (fun K hK=>?_) AllReady.nil)
       ·go_simp
        refine hK _ _ ?_
        clear hK K
        refine wpAny_ready (rs:=[3]) (by kernel_rfl) (by simp) ?_
        refine AllReady.cons rfl (fun K hK=>?_) AllReady.nil
        go_simp
        refine CX.out.mono ?_
        rintro e w5 ⟨⟨v,rfl,Ye,rfl,ik⟩,h5,hk5⟩
        refine hK _ _ ?_
        clear hK K
        have cO:af (fun c=>c=p.b) W6 w5:=⟨hk5.os,hk5.tape,hk5.output,hk5.size,hk5.block⟩
        have il:=uM.out.keep aN hg h5 cO
        obtain ⟨yk,y0,yn,yv,ya,yb,yc,yd,yA,dW,dp,rfl⟩:=ik.nine
        have uN:=ik.mono (C':=fun b=>(b≤w.heap.size∨b=W4.heap.size)∨b=w3.heap.size) (fun b hb=>by
         have e1:=uM.out.row.lt
         have e2:=uM.out.kids.lt
         have e3:=uM.out.res.lt
         show b<W6.heap.size
         rcases hb with (hb|rfl)|rfl<;>omega)
        unfold aw
        refine wpAny_ready (rs:=[4]) (by kernel_rfl) (by simp) ?_
        refine AllReady.cons rfl (fun K hK=>?_) AllReady.nil
        go_simp
        refine hK _ _ ?_
        clear hK K
        generalize oA:World.alloc w5 _=W7
        have b7:Below w5.heap.size w5 W7:=by rw [←oA];exact (Below.refl _ _).alloc (Nat.le_refl _) _
        have r7:Row W7 w5.heap.size 25 (aw yk y0 yn yv ya yb yc yd (.slice yA dW dp)).toArray:=by rw [←oA];exact Row.new _ _ _
        have cu:=il.keep aN hg (h5.below b7) (af.of_below b7 (Nat.le_refl _))
        obtain ⟨gk,ck,W8,cZ,cX,hgr⟩:=cu.kids.app (uN.keeps (af.of_below b7 (Nat.le_refl _))) r7 (by have:=cu.res.lt;omega) (fun b hb=>by
         have e1:=cu.row.lt
         have e3:=cu.res.lt
         rcases hb with hb|rfl<;>omega) (by omega)
        have oB:=cu.row.grown hgr (by intro e;exact cu.kids.not (.inr (Option.some.inj e).symm))
        have jt:kj p w W4.heap.size (W8.setCell ⟨W4.heap.size,8,none⟩ (.slice (some ⟨gk,0,none⟩) 2 ck)) q aJ gk 2 ck [x,y] _ k4:=cu.app H.out hg cX hgr
        have cB:(Builtin.append_ #[23,23] 23 #[.slice (some ⟨w3.heap.size,0,none⟩) 1 1,.slice (some ⟨w5.heap.size,0,none⟩) 1 1]).run Tryz.prog W7=.ok (.slice (some ⟨gk,0,none⟩) 2 ck) W8:=cZ
        have m8:W8.cell? ⟨W4.heap.size,8,none⟩=some (.slice (some ⟨w3.heap.size,0,none⟩) 1 1):=oB.cell 8
        have sX:=oB.frozen 8
        generalize qV:W8.setCell ⟨W4.heap.size,8,none⟩ (.slice (some ⟨gk,0,none⟩) 2 ck)=W9 at jt
        have uO:=aa jt
        clear jt cu il oB cX hgr cZ b7 r7 uN ik h5 hk5 cO oA
        refine wpAny_ready (rs:=[5]) (by kernel_rfl) (by simp) ?_
        refine AllReady.cons rfl (fun K hK=>?_) AllReady.nil
        refine bp (by kernel_rfl) (.tmp 25) (.tmp 28) 23 rfl rfl rfl cB ?_
        refine hK _ _ ?_
        clear hK K cB
        refine wpAny_ready (rs:=[6]) (by kernel_rfl) (by simp) ?_
        refine AllReady.cons rfl (fun K hK=>?_) AllReady.nil
        go_simp
        refine hK _ _ ?_
        clear hK K
        refine wpAny_ready (rs:=[7]) (by kernel_rfl) (by simp) ?_
        refine AllReady.cons rfl (fun K hK=>?_) AllReady.nil
        go_simp
        refine hK _ _ ?_
        clear hK K
        refine wpAny_done (by kernel_rfl) ?_ _
        have pP:=aa (EX.out k4 [44] W9 uO.out.at_)
        cases hD:ah p.L p.en k4 [44] with
        |err a er=>
         rw [hD] at pP
         have HE:=aa (show RR=.err a er from by rw [sW.out,show ah p.L p.en k4 au=.err a er from hD];rfl)
         clear hD
         go_wp2_with fail
         refine pP.out.mono ?_
         rintro e lO ⟨rfl,gh⟩
         go_wp2
         exact ⟨rfl,by rw [HE.out];exact ⟨rfl,uO.out.keeps.trans gh⟩⟩
        |ok u9 k5=>
         rw [hD] at pP
         have uP:=aa (show RR=fE p.L p.en (bX p) k5 fun a b k6=>(ah p.L p.en k6 ay).bind fun _ k7=>.ok (.mk q aJ [] [] a b 0 0 [x,y]) k7 from by rw [sW.out,show ah p.L p.en k4 au=.ok u9 k5 from hD];rfl)
         clear hD sW
         go_wp2_with fail
         refine pP.out.mono ?_
         rintro e lO ⟨⟨v,rfl,rfl⟩,h10,gh⟩
         have ju:=aa (uO.out.keep aN hg h10 gh).lf
         clear h10 gh qV m8 sX
         have nk:=aa (TM.out k5 lO ju.out.at_)
         cases hA:aP p.L p.en (bX p) k5 with
         |err a er=>
          rw [hA] at nk
          have HE:=aa (show RR=.err a er from by rw [uP.out];unfold fE;rw [hA];rfl)
          clear hA
          go_wp2_with fail
          refine nk.out.mono ?_
          rintro e Kd ⟨rfl,jG⟩
          go_wp2
          exact ⟨rfl,by rw [HE.out];exact ⟨rfl,ju.out.keeps.trans jG⟩⟩
         |ok na ka=>
          rw [hA] at nk
          have fB:=aa (show RR=(ah p.L p.en ka au).bind fun _ k2=>(aP p.L p.en (bX p) k2).bind fun b k3=>(ah p.L p.en k3 ay).bind fun _ k7=>.ok (.mk q aJ [] [] na b 0 0 [x,y]) k7 from by rw [uP.out];unfold fE;rw [hA];rfl)
          clear hA uP
          go_wp2_with fail
          refine nk.out.mono ?_
          rintro e xI ⟨⟨v,rfl,rfl⟩,xJ,kQ⟩
          have eR:=ju.out.keep aN hg xJ kQ
          have i4:xI.cell? ⟨W4.heap.size,4,none⟩=some (.int .i64 0):=eR.row.cell 4
          have Ub:=eR.row.frozen 4
          have eT:=eR.uC H.out hg na
          generalize qW:xI.setCell ⟨W4.heap.size,4,none⟩ (.int .i64 na)=Jt at eT
          have kR:=aa eT
          have eU:=aa (EX.out ka [44] Jt eT.at_)
          clear eR eT xJ kQ
          cases hC:ah p.L p.en ka [44] with
          |err a er=>
           rw [hC] at eU
           have HE:=aa (show RR=.err a er from by rw [fB.out,show ah p.L p.en ka au=.err a er from hC];rfl)
           clear hC
           go_wp2_with fail
           refine eU.out.mono ?_
           rintro e xK ⟨rfl,eV⟩
           go_wp2
           exact ⟨rfl,by rw [HE.out];exact ⟨rfl,kR.out.keeps.trans eV⟩⟩
          |ok uc kb=>
           rw [hC] at eU
           have fP:=aa (show RR=(aP p.L p.en (bX p) kb).bind fun b k3=>(ah p.L p.en k3 ay).bind fun _ k7=>.ok (.mk q aJ [] [] na b 0 0 [x,y]) k7 from by rw [fB.out,show ah p.L p.en ka au=.ok uc kb from hC];rfl)
           clear hC fB
           go_wp2_with fail
           refine eU.out.mono ?_
           rintro e xK ⟨⟨v,rfl,rfl⟩,vz,eV⟩
           clear qW
           have gT:=aa (kR.out.keep aN hg vz eV)
           clear vz eV
           have np:=aa (TM.out kb xK gT.out.at_)
           cases hA:aP p.L p.en (bX p) kb with
           |err a er=>
            rw [hA] at np
            have HE:=aa (show RR=.err a er from by rw [fP.out,hA];rfl)
            clear hA
            go_wp2_with fail
            refine np.out.mono ?_
            rintro e nY ⟨rfl,eL⟩
            go_wp2
            exact ⟨rfl,by rw [HE.out];exact ⟨rfl,gT.out.keeps.trans eL⟩⟩
           |ok nb kc=>
            rw [hA] at np
            have gq:=aa (show RR=(ah p.L p.en kc ay).bind fun _ k7=>.ok (.mk q aJ [] [] na nb 0 0 [x,y]) k7 from by rw [fP.out,hA];rfl)
            clear hA fP
            go_wp2_with fail
            refine np.out.mono ?_
            rintro e nY ⟨⟨v,rfl,rfl⟩,rF,eL⟩
            have eW:=gT.out.keep aN hg rF eL
            have i5:nY.cell? ⟨W4.heap.size,5,none⟩=some (.int .i64 0):=eW.row.cell 5
            have Uc:=eW.row.frozen 5
            have eX:=eW.sr H.out hg nb
            generalize qX:nY.setCell ⟨W4.heap.size,5,none⟩ (.int .i64 nb)=Ju at eX
            have kS:=aa eX
            have eZ:=aa (EX.out kc [41] Ju eX.at_)
            clear eW eX rF eL
            cases hC:ah p.L p.en kc [41] with
            |err a er=>
             rw [hC] at eZ
             have HE:=aa (show RR=.err a er from by rw [gq.out,show ah p.L p.en kc ay=.err a er from hC];rfl)
             clear hC
             go_wp2_with fail
             refine eZ.out.mono ?_
             rintro e xL ⟨rfl,gU⟩
             go_wp2
             exact ⟨rfl,by rw [HE.out];exact ⟨rfl,kS.out.keeps.trans gU⟩⟩
            |ok ud xM=>
             rw [hC] at eZ
             have HE:=aa (show RR=.ok (.mk q aJ [] [] na nb 0 0 [x,y]) xM from by rw [gq.out,show ah p.L p.en kc ay=.ok ud xM from hC];rfl)
             clear hC gq
             go_wp2_with fail
             refine eZ.out.mono ?_
             rintro e xL ⟨⟨v,rfl,rfl⟩,nr,gU⟩
             have qY:=kS.out.keep aN hg nr gU
             obtain ⟨nr,bS,hres,hrow,aB⟩:=qY
             obtain ⟨z0,z1,z2,z3,z4,z5,z6,z7,z8⟩:=aj hrow
             obtain ⟨y0,y1,y2,y3,y4,y5,y6,y7,y8⟩:=aj hres
             obtain ⟨zu,zv,zw,zx,zy,zz,zA,zB,zC⟩:=aA hres
             have cN:=aa aB
             clear hrow aB qX
             go_wp2_with fail
             refine bodyPost_ret (v:=.agg #[.int .i64 q,.int .i64 aJ,.string {data:=#[]},.string {data:=#[]},.int .i64 na,.int .i64 nb,.int .i64 0,.int .i64 0,.slice (some ⟨gk,0,none⟩) 2 ck]) (ag rfl _ _ w.heap.size 25 _ _ _ rfl (av hres _ _ _ _ _ _ _ _ _) Tryz.underlying25 rfl (by kernel_rfl)) rfl ?_
             have hbl:=ak (W:=xL) (Nat.le_refl w.heap.size) (.int .i64 q) (.int .i64 aJ) (.string {data:=#[]}) (.string {data:=#[]}) (.int .i64 na) (.int .i64 nb) (.int .i64 0) (.int .i64 0) (.slice (some ⟨gk,0,none⟩) 2 ck)
             rw [HE.out]
             exact ⟨⟨_,rfl,_,rfl,(cN.out.keeps (ax (C:=fun b=>b≤w.heap.size∨b=W4.heap.size) (.inl (Nat.le_refl _)) _ _ _ _ _ _ _ _ _)).mono (fun b hb'=>.inl (Nat.le_of_lt hb'))⟩,H.out.above nr hbl,bS.over hbl⟩
       ·go_simp
        refine CX.out.mono ?_
        rintro e w5 ⟨⟨v,rfl,Ye,rfl,ik⟩,h5,hk5⟩
        refine hK _ _ ?_
        clear hK K
        have cO:af (fun c=>c=p.b) W6 w5:=⟨hk5.os,hk5.tape,hk5.output,hk5.size,hk5.block⟩
        have il:=uM.out.keep aN hg h5 cO
        obtain ⟨yk,y0,yn,yv,ya,yb,yc,yd,yA,dW,dp,rfl⟩:=ik.nine
        have uN:=ik.mono (C':=fun b=>(b≤w.heap.size∨b=W4.heap.size)∨b=w3.heap.size) (fun b hb=>by
         have e1:=uM.out.row.lt
         have e2:=uM.out.kids.lt
         have e3:=uM.out.res.lt
         show b<W6.heap.size
         rcases hb with (hb|rfl)|rfl<;>omega)
        unfold aw
        have c8b:w5.cell? ⟨W4.heap.size,8,none⟩=some (.slice (some ⟨w3.heap.size,0,none⟩) 1 1):=il.row.cell 8
        refine wpAny_ready (rs:=[1,4]) (by kernel_rfl) (by simp) ?_
        refine AllReady.cons rfl (fun K hK=>?_) (AllReady.cons rfl (fun K hK=>?_) AllReady.nil)
        ·go_simp
         refine hK _ _ ?_
         clear hK K
         refine wpAny_ready (rs:=[4]) (by kernel_rfl) (by simp) ?_
         refine AllReady.cons rfl (fun K hK=>?_) AllReady.nil
         go_simp
         refine hK _ _ ?_
         clear hK K
         generalize oA:World.alloc w5 _=W7
         have b7:Below w5.heap.size w5 W7:=by rw [←oA];exact (Below.refl _ _).alloc (Nat.le_refl _) _
         have r7:Row W7 w5.heap.size 25 (aw yk y0 yn yv ya yb yc yd (.slice yA dW dp)).toArray:=by rw [←oA];exact Row.new _ _ _
         have cu:=il.keep aN hg (h5.below b7) (af.of_below b7 (Nat.le_refl _))
         obtain ⟨gk,ck,W8,cZ,cX,hgr⟩:=cu.kids.app (uN.keeps (af.of_below b7 (Nat.le_refl _))) r7 (by have:=cu.res.lt;omega) (fun b hb=>by
          have e1:=cu.row.lt
          have e3:=cu.res.lt
          rcases hb with hb|rfl<;>omega) (by omega)
         have oB:=cu.row.grown hgr (by intro e;exact cu.kids.not (.inr (Option.some.inj e).symm))
         have jt:kj p w W4.heap.size (W8.setCell ⟨W4.heap.size,8,none⟩ (.slice (some ⟨gk,0,none⟩) 2 ck)) q aJ gk 2 ck [x,y] _ k4:=cu.app H.out hg cX hgr
         have cB:(Builtin.append_ #[23,23] 23 #[.slice (some ⟨w3.heap.size,0,none⟩) 1 1,.slice (some ⟨w5.heap.size,0,none⟩) 1 1]).run Tryz.prog W7=.ok (.slice (some ⟨gk,0,none⟩) 2 ck) W8:=cZ
         have m8:W8.cell? ⟨W4.heap.size,8,none⟩=some (.slice (some ⟨w3.heap.size,0,none⟩) 1 1):=oB.cell 8
         have sX:=oB.frozen 8
         generalize qV:W8.setCell ⟨W4.heap.size,8,none⟩ (.slice (some ⟨gk,0,none⟩) 2 ck)=W9 at jt
         have uO:=aa jt
         clear jt cu il oB cX hgr cZ b7 r7 uN ik h5 hk5 cO oA
         refine wpAny_ready (rs:=[5]) (by kernel_rfl) (by simp) ?_
         refine AllReady.cons rfl (fun K hK=>?_) AllReady.nil
         refine bp (by kernel_rfl) (.tmp 25) (.tmp 28) 23 rfl rfl rfl cB ?_
         refine hK _ _ ?_
         clear hK K cB
         refine wpAny_ready (rs:=[6]) (by kernel_rfl) (by simp) ?_
         refine AllReady.cons rfl (fun K hK=>?_) AllReady.nil
         go_simp
         refine hK _ _ ?_
         clear hK K
         refine wpAny_ready (rs:=[7]) (by kernel_rfl) (by simp) ?_
         refine AllReady.cons rfl (fun K hK=>?_) AllReady.nil
         go_simp
         refine hK _ _ ?_
         clear hK K
         refine wpAny_done (by kernel_rfl) ?_ _
         have pP:=aa (EX.out k4 [44] W9 uO.out.at_)
         cases hD:ah p.L p.en k4 [44] with
         |err a er=>
          rw [hD] at pP
          have HE:=aa (show RR=.err a er from by rw [sW.out,show ah p.L p.en k4 au=.err a er from hD];rfl)
          clear hD
          go_wp2_with fail
          refine pP.out.mono ?_
          rintro e lO ⟨rfl,gh⟩
          go_wp2
          exact ⟨rfl,by rw [HE.out];exact ⟨rfl,uO.out.keeps.trans gh⟩⟩
         |ok u9 k5=>
          rw [hD] at pP
          have uP:=aa (show RR=fE p.L p.en (bX p) k5 fun a b k6=>(ah p.L p.en k6 ay).bind fun _ k7=>.ok (.mk q aJ [] [] a b 0 0 [x,y]) k7 from by rw [sW.out,show ah p.L p.en k4 au=.ok u9 k5 from hD];rfl)
          clear hD sW
          go_wp2_with fail
          refine pP.out.mono ?_
          rintro e lO ⟨⟨v,rfl,rfl⟩,h10,gh⟩
          have ju:=aa (uO.out.keep aN hg h10 gh).lf
          clear h10 gh qV m8 sX
          have nk:=aa (TM.out k5 lO ju.out.at_)
          cases hA:aP p.L p.en (bX p) k5 with
          |err a er=>
           rw [hA] at nk
           have HE:=aa (show RR=.err a er from by rw [uP.out];unfold fE;rw [hA];rfl)
           clear hA
           go_wp2_with fail
           refine nk.out.mono ?_
           rintro e Kd ⟨rfl,jG⟩
           go_wp2
           exact ⟨rfl,by rw [HE.out];exact ⟨rfl,ju.out.keeps.trans jG⟩⟩
          |ok na ka=>
           rw [hA] at nk
           have fB:=aa (show RR=(ah p.L p.en ka au).bind fun _ k2=>(aP p.L p.en (bX p) k2).bind fun b k3=>(ah p.L p.en k3 ay).bind fun _ k7=>.ok (.mk q aJ [] [] na b 0 0 [x,y]) k7 from by rw [uP.out];unfold fE;rw [hA];rfl)
           clear hA uP
           go_wp2_with fail
           refine nk.out.mono ?_
           rintro e xI ⟨⟨v,rfl,rfl⟩,xJ,kQ⟩
           have eR:=ju.out.keep aN hg xJ kQ
           have i4:xI.cell? ⟨W4.heap.size,4,none⟩=some (.int .i64 0):=eR.row.cell 4
           have Ub:=eR.row.frozen 4
           have eT:=eR.uC H.out hg na
           generalize qW:xI.setCell ⟨W4.heap.size,4,none⟩ (.int .i64 na)=Jt at eT
           have kR:=aa eT
           have eU:=aa (EX.out ka [44] Jt eT.at_)
           clear eR eT xJ kQ
           cases hC:ah p.L p.en ka [44] with
           |err a er=>
            rw [hC] at eU
            have HE:=aa (show RR=.err a er from by rw [fB.out,show ah p.L p.en ka au=.err a er from hC];rfl)
            clear hC
            go_wp2_with fail
            refine eU.out.mono ?_
            rintro e xK ⟨rfl,eV⟩
            go_wp2
            exact ⟨rfl,by rw [HE.out];exact ⟨rfl,kR.out.keeps.trans eV⟩⟩
           |ok uc kb=>
            rw [hC] at eU
            have fP:=aa (show RR=(aP p.L p.en (bX p) kb).bind fun b k3=>(ah p.L p.en k3 ay).bind fun _ k7=>.ok (.mk q aJ [] [] na b 0 0 [x,y]) k7 from by rw [fB.out,show ah p.L p.en ka au=.ok uc kb from hC];rfl)
            clear hC fB
            go_wp2_with fail
            refine eU.out.mono ?_
            rintro e xK ⟨⟨v,rfl,rfl⟩,vz,eV⟩
            clear qW
            have gT:=aa (kR.out.keep aN hg vz eV)
            clear vz eV
            have np:=aa (TM.out kb xK gT.out.at_)
            cases hA:aP p.L p.en (bX p) kb with
            |err a er=>
             rw [hA] at np
             have HE:=aa (show RR=.err a er from by rw [fP.out,hA];rfl)
             clear hA
             go_wp2_with fail
             refine np.out.mono ?_
             rintro e nY ⟨rfl,eL⟩
             go_wp2
             exact ⟨rfl,by rw [HE.out];exact ⟨rfl,gT.out.keeps.trans eL⟩⟩
            |ok nb kc=>
             rw [hA] at np
             have gq:=aa (show RR=(ah p.L p.en kc ay).bind fun _ k7=>.ok (.mk q aJ [] [] na nb 0 0 [x,y]) k7 from by rw [fP.out,hA];rfl)
             clear hA fP
             go_wp2_with fail
             refine np.out.mono ?_
             rintro e nY ⟨⟨v,rfl,rfl⟩,rF,eL⟩
             have eW:=gT.out.keep aN hg rF eL
             have i5:nY.cell? ⟨W4.heap.size,5,none⟩=some (.int .i64 0):=eW.row.cell 5
             have Uc:=eW.row.frozen 5
             have eX:=eW.sr H.out hg nb
             generalize qX:nY.setCell ⟨W4.heap.size,5,none⟩ (.int .i64 nb)=Ju at eX
             have kS:=aa eX
             have eZ:=aa (EX.out kc [41] Ju eX.at_)
             clear eW eX rF eL
             cases hC:ah p.L p.en kc [41] with
             |err a er=>
              rw [hC] at eZ
              have HE:=aa (show RR=.err a er from by rw [gq.out,show ah p.L p.en kc ay=.err a er from hC];rfl)
              clear hC
              go_wp2_with fail
              refine eZ.out.mono ?_
              rintro e xL ⟨rfl,gU⟩
              go_wp2
              exact ⟨rfl,by rw [HE.out];exact ⟨rfl,kS.out.keeps.trans gU⟩⟩
             |ok ud xM=>
              rw [hC] at eZ
              have HE:=aa (show RR=.ok (.mk q aJ [] [] na nb 0 0 [x,y]) xM from by rw [gq.out,show ah p.L p.en kc ay=.ok ud xM from hC];rfl)
              clear hC gq
              go_wp2_with fail
              refine eZ.out.mono ?_
              rintro e xL ⟨⟨v,rfl,rfl⟩,nr,gU⟩
              have qY:=kS.out.keep aN hg nr gU
              obtain ⟨nr,bS,hres,hrow,aB⟩:=qY
              obtain ⟨z0,z1,z2,z3,z4,z5,z6,z7,z8⟩:=aj hrow
              obtain ⟨y0,y1,y2,y3,y4,y5,y6,y7,y8⟩:=aj hres
              obtain ⟨zu,zv,zw,zx,zy,zz,zA,zB,zC⟩:=aA hres
              have cN:=aa aB
              clear hrow aB qX
              go_wp2_with fail
              refine bodyPost_ret (v:=.agg #[.int .i64 q,.int .i64 aJ,.string {data:=#[]},.string {data:=#[]},.int .i64 na,.int .i64 nb,.int .i64 0,.int .i64 0,.slice (some ⟨gk,0,none⟩) 2 ck]) (ag rfl _ _ w.heap.size 25 _ _ _ rfl (av hres _ _ _ _ _ _ _ _ _) Tryz.underlying25 rfl (by kernel_rfl)) rfl ?_
              have hbl:=ak (W:=xL) (Nat.le_refl w.heap.size) (.int .i64 q) (.int .i64 aJ) (.string {data:=#[]}) (.string {data:=#[]}) (.int .i64 na) (.int .i64 nb) (.int .i64 0) (.int .i64 0) (.slice (some ⟨gk,0,none⟩) 2 ck)
              rw [HE.out]
              exact ⟨⟨_,rfl,_,rfl,(cN.out.keeps (ax (C:=fun b=>b≤w.heap.size∨b=W4.heap.size) (.inl (Nat.le_refl _)) _ _ _ _ _ _ _ _ _)).mono (fun b hb'=>.inl (Nat.le_of_lt hb'))⟩,H.out.above nr hbl,bS.over hbl⟩
        ·go_simp
         refine hK _ _ ?_
         clear hK K
         generalize oA:World.alloc w5 _=W7
         have b7:Below w5.heap.size w5 W7:=by rw [←oA];exact (Below.refl _ _).alloc (Nat.le_refl _) _
         have r7:Row W7 w5.heap.size 25 (aw yk y0 yn yv ya yb yc yd (.slice yA dW dp)).toArray:=by rw [←oA];exact Row.new _ _ _
         have cu:=il.keep aN hg (h5.below b7) (af.of_below b7 (Nat.le_refl _))
         have c8c:W7.cell? ⟨W4.heap.size,8,none⟩=some (.slice (some ⟨w3.heap.size,0,none⟩) 1 1):=cu.row.cell 8
         refine wpAny_ready (rs:=[1]) (by kernel_rfl) (by simp) ?_
         refine AllReady.cons rfl (fun K hK=>?_) AllReady.nil
         go_simp
         refine hK _ _ ?_
         clear hK K
         obtain ⟨gk,ck,W8,cZ,cX,hgr⟩:=cu.kids.app (uN.keeps (af.of_below b7 (Nat.le_refl _))) r7 (by have:=cu.res.lt;omega) (fun b hb=>by
          have e1:=cu.row.lt
          have e3:=cu.res.lt
          rcases hb with hb|rfl<;>omega) (by omega)
         have oB:=cu.row.grown hgr (by intro e;exact cu.kids.not (.inr (Option.some.inj e).symm))
         have jt:kj p w W4.heap.size (W8.setCell ⟨W4.heap.size,8,none⟩ (.slice (some ⟨gk,0,none⟩) 2 ck)) q aJ gk 2 ck [x,y] _ k4:=cu.app H.out hg cX hgr
         have cB:(Builtin.append_ #[23,23] 23 #[.slice (some ⟨w3.heap.size,0,none⟩) 1 1,.slice (some ⟨w5.heap.size,0,none⟩) 1 1]).run Tryz.prog W7=.ok (.slice (some ⟨gk,0,none⟩) 2 ck) W8:=cZ
         have m8:W8.cell? ⟨W4.heap.size,8,none⟩=some (.slice (some ⟨w3.heap.size,0,none⟩) 1 1):=oB.cell 8
         have sX:=oB.frozen 8
         generalize qV:W8.setCell ⟨W4.heap.size,8,none⟩ (.slice (some ⟨gk,0,none⟩) 2 ck)=W9 at jt
         have uO:=aa jt
         clear jt cu il oB cX hgr cZ b7 r7 uN ik h5 hk5 cO oA
         refine wpAny_ready (rs:=[5]) (by kernel_rfl) (by simp) ?_
         refine AllReady.cons rfl (fun K hK=>?_) AllReady.nil
         refine bp (by kernel_rfl) (.tmp 25) (.tmp 28) 23 rfl rfl rfl cB ?_
         refine hK _ _ ?_
         clear hK K cB
         refine wpAny_ready (rs:=[6]) (by kernel_rfl) (by simp) ?_
         refine AllReady.cons rfl (fun K hK=>?_) AllReady.nil
         go_simp
         refine hK _ _ ?_
         clear hK K
         refine wpAny_ready (rs:=[7]) (by kernel_rfl) (by simp) ?_
         refine AllReady.cons rfl (fun K hK=>?_) AllReady.nil
         go_simp
         refine hK _ _ ?_
         clear hK K
         refine wpAny_done (by kernel_rfl) ?_ _
         have pP:=aa (EX.out k4 [44] W9 uO.out.at_)
         cases hD:ah p.L p.en k4 [44] with
         |err a er=>
          rw [hD] at pP
          have HE:=aa (show RR=.err a er from by rw [sW.out,show ah p.L p.en k4 au=.err a er from hD];rfl)
          clear hD
          go_wp2_with fail
          refine pP.out.mono ?_
          rintro e lO ⟨rfl,gh⟩
          go_wp2
          exact ⟨rfl,by rw [HE.out];exact ⟨rfl,uO.out.keeps.trans gh⟩⟩
         |ok u9 k5=>
          rw [hD] at pP
          have uP:=aa (show RR=fE p.L p.en (bX p) k5 fun a b k6=>(ah p.L p.en k6 ay).bind fun _ k7=>.ok (.mk q aJ [] [] a b 0 0 [x,y]) k7 from by rw [sW.out,show ah p.L p.en k4 au=.ok u9 k5 from hD];rfl)
          clear hD sW
          go_wp2_with fail
          refine pP.out.mono ?_
          rintro e lO ⟨⟨v,rfl,rfl⟩,h10,gh⟩
          have ju:=aa (uO.out.keep aN hg h10 gh).lf
          clear h10 gh qV m8 sX
          have nk:=aa (TM.out k5 lO ju.out.at_)
          cases hA:aP p.L p.en (bX p) k5 with
          |err a er=>
           rw [hA] at nk
           have HE:=aa (show RR=.err a er from by rw [uP.out];unfold fE;rw [hA];rfl)
           clear hA
           go_wp2_with fail
           refine nk.out.mono ?_
           rintro e Kd ⟨rfl,jG⟩
           go_wp2
           exact ⟨rfl,by rw [HE.out];exact ⟨rfl,ju.out.keeps.trans jG⟩⟩
          |ok na ka=>
           rw [hA] at nk
           have fB:=aa (show RR=(ah p.L p.en ka au).bind fun _ k2=>(aP p.L p.en (bX p) k2).bind fun b k3=>(ah p.L p.en k3 ay).bind fun _ k7=>.ok (.mk q aJ [] [] na b 0 0 [x,y]) k7 from by rw [uP.out];unfold fE;rw [hA];rfl)
           clear hA uP
           go_wp2_with fail
           refine nk.out.mono ?_
           rintro e xI ⟨⟨v,rfl,rfl⟩,xJ,kQ⟩
           have eR:=ju.out.keep aN hg xJ kQ
           have i4:xI.cell? ⟨W4.heap.size,4,none⟩=some (.int .i64 0):=eR.row.cell 4
           have Ub:=eR.row.frozen 4
           have eT:=eR.uC H.out hg na
           generalize qW:xI.setCell ⟨W4.heap.size,4,none⟩ (.int .i64 na)=Jt at eT
           have kR:=aa eT
           have eU:=aa (EX.out ka [44] Jt eT.at_)
           clear eR eT xJ kQ
           cases hC:ah p.L p.en ka [44] with
           |err a er=>
            rw [hC] at eU
            have HE:=aa (show RR=.err a er from by rw [fB.out,show ah p.L p.en ka au=.err a er from hC];rfl)
            clear hC
            go_wp2_with fail
            refine eU.out.mono ?_
            rintro e xK ⟨rfl,eV⟩
            go_wp2
            exact ⟨rfl,by rw [HE.out];exact ⟨rfl,kR.out.keeps.trans eV⟩⟩
           |ok uc kb=>
            rw [hC] at eU
            have fP:=aa (show RR=(aP p.L p.en (bX p) kb).bind fun b k3=>(ah p.L p.en k3 ay).bind fun _ k7=>.ok (.mk q aJ [] [] na b 0 0 [x,y]) k7 from by rw [fB.out,show ah p.L p.en ka au=.ok uc kb from hC];rfl)
            clear hC fB
            go_wp2_with fail
            refine eU.out.mono ?_
            rintro e xK ⟨⟨v,rfl,rfl⟩,vz,eV⟩
            clear qW
            have gT:=aa (kR.out.keep aN hg vz eV)
            clear vz eV
            have np:=aa (TM.out kb xK gT.out.at_)
            cases hA:aP p.L p.en (bX p) kb with
            |err a er=>
             rw [hA] at np
             have HE:=aa (show RR=.err a er from by rw [fP.out,hA];rfl)
             clear hA
             go_wp2_with fail
             refine np.out.mono ?_
             rintro e nY ⟨rfl,eL⟩
             go_wp2
             exact ⟨rfl,by rw [HE.out];exact ⟨rfl,gT.out.keeps.trans eL⟩⟩
            |ok nb kc=>
             rw [hA] at np
             have gq:=aa (show RR=(ah p.L p.en kc ay).bind fun _ k7=>.ok (.mk q aJ [] [] na nb 0 0 [x,y]) k7 from by rw [fP.out,hA];rfl)
             clear hA fP
             go_wp2_with fail
             refine np.out.mono ?_
             rintro e nY ⟨⟨v,rfl,rfl⟩,rF,eL⟩
             have eW:=gT.out.keep aN hg rF eL
             have i5:nY.cell? ⟨W4.heap.size,5,none⟩=some (.int .i64 0):=eW.row.cell 5
             have Uc:=eW.row.frozen 5
             have eX:=eW.sr H.out hg nb
             generalize qX:nY.setCell ⟨W4.heap.size,5,none⟩ (.int .i64 nb)=Ju at eX
             have kS:=aa eX
             have eZ:=aa (EX.out kc [41] Ju eX.at_)
             clear eW eX rF eL
             cases hC:ah p.L p.en kc [41] with
             |err a er=>
              rw [hC] at eZ
              have HE:=aa (show RR=.err a er from by rw [gq.out,show ah p.L p.en kc ay=.err a er from hC];rfl)
              clear hC
              go_wp2_with fail
              refine eZ.out.mono ?_
              rintro e xL ⟨rfl,gU⟩
              go_wp2
              exact ⟨rfl,by rw [HE.out];exact ⟨rfl,kS.out.keeps.trans gU⟩⟩
             |ok ud xM=>
              rw [hC] at eZ
              have HE:=aa (show RR=.ok (.mk q aJ [] [] na nb 0 0 [x,y]) xM from by rw [gq.out,show ah p.L p.en kc ay=.ok ud xM from hC];rfl)
              clear hC gq
              go_wp2_with fail
              refine eZ.out.mono ?_
              rintro e xL ⟨⟨v,rfl,rfl⟩,nr,gU⟩
              have qY:=kS.out.keep aN hg nr gU
              obtain ⟨nr,bS,hres,hrow,aB⟩:=qY
              obtain ⟨z0,z1,z2,z3,z4,z5,z6,z7,z8⟩:=aj hrow
              obtain ⟨y0,y1,y2,y3,y4,y5,y6,y7,y8⟩:=aj hres
              obtain ⟨zu,zv,zw,zx,zy,zz,zA,zB,zC⟩:=aA hres
              have cN:=aa aB
              clear hrow aB qX
              go_wp2_with fail
              refine bodyPost_ret (v:=.agg #[.int .i64 q,.int .i64 aJ,.string {data:=#[]},.string {data:=#[]},.int .i64 na,.int .i64 nb,.int .i64 0,.int .i64 0,.slice (some ⟨gk,0,none⟩) 2 ck]) (ag rfl _ _ w.heap.size 25 _ _ _ rfl (av hres _ _ _ _ _ _ _ _ _) Tryz.underlying25 rfl (by kernel_rfl)) rfl ?_
              have hbl:=ak (W:=xL) (Nat.le_refl w.heap.size) (.int .i64 q) (.int .i64 aJ) (.string {data:=#[]}) (.string {data:=#[]}) (.int .i64 na) (.int .i64 nb) (.int .i64 0) (.int .i64 0) (.slice (some ⟨gk,0,none⟩) 2 ck)
              rw [HE.out]
              exact ⟨⟨_,rfl,_,rfl,(cN.out.keeps (ax (C:=fun b=>b≤w.heap.size∨b=W4.heap.size) (.inl (Nat.le_refl _)) _ _ _ _ _ _ _ _ _)).mono (fun b hb'=>.inl (Nat.le_of_lt hb'))⟩,H.out.above nr hbl,bS.over hbl⟩
     ·have e36:(q==36)=false:=beq_eq_false_iff_ne.2 nr
      have su:=aa (show RR=_ from by rw [gq.out,if_neg (fun h=>h.elim wo nr)])
      clear gq wo nr
      have Dp:=aa uM.out.lf
      have nk:=aa (TM.out k3 W6 Dp.out.at_)
      cases hA:aP p.L p.en (bX p) k3 with
      |err a er=>
       rw [hA] at nk
       have HE:=aa (show RR=.err a er from by rw [su.out];unfold fE;rw [hA];rfl)
       clear hA
       go_wp2_with fail
       refine nk.out.mono ?_
       rintro e Kd ⟨rfl,jG⟩
       go_wp2
       exact ⟨rfl,by rw [HE.out];exact ⟨rfl,Dp.out.keeps.trans jG⟩⟩
      |ok na ka=>
       rw [hA] at nk
       have fB:=aa (show RR=(ah p.L p.en ka au).bind fun _ k2=>(aP p.L p.en (bX p) k2).bind fun b k3=>(ah p.L p.en k3 ay).bind fun _ k7=>.ok (.mk q aJ [] [] na b 0 0 [x]) k7 from by rw [su.out];unfold fE;rw [hA];rfl)
       clear hA su
       go_wp2_with fail
       refine nk.out.mono ?_
       rintro e xI ⟨⟨v,rfl,rfl⟩,xJ,kQ⟩
       have eR:=Dp.out.keep aN hg xJ kQ
       have i4:xI.cell? ⟨W4.heap.size,4,none⟩=some (.int .i64 0):=eR.row.cell 4
       have Ub:=eR.row.frozen 4
       have eT:=eR.uC H.out hg na
       generalize qW:xI.setCell ⟨W4.heap.size,4,none⟩ (.int .i64 na)=Jt at eT
       have kR:=aa eT
       have eU:=aa (EX.out ka [44] Jt eT.at_)
       clear eR eT xJ kQ
       cases hC:ah p.L p.en ka [44] with
       |err a er=>
        rw [hC] at eU
        have HE:=aa (show RR=.err a er from by rw [fB.out,show ah p.L p.en ka au=.err a er from hC];rfl)
        clear hC
        go_wp2_with fail
        refine eU.out.mono ?_
        rintro e xK ⟨rfl,eV⟩
        go_wp2
        exact ⟨rfl,by rw [HE.out];exact ⟨rfl,kR.out.keeps.trans eV⟩⟩
       |ok uc kb=>
        rw [hC] at eU
        have fP:=aa (show RR=(aP p.L p.en (bX p) kb).bind fun b k3=>(ah p.L p.en k3 ay).bind fun _ k7=>.ok (.mk q aJ [] [] na b 0 0 [x]) k7 from by rw [fB.out,show ah p.L p.en ka au=.ok uc kb from hC];rfl)
        clear hC fB
        go_wp2_with fail
        refine eU.out.mono ?_
        rintro e xK ⟨⟨v,rfl,rfl⟩,vz,eV⟩
        clear qW
        have gT:=aa (kR.out.keep aN hg vz eV)
        clear vz eV
        have np:=aa (TM.out kb xK gT.out.at_)
        cases hA:aP p.L p.en (bX p) kb with
        |err a er=>
         rw [hA] at np
         have HE:=aa (show RR=.err a er from by rw [fP.out,hA];rfl)
         clear hA
         go_wp2_with fail
         refine np.out.mono ?_
         rintro e nY ⟨rfl,eL⟩
         go_wp2
         exact ⟨rfl,by rw [HE.out];exact ⟨rfl,gT.out.keeps.trans eL⟩⟩
        |ok nb kc=>
         rw [hA] at np
         have gq:=aa (show RR=(ah p.L p.en kc ay).bind fun _ k7=>.ok (.mk q aJ [] [] na nb 0 0 [x]) k7 from by rw [fP.out,hA];rfl)
         clear hA fP
         go_wp2_with fail
         refine np.out.mono ?_
         rintro e nY ⟨⟨v,rfl,rfl⟩,rF,eL⟩
         have eW:=gT.out.keep aN hg rF eL
         have i5:nY.cell? ⟨W4.heap.size,5,none⟩=some (.int .i64 0):=eW.row.cell 5
         have Uc:=eW.row.frozen 5
         have eX:=eW.sr H.out hg nb
         generalize qX:nY.setCell ⟨W4.heap.size,5,none⟩ (.int .i64 nb)=Ju at eX
         have kS:=aa eX
         have eZ:=aa (EX.out kc [41] Ju eX.at_)
         clear eW eX rF eL
         cases hC:ah p.L p.en kc [41] with
         |err a er=>
          rw [hC] at eZ
          have HE:=aa (show RR=.err a er from by rw [gq.out,show ah p.L p.en kc ay=.err a er from hC];rfl)
          clear hC
          go_wp2_with fail
          refine eZ.out.mono ?_
          rintro e xL ⟨rfl,gU⟩
          go_wp2
          exact ⟨rfl,by rw [HE.out];exact ⟨rfl,kS.out.keeps.trans gU⟩⟩
         |ok ud xM=>
          rw [hC] at eZ
          have HE:=aa (show RR=.ok (.mk q aJ [] [] na nb 0 0 [x]) xM from by rw [gq.out,show ah p.L p.en kc ay=.ok ud xM from hC];rfl)
          clear hC gq
          go_wp2_with fail
          refine eZ.out.mono ?_
          rintro e xL ⟨⟨v,rfl,rfl⟩,nr,gU⟩
          have qY:=kS.out.keep aN hg nr gU
          obtain ⟨nr,bS,hres,hrow,aB⟩:=qY
          obtain ⟨z0,z1,z2,z3,z4,z5,z6,z7,z8⟩:=aj hrow
          obtain ⟨y0,y1,y2,y3,y4,y5,y6,y7,y8⟩:=aj hres
          obtain ⟨zu,zv,zw,zx,zy,zz,zA,zB,zC⟩:=aA hres
          have cN:=aa aB
          clear hrow aB qX
          go_wp2_with fail
          refine bodyPost_ret (v:=.agg #[.int .i64 q,.int .i64 aJ,.string {data:=#[]},.string {data:=#[]},.int .i64 na,.int .i64 nb,.int .i64 0,.int .i64 0,.slice (some ⟨w3.heap.size,0,none⟩) 1 1]) (ag rfl _ _ w.heap.size 25 _ _ _ rfl (av hres _ _ _ _ _ _ _ _ _) Tryz.underlying25 rfl (by kernel_rfl)) rfl ?_
          have hbl:=ak (W:=xL) (Nat.le_refl w.heap.size) (.int .i64 q) (.int .i64 aJ) (.string {data:=#[]}) (.string {data:=#[]}) (.int .i64 na) (.int .i64 nb) (.int .i64 0) (.int .i64 0) (.slice (some ⟨w3.heap.size,0,none⟩) 1 1)
          rw [HE.out]
          exact ⟨⟨_,rfl,_,rfl,(cN.out.keeps (ax (C:=fun b=>b≤w.heap.size∨b=W4.heap.size) (.inl (Nat.le_refl _)) _ _ _ _ _ _ _ _ _)).mono (fun b hb'=>.inl (Nat.le_of_lt hb'))⟩,H.out.above nr hbl,bS.over hbl⟩
end Go.Proofs.YtddoehnkgcbboaaGreatDoor
