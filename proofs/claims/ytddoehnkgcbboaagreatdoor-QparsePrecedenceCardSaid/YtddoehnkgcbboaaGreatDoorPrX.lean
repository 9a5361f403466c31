/- Packed by program: a part of the proof; the last file says what is proved. -/
import Derived.Test.YtddoehnkgcbboaaGreatDoorPrW
set_option maxHeartbeats 16000000
set_option maxRecDepth 100000
set_option linter.unusedVariables false
set_option linter.unusedSimpArgs false
namespace Go.Proofs.YtddoehnkgcbboaaGreatDoor
open Go.RowKit Go.Shelf Go.Maps
theorem M5 {k:Int} {x:List UInt8×Int×Int×Int} (h:kD k=some x):x.1.length≤3∧0≤x.2.2.1∧x.2.2.1≤13∧0≤x.2.2.2∧x.2.2.2≤13:=by
 unfold kD at h
 by_cases Vm:k=30
 ·rw [if_pos Vm] at h;injection h with h;subst h;exact ⟨by decide,by decide,by decide,by decide,by decide⟩
 rw [if_neg Vm] at h
 by_cases Vn:k=29
 ·rw [if_pos Vn] at h;injection h with h;subst h;exact ⟨by decide,by decide,by decide,by decide,by decide⟩
 rw [if_neg Vn] at h
 by_cases N6:k=10
 ·rw [if_pos N6] at h;injection h with h;subst h;exact ⟨by decide,by decide,by decide,by decide,by decide⟩
 rw [if_neg N6] at h
 by_cases e11:k=11
 ·rw [if_pos e11] at h;injection h with h;subst h;exact ⟨by decide,by decide,by decide,by decide,by decide⟩
 rw [if_neg e11] at h
 by_cases e9:k=9
 ·rw [if_pos e9] at h;injection h with h;subst h;exact ⟨by decide,by decide,by decide,by decide,by decide⟩
 rw [if_neg e9] at h
 by_cases Vo:k=12
 ·rw [if_pos Vo] at h;injection h with h;subst h;exact ⟨by decide,by decide,by decide,by decide,by decide⟩
 rw [if_neg Vo] at h
 by_cases Vp:k=13
 ·rw [if_pos Vp] at h;injection h with h;subst h;exact ⟨by decide,by decide,by decide,by decide,by decide⟩
 rw [if_neg Vp] at h
 by_cases NP:k=46
 ·rw [if_pos NP] at h;injection h with h;subst h;exact ⟨by decide,by decide,by decide,by decide,by decide⟩
 rw [if_neg NP] at h
 by_cases Vq:k=19
 ·rw [if_pos Vq] at h;injection h with h;subst h;exact ⟨by decide,by decide,by decide,by decide,by decide⟩
 rw [if_neg Vq] at h
 by_cases Vr:k=20
 ·rw [if_pos Vr] at h;injection h with h;subst h;exact ⟨by decide,by decide,by decide,by decide,by decide⟩
 rw [if_neg Vr] at h
 by_cases Vs:k=21
 ·rw [if_pos Vs] at h;injection h with h;subst h;exact ⟨by decide,by decide,by decide,by decide,by decide⟩
 rw [if_neg Vs] at h
 by_cases Vt:k=22
 ·rw [if_pos Vt] at h;injection h with h;subst h;exact ⟨by decide,by decide,by decide,by decide,by decide⟩
 rw [if_neg Vt] at h
 by_cases Vu:k=23
 ·rw [if_pos Vu] at h;injection h with h;subst h;exact ⟨by decide,by decide,by decide,by decide,by decide⟩
 rw [if_neg Vu] at h
 by_cases Vv:k=24
 ·rw [if_pos Vv] at h;injection h with h;subst h;exact ⟨by decide,by decide,by decide,by decide,by decide⟩
 rw [if_neg Vv] at h
 by_cases Vw:k=25
 ·rw [if_pos Vw] at h;injection h with h;subst h;exact ⟨by decide,by decide,by decide,by decide,by decide⟩
 rw [if_neg Vw] at h
 by_cases Vx:k=26
 ·rw [if_pos Vx] at h;injection h with h;subst h;exact ⟨by decide,by decide,by decide,by decide,by decide⟩
 rw [if_neg Vx] at h
 cases h
theorem xS (o:Option St) (n:Nd) (fs:List Pw) (x0:List UInt8) (x1 x2 x3:Int) (h:kD n.kind=some (x0,x1,x2,x3)):o.bind (eJ aM aT n fs)=o.bind fun st=>if fw n false false false false∧fs.length=2 then (mq fs 0 x2 st).bind fun st=>mq fs 1 x3 (gN st [[32],x0,[32]]) else none:=by
 cases o with
 |none=>rfl
 |some st=>
  show eJ aM aT n fs st=_
  unfold eJ
  rw [h]
  rfl
theorem u_ (B b:Nat) (kd a0 xa xb xc xd:Int) (nm vl:List UInt8) (ks:List Nd) (A:Option Addr) (cap:Nat) (m0:List UInt8) (m1 m2 m3:Int) (hx:kD kd=some (m0,m1,m2,m3)) (hik:dr kd) (o:Option St) (M:Nat) (w:World) (h:cC w B b o M) (hk:sw B w ks A) (gF:∀i (hi:i<ks.length),sY ks[i]) (iq:im kd xa xb xc xd nm vl) (hn:ks.length≤1000000) (hM:M+1500+2000*aC ks≤1099511627776):
 Calls Tryz.prog 72 #[.pointer (some ⟨b,0,none⟩),.agg (aw kd a0 nm vl xa xb xc xd (.slice A ks.length cap)).toArray] w (ie B b w (o.bind (eJ aM aT (.mk kd a0 nm vl xa xb xc xd ks) (aG aM aT ks))) (M+1500+2000*aC ks)):=by
 have HXE:=aa hx
 have hxl:=M5 hx
 have VG:=aa hxl
 have hE:jr kd=.tuple #[.agg #[.string (ae m0),.int .i64 m1,.int .i64 m2,.int .i64 m3],.bool true]:=by unfold jr;rw [hx];rfl
 have nL:=aa (fun W:World=>bB W)
 have LK:=aa (fun (W:World) (r:Nat) (h:aW W r)=>show (Instr.lookup 102 (.map (some r)) (.int .i64 kd) true).run Tryz.prog W=.ok (.tuple #[.agg #[.string (ae m0),.int .i64 m1,.int .i64 m2,.int .i64 m3],.bool true]) W from by rw [←hE];exact cS h hik)
 clear hE hx hxl
 have hlt:=h.lt.1
 have hge:=h.lt.2
 have Ad:=aa hk
 obtain ⟨w1,hw1⟩:∃w1,w1=w.alloc (.cells (aw kd a0 nm vl xa xb xc xd (.slice A ks.length cap)).toArray 25):=⟨_,rfl⟩
 have hb1:Below w.heap.size w w1:=by rw [hw1];exact (Below.refl _ w).alloc (Nat.le_refl _) _
 have P1:=aa (h.keep hb1)
 have T1:=aa (aI.of_below (b:=b) hb1 (show B≤w.heap.size by omega))
 have gG:=aa (show Row w1 w.heap.size 25 (aw kd a0 nm vl xa xb xc xd (.slice A ks.length cap)).toArray from by rw [hw1];exact Row.new _ _ _)
 have dC:=aa hw1.symm
 have Ae:=aa gF
 have Ke:=aa iq
 clear h hk hw1 hb1 gF iq
 unfold aw at dC gG⊢
 go_enter Tryz.func72,Tryz.ntmps72
 go_upto_region 1 with fail
 rw [dC.out]
 have hne:w.heap.size≠b:=by omega
 have hc0:w1.cell? ⟨w.heap.size,0,none⟩=some (.int .i64 kd):=gG.out.cell 0
 have hz1:w.heap.size<w1.heap.size:=gG.out.lt
 go_cut [4,5] (fun tp tk wx=>∃g:Nat,tp=.pointer (some ⟨g,0,none⟩)∧tk=.bool true∧Hid (Row wx g 100 #[.string (ae m0),.int .i64 m1,.int .i64 m2,.int .i64 m3])∧Hid (Below w1.heap.size w1 wx))
 case first=>
  have FA:=aa (fun (W W':World) (hb:Below W.heap.size W W') (hz:w.heap.size<W.heap.size) (he:W.heap[w.heap.size]? =w1.heap[w.heap.size]?)=>show W'.cell? ⟨w.heap.size,0,none⟩=some (.int .i64 kd) from by
   rw [World.cell?_of_block ((hb.block _ hz).trans he)];exact hc0)
  have FB:=aa (fun (o:Obj) (W':World) (hb:Below (w1.alloc o).heap.size (w1.alloc o).drew W')=>show W'.cell? ⟨w.heap.size,0,none⟩=some (.int .i64 kd) from FA.out (w1.alloc o).drew W' hb (by show _<(w1.alloc o).heap.size;rw [World.size_alloc];omega) (Below.heap_alloc _ _ _ hz1))
  have pL:=aa (fun (o:Obj) (W:World) (h:aW W (w1.alloc o).heap.size)=>show aW W (w1.heap.size+1) from by rw [World.size_alloc] at h;exact h)
  have FR:=aa (fun (W':World) (hb:Below (w1.alloc (.cells #[.string {data:=#[]},.int .i64 0,.int .i64 0,.int .i64 0] 100)).heap.size (w1.alloc (.cells #[.string {data:=#[]},.int .i64 0,.int .i64 0,.int .i64 0] 100)).drew W')=>show (W'.cell? ⟨w1.heap.size,0,none⟩=some (.string {data:=#[]})∧W'.cell? ⟨w1.heap.size,1,none⟩=some (.int .i64 0)∧W'.cell? ⟨w1.heap.size,2,none⟩=some (.int .i64 0)∧W'.cell? ⟨w1.heap.size,3,none⟩=some (.int .i64 0))∧(W'.frozen? ⟨w1.heap.size,0,none⟩=false∧W'.frozen? ⟨w1.heap.size,1,none⟩=false∧W'.frozen? ⟨w1.heap.size,2,none⟩=false∧W'.frozen? ⟨w1.heap.size,3,none⟩=false)∧Hid (Row W' w1.heap.size 100 #[.string {data:=#[]},.int .i64 0,.int .i64 0,.int .i64 0]) from by
   have hr:=(Row.new w1 100 #[.string {data:=#[]},.int .i64 0,.int .i64 0,.int .i64 0]).drew.below hb (by rw [World.size_alloc];omega)
   exact ⟨⟨hr.cell 0,hr.cell 1,hr.cell 2,hr.cell 3⟩,⟨hr.frozen 0,hr.frozen 1,hr.frozen 2,hr.frozen 3⟩,hr⟩)
  have ew:=World.new_ne w1 ⟨w.heap.size,0,none⟩ hc0
  have jQ:=aa (fun (W:World) (h:aW W w1.heap.size)=>show (Instr.lookup 102 (.map (some w1.heap.size)) (.int .i64 kd) true).run Tryz.prog W=.ok (.tuple #[.agg #[.string (ae m0),.int .i64 m1,.int .i64 m2,.int .i64 m3],.bool true]) W from LK.out W _ h)
  have pM:=aa (fun (W:World) (h:aW W (w1.heap.size+1))=>show (Instr.lookup 102 (.map (some (w1.heap.size+1))) (.int .i64 kd) true).run Tryz.prog W=.ok (.tuple #[.agg #[.string (ae m0),.int .i64 m1,.int .i64 m2,.int .i64 m3],.bool true]) W from LK.out W _ h)
  go_region_held3 (fun w'=>w'.cell? ⟨w.heap.size,0,none⟩=some (.int .i64 kd)) (go_keep) ((go_at_call 68;refine (nL.out _).mono ?_;rintro e w5 ⟨rfl,hm,hb5⟩;(first|(have hs0:=FA.out _ _ hb5 hz1 rfl;have pN:=jQ.out w5 hm;have GG:=fun o=>jQ.out (w5.alloc o) (hm.below ((Below.refl _ w5).alloc (Nat.le_refl _) o)))|(have hs0:=FB.out _ _ hb5;obtain ⟨⟨k0,k1,k2,k3⟩,⟨y0,y1,y2,y3⟩,jR⟩:=FR.out _ hb5;have pN:=pM.out w5 (pL.out _ _ hm)));have bA:=aa hb5;clear hb5 hm))
  all_goals (go_wp2_with fail;go_meet;first|exact ⟨_,rfl,rfl,(aK (W1:=w1) bA.out _ _).1,(aK (W1:=w1) bA.out _ _).2⟩|exact ⟨_,rfl,rfl,(aL (W1:=w1) bA.out jR.out _ _ _ _).1,(aL (W1:=w1) bA.out jR.out _ _ _ _).2⟩)
 case rest=>
  obtain ⟨g,rfl,rfl,sT,fN⟩:=hcut
  clear hc0 nL LK
  have hgb:g≠b:=by
   obtain ⟨v,Kf,bad,h1,_⟩:=(P1.out.keep fN.out).at_
   obtain ⟨p,_,hr⟩:=h1.row
   exact sT.out.Y9 hr (by decide)
  have t2:=aI.of_below (b:=b) fN.out (Nat.le_trans P1.out.lt.2 (Nat.le_of_lt P1.out.lt.1))
  have P2:=aa (P1.out.keep fN.out)
  have T2:=aa (T1.out.trans t2)
  have ko:=aa (t2.row gG.out (by decide) (by omega))
  have YD:=sT
  clear t2 sT fN
  obtain ⟨fc,iX,ir,iY,iI,iJ,iZ,i_,gv⟩:=aj ko.out
  have C3:=aa (gP B b kd a0 xa xb xc xd nm vl (.slice A ks.length cap) [] o M wc P2.out)
  obtain ⟨o3,q3⟩:∃z_,nD o (decide (nm=[])) (decide (vl=[])) (decide (xa=0)) (decide (xb=0)) (decide (xc=0)) (decide (xd=0)) []=z_:=⟨_,rfl⟩
  rw [q3] at C3
  have Q3:=aa q3
  clear q3
  unfold aw at C3
  go_wp2_with fail
  refine (C3.out).mono ?_
  rintro e w3 ⟨rfl,p3,t3⟩
  have P3:=aa p3
  have T3:=aa (T2.out.trans t3)
  have nv:=aa (t3.row ko.out (by decide) (by omega))
  have Rx3:=aa (t3.row YD.out (by decide) (by omega))
  clear p3 t3 C3
  clear fc iX ir iY iI iJ iZ i_ gv
  obtain ⟨fc,iX,ir,iY,iI,iJ,iZ,i_,gv⟩:=aj nv.out
  have C4:=aa (kM B b kd a0 xa xb xc xd nm vl A ks.length cap 2 2 o3 M w3 P3.out (by omega))
  unfold aw at C4
  obtain ⟨o4,q4⟩:∃z_,lS o3 ks.length 2 2=z_:=⟨_,rfl⟩
  rw [q4] at C4
  have hfk:lS (nD o (decide (nm=[])) (decide (vl=[])) (decide (xa=0)) (decide (xb=0)) (decide (xc=0)) (decide (xd=0)) []) ks.length 2 2=if fw (.mk kd a0 nm vl xa xb xc xd ks) false false false false=true∧2≤(ks.length:Int)∧(ks.length:Int)≤2 then o else none:=GM o [] 2 2
  rw [Q3.out,q4] at hfk
  have pQ:=aa hfk
  clear hfk q4
  cases o4 with
  |none=>
   go_wp2_with fail
   refine (C4.out).mono ?_
   rintro e w4 ⟨rfl,p4,t4⟩
   have P4:=aa p4
   have T4:=aa (T3.out.trans t4)
   have s5:=aa (t4.row nv.out (by decide) (by omega))
   have Rx4:=aa (t4.row Rx3.out (by decide) (by omega))
   clear p4 t4 C4
   clear fc iX ir iY iI iJ iZ i_ gv
   have HP:=aa (show cC w4 B b (o.bind (eJ aM aT (.mk kd a0 nm vl xa xb xc xd ks) (aG aM aT ks))) (M+1500+2000*aC ks) from by
    rw [xS o (.mk kd a0 nm vl xa xb xc xd ks) (aG aM aT ks) m0 m1 m2 m3 HXE.out,show o.bind _=none from sZ pQ.out (fun h=>⟨h.1,by have:=h.2;rw [bh] at this;omega⟩)]
    exact P4.out.mono (by omega))
   go_wp2
   go_end0
   exact ⟨rfl,HP.out,T4.out⟩
  |some st=>
   obtain ⟨⟨hc1,hc2,hc3⟩,ho⟩:=nu pQ.out
   have Yk:=aa (show ks.length=2 by omega)
   have lU:0<ks.length:=by omega
   have DI:1<ks.length:=by omega
   have V0:(1:Int)<(ks.length:Int):=by omega
   have Tv:=xP ks DI
   obtain ⟨bL,bM,zD,zE,zF,zG,zH,zJ,zK,zL,zM,gi,gj,Ue,E_⟩:=Ad.out.kid (i:=0) lU
   subst Ue
   obtain ⟨x0,hx0⟩:∃x,ks[0]'lU=x:=⟨_,rfl⟩
   rw [hx0] at E_
   have K0:=aa (fun (W:World) (hb:Below B w W) (hz:w.heap.size≤W.heap.size)=>show (W.cell? ⟨bL,bM,none⟩=some (.int .i64 zD)∧W.cell? ⟨bL,bM+1,none⟩=some (.int .i64 zE)∧W.cell? ⟨bL,bM+2,none⟩=some (.string (ae zF))∧W.cell? ⟨bL,bM+3,none⟩=some (.string (ae zG))∧W.cell? ⟨bL,bM+4,none⟩=some (.int .i64 zH)∧W.cell? ⟨bL,bM+5,none⟩=some (.int .i64 zJ)∧W.cell? ⟨bL,bM+6,none⟩=some (.int .i64 zK)∧W.cell? ⟨bL,bM+7,none⟩=some (.int .i64 zL)∧W.cell? ⟨bL,bM+8,none⟩=some (.slice zM gi gj))∧cG (fun c=>B≤c) W x0 [Value.int .i64 zD,.int .i64 zE,.string (ae zF),.string (ae zG),.int .i64 zH,.int .i64 zJ,.int .i64 zK,.int .i64 zL,.slice zM gi gj] from E_ W hb hz)
   have Ob:Hid (sY x0):=by rw [←hx0];exact Ae.out 0 lU
   have Uf:aS x0≤aC ks:=by rw [←hx0];exact jU (List.getElem_mem _)
   have Lo:=aa hx0
   clear hx0 E_
   obtain ⟨bk1,of1,PK,PM,PN,PO,PT,PU,PV,PW,PX,pR,pS,Yl,O0⟩:=Ad.out.kid (i:=1) DI
   obtain ⟨rfl,rfl⟩:bL=bk1∧bM=of1:=by injection Yl with e;injection e with e1 e2;exact ⟨e1,e2⟩
   clear Yl
   obtain ⟨x1,hx1⟩:∃x,ks[1]'DI=x:=⟨_,rfl⟩
   rw [hx1] at O0
   have K1:=aa (fun (W:World) (hb:Below B w W) (hz:w.heap.size≤W.heap.size)=>show (W.cell? ⟨bL,bM+9,none⟩=some (.int .i64 PK)∧W.cell? ⟨bL,bM+10,none⟩=some (.int .i64 PM)∧W.cell? ⟨bL,bM+11,none⟩=some (.string (ae PN))∧W.cell? ⟨bL,bM+12,none⟩=some (.string (ae PO))∧W.cell? ⟨bL,bM+13,none⟩=some (.int .i64 PT)∧W.cell? ⟨bL,bM+14,none⟩=some (.int .i64 PU)∧W.cell? ⟨bL,bM+15,none⟩=some (.int .i64 PV)∧W.cell? ⟨bL,bM+16,none⟩=some (.int .i64 PW)∧W.cell? ⟨bL,bM+17,none⟩=some (.slice PX pR pS))∧cG (fun c=>B≤c) W x1 [Value.int .i64 PK,.int .i64 PM,.string (ae PN),.string (ae PO),.int .i64 PT,.int .i64 PU,.int .i64 PV,.int .i64 PW,.slice PX pR pS] from O0 W hb hz)
   have OP1:Hid (sY x1):=by rw [←hx1];exact Ae.out 1 DI
   have aa2:aS x1≤aC ks:=by rw [←hx1];exact jU (List.getElem_mem _)
   have F0:=aa hx1
   clear hx1 O0
   rw [Lo.out,F0.out] at Tv
   have Jv:=aa (And.intro hc1 ho)
   clear hc1 hc2 hc3 ho
   go_wp2_with fail
   refine (C4.out).mono ?_
   rintro e w4 ⟨rfl,p4,t4⟩
   have P4:=aa p4
   have T4:=aa (T3.out.trans t4)
   have s5:=aa (t4.row nv.out (by decide) (by omega))
   have Rx4:=aa (t4.row Rx3.out (by decide) (by omega))
   clear p4 t4 C4
   clear fc iX ir iY iI iJ iZ i_ gv
   go_upto_region 5 with fail
   have S5:=aa (fun (W':World) (ht:aI B b w W') (hr:Row W' w.heap.size 25 #[.int .i64 kd,.int .i64 a0,.string (ae nm),.string (ae vl),.int .i64 xa,.int .i64 xb,.int .i64 xc,.int .i64 xd,.slice (some ⟨bL,bM,none⟩) ks.length cap]) (hx:Row W' g 100 #[.string (ae m0),.int .i64 m1,.int .i64 m2,.int .i64 m3])=>show W'.cell? ⟨w.heap.size,8,none⟩=some (.slice (some ⟨bL,bM,none⟩) ks.length cap)∧W'.cell? ⟨g,2,none⟩=some (.int .i64 m2)∧W'.cell? ⟨bL,bM,none⟩=some (.int .i64 zD)∧W'.cell? ⟨bL,bM+1,none⟩=some (.int .i64 zE)∧W'.cell? ⟨bL,bM+2,none⟩=some (.string (ae zF))∧W'.cell? ⟨bL,bM+3,none⟩=some (.string (ae zG))∧W'.cell? ⟨bL,bM+4,none⟩=some (.int .i64 zH)∧W'.cell? ⟨bL,bM+5,none⟩=some (.int .i64 zJ)∧W'.cell? ⟨bL,bM+6,none⟩=some (.int .i64 zK)∧W'.cell? ⟨bL,bM+7,none⟩=some (.int .i64 zL)∧W'.cell? ⟨bL,bM+8,none⟩=some (.slice zM gi gj) from ⟨hr.cell 8,hx.cell 2,(K0.out W' ht.below ht.size).1⟩)
   obtain ⟨e0,e1,e2,e3,e4,e5,e6,e7,e8,e9,N6⟩:=S5.out w4 T4.out s5.out Rx4.out
   have Dq:=aa (show Calls Tryz.prog 45 #[.pointer (some ⟨b,0,none⟩),.agg #[.int .i64 zD,.int .i64 zE,.string (ae zF),.string (ae zG),.int .i64 zH,.int .i64 zJ,.int .i64 zK,.int .i64 zL,.slice zM gi gj],.int .i64 m2] w4.drew (ie B b w4.drew ((some st).bind (cQ aM aT x0 m2)) (M+2000*aS x0)) from Ob.out B b m2 _ (some st) _ _ (P4.out.keep (Below.refl _ _).drew) (K0.out w4.drew T4.out.drew.below T4.out.drew.size).2 VG.out.2.1 VG.out.2.2.1 (by first|omega|(simp only [List.length_cons,List.length_nil];omega)))
   obtain ⟨o5,q5⟩:∃z_,(some st).bind (cQ aM aT x0 m2)=z_:=⟨_,rfl⟩
   rw [q5] at Dq
   have Q5:=aa q5
   clear q5
   go_region_held3 (fun W'=>W'.cell? ⟨w.heap.size,8,none⟩=some (.slice (some ⟨bL,bM,none⟩) ks.length cap)∧W'.cell? ⟨g,2,none⟩=some (.int .i64 m2)∧W'.cell? ⟨bL,bM,none⟩=some (.int .i64 zD)∧W'.cell? ⟨bL,bM+1,none⟩=some (.int .i64 zE)∧W'.cell? ⟨bL,bM+2,none⟩=some (.string (ae zF))∧W'.cell? ⟨bL,bM+3,none⟩=some (.string (ae zG))∧W'.cell? ⟨bL,bM+4,none⟩=some (.int .i64 zH)∧W'.cell? ⟨bL,bM+5,none⟩=some (.int .i64 zJ)∧W'.cell? ⟨bL,bM+6,none⟩=some (.int .i64 zK)∧W'.cell? ⟨bL,bM+7,none⟩=some (.int .i64 zL)∧W'.cell? ⟨bL,bM+8,none⟩=some (.slice zM gi gj)) (go_keep) ((go_at_call 45;(refine Dq.out.mono ?_;rintro e w5 ⟨rfl,p5,t5⟩;have lV:=t5.row s5.out.drew (by decide) hne;have hx5:=t5.row Rx4.out.drew (by decide) hgb;obtain ⟨g0,g1,g2,g3,g4,g5,g6,g7,g8,g9,g10⟩:=S5.out w5 (T4.out.drew.trans t5) lV hx5;have P5:=aa p5;have T5:=aa (T4.out.drew.trans t5);have sA:=aa lV;have Rx5:=aa hx5;clear p5 t5 lV hx5)))
   clear e0 e1 e2 e3 e4 e5 e6 e7 e8 e9 N6 g0 g1 g2 g3 g4 g5 g6 g7 g8 g9 g10
   have cx0:w5.cell? ⟨g,0,none⟩=some (.string (ae m0)):=Rx5.out.cell 0
   have CW:=aa (show Calls Tryz.prog 73 #[.pointer (some ⟨b,0,none⟩),.slice (some ⟨w5.heap.size,0,none⟩) 3 3] (w5.alloc (.cells #[.string {data:=#[32]},.string (ae m0),.string {data:=#[32]}] 9)) (ie B b (w5.alloc (.cells #[.string {data:=#[32]},.string (ae m0),.string {data:=#[32]}] 9)) (o5.map (gN · [[32],m0,[32]])) ((M+2000*aS x0)+lR [[32],m0,[32]])) from EY B b [[32],m0,[32]] w5.heap.size 3 _ _ _ (P5.out.alloc _) (Row.new _ _ _) (by have:=VG.out.1;simp only [lR,List.length_cons,List.length_nil];omega) (by simp))
   have Ru:B≤w5.heap.size:=Nat.le_trans P5.out.lt.2 (Nat.le_of_lt P5.out.lt.1)
   have C6:=aa (CW.out.mono fun e w' hx=>show ie B b w5 (o5.map (gN · [[32],m0,[32]])) ((M+2000*aS x0)+20) e w' from ⟨hx.1,hx.2.1.mono (by have:=VG.out.1;simp only [lR,List.length_cons,List.length_nil];omega),((aI.refl B b w5).alloc Ru _).trans hx.2.2⟩)
   clear CW Ru
   obtain ⟨o6,q6⟩:∃z_,o5.map (gN · [[32],m0,[32]])=z_:=⟨_,rfl⟩
   rw [q6] at C6
   have Q6:=aa q6
   clear q6
   go_wp2_with fail
   refine (C6.out).mono ?_
   rintro e w6 ⟨rfl,p6,t6⟩
   have P6:=aa p6
   have T6:=aa (T5.out.trans t6)
   have Jw:=aa (t6.row sA.out (by decide) (by omega))
   have Rx6:=aa (t6.row Rx5.out (by decide) (by omega))
   clear p6 t6 C6
   clear cx0
   go_upto_region 7 with fail
   have S7:=aa (fun (W':World) (ht:aI B b w W') (hr:Row W' w.heap.size 25 #[.int .i64 kd,.int .i64 a0,.string (ae nm),.string (ae vl),.int .i64 xa,.int .i64 xb,.int .i64 xc,.int .i64 xd,.slice (some ⟨bL,bM,none⟩) ks.length cap]) (hx:Row W' g 100 #[.string (ae m0),.int .i64 m1,.int .i64 m2,.int .i64 m3])=>show W'.cell? ⟨w.heap.size,8,none⟩=some (.slice (some ⟨bL,bM,none⟩) ks.length cap)∧W'.cell? ⟨g,3,none⟩=some (.int .i64 m3)∧W'.cell? ⟨bL,bM+9,none⟩=some (.int .i64 PK)∧W'.cell? ⟨bL,bM+10,none⟩=some (.int .i64 PM)∧W'.cell? ⟨bL,bM+11,none⟩=some (.string (ae PN))∧W'.cell? ⟨bL,bM+12,none⟩=some (.string (ae PO))∧W'.cell? ⟨bL,bM+13,none⟩=some (.int .i64 PT)∧W'.cell? ⟨bL,bM+14,none⟩=some (.int .i64 PU)∧W'.cell? ⟨bL,bM+15,none⟩=some (.int .i64 PV)∧W'.cell? ⟨bL,bM+16,none⟩=some (.int .i64 PW)∧W'.cell? ⟨bL,bM+17,none⟩=some (.slice PX pR pS) from ⟨hr.cell 8,hx.cell 3,(K1.out W' ht.below ht.size).1⟩)
   obtain ⟨e0,e1,e2,e3,e4,e5,e6,e7,e8,e9,N6⟩:=S7.out w6 T6.out Jw.out Rx6.out
   have Dq:=aa (show Calls Tryz.prog 45 #[.pointer (some ⟨b,0,none⟩),.agg #[.int .i64 PK,.int .i64 PM,.string (ae PN),.string (ae PO),.int .i64 PT,.int .i64 PU,.int .i64 PV,.int .i64 PW,.slice PX pR pS],.int .i64 m3] w6.drew (ie B b w6.drew (o6.bind (cQ aM aT x1 m3)) (((M+2000*aS x0)+20)+2000*aS x1)) from OP1.out B b m3 _ o6 _ _ (P6.out.keep (Below.refl _ _).drew) (K1.out w6.drew T6.out.drew.below T6.out.drew.size).2 VG.out.2.2.2.1 VG.out.2.2.2.2 (by first|omega|(simp only [List.length_cons,List.length_nil];omega)))
   obtain ⟨o7,q7⟩:∃z_,o6.bind (cQ aM aT x1 m3)=z_:=⟨_,rfl⟩
   rw [q7] at Dq
   have Q7:=aa q7
   clear q7
   go_region_held3 (fun W'=>W'.cell? ⟨w.heap.size,8,none⟩=some (.slice (some ⟨bL,bM,none⟩) ks.length cap)∧W'.cell? ⟨g,3,none⟩=some (.int .i64 m3)∧W'.cell? ⟨bL,bM+9,none⟩=some (.int .i64 PK)∧W'.cell? ⟨bL,bM+10,none⟩=some (.int .i64 PM)∧W'.cell? ⟨bL,bM+11,none⟩=some (.string (ae PN))∧W'.cell? ⟨bL,bM+12,none⟩=some (.string (ae PO))∧W'.cell? ⟨bL,bM+13,none⟩=some (.int .i64 PT)∧W'.cell? ⟨bL,bM+14,none⟩=some (.int .i64 PU)∧W'.cell? ⟨bL,bM+15,none⟩=some (.int .i64 PV)∧W'.cell? ⟨bL,bM+16,none⟩=some (.int .i64 PW)∧W'.cell? ⟨bL,bM+17,none⟩=some (.slice PX pR pS)) (go_keep) ((go_at_call 45;(refine Dq.out.mono ?_;rintro e w7 ⟨rfl,p7,t7⟩;have hr7:=t7.row Jw.out.drew (by decide) hne;have hx7:=t7.row Rx6.out.drew (by decide) hgb;obtain ⟨g0,g1,g2,g3,g4,g5,g6,g7,g8,g9,g10⟩:=S7.out w7 (T6.out.drew.trans t7) hr7 hx7;have P7:=aa p7;have T7:=aa (T6.out.drew.trans t7);have Fb:=aa hr7;have Rx7:=aa hx7;clear p7 t7 hr7 hx7)))
   clear e0 e1 e2 e3 e4 e5 e6 e7 e8 e9 N6 g0 g1 g2 g3 g4 g5 g6 g7 g8 g9 g10
   have HP:=aa (show cC w7 B b (o.bind (eJ aM aT (.mk kd a0 nm vl xa xb xc xd ks) (aG aM aT ks))) (M+1500+2000*aC ks) from by
    have hp:=P7.out
    rw [←Q7.out,←Q6.out,←Q5.out,Fc] at hp
    rw [Jv.out.2,xS _ (.mk kd a0 nm vl xa xb xc xd ks) (aG aM aT ks) m0 m1 m2 m3 HXE.out,Option.bind_some,if_pos ⟨Jv.out.1,by rw [bh];exact Yk.out⟩,nt ks lU,Lo.out]
    simp only [nt ks DI,F0.out]
    exact hp.mono (by omega))
   go_wp2
   go_end0
   exact ⟨rfl,HP.out,T7.out⟩
theorem CJ (k:Int):jP eB k=nJ k:=by
 unfold jP eB nJ
 simp only [List.find?_cons,List.find?_nil]
 by_cases h0:k=14
 ·subst h0;rfl
 by_cases h1:k=15
 ·subst h1;rfl
 by_cases h2:k=16
 ·subst h2;rfl
 by_cases h3:k=27
 ·subst h3;rfl
 rw [if_neg h0,if_neg h1,if_neg h2,if_neg h3]
 simp only [decide_eq_false (Ne.symm h0),decide_eq_false (Ne.symm h1),decide_eq_false (Ne.symm h2),decide_eq_false (Ne.symm h3)]
 rfl
theorem M6 (k:Int):jP cY k=Rg k:=by
 unfold jP cY Rg
 simp only [List.find?_cons,List.find?_nil]
 by_cases h0:k=31
 ·subst h0;rfl
 by_cases h1:k=32
 ·subst h1;rfl
 by_cases h2:k=33
 ·subst h2;rfl
 by_cases h3:k=34
 ·subst h3;rfl
 by_cases h4:k=35
 ·subst h4;rfl
 by_cases h5:k=36
 ·subst h5;rfl
 rw [if_neg h0,if_neg h1,if_neg h2,if_neg h3,if_neg h4,if_neg h5]
 simp only [decide_eq_false (Ne.symm h0),decide_eq_false (Ne.symm h1),decide_eq_false (Ne.symm h2),decide_eq_false (Ne.symm h3),decide_eq_false (Ne.symm h4),decide_eq_false (Ne.symm h5)]
 rfl
theorem Qr {k:Int} {x:List UInt8} (h:vR k=some x):x.length≤20:=by
 unfold vR at h
 by_cases e37:k=37
 ·rw [if_pos e37] at h;injection h with h;subst h;decide
 rw [if_neg e37] at h
 by_cases e38:k=38
 ·rw [if_pos e38] at h;injection h with h;subst h;decide
 rw [if_neg e38] at h
 by_cases e39:k=39
 ·rw [if_pos e39] at h;injection h with h;subst h;decide
 rw [if_neg e39] at h
 by_cases e40:k=40
 ·rw [if_pos e40] at h;injection h with h;subst h;decide
 rw [if_neg e40] at h
 by_cases e41:k=41
 ·rw [if_pos e41] at h;injection h with h;subst h;decide
 rw [if_neg e41] at h
 by_cases e43:k=43
 ·rw [if_pos e43] at h;injection h with h;subst h;decide
 rw [if_neg e43] at h
 cases h
theorem GP (o:Option St) (n:Nd) (fs:List Pw) (h:kD n.kind=none):o.bind (eJ aM aT n fs)=match nJ n.kind with
 |some s=>o.bind (lK n fs s 0)
 |none=>match vR n.kind with
  |some s=>o.bind (lK n fs s 0)
  |none=>match Rg n.kind with
   |some s=>o.bind (Ri n fs s)
   |none=>if (45≤n.kind∧n.kind≤47)∨n.kind=44∨n.kind=42 then o.bind (vS aM n fs) else o.bind (fF aM aT n fs):=by
 cases o with
 |none=>cases nJ n.kind<;>cases vR n.kind<;>cases Rg n.kind<;>simp
 |some st=>
  show eJ aM aT n fs st=_
  unfold eJ
  rw [h]
  cases nJ n.kind<;>cases vR n.kind<;>cases Rg n.kind<;>simp
  all_goals rfl
theorem JM (B b:Nat) (kd a0 xa xb xc xd:Int) (nm vl:List UInt8) (ks:List Nd) (A:Option Addr) (cap:Nat) (hx:kD kd=none) (hik:dr kd) (s:List UInt8) (zZ:nJ kd=none) (JX:vR kd=some s) (o:Option St) (M:Nat) (w:World) (h:cC w B b o M) (hk:sw B w ks A) (gF:∀i (hi:i<ks.length),sY ks[i]) (iq:im kd xa xb xc xd nm vl) (hn:ks.length≤1000000) (hM:M+1500+2000*aC ks≤1099511627776):
 Calls Tryz.prog 72 #[.pointer (some ⟨b,0,none⟩),.agg (aw kd a0 nm vl xa xb xc xd (.slice A ks.length cap)).toArray] w (ie B b w (o.bind (eJ aM aT (.mk kd a0 nm vl xa xb xc xd ks) (aG aM aT ks))) (M+1500+2000*aC ks)):=by
 rw [GP o (.mk kd a0 nm vl xa xb xc xd ks) _ hx]
 rw [show nJ (Nd.kind (.mk kd a0 nm vl xa xb xc xd ks))=none from zZ,show vR (Nd.kind (.mk kd a0 nm vl xa xb xc xd ks))=some s from JX]
 dsimp only
 have hE:jr kd=.tuple #[.agg #[.string {data:=#[]},.int .i64 0,.int .i64 0,.int .i64 0],.bool false]:=by unfold jr;rw [hx]
 have nL:=aa (fun W:World=>bB W)
 have LK:=aa (fun (W:World) (r:Nat) (h:aW W r)=>show (Instr.lookup 102 (.map (some r)) (.int .i64 kd) true).run Tryz.prog W=.ok (.tuple #[.agg #[.string {data:=#[]},.int .i64 0,.int .i64 0,.int .i64 0],.bool false]) W from by rw [←hE];exact cS h hik)
 have EV0:=aa (fun W:World=>qN W)
 have WD0:=aa (fun (W:World) (bm:Nat) (h:iU W bm eB)=>show Calls Tryz.prog 70 #[.map (some bm),.int .i64 kd] W fun e w'=>e=.returned (.tuple #[.string {data:=#[]},.bool false])∧Below W.heap.size W w' from by
  have:=dL bm eB kd W h uF
  rw [CJ,zZ] at this
  exact this)
 have EV1:=aa (fun W:World=>fG W)
 have WD1:=aa (fun (W:World) (bm:Nat) (h:iU W bm b_)=>show Calls Tryz.prog 70 #[.map (some bm),.int .i64 kd] W fun e w'=>e=.returned (.tuple #[.string (ae s),.bool true])∧Below W.heap.size W w' from by
  have:=dL bm b_ kd W h fM
  rw [kK,JX] at this
  exact this)
 have hk2:=aa hk
 have sD:=aa gF
 have lT:=aa iq
 have Od:=aa hM
 have vM:=aa hn
 have pn:=Qr JX
 clear hE hx zZ JX
 have hlt:=h.lt.1
 have hge:=h.lt.2
 have Ad:=aa hk
 obtain ⟨w1,hw1⟩:∃w1,w1=w.alloc (.cells (aw kd a0 nm vl xa xb xc xd (.slice A ks.length cap)).toArray 25):=⟨_,rfl⟩
 have hb1:Below w.heap.size w w1:=by rw [hw1];exact (Below.refl _ w).alloc (Nat.le_refl _) _
 have P1:=aa (h.keep hb1)
 have T1:=aa (aI.of_below (b:=b) hb1 (show B≤w.heap.size by omega))
 have gG:=aa (show Row w1 w.heap.size 25 (aw kd a0 nm vl xa xb xc xd (.slice A ks.length cap)).toArray from by rw [hw1];exact Row.new _ _ _)
 have dC:=aa hw1.symm
 have Ae:=aa gF
 have Ke:=aa iq
 clear h hk hw1 hb1 gF iq
 unfold aw at dC gG⊢
 go_enter Tryz.func72,Tryz.ntmps72
 go_upto_region 1 with fail
 rw [dC.out]
 have hne:w.heap.size≠b:=by omega
 have hc0:w1.cell? ⟨w.heap.size,0,none⟩=some (.int .i64 kd):=gG.out.cell 0
 have hz1:w.heap.size<w1.heap.size:=gG.out.lt
 go_cut [4,5] (fun tp tk wx=>∃g:Nat,tp=.pointer (some ⟨g,0,none⟩)∧tk=.bool false∧Hid (Row wx g 100 #[.string {data:=#[]},.int .i64 0,.int .i64 0,.int .i64 0])∧Hid (Below w1.heap.size w1 wx))
 case first=>
  have FA:=aa (fun (W W':World) (hb:Below W.heap.size W W') (hz:w.heap.size<W.heap.size) (he:W.heap[w.heap.size]? =w1.heap[w.heap.size]?)=>show W'.cell? ⟨w.heap.size,0,none⟩=some (.int .i64 kd) from by
   rw [World.cell?_of_block ((hb.block _ hz).trans he)];exact hc0)
  have FB:=aa (fun (o:Obj) (W':World) (hb:Below (w1.alloc o).heap.size (w1.alloc o).drew W')=>show W'.cell? ⟨w.heap.size,0,none⟩=some (.int .i64 kd) from FA.out (w1.alloc o).drew W' hb (by show _<(w1.alloc o).heap.size;rw [World.size_alloc];omega) (Below.heap_alloc _ _ _ hz1))
  have pL:=aa (fun (o:Obj) (W:World) (h:aW W (w1.alloc o).heap.size)=>show aW W (w1.heap.size+1) from by rw [World.size_alloc] at h;exact h)
  have FR:=aa (fun (W':World) (hb:Below (w1.alloc (.cells #[.string {data:=#[]},.int .i64 0,.int .i64 0,.int .i64 0] 100)).heap.size (w1.alloc (.cells #[.string {data:=#[]},.int .i64 0,.int .i64 0,.int .i64 0] 100)).drew W')=>show (W'.cell? ⟨w1.heap.size,0,none⟩=some (.string {data:=#[]})∧W'.cell? ⟨w1.heap.size,1,none⟩=some (.int .i64 0)∧W'.cell? ⟨w1.heap.size,2,none⟩=some (.int .i64 0)∧W'.cell? ⟨w1.heap.size,3,none⟩=some (.int .i64 0))∧(W'.frozen? ⟨w1.heap.size,0,none⟩=false∧W'.frozen? ⟨w1.heap.size,1,none⟩=false∧W'.frozen? ⟨w1.heap.size,2,none⟩=false∧W'.frozen? ⟨w1.heap.size,3,none⟩=false)∧Hid (Row W' w1.heap.size 100 #[.string {data:=#[]},.int .i64 0,.int .i64 0,.int .i64 0]) from by
   have hr:=(Row.new w1 100 #[.string {data:=#[]},.int .i64 0,.int .i64 0,.int .i64 0]).drew.below hb (by rw [World.size_alloc];omega)
   exact ⟨⟨hr.cell 0,hr.cell 1,hr.cell 2,hr.cell 3⟩,⟨hr.frozen 0,hr.frozen 1,hr.frozen 2,hr.frozen 3⟩,hr⟩)
  have ew:=World.new_ne w1 ⟨w.heap.size,0,none⟩ hc0
  have jQ:=aa (fun (W:World) (h:aW W w1.heap.size)=>show (Instr.lookup 102 (.map (some w1.heap.size)) (.int .i64 kd) true).run Tryz.prog W=.ok (.tuple #[.agg #[.string {data:=#[]},.int .i64 0,.int .i64 0,.int .i64 0],.bool false]) W from LK.out W _ h)
  have pM:=aa (fun (W:World) (h:aW W (w1.heap.size+1))=>show (Instr.lookup 102 (.map (some (w1.heap.size+1))) (.int .i64 kd) true).run Tryz.prog W=.ok (.tuple #[.agg #[.string {data:=#[]},.int .i64 0,.int .i64 0,.int .i64 0],.bool false]) W from LK.out W _ h)
  go_region_held3 (fun w'=>w'.cell? ⟨w.heap.size,0,none⟩=some (.int .i64 kd)) (go_keep) ((go_at_call 68;refine (nL.out _).mono ?_;rintro e w5 ⟨rfl,hm,hb5⟩;(first|(have hs0:=FA.out _ _ hb5 hz1 rfl;have pN:=jQ.out w5 hm;have GG:=fun o=>jQ.out (w5.alloc o) (hm.below ((Below.refl _ w5).alloc (Nat.le_refl _) o)))|(have hs0:=FB.out _ _ hb5;obtain ⟨⟨k0,k1,k2,k3⟩,⟨y0,y1,y2,y3⟩,jR⟩:=FR.out _ hb5;have pN:=pM.out w5 (pL.out _ _ hm)));have bA:=aa hb5;clear hb5 hm))
  all_goals (go_wp2_with fail;go_meet;first|exact ⟨_,rfl,rfl,(aK (W1:=w1) bA.out _ _).1,(aK (W1:=w1) bA.out _ _).2⟩|exact ⟨_,rfl,rfl,(aL (W1:=w1) bA.out jR.out _ _ _ _).1,(aL (W1:=w1) bA.out jR.out _ _ _ _).2⟩)
 case rest=>
  obtain ⟨g,rfl,rfl,sT,fN⟩:=hcut
  clear hc0 nL LK
  have hgb:g≠b:=by
   obtain ⟨v,Kf,bad,h1,_⟩:=(P1.out.keep fN.out).at_
   obtain ⟨p,_,hr⟩:=h1.row
   exact sT.out.Y9 hr (by decide)
  have t2:=aI.of_below (b:=b) fN.out (Nat.le_trans P1.out.lt.2 (Nat.le_of_lt P1.out.lt.1))
  have P2:=aa (P1.out.keep fN.out)
  have T2:=aa (T1.out.trans t2)
  have ko:=aa (t2.row gG.out (by decide) (by omega))
  have YD:=sT
  clear t2 sT fN
  clear YD hgb
  have zS:w.heap.size<wc.heap.size:=ko.out.lt
  have hck:wc.cell? ⟨w.heap.size,0,none⟩=some (.int .i64 kd):=ko.out.cell 0
  go_upto_region 8 with fail
  have FA:=aa (fun (W W':World) (hb:Below W.heap.size W W') (hz:w.heap.size<W.heap.size) (he:W.cell? ⟨w.heap.size,0,none⟩=some (.int .i64 kd))=>show W'.cell? ⟨w.heap.size,0,none⟩=some (.int .i64 kd) from (hb.cell (p:=⟨w.heap.size,0,none⟩) hz).trans he)
  go_region_held3 (fun w'=>w'.cell? ⟨w.heap.size,0,none⟩=some (.int .i64 kd)) (go_keep) (first|(go_at_call 108;((with_reducible refine (EV0.out _).mono ?_);rintro e y3 ⟨rfl,rQ,Qs⟩;have hs0:=FA.out _ _ Qs zS hck;have vu:=aa rQ;have iA:=aa Qs;have mg:=Qs.size;clear rQ Qs))|(go_at_call 70;(refine (WD0.out _ _ vu.out).mono ?_;rintro e w3 ⟨rfl,hb3⟩;have hs1:=FA.out _ _ hb3 (Nat.lt_of_lt_of_le zS mg) hs0;have g_:=aa (eP (W1:=wc) iA.out hb3);clear hb3)))
  have t3:=aI.of_below (b:=b) g_.out (Nat.le_trans P2.out.lt.2 (Nat.le_of_lt P2.out.lt.1))
  have P3:=aa (P2.out.keep g_.out)
  have T3:=aa (T2.out.trans t3)
  have nv:=aa (t3.row ko.out (by decide) (by omega))
  clear t3 zS hck hs0 hs1 mg vu iA FA
  have zS:w.heap.size<w3.heap.size:=nv.out.lt
  have hck:w3.cell? ⟨w.heap.size,0,none⟩=some (.int .i64 kd):=nv.out.cell 0
  go_upto_region 11 with fail
  have FA:=aa (fun (W W':World) (hb:Below W.heap.size W W') (hz:w.heap.size<W.heap.size) (he:W.cell? ⟨w.heap.size,0,none⟩=some (.int .i64 kd))=>show W'.cell? ⟨w.heap.size,0,none⟩=some (.int .i64 kd) from (hb.cell (p:=⟨w.heap.size,0,none⟩) hz).trans he)
  go_region_held3 (fun w'=>w'.cell? ⟨w.heap.size,0,none⟩=some (.int .i64 kd)) (go_keep) (first|(go_at_call 71;((with_reducible refine (EV1.out _).mono ?_);rintro e y4 ⟨rfl,rQ,Qt⟩;have hs0:=FA.out _ _ Qt zS hck;have vu:=aa rQ;have iA:=aa Qt;have mg:=Qt.size;clear rQ Qt))|(go_at_call 70;(refine (WD1.out _ _ vu.out).mono ?_;rintro e w4 ⟨rfl,hb4⟩;have hs1:=FA.out _ _ hb4 (Nat.lt_of_lt_of_le zS mg) hs0;have qD:=aa (eP (W1:=w3) iA.out hb4);clear hb4)))
  have t4:=aI.of_below (b:=b) qD.out (Nat.le_trans P3.out.lt.2 (Nat.le_of_lt P3.out.lt.1))
  have P4:=aa (P3.out.keep qD.out)
  have T4:=aa (T3.out.trans t4)
  have s5:=aa (t4.row nv.out (by decide) (by omega))
  clear t4 zS hck hs0 hs1 mg vu iA FA
  obtain ⟨fc,iX,ir,iY,iI,iJ,iZ,i_,gv⟩:=aj s5.out
  have C5:=aa (E9 B b kd a0 xa xb xc xd nm vl ks A cap s 0 pn (by decide) (by decide) o M w4 P4.out (hk2.out.keep T4.out.below T4.out.size) sD.out lT.out vM.out Od.out)
  unfold aw at C5
  go_wp2_with fail
  refine C5.out.mono ?_
  rintro e w5 ⟨rfl,p5,t5⟩
  have HP:=aa p5
  have HT:=aa (T4.out.trans t5)
  clear fc iX ir iY iI iJ iZ i_ gv
  clear p5 t5 C5
  go_wp2
  go_end0
  exact ⟨rfl,HP.out,HT.out⟩
def YE (kd:Int):Prop:=kd=0∨kd=1∨kd=28∨kd=45∨kd=9∨kd=19∨kd=30∨kd=37
theorem ja (B b:Nat) (kd a0 xa xb xc xd:Int) (nm vl:List UInt8) (ks:List Nd) (A:Option Addr) (cap:Nat) (hx:kD kd=none) (hik:dr kd) (zZ:nJ kd=none) (JX:vR kd=none) (UY:Rg kd=none) (hS:kd=0∨kd=1∨kd=28∨kd=45) (cI:ks.length≤cap) (M4:∀i (hi:i<ks.length),JB ks[i]) (o:Option St) (M:Nat) (w:World) (h:cC w B b o M) (hk:sw B w ks A) (gF:∀i (hi:i<ks.length),sY ks[i]) (iq:im kd xa xb xc xd nm vl) (hn:ks.length≤1000000) (hM:M+1500+2000*aC ks≤1099511627776):
 Calls Tryz.prog 72 #[.pointer (some ⟨b,0,none⟩),.agg (aw kd a0 nm vl xa xb xc xd (.slice A ks.length cap)).toArray] w (ie B b w (o.bind (eJ aM aT (.mk kd a0 nm vl xa xb xc xd ks) (aG aM aT ks))) (M+1500+2000*aC ks)):=by
 have HS:=aa hS
 clear hS
 rw [GP o (.mk kd a0 nm vl xa xb xc xd ks) _ hx]
 rw [show nJ (Nd.kind (.mk kd a0 nm vl xa xb xc xd ks))=none from zZ,show vR (Nd.kind (.mk kd a0 nm vl xa xb xc xd ks))=none from JX,show Rg (Nd.kind (.mk kd a0 nm vl xa xb xc xd ks))=none from UY]
 dsimp only
 show Calls _ _ _ _ (ie B b w (if (45≤kd∧kd≤47)∨kd=44∨kd=42 then _ else _) _)
 have sJ:kd≠46:=fun e=>by rw [e] at hx;cases hx
 have U8:=aa sJ
 clear sJ
 have hE:jr kd=.tuple #[.agg #[.string {data:=#[]},.int .i64 0,.int .i64 0,.int .i64 0],.bool false]:=by unfold jr;rw [hx]
 have nL:=aa (fun W:World=>bB W)
 have LK:=aa (fun (W:World) (r:Nat) (h:aW W r)=>show (Instr.lookup 102 (.map (some r)) (.int .i64 kd) true).run Tryz.prog W=.ok (.tuple #[.agg #[.string {data:=#[]},.int .i64 0,.int .i64 0,.int .i64 0],.bool false]) W from by rw [←hE];exact cS h hik)
 have EV0:=aa (fun W:World=>qN W)
 have WD0:=aa (fun (W:World) (bm:Nat) (h:iU W bm eB)=>show Calls Tryz.prog 70 #[.map (some bm),.int .i64 kd] W fun e w'=>e=.returned (.tuple #[.string {data:=#[]},.bool false])∧Below W.heap.size W w' from by
  have:=dL bm eB kd W h uF
  rw [CJ,zZ] at this
  exact this)
 have EV1:=aa (fun W:World=>fG W)
 have WD1:=aa (fun (W:World) (bm:Nat) (h:iU W bm b_)=>show Calls Tryz.prog 70 #[.map (some bm),.int .i64 kd] W fun e w'=>e=.returned (.tuple #[.string {data:=#[]},.bool false])∧Below W.heap.size W w' from by
  have:=dL bm b_ kd W h fM
  rw [kK,JX] at this
  exact this)
 have EV2:=aa (fun W:World=>xo W)
 have WD2:=aa (fun (W:World) (bm:Nat) (h:iU W bm cY)=>show Calls Tryz.prog 70 #[.map (some bm),.int .i64 kd] W fun e w'=>e=.returned (.tuple #[.string {data:=#[]},.bool false])∧Below W.heap.size W w' from by
  have:=dL bm cY kd W h BV
  rw [M6,UY] at this
  exact this)
 have hk2:=aa hk
 have sD:=aa gF
 have lT:=aa iq
 have Od:=aa hM
 have vM:=aa hn
 have hc2:=aa cI
 have hf2:=aa M4
 clear hE hx cI M4 zZ JX UY
 obtain ⟨rp,Vz⟩:∃z_,o.bind (vS aM (.mk kd a0 nm vl xa xb xc xd ks) (aG aM aT ks))=z_:=⟨_,rfl⟩
 obtain ⟨rv,hrv⟩:∃z_,o.bind (fF aM aT (.mk kd a0 nm vl xa xb xc xd ks) (aG aM aT ks))=z_:=⟨_,rfl⟩
 rw [Vz,hrv]
 have HRP:=aa Vz
 have HRV:=aa hrv
 clear Vz hrv
 obtain ⟨rr,Ut⟩:∃z_,(if (45≤kd∧kd≤47)∨kd=44∨kd=42 then rp else rv)=z_:=⟨_,rfl⟩
 rw [Ut]
 have ze:=aa Ut
 clear Ut
 have hlt:=h.lt.1
 have hge:=h.lt.2
 have Ad:=aa hk
 obtain ⟨w1,hw1⟩:∃w1,w1=w.alloc (.cells (aw kd a0 nm vl xa xb xc xd (.slice A ks.length cap)).toArray 25):=⟨_,rfl⟩
 have hb1:Below w.heap.size w w1:=by rw [hw1];exact (Below.refl _ w).alloc (Nat.le_refl _) _
 have P1:=aa (h.keep hb1)
 have T1:=aa (aI.of_below (b:=b) hb1 (show B≤w.heap.size by omega))
 have gG:=aa (show Row w1 w.heap.size 25 (aw kd a0 nm vl xa xb xc xd (.slice A ks.length cap)).toArray from by rw [hw1];exact Row.new _ _ _)
 have dC:=aa hw1.symm
 have Ae:=aa gF
 have Ke:=aa iq
 clear h hk hw1 hb1 gF iq
 unfold aw at dC gG⊢
 go_enter Tryz.func72,Tryz.ntmps72
 go_upto_region 1 with fail
 rw [dC.out]
 have hne:w.heap.size≠b:=by omega
 have hc0:w1.cell? ⟨w.heap.size,0,none⟩=some (.int .i64 kd):=gG.out.cell 0
 have hz1:w.heap.size<w1.heap.size:=gG.out.lt
 go_cut [4,5] (fun tp tk wx=>∃g:Nat,tp=.pointer (some ⟨g,0,none⟩)∧tk=.bool false∧Hid (Row wx g 100 #[.string {data:=#[]},.int .i64 0,.int .i64 0,.int .i64 0])∧Hid (Below w1.heap.size w1 wx))
 case first=>
  have FA:=aa (fun (W W':World) (hb:Below W.heap.size W W') (hz:w.heap.size<W.heap.size) (he:W.heap[w.heap.size]? =w1.heap[w.heap.size]?)=>show W'.cell? ⟨w.heap.size,0,none⟩=some (.int .i64 kd) from by
   rw [World.cell?_of_block ((hb.block _ hz).trans he)];exact hc0)
  have FB:=aa (fun (o:Obj) (W':World) (hb:Below (w1.alloc o).heap.size (w1.alloc o).drew W')=>show W'.cell? ⟨w.heap.size,0,none⟩=some (.int .i64 kd) from FA.out (w1.alloc o).drew W' hb (by show _<(w1.alloc o).heap.size;rw [World.size_alloc];omega) (Below.heap_alloc _ _ _ hz1))
  have pL:=aa (fun (o:Obj) (W:World) (h:aW W (w1.alloc o).heap.size)=>show aW W (w1.heap.size+1) from by rw [World.size_alloc] at h;exact h)
  have FR:=aa (fun (W':World) (hb:Below (w1.alloc (.cells #[.string {data:=#[]},.int .i64 0,.int .i64 0,.int .i64 0] 100)).heap.size (w1.alloc (.cells #[.string {data:=#[]},.int .i64 0,.int .i64 0,.int .i64 0] 100)).drew W')=>show (W'.cell? ⟨w1.heap.size,0,none⟩=some (.string {data:=#[]})∧W'.cell? ⟨w1.heap.size,1,none⟩=some (.int .i64 0)∧W'.cell? ⟨w1.heap.size,2,none⟩=some (.int .i64 0)∧W'.cell? ⟨w1.heap.size,3,none⟩=some (.int .i64 0))∧(W'.frozen? ⟨w1.heap.size,0,none⟩=false∧W'.frozen? ⟨w1.heap.size,1,none⟩=false∧W'.frozen? ⟨w1.heap.size,2,none⟩=false∧W'.frozen? ⟨w1.heap.size,3,none⟩=false)∧Hid (Row W' w1.heap.size 100 #[.string {data:=#[]},.int .i64 0,.int .i64 0,.int .i64 0]) from by
   have hr:=(Row.new w1 100 #[.string {data:=#[]},.int .i64 0,.int .i64 0,.int .i64 0]).drew.below hb (by rw [World.size_alloc];omega)
   exact ⟨⟨hr.cell 0,hr.cell 1,hr.cell 2,hr.cell 3⟩,⟨hr.frozen 0,hr.frozen 1,hr.frozen 2,hr.frozen 3⟩,hr⟩)
  have ew:=World.new_ne w1 ⟨w.heap.size,0,none⟩ hc0
  have jQ:=aa (fun (W:World) (h:aW W w1.heap.size)=>show (Instr.lookup 102 (.map (some w1.heap.size)) (.int .i64 kd) true).run Tryz.prog W=.ok (.tuple #[.agg #[.string {data:=#[]},.int .i64 0,.int .i64 0,.int .i64 0],.bool false]) W from LK.out W _ h)
  have pM:=aa (fun (W:World) (h:aW W (w1.heap.size+1))=>show (Instr.lookup 102 (.map (some (w1.heap.size+1))) (.int .i64 kd) true).run Tryz.prog W=.ok (.tuple #[.agg #[.string {data:=#[]},.int .i64 0,.int .i64 0,.int .i64 0],.bool false]) W from LK.out W _ h)
  go_region_held3 (fun w'=>w'.cell? ⟨w.heap.size,0,none⟩=some (.int .i64 kd)) (go_keep) ((go_at_call 68;refine (nL.out _).mono ?_;rintro e w5 ⟨rfl,hm,hb5⟩;(first|(have hs0:=FA.out _ _ hb5 hz1 rfl;have pN:=jQ.out w5 hm;have GG:=fun o=>jQ.out (w5.alloc o) (hm.below ((Below.refl _ w5).alloc (Nat.le_refl _) o)))|(have hs0:=FB.out _ _ hb5;obtain ⟨⟨k0,k1,k2,k3⟩,⟨y0,y1,y2,y3⟩,jR⟩:=FR.out _ hb5;have pN:=pM.out w5 (pL.out _ _ hm)));have bA:=aa hb5;clear hb5 hm))
  all_goals (go_wp2_with fail;go_meet;first|exact ⟨_,rfl,rfl,(aK (W1:=w1) bA.out _ _).1,(aK (W1:=w1) bA.out _ _).2⟩|exact ⟨_,rfl,rfl,(aL (W1:=w1) bA.out jR.out _ _ _ _).1,(aL (W1:=w1) bA.out jR.out _ _ _ _).2⟩)
 case rest=>
  obtain ⟨g,rfl,rfl,sT,fN⟩:=hcut
  clear hc0 nL LK
  have hgb:g≠b:=by
   obtain ⟨v,Kf,bad,h1,_⟩:=(P1.out.keep fN.out).at_
   obtain ⟨p,_,hr⟩:=h1.row
   exact sT.out.Y9 hr (by decide)
  have t2:=aI.of_below (b:=b) fN.out (Nat.le_trans P1.out.lt.2 (Nat.le_of_lt P1.out.lt.1))
  have P2:=aa (P1.out.keep fN.out)
  have T2:=aa (T1.out.trans t2)
  have ko:=aa (t2.row gG.out (by decide) (by omega))
  have YD:=sT
  clear t2 sT fN
  clear YD hgb
  have zS:w.heap.size<wc.heap.size:=ko.out.lt
  have hck:wc.cell? ⟨w.heap.size,0,none⟩=some (.int .i64 kd):=ko.out.cell 0
  go_upto_region 8 with fail
  have FA:=aa (fun (W W':World) (hb:Below W.heap.size W W') (hz:w.heap.size<W.heap.size) (he:W.cell? ⟨w.heap.size,0,none⟩=some (.int .i64 kd))=>show W'.cell? ⟨w.heap.size,0,none⟩=some (.int .i64 kd) from (hb.cell (p:=⟨w.heap.size,0,none⟩) hz).trans he)
  go_region_held3 (fun w'=>w'.cell? ⟨w.heap.size,0,none⟩=some (.int .i64 kd)) (go_keep) (first|(go_at_call 108;((with_reducible refine (EV0.out _).mono ?_);rintro e y3 ⟨rfl,rQ,Qs⟩;have hs0:=FA.out _ _ Qs zS hck;have vu:=aa rQ;have iA:=aa Qs;have mg:=Qs.size;clear rQ Qs))|(go_at_call 70;(refine (WD0.out _ _ vu.out).mono ?_;rintro e w3 ⟨rfl,hb3⟩;have hs1:=FA.out _ _ hb3 (Nat.lt_of_lt_of_le zS mg) hs0;have g_:=aa (eP (W1:=wc) iA.out hb3);clear hb3)))
  have t3:=aI.of_below (b:=b) g_.out (Nat.le_trans P2.out.lt.2 (Nat.le_of_lt P2.out.lt.1))
  have P3:=aa (P2.out.keep g_.out)
  have T3:=aa (T2.out.trans t3)
  have nv:=aa (t3.row ko.out (by decide) (by omega))
  clear t3 zS hck hs0 hs1 mg vu iA FA
  have zS:w.heap.size<w3.heap.size:=nv.out.lt
  have hck:w3.cell? ⟨w.heap.size,0,none⟩=some (.int .i64 kd):=nv.out.cell 0
  go_upto_region 11 with fail
  have FA:=aa (fun (W W':World) (hb:Below W.heap.size W W') (hz:w.heap.size<W.heap.size) (he:W.cell? ⟨w.heap.size,0,none⟩=some (.int .i64 kd))=>show W'.cell? ⟨w.heap.size,0,none⟩=some (.int .i64 kd) from (hb.cell (p:=⟨w.heap.size,0,none⟩) hz).trans he)
  go_region_held3 (fun w'=>w'.cell? ⟨w.heap.size,0,none⟩=some (.int .i64 kd)) (go_keep) (first|(go_at_call 71;((with_reducible refine (EV1.out _).mono ?_);rintro e y4 ⟨rfl,rQ,Qt⟩;have hs0:=FA.out _ _ Qt zS hck;have vu:=aa rQ;have iA:=aa Qt;have mg:=Qt.size;clear rQ Qt))|(go_at_call 70;(refine (WD1.out _ _ vu.out).mono ?_;rintro e w4 ⟨rfl,hb4⟩;have hs1:=FA.out _ _ hb4 (Nat.lt_of_lt_of_le zS mg) hs0;have qD:=aa (eP (W1:=w3) iA.out hb4);clear hb4)))
  have t4:=aI.of_below (b:=b) qD.out (Nat.le_trans P3.out.lt.2 (Nat.le_of_lt P3.out.lt.1))
  have P4:=aa (P3.out.keep qD.out)
  have T4:=aa (T3.out.trans t4)
  have s5:=aa (t4.row nv.out (by decide) (by omega))
  clear t4 zS hck hs0 hs1 mg vu iA FA
  have zS:w.heap.size<w4.heap.size:=s5.out.lt
  have hck:w4.cell? ⟨w.heap.size,0,none⟩=some (.int .i64 kd):=s5.out.cell 0
  go_upto_region 14 with fail
  have FA:=aa (fun (W W':World) (hb:Below W.heap.size W W') (hz:w.heap.size<W.heap.size) (he:W.cell? ⟨w.heap.size,0,none⟩=some (.int .i64 kd))=>show W'.cell? ⟨w.heap.size,0,none⟩=some (.int .i64 kd) from (hb.cell (p:=⟨w.heap.size,0,none⟩) hz).trans he)
  go_region_held3 (fun w'=>w'.cell? ⟨w.heap.size,0,none⟩=some (.int .i64 kd)) (go_keep) (first|(go_at_call 110;((with_reducible refine (EV2.out _).mono ?_);rintro e y5 ⟨rfl,rQ,Z4⟩;have hs0:=FA.out _ _ Z4 zS hck;have vu:=aa rQ;have iA:=aa Z4;have mg:=Z4.size;clear rQ Z4))|(go_at_call 70;(refine (WD2.out _ _ vu.out).mono ?_;rintro e w5 ⟨rfl,hb5⟩;have hs1:=FA.out _ _ hb5 (Nat.lt_of_lt_of_le zS mg) hs0;have iA:=aa (eP (W1:=w4) iA.out hb5);clear hb5)))
  have t5:=aI.of_below (b:=b) iA.out (Nat.le_trans P4.out.lt.2 (Nat.le_of_lt P4.out.lt.1))
  have P5:=aa (P4.out.keep iA.out)
  have T5:=aa (T4.out.trans t5)
  have sA:=aa (t5.row s5.out (by decide) (by omega))
  clear t5 zS hck hs0 hs1 mg vu iA FA
  go_upto_region 17 with fail
  by_cases h1:45≤kd
  ·by_cases h2:kd≤47
   ·skip
    have hck:w5.cell? ⟨w.heap.size,0,none⟩=some (.int .i64 kd):=sA.out.cell 0
    have YF:=aa (show rr=rp from by rw [←ze.out,if_pos (.inl ⟨h1,h2⟩)])
    have h4:kd=45:=by have:=HS.out;omega
    obtain ⟨fc,iX,ir,iY,iI,iJ,iZ,i_,gv⟩:=aj sA.out
    have C6:=aa (CH B b kd a0 xa xb xc xd nm vl ks A cap h4 hc2.out hf2.out o M w5 P5.out (hk2.out.keep T5.out.below T5.out.size) sD.out lT.out vM.out Od.out)
    rw [HRP.out] at C6
    clear h4
    unfold aw at C6
    go_wp2_with fail
    refine C6.out.mono ?_
    rintro e w6 ⟨rfl,p6,t6⟩
    have HP:=aa (show cC w6 B b rr (M+1500+2000*aC ks) from by rw [YF.out];exact p6)
    have HT:=aa (T5.out.trans t6)
    clear fc iX ir iY iI iJ iZ i_ gv
    clear p6 t6 C6
    go_wp2
    go_end0
    exact ⟨rfl,HP.out,HT.out⟩
   ·skip
    have hck:w5.cell? ⟨w.heap.size,0,none⟩=some (.int .i64 kd):=sA.out.cell 0
    have n44:(kd==44)=false:=beq_eq_false_iff_ne.2 (by omega)
    have n42:(kd==42)=false:=beq_eq_false_iff_ne.2 (by omega)
    have YF:=aa (show rr=rv from by rw [←ze.out,if_neg (by omega)])
    obtain ⟨fc,iX,ir,iY,iI,iJ,iZ,i_,gv⟩:=aj sA.out
    have C6:=aa (xR B b kd a0 xa xb xc xd nm vl ks A cap (by have:=HS.out;omega) o M w5 P5.out (hk2.out.keep T5.out.below T5.out.size) sD.out lT.out vM.out Od.out)
    rw [HRV.out] at C6
    unfold aw at C6
    go_wp2_with fail
    refine C6.out.mono ?_
    rintro e w6 ⟨rfl,p6,t6⟩
    have HP:=aa (show cC w6 B b rr (M+1500+2000*aC ks) from by rw [YF.out];exact p6)
    have HT:=aa (T5.out.trans t6)
    clear fc iX ir iY iI iJ iZ i_ gv
    clear p6 t6 C6
    go_wp2
    go_end0
    exact ⟨rfl,HP.out,HT.out⟩
  ·by_cases GH:kd=44
   ·exfalso;have:=HS.out;omega
   ·have n44:(kd==44)=false:=beq_eq_false_iff_ne.2 GH
    by_cases Uu:kd=42
    ·exfalso;have:=HS.out;omega
    ·have n42:(kd==42)=false:=beq_eq_false_iff_ne.2 Uu
     have hck:w5.cell? ⟨w.heap.size,0,none⟩=some (.int .i64 kd):=sA.out.cell 0
     have H42:=aa Uu
     have M7:=aa GH
     clear Uu GH
     have YF:=aa (show rr=rv from by rw [←ze.out,if_neg (by have:=H42.out;have:=M7.out;omega)])
     obtain ⟨fc,iX,ir,iY,iI,iJ,iZ,i_,gv⟩:=aj sA.out
     have C6:=aa (xR B b kd a0 xa xb xc xd nm vl ks A cap (by have:=HS.out;omega) o M w5 P5.out (hk2.out.keep T5.out.below T5.out.size) sD.out lT.out vM.out Od.out)
     rw [HRV.out] at C6
     unfold aw at C6
     go_wp2_with fail
     refine C6.out.mono ?_
     rintro e w6 ⟨rfl,p6,t6⟩
     have HP:=aa (show cC w6 B b rr (M+1500+2000*aC ks) from by rw [YF.out];exact p6)
     have HT:=aa (T5.out.trans t6)
     clear fc iX ir iY iI iJ iZ i_ gv
     clear p6 t6 C6
     go_wp2
     go_end0
     exact ⟨rfl,HP.out,HT.out⟩
theorem pU (B b:Nat) (kd a0 xa xb xc xd:Int) (nm vl:List UInt8) (ks:List Nd) (A:Option Addr) (cap:Nat) (hS:YE kd) (hik:dr kd) (Uv:ks.length≤400) (cI:ks.length≤cap) (M4:∀i (hi:i<ks.length),JB ks[i]) (o:Option St) (M:Nat) (w:World) (h:cC w B b o M) (hk:sw B w ks A) (gF:∀i (hi:i<ks.length),sY ks[i]) (iq:im kd xa xb xc xd nm vl) (hn:ks.length≤1000000) (hM:M+1500+2000*aC ks≤1099511627776):
 Calls Tryz.prog 72 #[.pointer (some ⟨b,0,none⟩),.agg (aw kd a0 nm vl xa xb xc xd (.slice A ks.length cap)).toArray] w (ie B b w (o.bind (eJ aM aT (.mk kd a0 nm vl xa xb xc xd ks) (aG aM aT ks))) (M+1500+2000*aC ks)):=by
 unfold YE at hS
 rcases hS with rfl|rfl|rfl|rfl|rfl|rfl|rfl|rfl
 ·exact ja B b 0 a0 xa xb xc xd nm vl ks A cap rfl hik rfl rfl rfl (by decide) cI M4 o M w h hk gF iq hn hM
 ·exact ja B b 1 a0 xa xb xc xd nm vl ks A cap rfl hik rfl rfl rfl (by decide) cI M4 o M w h hk gF iq hn hM
 ·exact ja B b 28 a0 xa xb xc xd nm vl ks A cap rfl hik rfl rfl rfl (by decide) cI M4 o M w h hk gF iq hn hM
 ·exact ja B b 45 a0 xa xb xc xd nm vl ks A cap rfl hik rfl rfl rfl (by decide) cI M4 o M w h hk gF iq hn hM
 ·exact u_ B b 9 a0 xa xb xc xd nm vl ks A cap _ _ _ _ rfl hik o M w h hk gF iq hn hM
 ·exact u_ B b 19 a0 xa xb xc xd nm vl ks A cap _ _ _ _ rfl hik o M w h hk gF iq hn hM
 ·exact u_ B b 30 a0 xa xb xc xd nm vl ks A cap _ _ _ _ rfl hik o M w h hk gF iq hn hM
 ·exact JM B b 37 a0 xa xb xc xd nm vl ks A cap rfl hik _ rfl rfl o M w h hk gF iq hn hM
theorem cC.GQ {W:World} {B b:Nat} {o:Option St} {M:Nat} (h:cC W B b o M):(∃x,W.cell? ⟨b,3,none⟩=some (.bool x))∧W.frozen? ⟨b,3,none⟩=false∧W.shape? b=some (79,4)∧
 cC (W.setCell ⟨b,3,none⟩ (.bool true)) B b none M∧aI B b W (W.setCell ⟨b,3,none⟩ (.bool true)):=by
 cases o with
 |none=>
  obtain ⟨h1,h2,h3,h4,h5⟩:=h.bW
  exact ⟨⟨_,h1⟩,h2,h3,h4,h5⟩
 |some st=>
  obtain ⟨h1,h2,h3,h4⟩:=h.cU
  exact ⟨⟨_,h1⟩,h2,h3,(h4 true).1,(h4 true).2⟩
theorem xT (o:Option St) (n:Nd) (fs:List Pw) (bn:Int) (h:decide (10≤pG aM n)≠decide (10≤bn)):o.bind (xj aM aT n fs bn)=none:=by
 cases o with
 |none=>rfl
 |some st=>exact if_pos h
theorem vd (o:Option St) (n:Nd) (fs:List Pw) (bn:Int) (h:decide (10≤pG aM n)=decide (10≤bn)) (h2:bn≤pG aM n):o.bind (xj aM aT n fs bn)=o.bind (eJ aM aT n fs):=by
 cases o with
 |none=>rfl
 |some st=>exact (if_neg (fun e=>e h)).trans (if_pos h2)
theorem xU (o:Option St) (n:Nd) (fs:List Pw) (bn:Int) (h:decide (10≤pG aM n)=decide (10≤bn)) (h2:pG aM n<bn):o.bind (xj aM aT n fs bn)=((o.map (dD · [40])).bind (eJ aM aT n fs)).map (dD · [41]):=by
 cases o with
 |none=>rfl
 |some st=>
  refine ((if_neg (fun e=>e h)).trans (if_neg (by omega))).trans ?_
  show Option.bind (eJ aM aT n fs (dD st [40])) _=Option.map _ (eJ aM aT n fs (dD st [40]))
  cases eJ aM aT n fs (dD st [40])<;>rfl
end Go.Proofs.YtddoehnkgcbboaaGreatDoor
