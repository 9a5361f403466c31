/- A part of the proof that the last file tells. -/
import Derived.Test.YtddoehnkgcbboaaGreatDoorAgR
set_option maxHeartbeats 16000000
set_option maxRecDepth 100000
set_option linter.unusedVariables false
set_option linter.unusedSimpArgs false
namespace Go.Proofs.YtddoehnkgcbboaaGreatDoor
open Go.RowKit Go.Shelf Go.Maps
def fP (ks:List Nd) (k:Nat) (o:Option St):Option St:=o.bind (uX (aq aD aQ (ks.drop k)))
theorem pN {ks:List Nd} {k:Nat} (hk:k<ks.length) (o:Option St):fP ks (k+1) ((o.bind (bC aD aQ ks[k] 0)).map (bD · [44,32]))=fP ks k o:=by
 unfold fP;rw [cn hk,aq]
 cases o with
 |none=>rfl
 |some st=>
  show Option.bind (Option.map _ (bC aD aQ ks[k] 0 st)) _=Option.bind (bC aD aQ ks[k] 0 st) _
  cases bC aD aQ ks[k] 0 st with
  |none=>rfl
  |some st=>rfl
theorem su (ks:List Nd) (o:Option St):fP ks ks.length o=o:=by
 unfold fP;rw [List.drop_length,aq]
 cases o<;>rfl
theorem Fy (n:Nd) (m:Nat) (h1:¬n.kind=35) (h2:¬n.kind=36):(m=if n.kind=35∨n.kind=36 then 2 else 1)↔m=1:=by rw [if_neg (by omega)]
theorem tX (n:Nd) (m:Nat) (h:n.kind=35∨n.kind=36):(m=if n.kind=35∨n.kind=36 then 2 else 1)↔m=2:=by rw [if_pos h]
theorem vq (o:Option St) (a c:Int):(((o.bind (dh a 1099511627776)).map (bD · [44,32])).bind (dh c 1099511627776)).map (bD · [41])=o.bind fun st=>(dh a 1099511627776 st).bind fun st=>(dh c 1099511627776 (bD st [44,32])).bind fun st=>some (bD st [41]):=by
 cases o with
 |none=>rfl
 |some st=>
  show Option.map _ (Option.bind (Option.map _ (dh a 1099511627776 st)) _)=Option.bind (dh a 1099511627776 st) _
  cases dh a 1099511627776 st with
  |none=>rfl
  |some st=>
   show Option.map _ (dh c 1099511627776 (bD st [44,32]))=Option.bind (dh c 1099511627776 (bD st [44,32])) _
   cases dh c 1099511627776 (bD st [44,32])<;>rfl
theorem Rc (B b:Nat) (kd a0 xa xb xc xd:Int) (nm vl:List UInt8) (ks:List Nd) (A:Option Addr) (cap:Nat) (ux:¬kd=35) (zR:¬kd=36) (s:List UInt8) (hs:s.length≤20) (o:Option St) (M:Nat) (w:World) (h:cz w B b o M) (hk:sJ B w ks A) (gS:∀i (hi:i<ks.length),qs ks[i]) (hft:iJ kd xa xb xc xd nm vl) (hn:ks.length≤1000000) (hM:M+1500+2000*ax ks≤1099511627776):
 Calls Tryz.prog 111 #[.pointer (some ⟨b,0,none⟩),.agg (aB kd a0 nm vl xa xb xc xd (.slice A ks.length cap)).toArray,.string (ag s)] w (jn B b w (o.bind (gv (.mk kd a0 nm vl xa xb xc xd ks) (aq aD aQ ks) s)) (M+1500+2000*ax ks)):=by
 have hlt:=h.lt.1;have hge:=h.lt.2;have oN:=hide hk
 obtain ⟨w1,hw1⟩:∃w1,w1=w.alloc (.cells (aB kd a0 nm vl xa xb xc xd (.slice A ks.length cap)).toArray 25):=⟨_,rfl⟩
 have hb1:Below w.heap.size w w1:=by rw [hw1];exact (af _ w).alloc (aa _) _
 have P1:=hide (h.keep hb1);have T1:=hide (aM.of_below (b:=b) hb1 (show B≤w.heap.size by omega));have fU:=ae (Row w1 w.heap.size 25 (aB kd a0 nm vl xa xb xc xd (.slice A ks.length cap)).toArray) (by rw [hw1];exact Row.new _ _ _);have cR:=hide hw1.symm;have oO:=hide gS;have pM:=hide hft;clear h hk hw1 hb1 gS hft;unfold aB at cR fU⊢;go_enter Tryz.func111,Tryz.ntmps111;go_upto_region 1 with fail;rw [cR.o];have ef0:w1.cell? ⟨w.heap.size,0,none⟩=some (.int .i64 kd):=fU.o.cell 0
 have e35:(kd==35)=false:=by simpa using ux
 have e36:(kd==36)=false:=by simpa using zR
 have H35:=hide ux;have H36:=hide zR;clear ux zR;go_upto_region 4 with fail;clear ef0;clear e35 e36;obtain ⟨dJ,eN,ei,ek,dF,dG,eA,eB,cj⟩:=ak fU.o;go_wp2_with fail;refine bW (cM B b kd a0 xa xb xc xd nm vl (.slice A ks.length cap) [97] o M w1 P1.o) T1 fU (by decide) (by omega) fun w2 o2 Q2 P2 T2 ia=>?_;clear dJ eN ei ek dF dG eA eB cj;obtain ⟨dJ,eN,ei,ek,dF,dG,eA,eB,cj⟩:=ak ia.o;have C3:=hide (fx B b kd a0 xa xb xc xd nm vl A ks.length cap 1 1 o2 M w2 P2.o (by omega));unfold aB at C3
 obtain ⟨o3,q3⟩:∃z_,iA o2 ks.length 1 1=z_:=⟨_,rfl⟩
 rw [q3] at C3
 have kE:iA (nX o (decide (nm=[])) (decide (vl=[])) (decide (xa=0)) (decide (xb=0)) (decide (xc=0)) (decide (xd=0)) [97]) ks.length 1 1=if bJ (.mk kd a0 nm vl xa xb xc xd ks) false false true false=true∧1≤(ks.length:Int)∧(ks.length:Int)≤1 then o else none:=mY o [97] 1 1
 rw [Q2.o,q3] at kE;have kX:=hide kE;clear kE q3
 cases o3 with
 |none=>
  go_wp2_with fail;refine (C3.o).mono ?_;rintro e w3 ⟨rfl,p3,t3⟩;have P3:=hide p3;have T3:=hide (T2.o.trans t3);have iR:=hide (t3.row ia.o (by decide) (by omega));clear p3 t3 C3;clear dJ eN ei ek dF dG eA eB cj
  have HP:=ae (cz w3 B b (o.bind (gv (.mk kd a0 nm vl xa xb xc xd ks) (aq aD aQ ks) s)) (M+1500+2000*ax ks)) (by
   rw [show (o.bind (gv (.mk kd a0 nm vl xa xb xc xd ks) (aq aD aQ ks) s))=none from iQ kX.o (fun h=>⟨h.1,by have:=h.2;rw [a_] at this;have:=(Fy (.mk kd a0 nm vl xa xb xc xd ks) _ H35.o H36.o).1 this;omega⟩)]
   exact P3.o.mono (by omega))
  go_wp2;go_end0;exact ⟨rfl,HP.o,T3.o⟩
 |some st=>
  obtain ⟨⟨hc1,hc2,hc3⟩,ho⟩:=iP kX.o;have HLEN:=hide (show ks.length=1 by omega);have nu:=hide (And.intro hc1 ho);clear hc1 hc2 hc3 ho;go_wp2_with fail;refine (C3.o).mono ?_;rintro e w3 ⟨rfl,p3,t3⟩;have P3:=hide p3;have T3:=hide (T2.o.trans t3);have iR:=hide (t3.row ia.o (by decide) (by omega));clear p3 t3 C3;clear dJ eN ei ek dF dG eA eB cj;have CW:=ae (Calls Tryz.prog 73 #[.pointer (some ⟨b,0,none⟩),.slice (some ⟨w3.heap.size,0,none⟩) 2 2] (w3.alloc (.cells #[.string (ag s),.string {data:=#[40]}] 9)) (jn B b (w3.alloc (.cells #[.string (ag s),.string {data:=#[40]}] 9)) ((some st:Option St).map (fB · [s,[40]])) (M+jD [s,[40]]))) (u_ B b [s,[40]] w3.heap.size 2 _ _ _ (P3.o.alloc _) (Row.new _ _ _) (by simp only [jD,aj,aK];omega) (by simp));have Bx:B≤w3.heap.size:=br P3.o.lt.2 (Nat.le_of_lt P3.o.lt.1);have C4:=hide (CW.o.mono fun e w' hx=>show jn B b w3 ((some st:Option St).map (fB · [s,[40]])) (M+40) e w' from ⟨hx.1,hx.2.1.mono (by simp only [jD,aj,aK];omega),((aM.refl B b w3).alloc Bx _).trans hx.2.2⟩);clear CW Bx
  obtain ⟨o4,q4⟩:∃z_,(some st:Option St).map (fB · [s,[40]])=z_:=⟨_,rfl⟩
  rw [q4] at C4;have Q4:=hide q4;clear q4;go_wp2_with fail;refine (C4.o).mono ?_;rintro e w4 ⟨rfl,p4,t4⟩;have P4:=hide p4;have T4:=hide (T3.o.trans t4);have jJ:=hide (t4.row iR.o (by decide) (by omega));clear p4 t4 C4
  obtain ⟨fin,hfin⟩:∃f,fP ks 0 o4=f:=⟨_,rfl⟩
  have Vt:=hide (jl.start (ks:=ks) (c:=4) P4.o hfin);have I_:=hide hfin;clear hfin;have wU:=T4.o.size;have cj:w4.cell? ⟨w.heap.size,8,none⟩=some (.slice A ks.length cap):=jJ.o.cell 8
  obtain ⟨N,hN⟩:∃N,ks.length=N:=⟨_,rfl⟩
  rw [hN] at cj jJ hn⊢;have HN:=hide hN;clear hN;have uu:Hid (N=1):=hide (HN.o.symm.trans HLEN.o);go_wp2_with fail;clear cj
  go_loopw [33] (fun i wr=>jl B b w4 ks (M+40) 4 fin (fP ks) i wr) (fun i _=>N-(intOf i).toNat)
  case atStart=>exact Vt.o
  case round=>
   obtain ⟨k,o1,hk,rfl,hp,ht,he⟩:=hrel;rw [HN.o] at hk;have qu:=hide hp;have Gx:=hide ht;have TA:=hide (T4.o.trans ht);have HE:=hide he;clear hp ht he;by_cases hlt':k<N
   ·have ir:k<ks.length:=by rw [HN.o];exact hlt'
    have hk':(k:Int)<(N:Int):=by omega
    have uQ:(0:Int)≤(k:Int):=by omega
    have hw1:IntKind.i64.wrap ((k:Int)+1)=(k:Int)+1:=bI _ (by omega);obtain ⟨bk,off,yk,y0,yn,yv,ya,yb,yc,yd,yA,cZ,cv,rfl,hK⟩:=oN.o.kid ir;obtain ⟨⟨c0,c1,c2,c3,c4,c5,c6,c7,c8⟩,_⟩:=hK wr TA.o.below TA.o.size;have K0:=hide hK;have sk:=hide (oO.o k ir);have HST:=hide (pN ir o1);have hcn:=mZ ir;have iM:=hide (fun (W':World) (o':Option St) (M':Nat) (h:cz W' B b o' M') (hM:M'≤(M+40)+4*k+2000*ax (ks.take k)+4+2000*aC ks[k]) (ht:aM B b w4 W') (e:fP ks (k+1) o'=fin)=>jl.step (c:=4) ir h hM ht e rfl)
    obtain ⟨x,hx⟩:∃x,ks[k]=x:=⟨_,rfl⟩
    rw [hx] at sk hcn iM HST;have HX:=hide hx;clear hK hx
    obtain ⟨u,hu⟩:∃u,ax (ks.take k)=u:=⟨_,rfl⟩
    rw [hu] at qu hcn iM;have wS:B≤wr.heap.size:=br hge (Nat.le_of_lt qu.o.lt.1);have Pk:wr.heap.size≠b:=Nat.ne_of_gt qu.o.lt.1
    obtain ⟨w1',kN⟩:∃w1',w1'=wr.alloc (.cells (aB yk y0 yn yv ya yb yc yd (.slice yA cZ cv)).toArray 25):=⟨_,rfl⟩
    have hb1:Below wr.heap.size wr w1':=by rw [kN];exact (af _ wr).alloc (aa _) _
    have Y3:=hide (qu.o.keep hb1);have Y4:=hide (Gx.o.trans (aM.of_below (b:=b) hb1 wS));have Fz:=hide (TA.o.trans (aM.of_below (b:=b) hb1 wS));have tY:=ae (Row w1' wr.heap.size 25 (aB yk y0 yn yv ya yb yc yd (.slice yA cZ cv)).toArray) (by rw [kN];exact Row.new _ _ _);have pO:=hide kN.symm;clear kN hb1 hu;unfold aB at pO tY;go_upto_region 10 with fail;rw [pO.o];clear c0 c1 c2 c3 c4 c5 c6 c7 c8;obtain ⟨Y5,Y6,Y7,Y8,Y9,Y_,Za,Zb,Zc⟩:=ak tY.o;obtain ⟨_,hnd⟩:=K0.o w1' Fz.o.below Fz.o.size;go_wp2_with fail;refine bW (show Calls Tryz.prog 45 #[.pointer (some ⟨b,0,none⟩),.agg #[.int .i64 yk,.int .i64 y0,.string (ag yn),.string (ag yv),.int .i64 ya,.int .i64 yb,.int .i64 yc,.int .i64 yd,.slice yA cZ cv],.int .i64 0] w1' (jn B b w1' (o1.bind (bC aD aQ x 0)) (((M+40)+4*k+2000*u)+2000*aC x)) from sk.o B b 0 _ o1 _ w1' Y3.o (by rw [←HX.o];exact hnd) (by decide) (by decide) (by have:=uu.o;omega)) Y4 tY (by decide) (by omega) fun Tx Xb Zd Ze Vu FC=>?_;clear Y5 Y6 Y7 Y8 Y9 Y_ Za Zb Zc hnd;go_wp2_with fail;refine bW (kM B b [44,32] Xb (((M+40)+4*k+2000*u)+2000*aC x) Tx Ze.o (by have:=uu.o;first|omega|(simp only [aj,aK];omega))) Vu FC (by decide) (by omega) fun Zf Zg Zh Zi Zj Zk=>?_;have HL:=hide (iM.o Zf Zg _ Zi.o (by have:=uu.o;simp only [aj,aK];omega) Zj.o (by rw [←Zh.o,←Zd.o,HST.o];exact HE.o));go_wp2;go_roundw
    case rel=>exact HL.o
    case measure=>simp [intOf];omega
   ·obtain rfl:k=N:=by omega
    have hk':¬(k:Int)<(k:Int):=by omega
    have LW:=hide (show o1=fin by have:=HE.o;rw [←HN.o,su] at this;exact this)
    have Zl:=ae (cz wr B b fin ((M+40)+20+2000*ax ks)) (by
     have:=qu.o;rw [LW.o] at this
     exact this.mono (by have:=kZ ks k;have:=uu.o;omega))
    have Zm:=TA;have Ar:=hide (Gx.o.row jJ.o (by decide) (by omega));clear qu;have dF:wr.cell? ⟨w.heap.size,4,none⟩=some (.int .i64 xa):=Ar.o.cell 4;go_wp2_with fail;refine bW (dA B b xa 1099511627776 fin ((M+40)+20+2000*ax ks) wr Zl.o pM.o.a (by omega)) Zm Ar (by decide) (by omega) fun Zn o32 Zo Zp Zq Nc=>?_;clear dF;go_wp2_with fail;refine bW (bT B b [44,32] 2 o32 (((M+40)+20+2000*ax ks)+22) Zn Zp.o (by omega)) Zq Nc (by decide) (by omega) fun Xc o33 Q33 P33 T33 FE=>?_;have dG:Xc.cell? ⟨w.heap.size,5,none⟩=some (.int .i64 xb):=FE.o.cell 5;go_wp2_with fail;refine bW (dA B b xb 1099511627776 o33 ((((M+40)+20+2000*ax ks)+22)+3) Xc P33.o pM.o.b (by omega)) T33 FE (by decide) (by omega) fun Wt o34 Q34 P34 T34 Rf=>?_;clear dG;go_wp2_with fail;refine bW (bT B b [41] 1 o34 (((((M+40)+20+2000*ax ks)+22)+3)+22) Wt P34.o (by omega)) T34 Rf (by decide) (by omega) fun w35 o35 Q35 P35 T35 abt=>?_
    have HP:=ae (cz w35 B b (o.bind (gv (.mk kd a0 nm vl xa xb xc xd ks) (aq aD aQ ks) s)) (M+1500+2000*ax ks)) (by
     have hp:=P35.o;rw [←Q35.o,←Q34.o,←Q33.o,←Zo.o,vq] at hp
     have e:(o.bind (gv (.mk kd a0 nm vl xa xb xc xd ks) (aq aD aQ ks) s))=fin.bind fun st=>(dh xa 1099511627776 st).bind fun st=>(dh xb 1099511627776 (bD st [44,32])).bind fun st=>some (bD st [41]):=by
      rw [nu.o.2,←I_.o,←Q4.o];show gv _ _ _ st=_;unfold gv;rw [if_pos ⟨nu.o.1,by rw [a_];exact (Fy (.mk kd a0 nm vl xa xb xc xd ks) _ H35.o H36.o).2 HLEN.o⟩];show Option.bind (uX _ _) _=Option.bind (fP ks 0 (some (fB st [s,[40]]))) _;unfold fP;rw [List.drop_zero];rfl
     rw [e]
     exact hp.mono (by first|omega|(simp only [aj,aK];omega)))
    go_wp2;go_end0;exact ⟨rfl,HP.o,T35.o⟩
theorem Vv (B b:Nat) (a0 xa xb xc xd:Int) (nm vl:List UInt8) (ks:List Nd) (A:Option Addr) (cap:Nat) (s:List UInt8) (hs:s.length≤20) (o:Option St) (M:Nat) (w:World) (h:cz w B b o M) (hk:sJ B w ks A) (gS:∀i (hi:i<ks.length),qs ks[i]) (hft:iJ 35 xa xb xc xd nm vl) (hn:ks.length≤1000000) (hM:M+1500+2000*ax ks≤1099511627776):
 Calls Tryz.prog 111 #[.pointer (some ⟨b,0,none⟩),.agg (aB 35 a0 nm vl xa xb xc xd (.slice A ks.length cap)).toArray,.string (ag s)] w (jn B b w (o.bind (gv (.mk 35 a0 nm vl xa xb xc xd ks) (aq aD aQ ks) s)) (M+1500+2000*ax ks)):=by
 have hlt:=h.lt.1;have hge:=h.lt.2;have oN:=hide hk
 obtain ⟨w1,hw1⟩:∃w1,w1=w.alloc (.cells (aB 35 a0 nm vl xa xb xc xd (.slice A ks.length cap)).toArray 25):=⟨_,rfl⟩
 have hb1:Below w.heap.size w w1:=by rw [hw1];exact (af _ w).alloc (aa _) _
 have P1:=hide (h.keep hb1);have T1:=hide (aM.of_below (b:=b) hb1 (show B≤w.heap.size by omega));have fU:=ae (Row w1 w.heap.size 25 (aB 35 a0 nm vl xa xb xc xd (.slice A ks.length cap)).toArray) (by rw [hw1];exact Row.new _ _ _);have cR:=hide hw1.symm;have oO:=hide gS;have pM:=hide hft;clear h hk hw1 hb1 gS hft;unfold aB at cR fU⊢;go_enter Tryz.func111,Tryz.ntmps111;go_upto_region 1 with fail;rw [cR.o];have ef0:w1.cell? ⟨w.heap.size,0,none⟩=some (.int .i64 35):=fU.o.cell 0;go_upto_region 4 with fail;clear ef0;obtain ⟨dJ,eN,ei,ek,dF,dG,eA,eB,cj⟩:=ak fU.o;go_wp2_with fail;refine bW (cM B b (35) a0 xa xb xc xd nm vl (.slice A ks.length cap) [97] o M w1 P1.o) T1 fU (by decide) (by omega) fun w2 o2 Q2 P2 T2 ia=>?_;clear dJ eN ei ek dF dG eA eB cj;obtain ⟨dJ,eN,ei,ek,dF,dG,eA,eB,cj⟩:=ak ia.o;have C3:=hide (fx B b (35) a0 xa xb xc xd nm vl A ks.length cap 2 2 o2 M w2 P2.o (by omega));unfold aB at C3
 obtain ⟨o3,q3⟩:∃z_,iA o2 ks.length 2 2=z_:=⟨_,rfl⟩
 rw [q3] at C3
 have kE:iA (nX o (decide (nm=[])) (decide (vl=[])) (decide (xa=0)) (decide (xb=0)) (decide (xc=0)) (decide (xd=0)) [97]) ks.length 2 2=if bJ (.mk 35 a0 nm vl xa xb xc xd ks) false false true false=true∧2≤(ks.length:Int)∧(ks.length:Int)≤2 then o else none:=mY o [97] 2 2
 rw [Q2.o,q3] at kE;have kX:=hide kE;clear kE q3
 cases o3 with
 |none=>
  go_wp2_with fail;refine (C3.o).mono ?_;rintro e w3 ⟨rfl,p3,t3⟩;have P3:=hide p3;have T3:=hide (T2.o.trans t3);have iR:=hide (t3.row ia.o (by decide) (by omega));clear p3 t3 C3;clear dJ eN ei ek dF dG eA eB cj
  have HP:=ae (cz w3 B b (o.bind (gv (.mk 35 a0 nm vl xa xb xc xd ks) (aq aD aQ ks) s)) (M+1500+2000*ax ks)) (by
   rw [show (o.bind (gv (.mk 35 a0 nm vl xa xb xc xd ks) (aq aD aQ ks) s))=none from iQ kX.o (fun h=>⟨h.1,by have:=h.2;rw [a_] at this;have:=(tX (.mk 35 a0 nm vl xa xb xc xd ks) _ (by simp only [Nd.kind];decide)).1 this;omega⟩)]
   exact P3.o.mono (by omega))
  go_wp2;go_end0;exact ⟨rfl,HP.o,T3.o⟩
 |some st=>
  obtain ⟨⟨hc1,hc2,hc3⟩,ho⟩:=iP kX.o;have HLEN:=hide (show ks.length=2 by omega);have nu:=hide (And.intro hc1 ho);clear hc1 hc2 hc3 ho;go_wp2_with fail;refine (C3.o).mono ?_;rintro e w3 ⟨rfl,p3,t3⟩;have P3:=hide p3;have T3:=hide (T2.o.trans t3);have iR:=hide (t3.row ia.o (by decide) (by omega));clear p3 t3 C3;clear dJ eN ei ek dF dG eA eB cj;have CW:=ae (Calls Tryz.prog 73 #[.pointer (some ⟨b,0,none⟩),.slice (some ⟨w3.heap.size,0,none⟩) 2 2] (w3.alloc (.cells #[.string (ag s),.string {data:=#[40]}] 9)) (jn B b (w3.alloc (.cells #[.string (ag s),.string {data:=#[40]}] 9)) ((some st:Option St).map (fB · [s,[40]])) (M+jD [s,[40]]))) (u_ B b [s,[40]] w3.heap.size 2 _ _ _ (P3.o.alloc _) (Row.new _ _ _) (by simp only [jD,aj,aK];omega) (by simp));have Bx:B≤w3.heap.size:=br P3.o.lt.2 (Nat.le_of_lt P3.o.lt.1);have C4:=hide (CW.o.mono fun e w' hx=>show jn B b w3 ((some st:Option St).map (fB · [s,[40]])) (M+40) e w' from ⟨hx.1,hx.2.1.mono (by simp only [jD,aj,aK];omega),((aM.refl B b w3).alloc Bx _).trans hx.2.2⟩);clear CW Bx
  obtain ⟨o4,q4⟩:∃z_,(some st:Option St).map (fB · [s,[40]])=z_:=⟨_,rfl⟩
  rw [q4] at C4;have Q4:=hide q4;clear q4;go_wp2_with fail;refine (C4.o).mono ?_;rintro e w4 ⟨rfl,p4,t4⟩;have P4:=hide p4;have T4:=hide (T3.o.trans t4);have jJ:=hide (t4.row iR.o (by decide) (by omega));clear p4 t4 C4
  obtain ⟨fin,hfin⟩:∃f,fP ks 0 o4=f:=⟨_,rfl⟩
  have Vt:=hide (jl.start (ks:=ks) (c:=4) P4.o hfin);have I_:=hide hfin;clear hfin;have wU:=T4.o.size;have cj:w4.cell? ⟨w.heap.size,8,none⟩=some (.slice A ks.length cap):=jJ.o.cell 8
  obtain ⟨N,hN⟩:∃N,ks.length=N:=⟨_,rfl⟩
  rw [hN] at cj jJ hn⊢;have HN:=hide hN;clear hN;have uu:Hid (N=2):=hide (HN.o.symm.trans HLEN.o);go_wp2_with fail;clear cj
  go_loopw [33] (fun i wr=>jl B b w4 ks (M+40) 4 fin (fP ks) i wr) (fun i _=>N-(intOf i).toNat)
  case atStart=>exact Vt.o
  case round=>
   obtain ⟨k,o1,hk,rfl,hp,ht,he⟩:=hrel;rw [HN.o] at hk;have qu:=hide hp;have Gx:=hide ht;have TA:=hide (T4.o.trans ht);have HE:=hide he;clear hp ht he;by_cases hlt':k<N
   ·have ir:k<ks.length:=by rw [HN.o];exact hlt'
    have hk':(k:Int)<(N:Int):=by omega
    have uQ:(0:Int)≤(k:Int):=by omega
    have hw1:IntKind.i64.wrap ((k:Int)+1)=(k:Int)+1:=bI _ (by omega);obtain ⟨bk,off,yk,y0,yn,yv,ya,yb,yc,yd,yA,cZ,cv,rfl,hK⟩:=oN.o.kid ir;obtain ⟨⟨c0,c1,c2,c3,c4,c5,c6,c7,c8⟩,_⟩:=hK wr TA.o.below TA.o.size;have K0:=hide hK;have sk:=hide (oO.o k ir);have HST:=hide (pN ir o1);have hcn:=mZ ir;have iM:=hide (fun (W':World) (o':Option St) (M':Nat) (h:cz W' B b o' M') (hM:M'≤(M+40)+4*k+2000*ax (ks.take k)+4+2000*aC ks[k]) (ht:aM B b w4 W') (e:fP ks (k+1) o'=fin)=>jl.step (c:=4) ir h hM ht e rfl)
    obtain ⟨x,hx⟩:∃x,ks[k]=x:=⟨_,rfl⟩
    rw [hx] at sk hcn iM HST;have HX:=hide hx;clear hK hx
    obtain ⟨u,hu⟩:∃u,ax (ks.take k)=u:=⟨_,rfl⟩
    rw [hu] at qu hcn iM;have wS:B≤wr.heap.size:=br hge (Nat.le_of_lt qu.o.lt.1);have Pk:wr.heap.size≠b:=Nat.ne_of_gt qu.o.lt.1
    obtain ⟨w1',kN⟩:∃w1',w1'=wr.alloc (.cells (aB yk y0 yn yv ya yb yc yd (.slice yA cZ cv)).toArray 25):=⟨_,rfl⟩
    have hb1:Below wr.heap.size wr w1':=by rw [kN];exact (af _ wr).alloc (aa _) _
    have Y3:=hide (qu.o.keep hb1);have Y4:=hide (Gx.o.trans (aM.of_below (b:=b) hb1 wS));have Fz:=hide (TA.o.trans (aM.of_below (b:=b) hb1 wS));have tY:=ae (Row w1' wr.heap.size 25 (aB yk y0 yn yv ya yb yc yd (.slice yA cZ cv)).toArray) (by rw [kN];exact Row.new _ _ _);have pO:=hide kN.symm;clear kN hb1 hu;unfold aB at pO tY;go_upto_region 10 with fail;rw [pO.o];clear c0 c1 c2 c3 c4 c5 c6 c7 c8;obtain ⟨Y5,Y6,Y7,Y8,Y9,Y_,Za,Zb,Zc⟩:=ak tY.o;obtain ⟨_,hnd⟩:=K0.o w1' Fz.o.below Fz.o.size;go_wp2_with fail;refine bW (show Calls Tryz.prog 45 #[.pointer (some ⟨b,0,none⟩),.agg #[.int .i64 yk,.int .i64 y0,.string (ag yn),.string (ag yv),.int .i64 ya,.int .i64 yb,.int .i64 yc,.int .i64 yd,.slice yA cZ cv],.int .i64 0] w1' (jn B b w1' (o1.bind (bC aD aQ x 0)) (((M+40)+4*k+2000*u)+2000*aC x)) from sk.o B b 0 _ o1 _ w1' Y3.o (by rw [←HX.o];exact hnd) (by decide) (by decide) (by have:=uu.o;omega)) Y4 tY (by decide) (by omega) fun Tx Xb Zd Ze Vu FC=>?_;clear Y5 Y6 Y7 Y8 Y9 Y_ Za Zb Zc hnd;go_wp2_with fail;refine bW (kM B b [44,32] Xb (((M+40)+4*k+2000*u)+2000*aC x) Tx Ze.o (by have:=uu.o;first|omega|(simp only [aj,aK];omega))) Vu FC (by decide) (by omega) fun Zf Zg Zh Zi Zj Zk=>?_;have HL:=hide (iM.o Zf Zg _ Zi.o (by have:=uu.o;simp only [aj,aK];omega) Zj.o (by rw [←Zh.o,←Zd.o,HST.o];exact HE.o));go_wp2;go_roundw
    case rel=>exact HL.o
    case measure=>simp [intOf];omega
   ·obtain rfl:k=N:=by omega
    have hk':¬(k:Int)<(k:Int):=by omega
    have LW:=hide (show o1=fin by have:=HE.o;rw [←HN.o,su] at this;exact this)
    have Zl:=ae (cz wr B b fin ((M+40)+20+2000*ax ks)) (by
     have:=qu.o;rw [LW.o] at this
     exact this.mono (by have:=kZ ks k;have:=uu.o;omega))
    have Zm:=TA;have Ar:=hide (Gx.o.row jJ.o (by decide) (by omega));clear qu;have dF:wr.cell? ⟨w.heap.size,4,none⟩=some (.int .i64 xa):=Ar.o.cell 4;go_wp2_with fail;refine bW (dA B b xa 1099511627776 fin ((M+40)+20+2000*ax ks) wr Zl.o pM.o.a (by omega)) Zm Ar (by decide) (by omega) fun Zn o32 Zo Zp Zq Nc=>?_;clear dF;go_wp2_with fail;refine bW (bT B b [44,32] 2 o32 (((M+40)+20+2000*ax ks)+22) Zn Zp.o (by omega)) Zq Nc (by decide) (by omega) fun Xc o33 Q33 P33 T33 FE=>?_;have dG:Xc.cell? ⟨w.heap.size,5,none⟩=some (.int .i64 xb):=FE.o.cell 5;go_wp2_with fail;refine bW (dA B b xb 1099511627776 o33 ((((M+40)+20+2000*ax ks)+22)+3) Xc P33.o pM.o.b (by omega)) T33 FE (by decide) (by omega) fun Wt o34 Q34 P34 T34 Rf=>?_;clear dG;go_wp2_with fail;refine bW (bT B b [41] 1 o34 (((((M+40)+20+2000*ax ks)+22)+3)+22) Wt P34.o (by omega)) T34 Rf (by decide) (by omega) fun w35 o35 Q35 P35 T35 abt=>?_
    have HP:=ae (cz w35 B b (o.bind (gv (.mk 35 a0 nm vl xa xb xc xd ks) (aq aD aQ ks) s)) (M+1500+2000*ax ks)) (by
     have hp:=P35.o;rw [←Q35.o,←Q34.o,←Q33.o,←Zo.o,vq] at hp
     have e:(o.bind (gv (.mk 35 a0 nm vl xa xb xc xd ks) (aq aD aQ ks) s))=fin.bind fun st=>(dh xa 1099511627776 st).bind fun st=>(dh xb 1099511627776 (bD st [44,32])).bind fun st=>some (bD st [41]):=by
      rw [nu.o.2,←I_.o,←Q4.o];show gv _ _ _ st=_;unfold gv;rw [if_pos ⟨nu.o.1,by rw [a_];exact (tX (.mk 35 a0 nm vl xa xb xc xd ks) _ (by simp only [Nd.kind];decide)).2 HLEN.o⟩];show Option.bind (uX _ _) _=Option.bind (fP ks 0 (some (fB st [s,[40]]))) _;unfold fP;rw [List.drop_zero];rfl
     rw [e]
     exact hp.mono (by first|omega|(simp only [aj,aK];omega)))
    go_wp2;go_end0;exact ⟨rfl,HP.o,T35.o⟩
theorem Vw (B b:Nat) (a0 xa xb xc xd:Int) (nm vl:List UInt8) (ks:List Nd) (A:Option Addr) (cap:Nat) (s:List UInt8) (hs:s.length≤20) (o:Option St) (M:Nat) (w:World) (h:cz w B b o M) (hk:sJ B w ks A) (gS:∀i (hi:i<ks.length),qs ks[i]) (hft:iJ 36 xa xb xc xd nm vl) (hn:ks.length≤1000000) (hM:M+1500+2000*ax ks≤1099511627776):
 Calls Tryz.prog 111 #[.pointer (some ⟨b,0,none⟩),.agg (aB 36 a0 nm vl xa xb xc xd (.slice A ks.length cap)).toArray,.string (ag s)] w (jn B b w (o.bind (gv (.mk 36 a0 nm vl xa xb xc xd ks) (aq aD aQ ks) s)) (M+1500+2000*ax ks)):=by
 have hlt:=h.lt.1;have hge:=h.lt.2;have oN:=hide hk
 obtain ⟨w1,hw1⟩:∃w1,w1=w.alloc (.cells (aB 36 a0 nm vl xa xb xc xd (.slice A ks.length cap)).toArray 25):=⟨_,rfl⟩
 have hb1:Below w.heap.size w w1:=by rw [hw1];exact (af _ w).alloc (aa _) _
 have P1:=hide (h.keep hb1);have T1:=hide (aM.of_below (b:=b) hb1 (show B≤w.heap.size by omega));have fU:=ae (Row w1 w.heap.size 25 (aB 36 a0 nm vl xa xb xc xd (.slice A ks.length cap)).toArray) (by rw [hw1];exact Row.new _ _ _);have cR:=hide hw1.symm;have oO:=hide gS;have pM:=hide hft;clear h hk hw1 hb1 gS hft;unfold aB at cR fU⊢;go_enter Tryz.func111,Tryz.ntmps111;go_upto_region 1 with fail;rw [cR.o];have ef0:w1.cell? ⟨w.heap.size,0,none⟩=some (.int .i64 36):=fU.o.cell 0;go_upto_region 4 with fail;clear ef0;obtain ⟨dJ,eN,ei,ek,dF,dG,eA,eB,cj⟩:=ak fU.o;go_wp2_with fail;refine bW (cM B b (36) a0 xa xb xc xd nm vl (.slice A ks.length cap) [97] o M w1 P1.o) T1 fU (by decide) (by omega) fun w2 o2 Q2 P2 T2 ia=>?_;clear dJ eN ei ek dF dG eA eB cj;obtain ⟨dJ,eN,ei,ek,dF,dG,eA,eB,cj⟩:=ak ia.o;have C3:=hide (fx B b (36) a0 xa xb xc xd nm vl A ks.length cap 2 2 o2 M w2 P2.o (by omega));unfold aB at C3
 obtain ⟨o3,q3⟩:∃z_,iA o2 ks.length 2 2=z_:=⟨_,rfl⟩
 rw [q3] at C3
 have kE:iA (nX o (decide (nm=[])) (decide (vl=[])) (decide (xa=0)) (decide (xb=0)) (decide (xc=0)) (decide (xd=0)) [97]) ks.length 2 2=if bJ (.mk 36 a0 nm vl xa xb xc xd ks) false false true false=true∧2≤(ks.length:Int)∧(ks.length:Int)≤2 then o else none:=mY o [97] 2 2
 rw [Q2.o,q3] at kE;have kX:=hide kE;clear kE q3
 cases o3 with
 |none=>
  go_wp2_with fail;refine (C3.o).mono ?_;rintro e w3 ⟨rfl,p3,t3⟩;have P3:=hide p3;have T3:=hide (T2.o.trans t3);have iR:=hide (t3.row ia.o (by decide) (by omega));clear p3 t3 C3;clear dJ eN ei ek dF dG eA eB cj
  have HP:=ae (cz w3 B b (o.bind (gv (.mk 36 a0 nm vl xa xb xc xd ks) (aq aD aQ ks) s)) (M+1500+2000*ax ks)) (by
   rw [show (o.bind (gv (.mk 36 a0 nm vl xa xb xc xd ks) (aq aD aQ ks) s))=none from iQ kX.o (fun h=>⟨h.1,by have:=h.2;rw [a_] at this;have:=(tX (.mk 36 a0 nm vl xa xb xc xd ks) _ (by simp only [Nd.kind];decide)).1 this;omega⟩)]
   exact P3.o.mono (by omega))
  go_wp2;go_end0;exact ⟨rfl,HP.o,T3.o⟩
 |some st=>
  obtain ⟨⟨hc1,hc2,hc3⟩,ho⟩:=iP kX.o;have HLEN:=hide (show ks.length=2 by omega);have nu:=hide (And.intro hc1 ho);clear hc1 hc2 hc3 ho;go_wp2_with fail;refine (C3.o).mono ?_;rintro e w3 ⟨rfl,p3,t3⟩;have P3:=hide p3;have T3:=hide (T2.o.trans t3);have iR:=hide (t3.row ia.o (by decide) (by omega));clear p3 t3 C3;clear dJ eN ei ek dF dG eA eB cj;have CW:=ae (Calls Tryz.prog 73 #[.pointer (some ⟨b,0,none⟩),.slice (some ⟨w3.heap.size,0,none⟩) 2 2] (w3.alloc (.cells #[.string (ag s),.string {data:=#[40]}] 9)) (jn B b (w3.alloc (.cells #[.string (ag s),.string {data:=#[40]}] 9)) ((some st:Option St).map (fB · [s,[40]])) (M+jD [s,[40]]))) (u_ B b [s,[40]] w3.heap.size 2 _ _ _ (P3.o.alloc _) (Row.new _ _ _) (by simp only [jD,aj,aK];omega) (by simp));have Bx:B≤w3.heap.size:=br P3.o.lt.2 (Nat.le_of_lt P3.o.lt.1);have C4:=hide (CW.o.mono fun e w' hx=>show jn B b w3 ((some st:Option St).map (fB · [s,[40]])) (M+40) e w' from ⟨hx.1,hx.2.1.mono (by simp only [jD,aj,aK];omega),((aM.refl B b w3).alloc Bx _).trans hx.2.2⟩);clear CW Bx
  obtain ⟨o4,q4⟩:∃z_,(some st:Option St).map (fB · [s,[40]])=z_:=⟨_,rfl⟩
  rw [q4] at C4;have Q4:=hide q4;clear q4;go_wp2_with fail;refine (C4.o).mono ?_;rintro e w4 ⟨rfl,p4,t4⟩;have P4:=hide p4;have T4:=hide (T3.o.trans t4);have jJ:=hide (t4.row iR.o (by decide) (by omega));clear p4 t4 C4
  obtain ⟨fin,hfin⟩:∃f,fP ks 0 o4=f:=⟨_,rfl⟩
  have Vt:=hide (jl.start (ks:=ks) (c:=4) P4.o hfin);have I_:=hide hfin;clear hfin;have wU:=T4.o.size;have cj:w4.cell? ⟨w.heap.size,8,none⟩=some (.slice A ks.length cap):=jJ.o.cell 8
  obtain ⟨N,hN⟩:∃N,ks.length=N:=⟨_,rfl⟩
  rw [hN] at cj jJ hn⊢;have HN:=hide hN;clear hN;have uu:Hid (N=2):=hide (HN.o.symm.trans HLEN.o);go_wp2_with fail;clear cj
  go_loopw [33] (fun i wr=>jl B b w4 ks (M+40) 4 fin (fP ks) i wr) (fun i _=>N-(intOf i).toNat)
  case atStart=>exact Vt.o
  case round=>
   obtain ⟨k,o1,hk,rfl,hp,ht,he⟩:=hrel;rw [HN.o] at hk;have qu:=hide hp;have Gx:=hide ht;have TA:=hide (T4.o.trans ht);have HE:=hide he;clear hp ht he;by_cases hlt':k<N
   ·have ir:k<ks.length:=by rw [HN.o];exact hlt'
    have hk':(k:Int)<(N:Int):=by omega
    have uQ:(0:Int)≤(k:Int):=by omega
    have hw1:IntKind.i64.wrap ((k:Int)+1)=(k:Int)+1:=bI _ (by omega);obtain ⟨bk,off,yk,y0,yn,yv,ya,yb,yc,yd,yA,cZ,cv,rfl,hK⟩:=oN.o.kid ir;obtain ⟨⟨c0,c1,c2,c3,c4,c5,c6,c7,c8⟩,_⟩:=hK wr TA.o.below TA.o.size;have K0:=hide hK;have sk:=hide (oO.o k ir);have HST:=hide (pN ir o1);have hcn:=mZ ir;have iM:=hide (fun (W':World) (o':Option St) (M':Nat) (h:cz W' B b o' M') (hM:M'≤(M+40)+4*k+2000*ax (ks.take k)+4+2000*aC ks[k]) (ht:aM B b w4 W') (e:fP ks (k+1) o'=fin)=>jl.step (c:=4) ir h hM ht e rfl)
    obtain ⟨x,hx⟩:∃x,ks[k]=x:=⟨_,rfl⟩
    rw [hx] at sk hcn iM HST;have HX:=hide hx;clear hK hx
    obtain ⟨u,hu⟩:∃u,ax (ks.take k)=u:=⟨_,rfl⟩
    rw [hu] at qu hcn iM;have wS:B≤wr.heap.size:=br hge (Nat.le_of_lt qu.o.lt.1);have Pk:wr.heap.size≠b:=Nat.ne_of_gt qu.o.lt.1
    obtain ⟨w1',kN⟩:∃w1',w1'=wr.alloc (.cells (aB yk y0 yn yv ya yb yc yd (.slice yA cZ cv)).toArray 25):=⟨_,rfl⟩
    have hb1:Below wr.heap.size wr w1':=by rw [kN];exact (af _ wr).alloc (aa _) _
    have Y3:=hide (qu.o.keep hb1);have Y4:=hide (Gx.o.trans (aM.of_below (b:=b) hb1 wS));have Fz:=hide (TA.o.trans (aM.of_below (b:=b) hb1 wS));have tY:=ae (Row w1' wr.heap.size 25 (aB yk y0 yn yv ya yb yc yd (.slice yA cZ cv)).toArray) (by rw [kN];exact Row.new _ _ _);have pO:=hide kN.symm;clear kN hb1 hu;unfold aB at pO tY;go_upto_region 10 with fail;rw [pO.o];clear c0 c1 c2 c3 c4 c5 c6 c7 c8;obtain ⟨Y5,Y6,Y7,Y8,Y9,Y_,Za,Zb,Zc⟩:=ak tY.o;obtain ⟨_,hnd⟩:=K0.o w1' Fz.o.below Fz.o.size;go_wp2_with fail;refine bW (show Calls Tryz.prog 45 #[.pointer (some ⟨b,0,none⟩),.agg #[.int .i64 yk,.int .i64 y0,.string (ag yn),.string (ag yv),.int .i64 ya,.int .i64 yb,.int .i64 yc,.int .i64 yd,.slice yA cZ cv],.int .i64 0] w1' (jn B b w1' (o1.bind (bC aD aQ x 0)) (((M+40)+4*k+2000*u)+2000*aC x)) from sk.o B b 0 _ o1 _ w1' Y3.o (by rw [←HX.o];exact hnd) (by decide) (by decide) (by have:=uu.o;omega)) Y4 tY (by decide) (by omega) fun Tx Xb Zd Ze Vu FC=>?_;clear Y5 Y6 Y7 Y8 Y9 Y_ Za Zb Zc hnd;go_wp2_with fail;refine bW (kM B b [44,32] Xb (((M+40)+4*k+2000*u)+2000*aC x) Tx Ze.o (by have:=uu.o;first|omega|(simp only [aj,aK];omega))) Vu FC (by decide) (by omega) fun Zf Zg Zh Zi Zj Zk=>?_;have HL:=hide (iM.o Zf Zg _ Zi.o (by have:=uu.o;simp only [aj,aK];omega) Zj.o (by rw [←Zh.o,←Zd.o,HST.o];exact HE.o));go_wp2;go_roundw
    case rel=>exact HL.o
    case measure=>simp [intOf];omega
   ·obtain rfl:k=N:=by omega
    have hk':¬(k:Int)<(k:Int):=by omega
    have LW:=hide (show o1=fin by have:=HE.o;rw [←HN.o,su] at this;exact this)
    have Zl:=ae (cz wr B b fin ((M+40)+20+2000*ax ks)) (by
     have:=qu.o;rw [LW.o] at this
     exact this.mono (by have:=kZ ks k;have:=uu.o;omega))
    have Zm:=TA;have Ar:=hide (Gx.o.row jJ.o (by decide) (by omega));clear qu;have dF:wr.cell? ⟨w.heap.size,4,none⟩=some (.int .i64 xa):=Ar.o.cell 4;go_wp2_with fail;refine bW (dA B b xa 1099511627776 fin ((M+40)+20+2000*ax ks) wr Zl.o pM.o.a (by omega)) Zm Ar (by decide) (by omega) fun Zn o32 Zo Zp Zq Nc=>?_;clear dF;go_wp2_with fail;refine bW (bT B b [44,32] 2 o32 (((M+40)+20+2000*ax ks)+22) Zn Zp.o (by omega)) Zq Nc (by decide) (by omega) fun Xc o33 Q33 P33 T33 FE=>?_;have dG:Xc.cell? ⟨w.heap.size,5,none⟩=some (.int .i64 xb):=FE.o.cell 5;go_wp2_with fail;refine bW (dA B b xb 1099511627776 o33 ((((M+40)+20+2000*ax ks)+22)+3) Xc P33.o pM.o.b (by omega)) T33 FE (by decide) (by omega) fun Wt o34 Q34 P34 T34 Rf=>?_;clear dG;go_wp2_with fail;refine bW (bT B b [41] 1 o34 (((((M+40)+20+2000*ax ks)+22)+3)+22) Wt P34.o (by omega)) T34 Rf (by decide) (by omega) fun w35 o35 Q35 P35 T35 abt=>?_
    have HP:=ae (cz w35 B b (o.bind (gv (.mk 36 a0 nm vl xa xb xc xd ks) (aq aD aQ ks) s)) (M+1500+2000*ax ks)) (by
     have hp:=P35.o;rw [←Q35.o,←Q34.o,←Q33.o,←Zo.o,vq] at hp
     have e:(o.bind (gv (.mk 36 a0 nm vl xa xb xc xd ks) (aq aD aQ ks) s))=fin.bind fun st=>(dh xa 1099511627776 st).bind fun st=>(dh xb 1099511627776 (bD st [44,32])).bind fun st=>some (bD st [41]):=by
      rw [nu.o.2,←I_.o,←Q4.o];show gv _ _ _ st=_;unfold gv;rw [if_pos ⟨nu.o.1,by rw [a_];exact (tX (.mk 36 a0 nm vl xa xb xc xd ks) _ (by simp only [Nd.kind];decide)).2 HLEN.o⟩];show Option.bind (uX _ _) _=Option.bind (fP ks 0 (some (fB st [s,[40]]))) _;unfold fP;rw [List.drop_zero];rfl
     rw [e]
     exact hp.mono (by first|omega|(simp only [aj,aK];omega)))
    go_wp2;go_end0;exact ⟨rfl,HP.o,T35.o⟩
theorem Ja (B b:Nat) (kd a0 xa xb xc xd:Int) (nm vl:List UInt8) (ks:List Nd) (A:Option Addr) (cap:Nat) (s:List UInt8) (hs:s.length≤20) (o:Option St) (M:Nat) (w:World) (h:cz w B b o M) (hk:sJ B w ks A) (gS:∀i (hi:i<ks.length),qs ks[i]) (hft:iJ kd xa xb xc xd nm vl) (hn:ks.length≤1000000) (hM:M+1500+2000*ax ks≤1099511627776):
 Calls Tryz.prog 111 #[.pointer (some ⟨b,0,none⟩),.agg (aB kd a0 nm vl xa xb xc xd (.slice A ks.length cap)).toArray,.string (ag s)] w (jn B b w (o.bind (gv (.mk kd a0 nm vl xa xb xc xd ks) (aq aD aQ ks) s)) (M+1500+2000*ax ks)):=by
 by_cases ux:kd=35
 ·subst ux;exact Vv B b a0 xa xb xc xd nm vl ks A cap s hs o M w h hk gS hft hn hM
 by_cases zR:kd=36
 ·subst zR;exact Vw B b a0 xa xb xc xd nm vl ks A cap s hs o M w h hk gS hft hn hM
 exact Rc B b kd a0 xa xb xc xd nm vl ks A cap ux zR s hs o M w h hk gS hft hn hM
theorem Rg (W:World) (k1 k2:Int) (s1 s2:List UInt8) (k:Int) (s:List UInt8) (h1:In64 k1) (h2:In64 k2) (hne:k1≠k2) (hk:(k,s)∈[(k1,s1),(k2,s2)]):∃W1 W2,
 (Instr.mapUpdate 160 (.map (some W.heap.size)) (.int .i64 k1) (.string (ag s1))).run Tryz.prog (W.alloc (.map #[] 0))=.ok () W1∧
 (Instr.mapUpdate 160 (.map (some W.heap.size)) (.int .i64 k2) (.string (ag s2))).run Tryz.prog W1=.ok () W2∧
 (Instr.lookup 160 (.map (some W.heap.size)) (.int .i64 k) false).run Tryz.prog W2=.ok (.string (ag s)) W2∧Below W.heap.size W W2∧W.heap.size<W2.heap.size:=by
 have m0:xn (W.alloc (.map #[] 0)) W.heap.size []:=xn.made W;obtain ⟨W1,r1,m1,b1,z1⟩:=pD mO Tryz.underlying160 m0 (fun p hp=>by cases hp) (mq h1) (fun p hp=>by cases hp) (.string (ag s1))
 have abu:∀p∈([]++[(Value.int .i64 k1,Value.string (ag s1))]:List (Value×Value)),∃y,keyOf Tryz.prog 3 p.1=some y:=fun p hp=>by
  simp only [List.nil_append,List.mem_singleton] at hp;subst hp;exact ⟨_,mq h1⟩
 obtain ⟨W2,r2,m2,b2,z2⟩:=pD mO Tryz.underlying160 m1 abu (mq h2) (fun p hp e=>by
  simp only [List.nil_append,List.mem_singleton] at hp;subst hp;injection e with _ e;exact hne e) (.string (ag s2))
 have abv:∀p∈([]++[(Value.int .i64 k1,Value.string (ag s1))]++[(Value.int .i64 k2,Value.string (ag s2))]:List (Value×Value)),∃y,keyOf Tryz.prog 3 p.1=some y:=fun p hp=>by
  simp only [List.nil_append,List.singleton_append,List.mem_cons,List.not_mem_nil,or_false] at hp
  rcases hp with rfl|rfl
  ·exact ⟨_,mq h1⟩
  ·exact ⟨_,mq h2⟩
 have hpw:([]++[(Value.int .i64 k1,Value.string (ag s1))]++[(Value.int .i64 k2,Value.string (ag s2))]:List (Value×Value)).Pairwise fun p q=>p.1≠q.1:=by
  simp only [List.nil_append,List.singleton_append,List.pairwise_cons,List.mem_singleton,List.not_mem_nil];exact ⟨fun a ha e=>by subst ha;injection e with _ e;exact hne e,fun a ha=>ha.elim,List.Pairwise.nil⟩
 have hin:(Value.int .i64 k,Value.string (ag s))∈([]++[(Value.int .i64 k1,Value.string (ag s1))]++[(Value.int .i64 k2,Value.string (ag s2))]:List (Value×Value)):=by
  simp only [List.mem_cons,List.not_mem_nil,or_false,Prod.mk.injEq] at hk
  rcases hk with ⟨rfl,rfl⟩|⟨rfl,rfl⟩<;>simp
 have ir:In64 k:=by
  simp only [List.mem_cons,List.not_mem_nil,or_false,Prod.mk.injEq] at hk
  rcases hk with ⟨rfl,rfl⟩|⟨rfl,rfl⟩
  ·exact h1
  ·exact h2
 refine ⟨W1,W2,r1,r2,vV mO Tryz.underlying160 m2 abv hpw (mq ir) hin false,?_,m2.lt⟩;exact ((af W.heap.size W).alloc (aa _) _).trans ((b1.trans b2).below (fun b hb=>by rw [hb];exact aa _) (by simp))
theorem val_neg (o:Option St) (n:Nd) (fs:List Pw) (h:n.kind=28∨n.kind=8):o.bind (bn aD aQ n fs)=o.bind fun st=>if bJ n false false false false∧fs.length=1 then jV fs 0 (iz aD n) (bD st (if n.kind=28 then iG else eu)) else none:=by
 cases o with
 |none=>rfl
 |some st=>
  show bn aD aQ n fs st=_;unfold bn;rw [if_neg (by omega),if_pos h];rfl
theorem Zr (o:Option St) (n:Nd) (fs:List Pw) (s:List UInt8) (h:(n.kind=17∧s=oG)∨(n.kind=18∧s=nP)):o.bind (bn aD aQ n fs)=o.bind fun st=>if bJ n false false false false∧fs.length=0 then some (bD st s) else none:=by
 cases o with
 |none=>rfl
 |some st=>
  show bn aD aQ n fs st=_;unfold bn
  rcases h with ⟨h,rfl⟩|⟨h,rfl⟩
  ·rw [if_pos (Or.inl h),if_pos h];rfl
  ·rw [if_pos (Or.inr h),if_neg (show¬n.kind=17 by omega)];rfl
theorem Xd (B b:Nat) (kd a0 xa xb xc xd:Int) (nm vl:List UInt8) (ks:List Nd) (A:Option Addr) (cap:Nat) (s:List UInt8) (hks:(kd=17∧s=oG)∨(kd=18∧s=nP)) (o:Option St) (M:Nat) (w:World) (h:cz w B b o M) (hk:sJ B w ks A) (gS:∀i (hi:i<ks.length),qs ks[i]) (hft:iJ kd xa xb xc xd nm vl) (hn:ks.length≤1000000) (hM:M+1500+2000*ax ks≤1099511627776):
 Calls Tryz.prog 113 #[.pointer (some ⟨b,0,none⟩),.agg (aB kd a0 nm vl xa xb xc xd (.slice A ks.length cap)).toArray] w (jn B b w (o.bind (bn aD aQ (.mk kd a0 nm vl xa xb xc xd ks) (aq aD aQ ks))) (M+1500+2000*ax ks)):=by
 have Xe:=hide hks;have HKM:Hid ((kd,s)∈[((17:Int),oG),(18,nP)]):=hide (by rcases hks with ⟨rfl,rfl⟩|⟨rfl,rfl⟩<;>simp)
 have hsl:s.length≤5:=by rcases hks with ⟨_,rfl⟩|⟨_,rfl⟩<;>decide
 clear hks;have hlt:=h.lt.1;have hge:=h.lt.2;have oN:=hide hk
 obtain ⟨w1,hw1⟩:∃w1,w1=w.alloc (.cells (aB kd a0 nm vl xa xb xc xd (.slice A ks.length cap)).toArray 25):=⟨_,rfl⟩
 have hb1:Below w.heap.size w w1:=by rw [hw1];exact (af _ w).alloc (aa _) _
 have P1:=hide (h.keep hb1);have T1:=hide (aM.of_below (b:=b) hb1 (show B≤w.heap.size by omega));have fU:=ae (Row w1 w.heap.size 25 (aB kd a0 nm vl xa xb xc xd (.slice A ks.length cap)).toArray) (by rw [hw1];exact Row.new _ _ _);have cR:=hide hw1.symm;have oO:=hide gS;have pM:=hide hft;clear h hk hw1 hb1 gS hft;unfold aB at cR fU⊢;go_enter Tryz.func113,Tryz.ntmps113;go_upto_region 1 with fail;rw [cR.o]
 obtain ⟨e17,e18⟩|⟨e17,e18⟩:((kd==17)=true∧(kd==18)=false)∨((kd==17)=false∧(kd==18)=true):=by simp only [beq_iff_eq,aP];have:=Xe.o;omega
 all_goals
  obtain ⟨dJ,eN,ei,ek,dF,dG,eA,eB,cj⟩:=ak fU.o;go_wp2_with fail;refine bW (cM B b kd a0 xa xb xc xd nm vl (.slice A ks.length cap) [] o M w1 P1.o) T1 fU (by decide) (by omega) fun w2 o2 Q2 P2 T2 ia=>?_;clear dJ eN ei ek dF dG eA eB cj;obtain ⟨dJ,eN,ei,ek,dF,dG,eA,eB,cj⟩:=ak ia.o;go_wp2_with fail;refine abj (fx B b kd a0 xa xb xc xd nm vl A ks.length cap 0 0 o2 M w2 P2.o (by omega)) T2 ia (by decide) (by omega) fun w3 o3 Q3 P3 T3 iR=>?_;clear dJ eN ei ek dF dG eA eB cj;have kX:=ae (iA (nX o (decide (nm=[])) (decide (vl=[])) (decide (xa=0)) (decide (xb=0)) (decide (xc=0)) (decide (xd=0)) []) ks.length 0 0=if bJ (.mk kd a0 nm vl xa xb xc xd ks) false false false false=true∧0≤(ks.length:Int)∧(ks.length:Int)≤0 then o else none) (mY o [] 0 0);rw [Q2.o,Q3.o] at kX;obtain ⟨wm,w4,u1',u2',l1',hb4,hz4⟩:=Rg w3 17 18 [116,114,117,101] [102,97,108,115,101] kd s ⟨by decide,by decide⟩ ⟨by decide,by decide⟩ (by decide) HKM.o;have u1:(Instr.mapUpdate 160 (.map (some w3.heap.size)) (.int .i64 17) (.string {data:=#[116,114,117,101]})).run Tryz.prog (w3.alloc (.map #[] 0))=.ok () wm:=u1';have u2:(Instr.mapUpdate 160 (.map (some w3.heap.size)) (.int .i64 18) (.string {data:=#[102,97,108,115,101]})).run Tryz.prog wm=.ok () w4:=u2';have l1:(Instr.lookup 160 (.map (some w3.heap.size)) (.int .i64 kd) false).run Tryz.prog w4=.ok (.string (ag s)) w4:=l1';have hmm:=@run_makeMap Tryz.prog;clear u1' u2' l1';have Bx:B≤w3.heap.size:=br P3.o.lt.2 (Nat.le_of_lt P3.o.lt.1);have P4:=hide (P3.o.keep hb4);have t4:=aM.of_below (b:=b) hb4 Bx;have T4:=hide (T3.o.trans t4);have jJ:=hide (t4.row iR.o (by decide) (by omega));clear t4 hb4 hz4 Bx;have dJ:w4.cell? ⟨w.heap.size,0,none⟩=some (.int .i64 kd):=jJ.o.cell 0;go_wp2_with fail;refine bW (kM B b s o3 M w4 P4.o (by omega)) T4 jJ (by decide) (by omega) fun w5 o5 Q5 P5 T5 oP=>?_;clear dJ u1 u2 l1 hmm
  have HP:=ae (cz w5 B b (o.bind (bn aD aQ (.mk kd a0 nm vl xa xb xc xd ks) (aq aD aQ ks))) (M+1500+2000*ax ks)) (by
   have hp:=P5.o;rw [←Q5.o,kX.o] at hp
   have e:(o.bind (bn aD aQ (.mk kd a0 nm vl xa xb xc xd ks) (aq aD aQ ks)))=((if bJ (.mk kd a0 nm vl xa xb xc xd ks) false false false false=true∧0≤(ks.length:Int)∧(ks.length:Int)≤0 then o else none):Option St).map (bD · s):=by
    rw [Zr o (.mk kd a0 nm vl xa xb xc xd ks) (aq aD aQ ks) s Xe.o,a_]
    cases o with
    |none=>rw [ite_self];rfl
    |some st=>
     show (if _ then _ else _)=_;by_cases hc:bJ (.mk kd a0 nm vl xa xb xc xd ks) false false false false=true∧0≤(ks.length:Int)∧(ks.length:Int)≤0
     ·rw [if_pos hc,if_pos ⟨hc.1,by omega⟩];rfl
     ·rw [if_neg hc,if_neg (fun h=>hc ⟨h.1,by omega,by omega⟩)];rfl
   rw [e]
   exact hp.mono (by omega))
  go_wp2;go_end0;exact ⟨rfl,HP.o,T5.o⟩
theorem Xf (B b:Nat) (kd a0 xa xb xc xd:Int) (nm vl:List UInt8) (ks:List Nd) (A:Option Addr) (cap:Nat) (s:List UInt8) (lv:Int) (hks:(kd=28∧s=iG∧lv=2)∨(kd=8∧s=eu∧lv=8)) (o:Option St) (M:Nat) (w:World) (h:cz w B b o M) (hk:sJ B w ks A) (gS:∀i (hi:i<ks.length),qs ks[i]) (hft:iJ kd xa xb xc xd nm vl) (hn:ks.length≤1000000) (hM:M+1500+2000*ax ks≤1099511627776):
 Calls Tryz.prog 113 #[.pointer (some ⟨b,0,none⟩),.agg (aB kd a0 nm vl xa xb xc xd (.slice A ks.length cap)).toArray] w (jn B b w (o.bind (bn aD aQ (.mk kd a0 nm vl xa xb xc xd ks) (aq aD aQ ks))) (M+1500+2000*ax ks)):=by
 have Xe:=ae (kd=28∨kd=8) (by rcases hks with ⟨h,_⟩|⟨h,_⟩<;>simp [h]);have HKM:Hid ((kd,s)∈[((28:Int),iG),(8,eu)]):=hide (by rcases hks with ⟨rfl,rfl,_⟩|⟨rfl,rfl,_⟩<;>simp);have Oy:Hid (Gv kd vl=lv):=hide (by rcases hks with ⟨rfl,_,rfl⟩|⟨rfl,_,rfl⟩<;>rfl);have HSW:Hid ((if kd=28 then iG else eu)=s):=hide (by rcases hks with ⟨rfl,rfl,_⟩|⟨rfl,rfl,_⟩<;>rfl)
 have hlb:0≤lv∧lv≤13:=by rcases hks with ⟨_,_,rfl⟩|⟨_,_,rfl⟩<;>decide
 have hsl:s.length≤5:=by rcases hks with ⟨_,rfl,_⟩|⟨_,rfl,_⟩<;>decide
 clear hks;have hlt:=h.lt.1;have hge:=h.lt.2;have oN:=hide hk
 obtain ⟨w1,hw1⟩:∃w1,w1=w.alloc (.cells (aB kd a0 nm vl xa xb xc xd (.slice A ks.length cap)).toArray 25):=⟨_,rfl⟩
 have hb1:Below w.heap.size w w1:=by rw [hw1];exact (af _ w).alloc (aa _) _
 have P1:=hide (h.keep hb1);have T1:=hide (aM.of_below (b:=b) hb1 (show B≤w.heap.size by omega));have fU:=ae (Row w1 w.heap.size 25 (aB kd a0 nm vl xa xb xc xd (.slice A ks.length cap)).toArray) (by rw [hw1];exact Row.new _ _ _);have cR:=hide hw1.symm;have oO:=hide gS;have pM:=hide hft;clear h hk hw1 hb1 gS hft;unfold aB at cR fU⊢;go_enter Tryz.func113,Tryz.ntmps113;go_upto_region 1 with fail;rw [cR.o];have e17:(kd==17)=false:=aP.2 (by have:=Xe.o;omega);have e18:(kd==18)=false:=aP.2 (by have:=Xe.o;omega)
 obtain ⟨e28,e8⟩|⟨e28,e8⟩:((kd==28)=true∧(kd==8)=false)∨((kd==28)=false∧(kd==8)=true):=by simp only [beq_iff_eq,aP];have:=Xe.o;omega
 all_goals
  obtain ⟨dJ,eN,ei,ek,dF,dG,eA,eB,cj⟩:=ak fU.o;go_wp2_with fail;refine bW (cM B b kd a0 xa xb xc xd nm vl (.slice A ks.length cap) [] o M w1 P1.o) T1 fU (by decide) (by omega) fun w2 o2 Q2 P2 T2 ia=>?_;clear dJ eN ei ek dF dG eA eB cj;obtain ⟨dJ,eN,ei,ek,dF,dG,eA,eB,cj⟩:=ak ia.o;have C3:=hide (fx B b kd a0 xa xb xc xd nm vl A ks.length cap 1 1 o2 M w2 P2.o (by omega));unfold aB at C3
  obtain ⟨o3,q3⟩:∃z_,iA o2 ks.length 1 1=z_:=⟨_,rfl⟩
  rw [q3] at C3
  have kE:iA (nX o (decide (nm=[])) (decide (vl=[])) (decide (xa=0)) (decide (xb=0)) (decide (xc=0)) (decide (xd=0)) []) ks.length 1 1=if bJ (.mk kd a0 nm vl xa xb xc xd ks) false false false false=true∧1≤(ks.length:Int)∧(ks.length:Int)≤1 then o else none:=mY o [] 1 1
  rw [Q2.o,q3] at kE;have kX:=hide kE;clear kE q3
  cases o3 with
  |none=>
   go_wp2_with fail;refine (C3.o).mono ?_;rintro e w3 ⟨rfl,p3,t3⟩;have P3:=hide p3;have T3:=hide (T2.o.trans t3);have iR:=hide (t3.row ia.o (by decide) (by omega));clear p3 t3 C3;clear dJ eN ei ek dF dG eA eB cj
   have HP:=ae (cz w3 B b (o.bind (bn aD aQ (.mk kd a0 nm vl xa xb xc xd ks) (aq aD aQ ks))) (M+1500+2000*ax ks)) (by
    rw [val_neg o (.mk kd a0 nm vl xa xb xc xd ks) (aq aD aQ ks) Xe.o,show o.bind _=none from iQ kX.o (fun h=>⟨h.1,by have:=h.2;rw [a_] at this;omega⟩)]
    exact P3.o.mono (by omega))
   go_wp2;go_end0;exact ⟨rfl,HP.o,T3.o⟩
  |some st=>
   obtain ⟨⟨hc1,hc2,hc3⟩,ho⟩:=iP kX.o;have HLEN:=hide (show ks.length=1 by omega)
   have hi0:0<ks.length:=by omega
   obtain ⟨bb,bc,lR,rX,rY,qQ,rZ,r_,se,sf,si,eX,eZ,I7,sj⟩:=oN.o.kid (i:=0) hi0;subst I7
   obtain ⟨x0,hx0⟩:∃x,ks[0]'hi0=x:=⟨_,rfl⟩
   rw [hx0] at sj;have K0:=hide (fun (W:World) (hb:Below B w W) (hz:w.heap.size≤W.heap.size)=>show (W.cell? ⟨bb,bc,none⟩=some (.int .i64 lR)∧W.cell? ⟨bb,bc+1,none⟩=some (.int .i64 rX)∧W.cell? ⟨bb,bc+2,none⟩=some (.string (ag rY))∧W.cell? ⟨bb,bc+3,none⟩=some (.string (ag qQ))∧W.cell? ⟨bb,bc+4,none⟩=some (.int .i64 rZ)∧W.cell? ⟨bb,bc+5,none⟩=some (.int .i64 r_)∧W.cell? ⟨bb,bc+6,none⟩=some (.int .i64 se)∧W.cell? ⟨bb,bc+7,none⟩=some (.int .i64 sf)∧W.cell? ⟨bb,bc+8,none⟩=some (.slice si eX eZ))∧cK (fun c=>B≤c) W x0 [Value.int .i64 lR,.int .i64 rX,.string (ag rY),.string (ag qQ),.int .i64 rZ,.int .i64 r_,.int .i64 se,.int .i64 sf,.slice si eX eZ] from sj W hb hz)
   have sk:Hid (qs x0):=by rw [←hx0];exact oO.o 0 hi0
   have I8:aC x0≤ax ks:=by rw [←hx0];exact ez (cI _)
   have xf:=hide hx0;clear hx0 sj;have nu:=hide (And.intro hc1 ho);clear hc1 hc2 hc3 ho;go_wp2_with fail;refine (C3.o).mono ?_;rintro e w3 ⟨rfl,p3,t3⟩;have P3:=hide p3;have T3:=hide (T2.o.trans t3);have iR:=hide (t3.row ia.o (by decide) (by omega));clear p3 t3 C3;clear dJ eN ei ek dF dG eA eB cj;obtain ⟨wm,w4,u1',u2',l1',hb4,hz4⟩:=Rg w3 28 8 [33] [126] kd s ⟨by decide,by decide⟩ ⟨by decide,by decide⟩ (by decide) HKM.o;have u1:(Instr.mapUpdate 160 (.map (some w3.heap.size)) (.int .i64 28) (.string {data:=#[33]})).run Tryz.prog (w3.alloc (.map #[] 0))=.ok () wm:=u1';have u2:(Instr.mapUpdate 160 (.map (some w3.heap.size)) (.int .i64 8) (.string {data:=#[126]})).run Tryz.prog wm=.ok () w4:=u2';have l1:(Instr.lookup 160 (.map (some w3.heap.size)) (.int .i64 kd) false).run Tryz.prog w4=.ok (.string (ag s)) w4:=l1';have hmm:=@run_makeMap Tryz.prog;clear u1' u2' l1';have Bx:B≤w3.heap.size:=br P3.o.lt.2 (Nat.le_of_lt P3.o.lt.1);have P4:=hide (P3.o.keep hb4);have t4:=aM.of_below (b:=b) hb4 Bx;have T4:=hide (T3.o.trans t4);have jJ:=hide (t4.row iR.o (by decide) (by omega));clear t4 hb4 hz4 Bx;have dJ:w4.cell? ⟨w.heap.size,0,none⟩=some (.int .i64 kd):=jJ.o.cell 0;go_wp2_with fail;refine bW (kM B b s (some st) M w4 P4.o (by omega)) T4 jJ (by decide) (by omega) fun w5 o5 Q5 P5 T5 oP=>?_;clear dJ u1 u2 l1 hmm;go_upto_region 13 with fail;have S0:=hide (fun (W':World) (ht:aM B b w W') (hr:Row W' w.heap.size 25 #[.int .i64 kd,.int .i64 a0,.string (ag nm),.string (ag vl),.int .i64 xa,.int .i64 xb,.int .i64 xc,.int .i64 xd,.slice (some ⟨bb,bc,none⟩) ks.length cap])=>show W'.cell? ⟨w.heap.size,0,none⟩=some (.int .i64 kd)∧W'.cell? ⟨w.heap.size,1,none⟩=some (.int .i64 a0)∧W'.cell? ⟨w.heap.size,2,none⟩=some (.string (ag nm))∧W'.cell? ⟨w.heap.size,3,none⟩=some (.string (ag vl))∧W'.cell? ⟨w.heap.size,4,none⟩=some (.int .i64 xa)∧W'.cell? ⟨w.heap.size,5,none⟩=some (.int .i64 xb)∧W'.cell? ⟨w.heap.size,6,none⟩=some (.int .i64 xc)∧W'.cell? ⟨w.heap.size,7,none⟩=some (.int .i64 xd)∧W'.cell? ⟨w.heap.size,8,none⟩=some (.slice (some ⟨bb,bc,none⟩) ks.length cap)∧W'.cell? ⟨bb,bc,none⟩=some (.int .i64 lR)∧W'.cell? ⟨bb,bc+1,none⟩=some (.int .i64 rX)∧W'.cell? ⟨bb,bc+2,none⟩=some (.string (ag rY))∧W'.cell? ⟨bb,bc+3,none⟩=some (.string (ag qQ))∧W'.cell? ⟨bb,bc+4,none⟩=some (.int .i64 rZ)∧W'.cell? ⟨bb,bc+5,none⟩=some (.int .i64 r_)∧W'.cell? ⟨bb,bc+6,none⟩=some (.int .i64 se)∧W'.cell? ⟨bb,bc+7,none⟩=some (.int .i64 sf)∧W'.cell? ⟨bb,bc+8,none⟩=some (.slice si eX eZ) from ⟨hr.cell 0,hr.cell 1,hr.cell 2,hr.cell 3,hr.cell 4,hr.cell 5,hr.cell 6,hr.cell 7,hr.cell 8,(K0.o W' ht.below ht.size).1⟩);obtain ⟨b0,b1,b2,b3,b4,b5,b6,b7,b8,d0,d1,d2,d3,d4,d5,d6,d7,d8⟩:=S0.o w5 T5.o oP.o;have LV:=hide (fun (W':World) (hg:Gl W')=>show Calls Tryz.prog 44 #[.agg #[.int .i64 kd,.int .i64 a0,.string (ag nm),.string (ag vl),.int .i64 xa,.int .i64 xb,.int .i64 xc,.int .i64 xd,.slice (some ⟨bb,bc,none⟩) ks.length cap]] W' fun e w'=>e=.returned (.int .i64 lv)∧Below W'.heap.size W' w' from by rw [←Oy.o];exact (qq kd a0 xa xb xc xd nm vl (.slice (some ⟨bb,bc,none⟩) ks.length cap) W' pM.o.kd (by have:=pM.o.vl;omega) hg));have GLd:=hide (P5.o.gl.below (af _ _).drew);have BLk:B≤w5.heap.size:=br P5.o.lt.2 (Nat.le_of_lt P5.o.lt.1)
   have ST:=hide (fun (wv:World) (eG:Below w5.drew.heap.size w5.drew wv)=>show cz wv B b o5 (M+(s.length+1))∧aM B b w wv∧Row wv w.heap.size 25 #[.int .i64 kd,.int .i64 a0,.string (ag nm),.string (ag vl),.int .i64 xa,.int .i64 xb,.int .i64 xc,.int .i64 xd,.slice (some ⟨bb,bc,none⟩) ks.length cap] from by
    have hb:Below w5.heap.size w5 wv:=(af _ _).drew.trans eG;have ht:=aM.of_below (b:=b) hb BLk
    exact ⟨P5.o.keep hb,T5.o.trans ht,ht.row oP.o (by decide) (by omega)⟩)
   have Gy:=hide (fun (wv:World) (hp:cz wv B b o5 (M+(s.length+1))) (ht:aM B b w wv)=>show Calls Tryz.prog 45 #[.pointer (some ⟨b,0,none⟩),.agg #[.int .i64 lR,.int .i64 rX,.string (ag rY),.string (ag qQ),.int .i64 rZ,.int .i64 r_,.int .i64 se,.int .i64 sf,.slice si eX eZ],.int .i64 lv] wv (jn B b wv (o5.bind (bC aD aQ x0 lv)) ((M+(s.length+1))+2000*aC x0)) from sk.o B b lv _ o5 _ wv hp (K0.o wv ht.below ht.size).2 hlb.1 hlb.2 (by first|omega|(simp only [aj,aK];omega)))
   obtain ⟨o6,q6⟩:∃z_,o5.bind (bC aD aQ x0 lv)=z_:=⟨_,rfl⟩
   rw [q6] at Gy;have Q6:=hide q6;clear q6
   go_region_held3 (fun W'=>W'.cell? ⟨w.heap.size,0,none⟩=some (.int .i64 kd)∧W'.cell? ⟨w.heap.size,1,none⟩=some (.int .i64 a0)∧W'.cell? ⟨w.heap.size,2,none⟩=some (.string (ag nm))∧W'.cell? ⟨w.heap.size,3,none⟩=some (.string (ag vl))∧W'.cell? ⟨w.heap.size,4,none⟩=some (.int .i64 xa)∧W'.cell? ⟨w.heap.size,5,none⟩=some (.int .i64 xb)∧W'.cell? ⟨w.heap.size,6,none⟩=some (.int .i64 xc)∧W'.cell? ⟨w.heap.size,7,none⟩=some (.int .i64 xd)∧W'.cell? ⟨w.heap.size,8,none⟩=some (.slice (some ⟨bb,bc,none⟩) ks.length cap)∧W'.cell? ⟨bb,bc,none⟩=some (.int .i64 lR)∧W'.cell? ⟨bb,bc+1,none⟩=some (.int .i64 rX)∧W'.cell? ⟨bb,bc+2,none⟩=some (.string (ag rY))∧W'.cell? ⟨bb,bc+3,none⟩=some (.string (ag qQ))∧W'.cell? ⟨bb,bc+4,none⟩=some (.int .i64 rZ)∧W'.cell? ⟨bb,bc+5,none⟩=some (.int .i64 r_)∧W'.cell? ⟨bb,bc+6,none⟩=some (.int .i64 se)∧W'.cell? ⟨bb,bc+7,none⟩=some (.int .i64 sf)∧W'.cell? ⟨bb,bc+8,none⟩=some (.slice si eX eZ)) (go_keep) (first|(go_at_call 44;((with_reducible refine (LV.o _ GLd.o).mono ?_);rintro e wv ⟨rfl,eG⟩;have hs5:=ST.o wv eG;have Vx:=hide hs5;obtain ⟨g0,g1,g2,g3,g4,g5,g6,g7,g8,g9,g10,g11,g12,g13,g14,g15,g16,g17⟩:=S0.o wv hs5.2.1 hs5.2.2;clear eG hs5))|(go_at_call 45;(refine (Gy.o _ Vx.o.1 Vx.o.2.1).mono ?_;rintro e wz ⟨rfl,p6,t6⟩;have nS:=t6.row Vx.o.2.2 (by decide) (by omega);obtain ⟨j0,j1,j2,j3,j4,j5,j6,j7,j8,j9,j10,j11,j12,j13,j14,j15,j16,j17⟩:=S0.o wz (Vx.o.2.1.trans t6) nS;have Pz:=hide p6;have Tz:=hide (Vx.o.2.1.trans t6);clear p6 t6 nS)))
   have HP:=ae (cz wz B b (o.bind (bn aD aQ (.mk kd a0 nm vl xa xb xc xd ks) (aq aD aQ ks))) (M+1500+2000*ax ks)) (by
    have hp:=Pz.o;rw [←Q6.o,←Q5.o] at hp
    have e:(o.bind (bn aD aQ (.mk kd a0 nm vl xa xb xc xd ks) (aq aD aQ ks)))=(bC aD aQ x0 lv (bD st s)):=by
     rw [nu.o.2,val_neg _ (.mk kd a0 nm vl xa xb xc xd ks) (aq aD aQ ks) Xe.o];show (if _ then _ else _)=_;rw [if_pos ⟨nu.o.1,by rw [a_];exact HLEN.o⟩,jk ks hi0,xf.o];show bC aD aQ x0 (iz aD (.mk kd a0 nm vl xa xb xc xd ks)) (bD st (if kd=28 then iG else eu))=_;rw [CV,HSW.o];show bC aD aQ x0 (Gv kd vl) (bD st s)=_;rw [Oy.o]
    rw [e]
    exact hp.mono (by first|omega|(simp only [aj,aK];omega)))
   go_wp2;go_end0;exact ⟨rfl,HP.o,Tz.o⟩
end Go.Proofs.YtddoehnkgcbboaaGreatDoor
