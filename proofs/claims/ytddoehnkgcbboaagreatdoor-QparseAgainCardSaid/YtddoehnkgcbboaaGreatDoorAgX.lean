/- A part of the proof that the last file tells. -/
import Derived.Test.YtddoehnkgcbboaaGreatDoorAgW
set_option maxHeartbeats 16000000
set_option maxRecDepth 100000
set_option linter.unusedVariables false
set_option linter.unusedSimpArgs false
namespace Go.Proofs.YtddoehnkgcbboaaGreatDoor
open Go.RowKit Go.Shelf Go.Maps
theorem RM (k:Int):l7 fW k=iq k:=by
 unfold l7 fW iq;simp only [List.find?_cons,List.find?_nil];by_cases h0:k=14
 ·subst h0;rfl
 by_cases h1:k=15
 ·subst h1;rfl
 by_cases h2:k=16
 ·subst h2;rfl
 by_cases h3:k=27
 ·subst h3;rfl
 rw [if_neg h0,if_neg h1,if_neg h2,if_neg h3];simp only [decide_eq_false (Ne.symm h0),decide_eq_false (Ne.symm h1),decide_eq_false (Ne.symm h2),decide_eq_false (Ne.symm h3)];rfl
theorem RN (k:Int):l7 dV k=ET k:=by
 unfold l7 dV ET;simp only [List.find?_cons,List.find?_nil];by_cases h0:k=31
 ·subst h0;rfl
 by_cases h1:k=32
 ·subst h1;rfl
 by_cases h2:k=33
 ·subst h2;rfl
 by_cases h3:k=34
 ·subst h3;rfl
 by_cases h4:k=35
 ·subst h4;rfl
 by_cases h5:k=36
 ·subst h5;rfl
 rw [if_neg h0,if_neg h1,if_neg h2,if_neg h3,if_neg h4,if_neg h5];simp only [decide_eq_false (Ne.symm h0),decide_eq_false (Ne.symm h1),decide_eq_false (Ne.symm h2),decide_eq_false (Ne.symm h3),decide_eq_false (Ne.symm h4),decide_eq_false (Ne.symm h5)];rfl
theorem Ny {k:Int} {x:List UInt8} (h:iq k=some x):x.length≤20:=by
 unfold iq at h
 repeat refine ub h (fun e=>by cases e;decide) fun h=>?_
 cases h
theorem V2 {k:Int} {x:List UInt8} (h:oH k=some x):x.length≤20:=by
 unfold oH at h
 repeat refine ub h (fun e=>by cases e;decide) fun h=>?_
 cases h
theorem V3 {k:Int} {x:List UInt8} (h:ET k=some x):x.length≤20:=by
 unfold ET at h
 repeat refine ub h (fun e=>by cases e;decide) fun h=>?_
 cases h
theorem xt (o:Option St) (n:Nd) (fs:List Pw) (h:gq n.kind=none):o.bind (dZ aD aQ n fs)=match iq n.kind with
 |some s=>o.bind (kG n fs s 0)
 |none=>match oH n.kind with
  |some s=>o.bind (kG n fs s 0)
  |none=>match ET n.kind with
   |some s=>o.bind (gv n fs s)
   |none=>if (45≤n.kind∧n.kind≤47)∨n.kind=44∨n.kind=42 then o.bind (fS aD n fs) else o.bind (bn aD aQ n fs):=by
 cases o with
 |none=>cases iq n.kind<;>cases oH n.kind<;>cases ET n.kind<;>simp
 |some st=>
  show dZ aD aQ n fs st=_;unfold dZ;rw [h]
  cases iq n.kind<;>cases oH n.kind<;>cases ET n.kind<;>simp
  all_goals rfl
theorem zu (x:Option (List UInt8)):∃s ok,Qw x=.returned (.tuple #[.string (ag s),.bool ok])∧(ok=true→x=some s)∧(ok=false→x=none):=by
 cases x with
 |some s=>exact ⟨s,true,rfl,fun _=>rfl,nofun⟩
 |none=>exact ⟨[],false,rfl,nofun,fun _=>rfl⟩
theorem oc (B b:Nat) (kd a0 xa xb xc xd:Int) (nm vl:List UInt8) (ks:List Nd) (A:Option Addr) (cap:Nat) (hik:In64 kd) (Jo:ks.length≤400) (hcap:ks.length≤cap) (KM:∀i (hi:i<ks.length),Nj ks[i]) (o:Option St) (M:Nat) (w:World) (h:cz w B b o M) (hk:sJ B w ks A) (gS:∀i (hi:i<ks.length),qs ks[i]) (hft:iJ kd xa xb xc xd nm vl) (hn:ks.length≤1000000) (hM:M+1500+2000*ax ks≤1099511627776):
 Calls Tryz.prog 72 #[.pointer (some ⟨b,0,none⟩),.agg (aB kd a0 nm vl xa xb xc xd (.slice A ks.length cap)).toArray] w (jn B b w (o.bind (dZ aD aQ (.mk kd a0 nm vl xa xb xc xd ks) (aq aD aQ ks))) (M+1500+2000*ax ks)):=by
 obtain ⟨m0,m1,m2,m3,ok,hE,hV⟩:∃m0 m1 m2 m3 ok,MJ kd=.tuple #[.agg #[.string (ag m0),.int .i64 m1,.int .i64 m2,.int .i64 m3],.bool ok]∧(ok=true→gq kd=some (m0,m1,m2,m3))∧(ok=false→gq kd=none):=by
  unfold MJ
  cases gq kd with
  |some x=>exact ⟨x.1,x.2.1,x.2.2.1,x.2.2.2,true,rfl,fun _=>rfl,nofun⟩
  |none=>exact ⟨[],0,0,0,false,rfl,nofun,fun _=>rfl⟩
 have INF:=hide (fun W:World=>vW W);have LK:=hide (fun (W:World) (r:Nat) (h:pE W r)=>show (Instr.lookup 102 (.map (some r)) (.int .i64 kd) true).run Tryz.prog W=.ok (.tuple #[.agg #[.string (ag m0),.int .i64 m1,.int .i64 m2,.int .i64 m3],.bool ok]) W from by rw [←hE];exact E6 h hik);have HV:=hide hV;obtain ⟨s0,ok0,hw0,hv0⟩:=zu (iq kd);have EV0:=hide (fun W:World=>Be W)
 have WD0:=hide (fun (W:World) (bm:Nat) (h:nR W bm fW)=>show Calls Tryz.prog 70 #[.map (some bm),.int .i64 kd] W fun e w'=>e=.returned (.tuple #[.string (ag s0),.bool ok0])∧Below W.heap.size W w' from by
  have:=nV bm fW kd W h IM;rw [RM,hw0] at this
  exact this)
 have zZ:=hide hv0;obtain ⟨s1,ok1,hw1,hv1⟩:=zu (oH kd);have EV1:=hide (fun W:World=>rR W)
 have WD1:=hide (fun (W:World) (bm:Nat) (h:nR W bm fk)=>show Calls Tryz.prog 70 #[.map (some bm),.int .i64 kd] W fun e w'=>e=.returned (.tuple #[.string (ag s1),.bool ok1])∧Below W.heap.size W w' from by
  have:=nV bm fk kd W h vX;rw [Fb,hw1] at this
  exact this)
 have nJ:=hide hv1;obtain ⟨s2,ok2,hw2,hv2⟩:=zu (ET kd);have EV2:=hide (fun W:World=>Bf W)
 have WD2:=hide (fun (W:World) (bm:Nat) (h:nR W bm dV)=>show Calls Tryz.prog 70 #[.map (some bm),.int .i64 kd] W fun e w'=>e=.returned (.tuple #[.string (ag s2),.bool ok2])∧Below W.heap.size W w' from by
  have:=nV bm dV kd W h Fe;rw [RN,hw2] at this
  exact this)
 have nE:=hide hv2;have hk2:=hide hk;have wW:=hide gS;have oJ:=hide hft;have TD:=hide hM;have Es:=hide hn;have hc2:=hide hcap;have hf2:=hide KM;have QD:=hide Jo
 obtain ⟨rr,ZU⟩:∃z_,(o.bind (dZ aD aQ (.mk kd a0 nm vl xa xb xc xd ks) (aq aD aQ ks)))=z_:=⟨_,rfl⟩
 rw [ZU];have vU:=hide ZU;clear ZU hE hV hcap KM Jo hw0 hv0 hw1 hv1 hw2 hv2;have hlt:=h.lt.1;have hge:=h.lt.2;have oN:=hide hk
 obtain ⟨w1,hw1⟩:∃w1,w1=w.alloc (.cells (aB kd a0 nm vl xa xb xc xd (.slice A ks.length cap)).toArray 25):=⟨_,rfl⟩
 have hb1:Below w.heap.size w w1:=by rw [hw1];exact (af _ w).alloc (aa _) _
 have P1:=hide (h.keep hb1);have T1:=hide (aM.of_below (b:=b) hb1 (show B≤w.heap.size by omega));have fU:=ae (Row w1 w.heap.size 25 (aB kd a0 nm vl xa xb xc xd (.slice A ks.length cap)).toArray) (by rw [hw1];exact Row.new _ _ _);have cR:=hide hw1.symm;have oO:=hide gS;have pM:=hide hft;clear h hk hw1 hb1 gS hft;unfold aB at cR fU⊢;go_enter Tryz.func72,Tryz.ntmps72;go_upto_region 1 with fail;rw [cR.o]
 have hne:w.heap.size≠b:=by omega
 have hc0:w1.cell? ⟨w.heap.size,0,none⟩=some (.int .i64 kd):=fU.o.cell 0;have hz1:w.heap.size<w1.heap.size:=fU.o.lt;go_cut [4,5] (fun tp tk wx=>∃g:Nat,tp=.pointer (some ⟨g,0,none⟩)∧tk=.bool ok∧Hid (Row wx g 100 #[.string (ag m0),.int .i64 m1,.int .i64 m2,.int .i64 m3])∧Hid (Below w1.heap.size w1 wx))
 case first=>
  have FA:=hide (fun (W W':World) (hb:Below W.heap.size W W') (hz:w.heap.size<W.heap.size) (he:W.heap[w.heap.size]? =w1.heap[w.heap.size]?)=>show W'.cell? ⟨w.heap.size,0,none⟩=some (.int .i64 kd) from by
   rw [World.cell?_of_block ((hb.block _ hz).trans he)];exact hc0)
  have FB:=hide (fun (o:Obj) (W':World) (hb:Below (w1.alloc o).heap.size (w1.alloc o).drew W')=>show W'.cell? ⟨w.heap.size,0,none⟩=some (.int .i64 kd) from FA.o (w1.alloc o).drew W' hb (by show _<(w1.alloc o).heap.size;rw [aF];omega) (Below.heap_alloc _ _ _ hz1));have LKC:=hide (fun (o:Obj) (W:World) (h:pE W (w1.alloc o).heap.size)=>show pE W (w1.heap.size+1) from by rw [aF] at h;exact h)
  have FR:=hide (fun (W':World) (hb:Below (w1.alloc (.cells #[.string {data:=#[]},.int .i64 0,.int .i64 0,.int .i64 0] 100)).heap.size (w1.alloc (.cells #[.string {data:=#[]},.int .i64 0,.int .i64 0,.int .i64 0] 100)).drew W')=>show (W'.cell? ⟨w1.heap.size,0,none⟩=some (.string {data:=#[]})∧W'.cell? ⟨w1.heap.size,1,none⟩=some (.int .i64 0)∧W'.cell? ⟨w1.heap.size,2,none⟩=some (.int .i64 0)∧W'.cell? ⟨w1.heap.size,3,none⟩=some (.int .i64 0))∧(W'.frozen? ⟨w1.heap.size,0,none⟩=false∧W'.frozen? ⟨w1.heap.size,1,none⟩=false∧W'.frozen? ⟨w1.heap.size,2,none⟩=false∧W'.frozen? ⟨w1.heap.size,3,none⟩=false)∧Hid (Row W' w1.heap.size 100 #[.string {data:=#[]},.int .i64 0,.int .i64 0,.int .i64 0]) from by
   have hr:=(Row.new w1 100 #[.string {data:=#[]},.int .i64 0,.int .i64 0,.int .i64 0]).drew.below hb (by rw [aF];omega)
   exact ⟨⟨hr.cell 0,hr.cell 1,hr.cell 2,hr.cell 3⟩,⟨hr.frozen 0,hr.frozen 1,hr.frozen 2,hr.frozen 3⟩,hr⟩)
  have ew:=World.new_ne w1 ⟨w.heap.size,0,none⟩ hc0;have LKA:=hide (fun (W:World) (h:pE W w1.heap.size)=>show (Instr.lookup 102 (.map (some w1.heap.size)) (.int .i64 kd) true).run Tryz.prog W=.ok (.tuple #[.agg #[.string (ag m0),.int .i64 m1,.int .i64 m2,.int .i64 m3],.bool ok]) W from LK.o W _ h);have LKB:=hide (fun (W:World) (h:pE W (w1.heap.size+1))=>show (Instr.lookup 102 (.map (some (w1.heap.size+1))) (.int .i64 kd) true).run Tryz.prog W=.ok (.tuple #[.agg #[.string (ag m0),.int .i64 m1,.int .i64 m2,.int .i64 m3],.bool ok]) W from LK.o W _ h)
  go_region_held3 (fun w'=>w'.cell? ⟨w.heap.size,0,none⟩=some (.int .i64 kd)) (go_keep) ((go_at_call 68;refine (INF.o _).mono ?_;rintro e w5 ⟨rfl,hm,eG⟩;(first|(have hs0:=FA.o _ _ eG hz1 rfl;have lk0:=LKA.o w5 hm;have lk1:=fun o=>LKA.o (w5.alloc o) (hm.below ((af _ w5).alloc (aa _) o)))|(have hs0:=FB.o _ _ eG;obtain ⟨⟨k0,k1,k2,k3⟩,⟨y0,y1,y2,y3⟩,hrw⟩:=FR.o _ eG;have lk0:=LKB.o w5 (LKC.o _ _ hm)));have fV:=hide eG;clear eG hm))
  all_goals (go_wp2_with fail;go_meet;first|exact ⟨_,rfl,rfl,(qo (W1:=w1) fV.o _ _).1,(qo (W1:=w1) fV.o _ _).2⟩|exact ⟨_,rfl,rfl,(qp (W1:=w1) fV.o hrw.o _ _ _ _).1,(qp (W1:=w1) fV.o hrw.o _ _ _ _).2⟩)
 case rest=>
  obtain ⟨g,rfl,rfl,HRG,Vc⟩:=hcut;clear hc0 INF LK
  have hgb:g≠b:=by
   obtain ⟨v,st',bad,h1,_⟩:=(P1.o.keep Vc.o).at_;obtain ⟨p,_,hr⟩:=h1.row;exact HRG.o.ne_ hr (by decide)
  have t2:=aM.of_below (b:=b) Vc.o (br P1.o.lt.2 (Nat.le_of_lt P1.o.lt.1));have P2:=hide (P1.o.keep Vc.o);have T2:=hide (T1.o.trans t2);have ia:=hide (t2.row fU.o (by decide) (by omega));have Rx2:=HRG;clear t2 HRG Vc
  cases ok with
  |true=>
   have HXE:=hide (HV.o.1 rfl);have HXL:=hide (RJ HXE.o);clear HV;obtain ⟨dJ,eN,ei,ek,dF,dG,eA,eB,cj⟩:=ak ia.o;go_wp2_with fail;refine QI (cM B b kd a0 xa xb xc xd nm vl (.slice A ks.length cap) [] o M wc P2.o) T2 ia (by decide) (by omega) Rx2 (by decide) (by omega) fun w3 o3 Q3 P3 T3 iR Rx3=>?_;clear dJ eN ei ek dF dG eA eB cj;obtain ⟨dJ,eN,ei,ek,dF,dG,eA,eB,cj⟩:=ak iR.o;have C4:=hide (fx B b kd a0 xa xb xc xd nm vl A ks.length cap 2 2 o3 M w3 P3.o (by omega));unfold aB at C4
   obtain ⟨o4,q4⟩:∃z_,iA o3 ks.length 2 2=z_:=⟨_,rfl⟩
   rw [q4] at C4
   have kE:iA (nX o (decide (nm=[])) (decide (vl=[])) (decide (xa=0)) (decide (xb=0)) (decide (xc=0)) (decide (xd=0)) []) ks.length 2 2=if bJ (.mk kd a0 nm vl xa xb xc xd ks) false false false false=true∧2≤(ks.length:Int)∧(ks.length:Int)≤2 then o else none:=mY o [] 2 2
   rw [Q3.o,q4] at kE;have kX:=hide kE;clear kE q4
   cases o4 with
   |none=>
    go_wp2_with fail;refine (C4.o).mono ?_;rintro e w4 ⟨rfl,p4,t4⟩;have P4:=hide p4;have T4:=hide (T3.o.trans t4);have jJ:=hide (t4.row iR.o (by decide) (by omega));have Rx4:=hide (t4.row Rx3.o (by decide) (by omega));clear p4 t4 C4;clear dJ eN ei ek dF dG eA eB cj
    have HP:=ae (cz w4 B b rr (M+1500+2000*ax ks)) (by
     rw [←vU.o,BB o (.mk kd a0 nm vl xa xb xc xd ks) (aq aD aQ ks) m0 m1 m2 m3 HXE.o,show o.bind _=none from iQ kX.o (fun h=>⟨h.1,by have:=h.2;rw [a_] at this;omega⟩)]
     exact P4.o.mono (by omega))
    go_wp2;go_end0;exact ⟨rfl,HP.o,T4.o⟩
   |some st=>
    obtain ⟨⟨hc1,hc2,hc3⟩,ho⟩:=iP kX.o;have uu:=hide (show ks.length=2 by omega)
    have hi0:0<ks.length:=by omega
    have hi1:1<ks.length:=by omega
    have XL:(1:Int)<(ks.length:Int):=by omega
    have hct:=vr ks hi1;obtain ⟨bb,bc,lR,rX,rY,qQ,rZ,r_,se,sf,si,eX,eZ,I7,sj⟩:=oN.o.kid (i:=0) hi0;subst I7
    obtain ⟨x0,hx0⟩:∃x,ks[0]'hi0=x:=⟨_,rfl⟩
    rw [hx0] at sj;have K0:=hide (fun (W:World) (hb:Below B w W) (hz:w.heap.size≤W.heap.size)=>show (W.cell? ⟨bb,bc,none⟩=some (.int .i64 lR)∧W.cell? ⟨bb,bc+1,none⟩=some (.int .i64 rX)∧W.cell? ⟨bb,bc+2,none⟩=some (.string (ag rY))∧W.cell? ⟨bb,bc+3,none⟩=some (.string (ag qQ))∧W.cell? ⟨bb,bc+4,none⟩=some (.int .i64 rZ)∧W.cell? ⟨bb,bc+5,none⟩=some (.int .i64 r_)∧W.cell? ⟨bb,bc+6,none⟩=some (.int .i64 se)∧W.cell? ⟨bb,bc+7,none⟩=some (.int .i64 sf)∧W.cell? ⟨bb,bc+8,none⟩=some (.slice si eX eZ))∧cK (fun c=>B≤c) W x0 [Value.int .i64 lR,.int .i64 rX,.string (ag rY),.string (ag qQ),.int .i64 rZ,.int .i64 r_,.int .i64 se,.int .i64 sf,.slice si eX eZ] from sj W hb hz)
    have sk:Hid (qs x0):=by rw [←hx0];exact oO.o 0 hi0
    have I8:aC x0≤ax ks:=by rw [←hx0];exact ez (cI _)
    have xf:=hide hx0;clear hx0 sj;obtain ⟨bk1,of1,Rk,Rl,Rm,Rn,Ro,Rq,Rs,Rt,Ru,pP,pQ,Xh,Mb⟩:=oN.o.kid (i:=1) hi1
    obtain ⟨rfl,rfl⟩:bb=bk1∧bc=of1:=by injection Xh with e;injection e with e1 e2;exact ⟨e1,e2⟩
    clear Xh
    obtain ⟨x1,hx1⟩:∃x,ks[1]'hi1=x:=⟨_,rfl⟩
    rw [hx1] at Mb;have K1:=hide (fun (W:World) (hb:Below B w W) (hz:w.heap.size≤W.heap.size)=>show (W.cell? ⟨bb,bc+9,none⟩=some (.int .i64 Rk)∧W.cell? ⟨bb,bc+10,none⟩=some (.int .i64 Rl)∧W.cell? ⟨bb,bc+11,none⟩=some (.string (ag Rm))∧W.cell? ⟨bb,bc+12,none⟩=some (.string (ag Rn))∧W.cell? ⟨bb,bc+13,none⟩=some (.int .i64 Ro)∧W.cell? ⟨bb,bc+14,none⟩=some (.int .i64 Rq)∧W.cell? ⟨bb,bc+15,none⟩=some (.int .i64 Rs)∧W.cell? ⟨bb,bc+16,none⟩=some (.int .i64 Rt)∧W.cell? ⟨bb,bc+17,none⟩=some (.slice Ru pP pQ))∧cK (fun c=>B≤c) W x1 [Value.int .i64 Rk,.int .i64 Rl,.string (ag Rm),.string (ag Rn),.int .i64 Ro,.int .i64 Rq,.int .i64 Rs,.int .i64 Rt,.slice Ru pP pQ] from Mb W hb hz)
    have Zv:Hid (qs x1):=by rw [←hx1];exact oO.o 1 hi1
    have aby:aC x1≤ax ks:=by rw [←hx1];exact ez (cI _)
    have Ed:=hide hx1;clear hx1 Mb;rw [xf.o,Ed.o] at hct;have nu:=hide (And.intro hc1 ho);clear hc1 hc2 hc3 ho;go_wp2_with fail;refine (C4.o).mono ?_;rintro e w4 ⟨rfl,p4,t4⟩;have P4:=hide p4;have T4:=hide (T3.o.trans t4);have jJ:=hide (t4.row iR.o (by decide) (by omega));have Rx4:=hide (t4.row Rx3.o (by decide) (by omega));clear p4 t4 C4;clear dJ eN ei ek dF dG eA eB cj;go_upto_region 5 with fail;have S5:=hide (fun (W':World) (ht:aM B b w W') (hr:Row W' w.heap.size 25 #[.int .i64 kd,.int .i64 a0,.string (ag nm),.string (ag vl),.int .i64 xa,.int .i64 xb,.int .i64 xc,.int .i64 xd,.slice (some ⟨bb,bc,none⟩) ks.length cap]) (hx:Row W' g 100 #[.string (ag m0),.int .i64 m1,.int .i64 m2,.int .i64 m3])=>show W'.cell? ⟨w.heap.size,8,none⟩=some (.slice (some ⟨bb,bc,none⟩) ks.length cap)∧W'.cell? ⟨g,2,none⟩=some (.int .i64 m2)∧W'.cell? ⟨bb,bc,none⟩=some (.int .i64 lR)∧W'.cell? ⟨bb,bc+1,none⟩=some (.int .i64 rX)∧W'.cell? ⟨bb,bc+2,none⟩=some (.string (ag rY))∧W'.cell? ⟨bb,bc+3,none⟩=some (.string (ag qQ))∧W'.cell? ⟨bb,bc+4,none⟩=some (.int .i64 rZ)∧W'.cell? ⟨bb,bc+5,none⟩=some (.int .i64 r_)∧W'.cell? ⟨bb,bc+6,none⟩=some (.int .i64 se)∧W'.cell? ⟨bb,bc+7,none⟩=some (.int .i64 sf)∧W'.cell? ⟨bb,bc+8,none⟩=some (.slice si eX eZ) from ⟨hr.cell 8,hx.cell 2,(K0.o W' ht.below ht.size).1⟩);obtain ⟨e0,e1,e2,e3,e4,e5,e6,e7,e8,e9,e10⟩:=S5.o w4 T4.o jJ.o Rx4.o;have Gy:=ae (Calls Tryz.prog 45 #[.pointer (some ⟨b,0,none⟩),.agg #[.int .i64 lR,.int .i64 rX,.string (ag rY),.string (ag qQ),.int .i64 rZ,.int .i64 r_,.int .i64 se,.int .i64 sf,.slice si eX eZ],.int .i64 m2] w4.drew (jn B b w4.drew ((some st).bind (bC aD aQ x0 m2)) (M+2000*aC x0))) (sk.o B b m2 _ (some st) _ _ (P4.o.keep (af _ _).drew) (K0.o w4.drew T4.o.drew.below T4.o.drew.size).2 HXL.o.2.1 HXL.o.2.2.1 (by omega))
    obtain ⟨o5,q5⟩:∃z_,(some st).bind (bC aD aQ x0 m2)=z_:=⟨_,rfl⟩
    rw [q5] at Gy;have Q5:=hide q5;clear q5
    go_region_held3 (fun W'=>W'.cell? ⟨w.heap.size,8,none⟩=some (.slice (some ⟨bb,bc,none⟩) ks.length cap)∧W'.cell? ⟨g,2,none⟩=some (.int .i64 m2)∧W'.cell? ⟨bb,bc,none⟩=some (.int .i64 lR)∧W'.cell? ⟨bb,bc+1,none⟩=some (.int .i64 rX)∧W'.cell? ⟨bb,bc+2,none⟩=some (.string (ag rY))∧W'.cell? ⟨bb,bc+3,none⟩=some (.string (ag qQ))∧W'.cell? ⟨bb,bc+4,none⟩=some (.int .i64 rZ)∧W'.cell? ⟨bb,bc+5,none⟩=some (.int .i64 r_)∧W'.cell? ⟨bb,bc+6,none⟩=some (.int .i64 se)∧W'.cell? ⟨bb,bc+7,none⟩=some (.int .i64 sf)∧W'.cell? ⟨bb,bc+8,none⟩=some (.slice si eX eZ)) (go_keep) ((go_at_call 45;(refine Gy.o.mono ?_;rintro e w5 ⟨rfl,p5,t5⟩;have oM:=t5.row jJ.o.drew (by decide) hne;have hx5:=t5.row Rx4.o.drew (by decide) hgb;obtain ⟨g0,g1,g2,g3,g4,g5,g6,g7,g8,g9,g10⟩:=S5.o w5 (T4.o.drew.trans t5) oM hx5;have P5:=hide p5;have T5:=hide (T4.o.drew.trans t5);have oP:=hide oM;have Rx5:=hide hx5;clear p5 t5 oM hx5)))
    clear e0 e1 e2 e3 e4 e5 e6 e7 e8 e9 e10 g0 g1 g2 g3 g4 g5 g6 g7 g8 g9 g10;have cx0:w5.cell? ⟨g,0,none⟩=some (.string (ag m0)):=Rx5.o.cell 0;have CW:=ae (Calls Tryz.prog 73 #[.pointer (some ⟨b,0,none⟩),.slice (some ⟨w5.heap.size,0,none⟩) 3 3] (w5.alloc (.cells #[.string {data:=#[32]},.string (ag m0),.string {data:=#[32]}] 9)) (jn B b (w5.alloc (.cells #[.string {data:=#[32]},.string (ag m0),.string {data:=#[32]}] 9)) (o5.map (fB · [[32],m0,[32]])) ((M+2000*aC x0)+jD [[32],m0,[32]]))) (u_ B b [[32],m0,[32]] w5.heap.size 3 _ _ _ (P5.o.alloc _) (Row.new _ _ _) (by have:=HXL.o.1;simp only [jD,aj,aK];omega) (by simp));have Bx:B≤w5.heap.size:=br P5.o.lt.2 (Nat.le_of_lt P5.o.lt.1);have C6:=hide (CW.o.mono fun e w' hx=>show jn B b w5 (o5.map (fB · [[32],m0,[32]])) ((M+2000*aC x0)+20) e w' from ⟨hx.1,hx.2.1.mono (by have:=HXL.o.1;simp only [jD,aj,aK];omega),((aM.refl B b w5).alloc Bx _).trans hx.2.2⟩);clear CW Bx
    obtain ⟨o6,q6⟩:∃z_,o5.map (fB · [[32],m0,[32]])=z_:=⟨_,rfl⟩
    rw [q6] at C6;have Q6:=hide q6;clear q6;go_wp2_with fail;refine (C6.o).mono ?_;rintro e w6 ⟨rfl,p6,t6⟩;have P6:=hide p6;have T6:=hide (T5.o.trans t6);have oI:=hide (t6.row oP.o (by decide) (by omega));have Rx6:=hide (t6.row Rx5.o (by decide) (by omega));clear p6 t6 C6;clear cx0;go_upto_region 7 with fail;have S7:=hide (fun (W':World) (ht:aM B b w W') (hr:Row W' w.heap.size 25 #[.int .i64 kd,.int .i64 a0,.string (ag nm),.string (ag vl),.int .i64 xa,.int .i64 xb,.int .i64 xc,.int .i64 xd,.slice (some ⟨bb,bc,none⟩) ks.length cap]) (hx:Row W' g 100 #[.string (ag m0),.int .i64 m1,.int .i64 m2,.int .i64 m3])=>show W'.cell? ⟨w.heap.size,8,none⟩=some (.slice (some ⟨bb,bc,none⟩) ks.length cap)∧W'.cell? ⟨g,3,none⟩=some (.int .i64 m3)∧W'.cell? ⟨bb,bc+9,none⟩=some (.int .i64 Rk)∧W'.cell? ⟨bb,bc+10,none⟩=some (.int .i64 Rl)∧W'.cell? ⟨bb,bc+11,none⟩=some (.string (ag Rm))∧W'.cell? ⟨bb,bc+12,none⟩=some (.string (ag Rn))∧W'.cell? ⟨bb,bc+13,none⟩=some (.int .i64 Ro)∧W'.cell? ⟨bb,bc+14,none⟩=some (.int .i64 Rq)∧W'.cell? ⟨bb,bc+15,none⟩=some (.int .i64 Rs)∧W'.cell? ⟨bb,bc+16,none⟩=some (.int .i64 Rt)∧W'.cell? ⟨bb,bc+17,none⟩=some (.slice Ru pP pQ) from ⟨hr.cell 8,hx.cell 3,(K1.o W' ht.below ht.size).1⟩);obtain ⟨e0,e1,e2,e3,e4,e5,e6,e7,e8,e9,e10⟩:=S7.o w6 T6.o oI.o Rx6.o;have Gy:=ae (Calls Tryz.prog 45 #[.pointer (some ⟨b,0,none⟩),.agg #[.int .i64 Rk,.int .i64 Rl,.string (ag Rm),.string (ag Rn),.int .i64 Ro,.int .i64 Rq,.int .i64 Rs,.int .i64 Rt,.slice Ru pP pQ],.int .i64 m3] w6.drew (jn B b w6.drew (o6.bind (bC aD aQ x1 m3)) (((M+2000*aC x0)+20)+2000*aC x1))) (Zv.o B b m3 _ o6 _ _ (P6.o.keep (af _ _).drew) (K1.o w6.drew T6.o.drew.below T6.o.drew.size).2 HXL.o.2.2.2.1 HXL.o.2.2.2.2 (by omega))
    obtain ⟨o7,q7⟩:∃z_,o6.bind (bC aD aQ x1 m3)=z_:=⟨_,rfl⟩
    rw [q7] at Gy;have Q7:=hide q7;clear q7
    go_region_held3 (fun W'=>W'.cell? ⟨w.heap.size,8,none⟩=some (.slice (some ⟨bb,bc,none⟩) ks.length cap)∧W'.cell? ⟨g,3,none⟩=some (.int .i64 m3)∧W'.cell? ⟨bb,bc+9,none⟩=some (.int .i64 Rk)∧W'.cell? ⟨bb,bc+10,none⟩=some (.int .i64 Rl)∧W'.cell? ⟨bb,bc+11,none⟩=some (.string (ag Rm))∧W'.cell? ⟨bb,bc+12,none⟩=some (.string (ag Rn))∧W'.cell? ⟨bb,bc+13,none⟩=some (.int .i64 Ro)∧W'.cell? ⟨bb,bc+14,none⟩=some (.int .i64 Rq)∧W'.cell? ⟨bb,bc+15,none⟩=some (.int .i64 Rs)∧W'.cell? ⟨bb,bc+16,none⟩=some (.int .i64 Rt)∧W'.cell? ⟨bb,bc+17,none⟩=some (.slice Ru pP pQ)) (go_keep) ((go_at_call 45;(refine Gy.o.mono ?_;rintro e w7 ⟨rfl,p7,t7⟩;have hr7:=t7.row oI.o.drew (by decide) hne;have hx7:=t7.row Rx6.o.drew (by decide) hgb;obtain ⟨g0,g1,g2,g3,g4,g5,g6,g7,g8,g9,g10⟩:=S7.o w7 (T6.o.drew.trans t7) hr7 hx7;have P7:=hide p7;have T7:=hide (T6.o.drew.trans t7);have Dx:=hide hr7;have Rx7:=hide hx7;clear p7 t7 hr7 hx7)))
    clear e0 e1 e2 e3 e4 e5 e6 e7 e8 e9 e10 g0 g1 g2 g3 g4 g5 g6 g7 g8 g9 g10
    have HP:=ae (cz w7 B b rr (M+1500+2000*ax ks)) (by
     have hp:=P7.o;rw [←Q7.o,←Q6.o,←Q5.o,zi] at hp;rw [←vU.o,nu.o.2,BB _ (.mk kd a0 nm vl xa xb xc xd ks) (aq aD aQ ks) m0 m1 m2 m3 HXE.o,Option.bind_some,if_pos ⟨nu.o.1,by rw [a_];exact uu.o⟩,jk ks hi0,xf.o];simp only [jk ks hi1,Ed.o]
     exact hp.mono (by omega))
    go_wp2;go_end0;exact ⟨rfl,HP.o,T7.o⟩
  |false=>
   have HXN:=hide (HV.o.2 rfl);clear HV;clear Rx2 hgb;have RO:w.heap.size<wc.heap.size:=ia.o.lt;have RQ:wc.cell? ⟨w.heap.size,0,none⟩=some (.int .i64 kd):=ia.o.cell 0;go_upto_region 8 with fail;have FA:=hide (fun (W W':World) (hb:Below W.heap.size W W') (hz:w.heap.size<W.heap.size) (he:W.cell? ⟨w.heap.size,0,none⟩=some (.int .i64 kd))=>show W'.cell? ⟨w.heap.size,0,none⟩=some (.int .i64 kd) from (hb.cell (p:=⟨w.heap.size,0,none⟩) hz).trans he)
   go_region_held3 (fun w'=>w'.cell? ⟨w.heap.size,0,none⟩=some (.int .i64 kd)) (go_keep) (first|(go_at_call 108;((with_reducible refine (EV0.o _).mono ?_);rintro e y3 ⟨rfl,KE,yb3⟩;have hs0:=FA.o _ _ yb3 RO RQ;have Oq:=hide KE;have mI:=hide yb3;have wZ:=yb3.size;clear KE yb3))|(go_at_call 70;(refine (WD0.o _ _ Oq.o).mono ?_;rintro e w3 ⟨rfl,hb3⟩;have hs1:=FA.o _ _ hb3 (cJ RO wZ) hs0;have nk:=hide (mQ (W1:=wc) mI.o hb3);clear hb3)))
   have t3:=aM.of_below (b:=b) nk.o (br P2.o.lt.2 (Nat.le_of_lt P2.o.lt.1));have P3:=hide (P2.o.keep nk.o);have T3:=hide (T2.o.trans t3);have iR:=hide (t3.row ia.o (by decide) (by omega));clear t3 RO RQ hs0 hs1 wZ Oq mI FA
   cases ok0 with
   |true=>
    have HQ0:=hide (zZ.o.1 rfl);have hsl:=Ny HQ0.o;clear zZ;obtain ⟨dJ,eN,ei,ek,dF,dG,eA,eB,cj⟩:=ak iR.o;have C4:=hide (oa B b kd a0 xa xb xc xd nm vl ks A cap s0 0 hsl (by decide) (by decide) o M w3 P3.o (hk2.o.keep T3.o.below T3.o.size) wW.o oJ.o Es.o TD.o);unfold aB at C4;go_wp2_with fail;refine C4.o.mono ?_;rintro e w4 ⟨rfl,p4,t4⟩;have HP:=ae (cz w4 B b rr (M+1500+2000*ax ks)) (by rw [←vU.o,xt o (.mk kd a0 nm vl xa xb xc xd ks) _ HXN.o];rw [show iq (Nd.kind (.mk kd a0 nm vl xa xb xc xd ks))=some s0 from HQ0.o];exact p4);have HT:=hide (T3.o.trans t4);clear dJ eN ei ek dF dG eA eB cj;clear p4 t4 C4;go_wp2;go_end0;exact ⟨rfl,HP.o,HT.o⟩
   |false=>
    have HQ0:=hide (zZ.o.2 rfl);clear zZ;have RO:w.heap.size<w3.heap.size:=iR.o.lt;have RQ:w3.cell? ⟨w.heap.size,0,none⟩=some (.int .i64 kd):=iR.o.cell 0;go_upto_region 11 with fail;have FA:=hide (fun (W W':World) (hb:Below W.heap.size W W') (hz:w.heap.size<W.heap.size) (he:W.cell? ⟨w.heap.size,0,none⟩=some (.int .i64 kd))=>show W'.cell? ⟨w.heap.size,0,none⟩=some (.int .i64 kd) from (hb.cell (p:=⟨w.heap.size,0,none⟩) hz).trans he)
    go_region_held3 (fun w'=>w'.cell? ⟨w.heap.size,0,none⟩=some (.int .i64 kd)) (go_keep) (first|(go_at_call 71;((with_reducible refine (EV1.o _).mono ?_);rintro e y4 ⟨rfl,KE,yb4⟩;have hs0:=FA.o _ _ yb4 RO RQ;have Oq:=hide KE;have mI:=hide yb4;have wZ:=yb4.size;clear KE yb4))|(go_at_call 70;(refine (WD1.o _ _ Oq.o).mono ?_;rintro e w4 ⟨rfl,hb4⟩;have hs1:=FA.o _ _ hb4 (cJ RO wZ) hs0;have zN:=hide (mQ (W1:=w3) mI.o hb4);clear hb4)))
    have t4:=aM.of_below (b:=b) zN.o (br P3.o.lt.2 (Nat.le_of_lt P3.o.lt.1));have P4:=hide (P3.o.keep zN.o);have T4:=hide (T3.o.trans t4);have jJ:=hide (t4.row iR.o (by decide) (by omega));clear t4 RO RQ hs0 hs1 wZ Oq mI FA
    cases ok1 with
    |true=>
     have HQ1:=hide (nJ.o.1 rfl);have hsl:=V2 HQ1.o;clear nJ;obtain ⟨dJ,eN,ei,ek,dF,dG,eA,eB,cj⟩:=ak jJ.o;have C5:=hide (oa B b kd a0 xa xb xc xd nm vl ks A cap s1 0 hsl (by decide) (by decide) o M w4 P4.o (hk2.o.keep T4.o.below T4.o.size) wW.o oJ.o Es.o TD.o);unfold aB at C5;go_wp2_with fail;refine C5.o.mono ?_;rintro e w5 ⟨rfl,p5,t5⟩;have HP:=ae (cz w5 B b rr (M+1500+2000*ax ks)) (by rw [←vU.o,xt o (.mk kd a0 nm vl xa xb xc xd ks) _ HXN.o];rw [show iq (Nd.kind (.mk kd a0 nm vl xa xb xc xd ks))=none from HQ0.o];dsimp only;rw [show oH (Nd.kind (.mk kd a0 nm vl xa xb xc xd ks))=some s1 from HQ1.o];exact p5);have HT:=hide (T4.o.trans t5);clear dJ eN ei ek dF dG eA eB cj;clear p5 t5 C5;go_wp2;go_end0;exact ⟨rfl,HP.o,HT.o⟩
    |false=>
     have HQ1:=hide (nJ.o.2 rfl);clear nJ;have RO:w.heap.size<w4.heap.size:=jJ.o.lt;have RQ:w4.cell? ⟨w.heap.size,0,none⟩=some (.int .i64 kd):=jJ.o.cell 0;go_upto_region 14 with fail;have FA:=hide (fun (W W':World) (hb:Below W.heap.size W W') (hz:w.heap.size<W.heap.size) (he:W.cell? ⟨w.heap.size,0,none⟩=some (.int .i64 kd))=>show W'.cell? ⟨w.heap.size,0,none⟩=some (.int .i64 kd) from (hb.cell (p:=⟨w.heap.size,0,none⟩) hz).trans he)
     go_region_held3 (fun w'=>w'.cell? ⟨w.heap.size,0,none⟩=some (.int .i64 kd)) (go_keep) (first|(go_at_call 110;((with_reducible refine (EV2.o _).mono ?_);rintro e y5 ⟨rfl,KE,yb5⟩;have hs0:=FA.o _ _ yb5 RO RQ;have Oq:=hide KE;have mI:=hide yb5;have wZ:=yb5.size;clear KE yb5))|(go_at_call 70;(refine (WD2.o _ _ Oq.o).mono ?_;rintro e w5 ⟨rfl,eG⟩;have hs1:=FA.o _ _ eG (cJ RO wZ) hs0;have mI:=hide (mQ (W1:=w4) mI.o eG);clear eG)))
     have t5:=aM.of_below (b:=b) mI.o (br P4.o.lt.2 (Nat.le_of_lt P4.o.lt.1));have P5:=hide (P4.o.keep mI.o);have T5:=hide (T4.o.trans t5);have oP:=hide (t5.row jJ.o (by decide) (by omega));clear t5 RO RQ hs0 hs1 wZ Oq mI FA
     cases ok2 with
     |true=>
      have HQ2:=hide (nE.o.1 rfl);have hsl:=V3 HQ2.o;clear nE;obtain ⟨dJ,eN,ei,ek,dF,dG,eA,eB,cj⟩:=ak oP.o;have C6:=hide (Ja B b kd a0 xa xb xc xd nm vl ks A cap s2 hsl o M w5 P5.o (hk2.o.keep T5.o.below T5.o.size) wW.o oJ.o Es.o TD.o);unfold aB at C6;go_wp2_with fail;refine C6.o.mono ?_;rintro e w6 ⟨rfl,p6,t6⟩;have HP:=ae (cz w6 B b rr (M+1500+2000*ax ks)) (by rw [←vU.o,xt o (.mk kd a0 nm vl xa xb xc xd ks) _ HXN.o];rw [show iq (Nd.kind (.mk kd a0 nm vl xa xb xc xd ks))=none from HQ0.o];dsimp only;rw [show oH (Nd.kind (.mk kd a0 nm vl xa xb xc xd ks))=none from HQ1.o];dsimp only;rw [show ET (Nd.kind (.mk kd a0 nm vl xa xb xc xd ks))=some s2 from HQ2.o];exact p6);have HT:=hide (T5.o.trans t6);clear dJ eN ei ek dF dG eA eB cj;clear p6 t6 C6;go_wp2;go_end0;exact ⟨rfl,HP.o,HT.o⟩
     |false=>
      have HQ2:=hide (nE.o.2 rfl);clear nE;have Wx:=ae (kd≠46) (fun e=>by have:=HXN.o;rw [e] at this;cases this);have HRE:=ae (rr=if (45≤kd∧kd≤47)∨kd=44∨kd=42 then o.bind (fS aD (.mk kd a0 nm vl xa xb xc xd ks) (aq aD aQ ks)) else o.bind (bn aD aQ (.mk kd a0 nm vl xa xb xc xd ks) (aq aD aQ ks))) (by rw [←vU.o,xt o (.mk kd a0 nm vl xa xb xc xd ks) _ HXN.o];rw [show iq (Nd.kind (.mk kd a0 nm vl xa xb xc xd ks))=none from HQ0.o];dsimp only;rw [show oH (Nd.kind (.mk kd a0 nm vl xa xb xc xd ks))=none from HQ1.o];dsimp only;rw [show ET (Nd.kind (.mk kd a0 nm vl xa xb xc xd ks))=none from HQ2.o];dsimp only;rfl);go_upto_region 17 with fail;have RQ:w5.cell? ⟨w.heap.size,0,none⟩=some (.int .i64 kd):=oP.o.cell 0;by_cases h4:kd=45∨kd=47∨kd=44∨kd=42
      ·skip;have H4:=hide h4;have hEq:=ae (rr=_) (HRE.o.trans (if_pos (by omega)));clear HRE
       rcases h4 with rfl|rfl|rfl|rfl
       all_goals
        clear RQ;obtain ⟨dJ,eN,ei,ek,dF,dG,eA,eB,cj⟩:=ak oP.o;have C6:=hide (Au B b _ a0 xa xb xc xd nm vl ks A cap H4.o hc2.o hf2.o o M w5 P5.o (hk2.o.keep T5.o.below T5.o.size) wW.o oJ.o Es.o TD.o);unfold aB at C6;go_wp2_with fail;refine C6.o.mono ?_;rintro e w6 ⟨rfl,p6,t6⟩;have HP:=ae (cz w6 B b rr (M+1500+2000*ax ks)) (by rw [hEq.o];exact p6);have HT:=hide (T5.o.trans t6);clear p6 t6 C6 dJ eN ei ek dF dG eA eB cj;go_wp2;go_end0;exact ⟨rfl,HP.o,HT.o⟩
      ·skip;have hEq:=ae (rr=_) (HRE.o.trans (if_neg (by have:=Wx.o;omega)));clear HRE;have n44:(kd==44)=false:=aP.2 (by omega);have n42:(kd==42)=false:=aP.2 (by omega)
       have n47:¬(45≤kd∧kd≤47):=by have:=Wx.o;omega
       have ac2:=hide n47;clear h4 RQ n47;by_cases h1:45≤kd
       all_goals
        first|(have h2:¬kd≤47:=(fun h=>ac2.o ⟨h1,h⟩))|skip
        obtain ⟨dJ,eN,ei,ek,dF,dG,eA,eB,cj⟩:=ak oP.o;have C6:=hide (F6 B b kd a0 xa xb xc xd nm vl ks A cap QD.o o M w5 P5.o (hk2.o.keep T5.o.below T5.o.size) wW.o oJ.o Es.o TD.o);unfold aB at C6;go_wp2_with fail;refine C6.o.mono ?_;rintro e w6 ⟨rfl,p6,t6⟩;have HP:=ae (cz w6 B b rr (M+1500+2000*ax ks)) (by rw [hEq.o];exact p6);have HT:=hide (T5.o.trans t6);clear n44 n42 dJ eN ei ek dF dG eA eB cj;clear p6 t6 C6;go_wp2;go_end0;exact ⟨rfl,HP.o,HT.o⟩
theorem cz.KQ {W:World} {B b:Nat} {o:Option St} {M:Nat} (h:cz W B b o M):(∃x,W.cell? ⟨b,3,none⟩=some (.bool x))∧W.frozen? ⟨b,3,none⟩=false∧W.shape? b=some (79,4)∧
 cz (W.setCell ⟨b,3,none⟩ (.bool true)) B b none M∧aM B b W (W.setCell ⟨b,3,none⟩ (.bool true)):=by
 cases o with
 |none=>
  obtain ⟨h1,h2,h3,h4,h5⟩:=h.kO;exact ⟨⟨_,h1⟩,h2,h3,h4,h5⟩
 |some st=>
  obtain ⟨h1,h2,h3,h4⟩:=h.dC;exact ⟨⟨_,h1⟩,h2,h3,(h4 true).1,(h4 true).2⟩
theorem BC (o:Option St) (n:Nd) (fs:List Pw) (need:Int) (h:decide (10≤iz aD n)≠decide (10≤need)):o.bind (oq aD aQ n fs need)=none:=by
 cases o with
 |none=>rfl
 |some st=>exact if_pos h
theorem zw (o:Option St) (n:Nd) (fs:List Pw) (need:Int) (h:decide (10≤iz aD n)=decide (10≤need)) (h2:need≤iz aD n):o.bind (oq aD aQ n fs need)=o.bind (dZ aD aQ n fs):=by
 cases o with
 |none=>rfl
 |some st=>exact (if_neg (fun e=>e h)).trans (if_pos h2)
theorem BD (o:Option St) (n:Nd) (fs:List Pw) (need:Int) (h:decide (10≤iz aD n)=decide (10≤need)) (h2:iz aD n<need):o.bind (oq aD aQ n fs need)=((o.map (bD · [40])).bind (dZ aD aQ n fs)).map (bD · [41]):=by
 cases o with
 |none=>rfl
 |some st=>
  refine ((if_neg (fun e=>e h)).trans (if_neg (by omega))).trans ?_;show Option.bind (dZ aD aQ n fs (bD st [40])) _=Option.map _ (dZ aD aQ n fs (bD st [40]))
  cases dZ aD aQ n fs (bD st [40])<;>rfl
theorem Nz (B b:Nat) (kd a0 xa xb xc xd:Int) (nm vl:List UInt8) (ks:List Nd) (A:Option Addr) (cap:Nat) (need:Int) (h0:0≤need) (tQ:need≤13) (Jo:ks.length≤400) (hcap:ks.length≤cap) (KM:∀i (hi:i<ks.length),Nj ks[i]) (o:Option St) (M:Nat) (w:World) (h:cz w B b o M) (hk:sJ B w ks A) (gS:∀i (hi:i<ks.length),qs ks[i]) (hft:iJ kd xa xb xc xd nm vl) (hn:ks.length≤1000000) (hM:M+2000+2000*ax ks≤1099511627776):
 Calls Tryz.prog 45 #[.pointer (some ⟨b,0,none⟩),.agg (aB kd a0 nm vl xa xb xc xd (.slice A ks.length cap)).toArray,.int .i64 need] w (jn B b w (o.bind (oq aD aQ (.mk kd a0 nm vl xa xb xc xd ks) (aq aD aQ ks) need)) (M+2000+2000*ax ks)):=by
 have HL:=ae (iz aD (.mk kd a0 nm vl xa xb xc xd ks)=Gv kd vl) (CV _);have hk2:=hide hk;have wW:=hide gS;have oJ:=hide hft;have TD:=hide hM;have Es:=hide hn;have hc2:=hide hcap;have hf2:=hide KM;have QD:=hide Jo;clear hcap KM Jo
 obtain ⟨rs,hrs⟩:∃z_,(o.bind (oq aD aQ (.mk kd a0 nm vl xa xb xc xd ks) (aq aD aQ ks) need))=z_:=⟨_,rfl⟩
 rw [hrs];have HRS:=hide hrs;clear hrs;have hlt:=h.lt.1;have hge:=h.lt.2;have oN:=hide hk
 obtain ⟨w1,hw1⟩:∃w1,w1=w.alloc (.cells (aB kd a0 nm vl xa xb xc xd (.slice A ks.length cap)).toArray 25):=⟨_,rfl⟩
 have hb1:Below w.heap.size w w1:=by rw [hw1];exact (af _ w).alloc (aa _) _
 have P1:=hide (h.keep hb1);have T1:=hide (aM.of_below (b:=b) hb1 (show B≤w.heap.size by omega));have fU:=ae (Row w1 w.heap.size 25 (aB kd a0 nm vl xa xb xc xd (.slice A ks.length cap)).toArray) (by rw [hw1];exact Row.new _ _ _);have cR:=hide hw1.symm;have oO:=hide gS;have pM:=hide hft;clear h hk hw1 hb1 gS hft;unfold aB at cR fU⊢;go_enter Tryz.func45,Tryz.ntmps45;go_upto_region 1 with fail;rw [cR.o]
 have hne:w.heap.size≠b:=by omega
 obtain ⟨dJ,eN,ei,ek,dF,dG,eA,eB,cj⟩:=ak fU.o
 obtain ⟨lv,hlv⟩:∃z_,Gv kd vl=z_:=⟨_,rfl⟩
 have LV:=ae (Calls Tryz.prog 44 #[.agg #[.int .i64 kd,.int .i64 a0,.string (ag nm),.string (ag vl),.int .i64 xa,.int .i64 xb,.int .i64 xc,.int .i64 xd,.slice A ks.length cap]] w1 fun e w'=>e=.returned (.int .i64 (Gv kd vl))∧Below w1.heap.size w1 w') (qq kd a0 xa xb xc xd nm vl (.slice A ks.length cap) w1 oJ.o.kd (by have:=oJ.o.vl;omega) P1.o.gl);rw [hlv] at LV HL;clear hlv;go_wp2_with fail;refine LV.o.mono ?_;rintro e w2 ⟨rfl,hb2⟩;clear dJ eN ei ek dF dG eA eB cj;have t2:=aM.of_below (b:=b) hb2 (br P1.o.lt.2 (Nat.le_of_lt P1.o.lt.1));have P2:=hide (P1.o.keep hb2);have T2:=hide (T1.o.trans t2);have ia:=hide (t2.row fU.o (by decide) (by omega));clear t2 hb2 LV;by_cases a1:10≤lv
 ·have d1:decide (10≤lv)=true:=by simpa using a1
  by_cases a2:10≤need
  ·have d2:decide (10≤need)=true:=by simpa using a2
   by_cases a3:need≤lv
   ·skip;have HD:=ae (decide (10≤iz aD (.mk kd a0 nm vl xa xb xc xd ks))=decide (10≤need)∧need≤iz aD (.mk kd a0 nm vl xa xb xc xd ks)) (by rw [HL.o];exact ⟨by simp only [decide_eq_decide];omega,by omega⟩);obtain ⟨dJ,eN,ei,ek,dF,dG,eA,eB,cj⟩:=ak ia.o;have C3:=hide (oc B b kd a0 xa xb xc xd nm vl ks A cap oJ.o.kd QD.o hc2.o hf2.o o M w2 P2.o (hk2.o.keep T2.o.below T2.o.size) wW.o oJ.o Es.o (by have:=TD.o;first|omega|(simp only [aj,aK];omega)))
    obtain ⟨o3,q3⟩:∃z_,o.bind (dZ aD aQ (.mk kd a0 nm vl xa xb xc xd ks) (aq aD aQ ks))=z_:=⟨_,rfl⟩
    rw [q3] at C3;have Q3:=hide q3;clear q3;unfold aB at C3;go_wp2_with fail;refine (C3.o).mono ?_;rintro e w3 ⟨rfl,p3,t3⟩;have P3:=hide p3;have T3:=hide (T2.o.trans t3);have iR:=hide (t3.row ia.o (by decide) (by omega));clear p3 t3 C3;clear dJ eN ei ek dF dG eA eB cj
    have HP:=ae (cz w3 B b rs (M+2000+2000*ax ks)) (by
     have hp:=P3.o;rw [←Q3.o,←zw o (.mk kd a0 nm vl xa xb xc xd ks) _ need HD.o.1 HD.o.2,HRS.o] at hp
     exact hp.mono (by first|omega|(simp only [aj,aK];omega)))
    have HT:=T3;go_wp2;go_end0;exact ⟨rfl,HP.o,HT.o⟩
   ·skip;have HD:=ae (decide (10≤iz aD (.mk kd a0 nm vl xa xb xc xd ks))=decide (10≤need)∧iz aD (.mk kd a0 nm vl xa xb xc xd ks)<need) (by rw [HL.o];exact ⟨by simp only [decide_eq_decide];omega,by omega⟩);go_wp2_with fail;refine bW (bT B b [40] 1 o M w2 P2.o (by omega)) T2 ia (by decide) (by omega) fun w3 o3 Q3 P3 T3 iR=>?_;obtain ⟨dJ,eN,ei,ek,dF,dG,eA,eB,cj⟩:=ak iR.o;have C4:=hide (oc B b kd a0 xa xb xc xd nm vl ks A cap oJ.o.kd QD.o hc2.o hf2.o o3 (M+2) w3 P3.o (hk2.o.keep T3.o.below T3.o.size) wW.o oJ.o Es.o (by have:=TD.o;first|omega|(simp only [aj,aK];omega)))
    obtain ⟨o4,q4⟩:∃z_,o3.bind (dZ aD aQ (.mk kd a0 nm vl xa xb xc xd ks) (aq aD aQ ks))=z_:=⟨_,rfl⟩
    rw [q4] at C4;have Q4:=hide q4;clear q4;unfold aB at C4;go_wp2_with fail;refine (C4.o).mono ?_;rintro e w4 ⟨rfl,p4,t4⟩;have P4:=hide p4;have T4:=hide (T3.o.trans t4);have jJ:=hide (t4.row iR.o (by decide) (by omega));clear p4 t4 C4;clear dJ eN ei ek dF dG eA eB cj;go_wp2_with fail;refine bW (bT B b [41] 1 o4 ((M+2)+1500+2000*ax ks) w4 P4.o (by omega)) T4 jJ (by decide) (by omega) fun w5 o5 Q5 P5 T5 oP=>?_
    have HP:=ae (cz w5 B b rs (M+2000+2000*ax ks)) (by
     have hp:=P5.o;rw [←Q5.o,←Q4.o,←Q3.o,←BD o (.mk kd a0 nm vl xa xb xc xd ks) _ need HD.o.1 HD.o.2,HRS.o] at hp
     exact hp.mono (by first|omega|(simp only [aj,aK];omega)))
    have HT:=T5;go_wp2;go_end0;exact ⟨rfl,HP.o,HT.o⟩
  ·have d2:decide (10≤need)=false:=by simpa using a2
   obtain ⟨⟨x,Dz⟩,GA,GC,p,t⟩:=P2.o.KQ;have HP:=ae (cz (w2.setCell ⟨b,3,none⟩ (.bool true)) B b rs (M+2000+2000*ax ks)) (by rw [←HRS.o,BC o (.mk kd a0 nm vl xa xb xc xd ks) _ need (by rw [HL.o];simp only [ne_eq,decide_eq_decide];omega)];exact p.mono (by omega));have HT:=hide (T2.o.trans t);clear p t;go_wp2;go_end0;exact ⟨rfl,HP.o,HT.o⟩
 ·have d1:decide (10≤lv)=false:=by simpa using a1
  by_cases a2:10≤need
  ·have d2:decide (10≤need)=true:=by simpa using a2
   obtain ⟨⟨x,Dz⟩,GA,GC,p,t⟩:=P2.o.KQ;have HP:=ae (cz (w2.setCell ⟨b,3,none⟩ (.bool true)) B b rs (M+2000+2000*ax ks)) (by rw [←HRS.o,BC o (.mk kd a0 nm vl xa xb xc xd ks) _ need (by rw [HL.o];simp only [ne_eq,decide_eq_decide];omega)];exact p.mono (by omega));have HT:=hide (T2.o.trans t);clear p t;go_wp2;go_end0;exact ⟨rfl,HP.o,HT.o⟩
  ·have d2:decide (10≤need)=false:=by simpa using a2
   by_cases a3:need≤lv
   ·skip;have HD:=ae (decide (10≤iz aD (.mk kd a0 nm vl xa xb xc xd ks))=decide (10≤need)∧need≤iz aD (.mk kd a0 nm vl xa xb xc xd ks)) (by rw [HL.o];exact ⟨by simp only [decide_eq_decide];omega,by omega⟩);obtain ⟨dJ,eN,ei,ek,dF,dG,eA,eB,cj⟩:=ak ia.o;have C3:=hide (oc B b kd a0 xa xb xc xd nm vl ks A cap oJ.o.kd QD.o hc2.o hf2.o o M w2 P2.o (hk2.o.keep T2.o.below T2.o.size) wW.o oJ.o Es.o (by have:=TD.o;first|omega|(simp only [aj,aK];omega)))
    obtain ⟨o3,q3⟩:∃z_,o.bind (dZ aD aQ (.mk kd a0 nm vl xa xb xc xd ks) (aq aD aQ ks))=z_:=⟨_,rfl⟩
    rw [q3] at C3;have Q3:=hide q3;clear q3;unfold aB at C3;go_wp2_with fail;refine (C3.o).mono ?_;rintro e w3 ⟨rfl,p3,t3⟩;have P3:=hide p3;have T3:=hide (T2.o.trans t3);have iR:=hide (t3.row ia.o (by decide) (by omega));clear p3 t3 C3;clear dJ eN ei ek dF dG eA eB cj
    have HP:=ae (cz w3 B b rs (M+2000+2000*ax ks)) (by
     have hp:=P3.o;rw [←Q3.o,←zw o (.mk kd a0 nm vl xa xb xc xd ks) _ need HD.o.1 HD.o.2,HRS.o] at hp
     exact hp.mono (by first|omega|(simp only [aj,aK];omega)))
    have HT:=T3;go_wp2;go_end0;exact ⟨rfl,HP.o,HT.o⟩
   ·skip;have HD:=ae (decide (10≤iz aD (.mk kd a0 nm vl xa xb xc xd ks))=decide (10≤need)∧iz aD (.mk kd a0 nm vl xa xb xc xd ks)<need) (by rw [HL.o];exact ⟨by simp only [decide_eq_decide];omega,by omega⟩);go_wp2_with fail;refine bW (bT B b [40] 1 o M w2 P2.o (by omega)) T2 ia (by decide) (by omega) fun w3 o3 Q3 P3 T3 iR=>?_;obtain ⟨dJ,eN,ei,ek,dF,dG,eA,eB,cj⟩:=ak iR.o;have C4:=hide (oc B b kd a0 xa xb xc xd nm vl ks A cap oJ.o.kd QD.o hc2.o hf2.o o3 (M+2) w3 P3.o (hk2.o.keep T3.o.below T3.o.size) wW.o oJ.o Es.o (by have:=TD.o;first|omega|(simp only [aj,aK];omega)))
    obtain ⟨o4,q4⟩:∃z_,o3.bind (dZ aD aQ (.mk kd a0 nm vl xa xb xc xd ks) (aq aD aQ ks))=z_:=⟨_,rfl⟩
    rw [q4] at C4;have Q4:=hide q4;clear q4;unfold aB at C4;go_wp2_with fail;refine (C4.o).mono ?_;rintro e w4 ⟨rfl,p4,t4⟩;have P4:=hide p4;have T4:=hide (T3.o.trans t4);have jJ:=hide (t4.row iR.o (by decide) (by omega));clear p4 t4 C4;clear dJ eN ei ek dF dG eA eB cj;go_wp2_with fail;refine bW (bT B b [41] 1 o4 ((M+2)+1500+2000*ax ks) w4 P4.o (by omega)) T4 jJ (by decide) (by omega) fun w5 o5 Q5 P5 T5 oP=>?_
    have HP:=ae (cz w5 B b rs (M+2000+2000*ax ks)) (by
     have hp:=P5.o;rw [←Q5.o,←Q4.o,←Q3.o,←BD o (.mk kd a0 nm vl xa xb xc xd ks) _ need HD.o.1 HD.o.2,HRS.o] at hp
     exact hp.mono (by first|omega|(simp only [aj,aK];omega)))
    have HT:=T5;go_wp2;go_end0;exact ⟨rfl,HP.o,HT.o⟩
mutual
def pU:Nd→Prop
 |.mk kd _ nm v a b c d ks=>iJ kd a b c d nm v∧ks.length≤400∧pV ks
def pV:List Nd→Prop
 |[]=>True
 |n::r=>pU n∧pV r
end
theorem pU.abD:∀{x:Nd},pU x→Nj x
 |.mk _ _ _ _ _ _ _ _ _,h=>by rw [pU] at h;exact h.1
theorem pV.get:∀{ks:List Nd},pV ks→∀i (h:i<ks.length),pU ks[i]
 |x::r,h,0,_=>by rw [pV] at h;exact h.1
 |x::r,h,i+1,hi=>by rw [pV] at h;exact pV.get h.2 i (by simpa using hi)
mutual
theorem RT:∀x:Nd,pU x→qs x
 |.mk kd a0 nm vl xa xb xc xd ks,hf=>by
  rw [pU] at hf;obtain ⟨h1,h2,h3⟩:=hf;have IH:=KR ks h3;intro B b need cs o M W h hnd h0 tQ hM;obtain ⟨A,cap,rfl,hk,hcap⟩:=hnd.abr;rw [aC] at hM;have:=Nz B b kd a0 xa xb xc xd nm vl ks A cap need h0 tQ h2 hcap (fun i hi=>(pV.get h3 i hi).abD) o M W h hk IH h1 (by omega) (by omega);rw [bC,aC]
  exact this.mono fun e w' hx=>⟨hx.1,hx.2.1.mono (by omega),hx.2.2⟩
theorem KR:∀ks:List Nd,pV ks→∀i (hi:i<ks.length),qs ks[i]
 |x::r,hf,0,_=>by rw [pV] at hf;exact RT x hf.1
 |x::r,hf,i+1,hi=>by rw [pV] at hf;exact KR r hf.2 i (by simpa using hi)
end
end Go.Proofs.YtddoehnkgcbboaaGreatDoor
namespace Go.Proofs.YtddoehnkgcbboaaGreatDoor
open Go.RowKit Go.Shelf Go.ChangeShapes Go.WideShapes Go.Deep Go.Maps
def InK (kd a0 a b c d:Int) (nm v:List UInt8):Prop:=In64 kd∧In64 a0∧In64 a∧In64 b∧In64 c∧In64 d∧nm.length≤maxLen∧v.length≤maxLen
mutual
def DA:Nd→Prop
 |.mk kd a0 nm v a b c d ks=>InK kd a0 a b c d nm v∧ks.length≤140737488355328∧DC ks
def DC:List Nd→Prop
 |[]=>True
 |x::r=>DA x∧DC r
end
theorem DC.mk_:∀{ks:List Nd},(∀i (h:i<ks.length),DA ks[i])→DC ks
 |[],_=>by rw [DC];trivial
 |x::r,h=>by rw [DC];exact ⟨h 0 (by simp),DC.mk_ fun i hi=>h (i+1) (by simpa using hi)⟩
theorem DC.get:∀{ks:List Nd},DC ks→∀i (h:i<ks.length),DA ks[i]
 |x::r,h,0,_=>by rw [DC] at h;exact h.1
 |x::r,h,i+1,hi=>by rw [DC] at h;exact DC.get h.2 i (by simpa using hi)
theorem RU:∃fs,Tryz.prog.underlying 25=some (.struct fs)∧oneCellFields Tryz.prog fs=true∧Tryz.prog.cellsOf 25=fs.size∧fs.size=9∧fs.map (·.type)=#[3,3,9,9,3,3,3,3,23]:=⟨_,Tryz.underlying25,by kernel_rfl,by kernel_rfl,rfl,by simp⟩
theorem pW {H:Type} {P:Program} {e:TypeId}:∀{ds:List (DataW H)} {d:DataW H},d∈ds→∀n∈d.weights P e,n∈DataW.weightsAll P e ds
 |x::r,d,h,n,hn=>by
  rw [DataW.weightsAll,List.mem_append]
  rcases List.mem_cons.1 h with rfl|h
  ·exact .inl hn
  ·exact .inr (pW h n hn)
theorem V4:Tryz.prog.bytesOf 25=104:=by kernel_rfl
section
variable {H : Type} {enc : TypeId × Value → H} {W : World} {base : Nat} {spare : Nat → Bool} {held : Bool}
theorem KT:∀(m fuel:Nat),fuel≤m→∀(cs:List Value) (x:DataW H×List MemPlace),DataW.trod enc Tryz.prog W base spare held fuel 25 cs=some x→(∀n∈x.1.weights Tryz.prog 25,n≤reachBytes)→∃n:Nd,cK (fun c=>W.heap.size≤c) W n cs∧DA n
 |0,fuel,hm,cs,x,h,hwt=>by
  obtain rfl:fuel=0:=by omega
  simp [DataW.trod] at h
 |m+1,fuel,hm,cs,x,h,hwt=>by
  obtain ⟨fs,hfs,h1,hC,h9,hty⟩:=RU;obtain ⟨xs,n,hn,hx,hcl,hxl,hg⟩:=DataW.trod_struct hfs h
  have hc9:cs.length=9:=by omega
  have ty:∀j,j<9→∃f,fs[j]? =some f∧f.type=#[3,3,9,9,3,3,3,3,23].getD j 0:=by
   intro j hj;refine ⟨fs[j]'(by omega),Array.getElem?_eq_getElem _,?_⟩;rw [←hty];simp [h9,hj]
  have key:∀j (hj:j<9) (hj':j<cs.length),∃y,xs[j]? =some y∧DataW.trod enc Tryz.prog W base spare held n (#[3,3,9,9,3,3,3,3,23].getD j 0) [cs[j]]=some y:=by
   intro j hj hj';obtain ⟨f,g,e⟩:=ty j hj;obtain ⟨ho,hk⟩:=hone_of h1 j f g;have hgj:=hg j f g;rw [ho,hk,e,cn hj'] at hgj;exact ⟨xs[j]'(by omega),List.getElem?_eq_getElem _,by rw [←List.getElem?_eq_getElem,←hgj];rfl⟩
  have hcs:∃v0 v1 v2 v3 v4 v5 v6 v7 v8,cs=[v0,v1,v2,v3,v4,v5,v6,v7,v8]:=by
   match cs,hc9 with
   |[v0,v1,v2,v3,v4,v5,v6,v7,v8],_=>exact ⟨v0,v1,v2,v3,v4,v5,v6,v7,v8,rfl⟩
  obtain ⟨v0,v1,v2,v3,v4,v5,v6,v7,v8,rfl⟩:=hcs
  ·skip;obtain ⟨y0,z0,t0⟩:=key 0 (by decide) (by simp);obtain ⟨y1,z1,t1⟩:=key 1 (by decide) (by simp);obtain ⟨y2,z2,t2⟩:=key 2 (by decide) (by simp);obtain ⟨y3,z3,t3⟩:=key 3 (by decide) (by simp);obtain ⟨y4,z4,t4⟩:=key 4 (by decide) (by simp);obtain ⟨y5,z5,t5⟩:=key 5 (by decide) (by simp);obtain ⟨y6,z6,t6⟩:=key 6 (by decide) (by simp);obtain ⟨y7,z7,t7⟩:=key 7 (by decide) (by simp);obtain ⟨y8,z8,t8⟩:=key 8 (by decide) (by simp);obtain ⟨s0,q0,_,w0⟩:=DataW.trod_int Tryz.underlying3 t0;obtain ⟨s1,q1,_,w1⟩:=DataW.trod_int Tryz.underlying3 t1;obtain ⟨s2,q2,_,w2⟩:=DataW.trod_string Tryz.underlying9 t2;obtain ⟨s3,q3,_,w3⟩:=DataW.trod_string Tryz.underlying9 t3;obtain ⟨s4,q4,_,w4⟩:=DataW.trod_int Tryz.underlying3 t4;obtain ⟨s5,q5,_,w5⟩:=DataW.trod_int Tryz.underlying3 t5;obtain ⟨s6,q6,_,w6⟩:=DataW.trod_int Tryz.underlying3 t6;obtain ⟨s7,q7,_,w7⟩:=DataW.trod_int Tryz.underlying3 t7
   obtain ⟨l2,rfl⟩:∃l,s2=ag l:=⟨_,OG s2⟩
   obtain ⟨l3,rfl⟩:∃l,s3=ag l:=⟨_,OG s3⟩
   rw [aO] at w2 w3;simp only [List.getElem_cons_zero,List.getElem_cons_succ,List.cons.injEq,and_true] at q0 q1 q2 q3 q4 q5 q6 q7;subst q0 q1 q2 q3 q4 q5 q6 q7
   have hK:InK s0 s1 s4 s5 s6 s7 l2 l3:=⟨jv w0,jv w1,jv w4,jv w5,jv w6,jv w7,w2,w3⟩
   have RV:∀n∈y8.1.weights Tryz.prog 23,n≤reachBytes:=fun n hn=>hwt n (by
    rw [hx];simp only [DataW.weights,hfs]
    exact DataW.weights_mem_each (j:=8) (by
     obtain ⟨f,g,e⟩:=ty 8 (by decide);rw [List.getElem?_map,Array.getElem?_toList,g]
     exact congrArg some e) (by rw [List.getElem?_map,z8];rfl) n hn)
   have t8':DataW.trod enc Tryz.prog W base spare held n 23 [v8]=some y8:=t8
   rcases DataW.trod_slice Tryz.underlying23 t8' with ⟨q8,_⟩|⟨a,len,cap,elems,rest,n',hn',q8,hy8,_,hlc,hcm,hel,hat,_⟩
   ·simp only [List.cons.injEq,and_true] at q8;subst q8;exact ⟨.mk s0 s1 l2 l3 s4 s5 s6 s7 [],cK.leaf _ _ _ _ _ _ _ _ _ _ none 0,by rw [DA];exact ⟨hK,bj _,by rw [DC];trivial⟩⟩
   ·simp only [List.cons.injEq,and_true] at q8;subst q8;rw [hy8] at RV;simp only [DataW.weights,Tryz.underlying23,V4,fI] at RV;have hlen:=RV _ (bX ..);unfold reachBytes at hlen
    obtain ⟨l,hl,hP⟩:=TH (n:=len) (P:=fun i (p:Nd×List Value)=>cK (fun c=>W.heap.size≤c) W p.1 p.2∧DA p.1∧∀j,j<9→W.cell? (a.add (i*9+j))=p.2[j]?) (fun i hi=>by
     have h':=hat i hi;rw [List.getElem?_eq_getElem (by omega)] at h';obtain ⟨cs',hcs,htr⟩:=Option.bind_eq_some_iff.1 h';rw [hC,h9] at hcs;obtain ⟨_,adZ,hat'⟩:=World.cells?_some hcs;obtain ⟨nd,hnd,hin⟩:=KT m n' (by omega) cs' _ htr (fun k hk=>RV k (cL _ (List.mem_append_left _ (pW (List.mem_map_of_mem (cI _)) k hk))))
     exact ⟨(nd,cs'),hnd,hin,fun j hj=>by rw [←Go.Deep.add_add];exact hat' j hj⟩)
    have hlk:(l.map (·.1)).length=len:=by rw [fI,hl]
    refine ⟨.mk s0 s1 l2 l3 s4 s5 s6 s7 (l.map (·.1)),?_,?_⟩
    ·have hnd:=cK.mk (C:=fun c=>W.heap.size≤c) (W:=W) s0 s1 l2 l3 s4 s5 s6 s7 (l.map (·.1)) (some a) cap (l.map (·.2)) (by simp) (fun i hi hi'=>by
      simp only [List.getElem_map]
      exact (hP i (by simpa using hi)).1) (fun hp=>?_) (by omega)
     ·rw [hlk] at hnd;exact hnd
     ·have h0:0<l.length:=by simpa using hp
      obtain ⟨hn0,_,hc0⟩:=hP 0 h0;have RX:=hc0 0 (by decide);have aaU:=hn0.len;rw [List.getElem?_eq_getElem (by omega)] at RX;obtain ⟨b,off,spot⟩:=a
      have hs:spot=none:=by
       have:((⟨b,off,spot⟩:Addr).add (0*9+0))=⟨b,off,spot⟩:=by simp [Addr.add]
       rw [this] at RX;exact World.cell?_spot RX
      subst hs
      have ha:∀i j,(⟨b,off,none⟩:Addr).add (i*9+j)=⟨b,off+i*9+j,none⟩:=by
       intro i j;unfold Addr.add
       split
       ·simp_all
       ·simp [Nat.add_assoc]
      rw [ha] at RX;have hz:=World.block_lt_of_cell? W _ RX;refine ⟨b,off,rfl,Nat.not_le_of_lt hz,hz,fun i hi j hj=>?_⟩;have:=(hP i (by simpa using hi)).2.2 j hj;rw [ha] at this;rw [this];simp only [List.getElem_map]
    ·rw [DA];exact ⟨hK,by omega,DC.mk_ fun i hi=>by simp only [List.getElem_map];exact (hP i (by simpa using hi)).2.1⟩
end
def wrapN (n:Nat):Int:=IntKind.i64.wrap (n:Int)
mutual
def sB (most:Int):Nd→Bool
 |.mk kd a0 nm v a b c d ks=>decide (nm.length≤60)&&(decide (v.length≤130)&&(decide (wrapN (1+ax ks)≤most)&&jm most ks))
def jm (most:Int):List Nd→Bool
 |[]=>true
 |x::r=>sB most x&&jm most r
end
theorem KU {m:Nat}:∀{ks:List Nd},(∀x∈ks,aC x≤m)→ax ks≤ks.length*m
 |[],_=>by rw [ax];omega
 |x::r,h=>by
  have h1:=h x (bX ..);have h2:=KU (ks:=r) (fun y hy=>h y (cL _ hy));rw [ax,aj,Nat.succ_mul];omega
mutual
theorem Dj:∀x:Nd,DA x→sB 60 x=true→aC x≤60
 |.mk kd a0 nm v a b c d ks,hi,h=>by
  rw [DA] at hi;rw [sB,cS,cS,cS,decide_eq_true_eq,decide_eq_true_eq,decide_eq_true_eq] at h;have h1:=KU (F7 ks hi.2.2 h.2.2.2);have h2:=hi.2.1;have h3:=h.2.2.1;have h4:ks.length*60≤140737488355328*60:=Nat.mul_le_mul_right _ h2;unfold wrapN at h3;rw [bI _ (by omega)] at h3;rw [aC];omega
theorem F7:∀ks:List Nd,DC ks→jm 60 ks=true→∀x∈ks,aC x≤60
 |[],_,_,x,hx=>by cases hx
 |y::r,hi,h,x,hx=>by
  rw [DC] at hi;rw [jm,cS] at h
  rcases List.mem_cons.1 hx with e|hx
  ·rw [e];exact Dj y hi.1 h.1
  ·exact F7 r hi.2 h.2 x hx
end
mutual
theorem KW:∀x:Nd,DA x→sB 60 x=true→pU x
 |.mk kd a0 nm v a b c d ks,hi,h=>by
  have hc:=Dj _ hi h;rw [DA] at hi;rw [sB,cS,cS,cS,decide_eq_true_eq,decide_eq_true_eq,decide_eq_true_eq] at h;have h1:=j_ ks;rw [aC] at hc;obtain ⟨⟨k1,k2,k3,k4,k5,k6,k7,k8⟩,_,hl⟩:=hi;rw [pU];exact ⟨⟨k1,k3,k4,k5,k6,by omega,by omega⟩,by omega,F8 ks hl h.2.2.2⟩
theorem F8:∀ks:List Nd,DC ks→jm 60 ks=true→pV ks
 |[],_,_=>by rw [pV];trivial
 |y::r,hi,h=>by
  rw [DC] at hi;rw [jm,cS] at h;rw [pV];exact ⟨KW y hi.1 h.1,F8 r hi.2 h.2⟩
end
end Go.Proofs.YtddoehnkgcbboaaGreatDoor
