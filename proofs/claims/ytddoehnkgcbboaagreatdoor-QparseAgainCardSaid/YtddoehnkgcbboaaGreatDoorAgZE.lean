/- QparseAgain: parsing the text of a valid tree gives the tree, for any tree of at most 60 nodes with strings of at most 130 bytes; no further condition. -/
import Derived.Test.YtddoehnkgcbboaaGreatDoorAgZB
import Derived.Test.YtddoehnkgcbboaaGreatDoorAgZD
import Derived.Test.YtddoehnkgcbboaaGreatDoorCards
import Derived.Test.YtddoehnkgcbboaaGreatDoorTie
import Derived.LaidMore
import Derived.Lay
import Derived.SevenTiedAt
import Derived.Stop.Joined
set_option maxHeartbeats 16000000
set_option maxRecDepth 100000
set_option linter.unusedVariables false
set_option linter.unusedSimpArgs false
namespace Go.Proofs.YtddoehnkgcbboaaGreatDoor.qparseAgain
open Go.RowKit Go.Shelf Go.Maps
theorem abX {W:World} (h:laidMetH Tryz.prog Rows.qparseAgainRow.laid W) (hS:W.ShapedOpen Tryz.prog):Gl W:=by
 rw [MakeChecks.laidMetH_plain _ _ _ (by kernel_rfl)] at h;exact aal (x:=("math/bits.deBruijn32tab",Rows.laid_math_bits_deBruijn32tab)) (y:=("math/bits.deBruijn64tab",Rows.laid_math_bits_deBruijn64tab)) (rest:=Rows.qparseAgainRow.laid.drop 3) h hS
theorem N6 {x:Nd} {t:List UInt8} (h:eV aD aQ x=some t):t.length≤16384:=by
 unfold eV at h;by_cases hl:32<iF x
 ·rw [if_pos hl] at h;cases h
 rw [if_neg hl] at h
 split at h
 ·rename_i st hst;by_cases hz:(df st.1).2.2=0
  ·rw [if_pos hz] at h
   obtain rfl:st.1=t:=by injection h
   unfold df at hz;by_cases hg:16384<st.1.length
   ·rw [if_pos hg] at hz;exact absurd hz (by decide)
   ·omega
  ·rw [if_neg hz] at h;cases h
 ·cases h
theorem lX {x:Nd} {t:List UInt8} (h:eV aD aQ x=some t) (rd:List UInt8→Int×Int):
 ∃n',Dv n' x=true∧mn (decide (37≤x.kind)) t true rd=(n',0,0):=by
 obtain ⟨n',hu,hp⟩:=JI lxI adf abW (sg:=aD) (ng:=aQ) MP h rd;rw [NT h] at hp;exact ⟨n',(KF n' x).2 hu,hp⟩
theorem parsed {R:Nd×Int×Int} {w w':World} {e:Ending} (h:od R w e w'):
 ∃kd a0 xa xb xc xd nm vl A len cap,e=.returned (.tuple #[.agg (aB kd a0 nm vl xa xb xc xd (.slice A len cap)).toArray,.int .i64 R.2.1,.int .i64 R.2.2])∧cK (fun b=>b<w.heap.size) w' R.1 (aB kd a0 nm vl xa xb xc xd (.slice A len cap))∧aC R.1≤513∧Below w.heap.size w w':=by
 obtain ⟨⟨cs,rfl,hnd,hc⟩,hb⟩:=h;obtain ⟨kd,a0,nm,vl,xa,xb,xc,xd,A,len,cap,rfl⟩:=hnd.nine;exact ⟨kd,a0,xa,xb,xc,xd,nm,vl,A,len,cap,rfl,hnd,hc,hb⟩
theorem Lg {n:Nd} {w w':World} {e:Ending} (h:od (n,0,0) w e w'):
 ∃kd a0 xa xb xc xd nm vl A len cap,e=.returned (.tuple #[.agg (aB kd a0 nm vl xa xb xc xd (.slice A len cap)).toArray,.int .i64 0,.int .i64 0])∧cK (fun b=>b<w.heap.size) w' n (aB kd a0 nm vl xa xb xc xd (.slice A len cap))∧aC n≤513∧Below w.heap.size w w':=parsed h
theorem walk (n:Nd) (csA:Array Value) (w:World) (hnd:cK (fun c=>w.heap.size≤c) w n csA.toList) (hin:DA n) (hg:Gl w):
 Calls Tryz.prog 5 #[.agg csA] w fun e w'=>e=.returned (.bool true)∧Below w.heap.size w w':=by
 obtain ⟨cs,rfl⟩:∃cs:List Value,csA=cs.toArray:=⟨csA.toList,by simp⟩
 have hnd:cK (fun c=>w.heap.size≤c) w n cs:=by simpa using hnd
 obtain ⟨kd,a0,nm,vl,xa,xb,xc,xd,A,len,cap,rfl⟩:=hnd.nine;have AW:=hide (fun (W:World) (hg:Gl W)=>Jz W hg)
 obtain ⟨w1,hw1⟩:∃w1,w1=w.alloc (.cells (aB kd a0 nm vl xa xb xc xd (.slice A len cap)).toArray 25):=⟨_,rfl⟩
 have hb1:Below w.heap.size w w1:=by rw [hw1];exact (af _ w).alloc (aa _) _
 have dX:=hide hb1;have R1:=ae (Row w1 w.heap.size 25 (aB kd a0 nm vl xa xb xc xd (.slice A len cap)).toArray) (by rw [hw1];exact Row.new _ _ _);have km:=hnd.kv;have NK:=hide (fun (W:World) (hb:Below w.heap.size w W)=>show cK (fun c=>W.heap.size≤c) W n (aB kd a0 nm vl xa xb xc xd (.slice A len cap)) from (hnd.keeps (ah.of_below hb (aa _))).low);have GL:=hide (fun (W:World) (hb:Below w.heap.size w W)=>show Gl W from hg.below hb);have cR:=hide hw1.symm;have FW:=ae (Calls Tryz.prog 11 #[.agg #[.int .i64 kd,.int .i64 a0,.string (ag nm),.string (ag vl),.int .i64 xa,.int .i64 xb,.int .i64 xc,.int .i64 xd,.slice A len cap],.int .i64 60] w1 fun e w'=>e=.returned (.bool (sB 60 n))∧Below w1.heap.size w1 w') (RZ _ n _ _ w1 (aa _) hin (NK.o w1 hb1));have HIN:=hide hin;have Q_:=hide km;clear hnd hin hg km hw1 hb1;unfold aB at cR R1⊢;have c1:=fun (W:World) (hb:Below w1.heap.size w1 W)=>R1.o.below hb R1.o.lt;have C1:=hide c1;clear c1;go_enter Tryz.func5,Tryz.ntmps5;go_upto_region 1 with fail;rw [cR.o];have B1:=hide dX.o;have Rw1:=hide R1.o;obtain ⟨n0,n1,n2,n3,n4,n5,n6,n7,n8⟩:=ak Rw1.o
 obtain ⟨fw,hfw⟩:∃fw,sB 60 n=fw:=⟨_,rfl⟩
 rw [hfw] at FW;have HFW:=hide hfw;clear hfw;go_wp2_with fail;refine FW.o.mono ?_;rintro e w2 ⟨rfl,hb2⟩;clear n0 n1 n2 n3 n4 n5 n6 n7 n8;have B2:=hide (B1.o.trans (hb2.mono B1.o.size));have Rw2:=hide (Rw1.o.below hb2 Rw1.o.lt);clear hb2
 cases fw with
 |false=>
  go_wp2_with fail;refine (AW.o _ (GL.o _ B2.o)).mono ?_;rintro e w3 ⟨rfl,hb3⟩;have B3:=hide (B2.o.trans (hb3.mono B2.o.size));clear hb3;go_wp2;go_ret;exact ⟨rfl,B3.o⟩
 |true=>
  have abY:=hide (KW n HIN.o HFW.o);have Wl:=hide (Dj n HIN.o HFW.o);have FM:=hide (fun (W:World) (hb:Below w.heap.size w W)=>show Calls Tryz.prog 12 #[.agg #[.int .i64 kd,.int .i64 a0,.string (ag nm),.string (ag vl),.int .i64 xa,.int .i64 xb,.int .i64 xc,.int .i64 xd,.slice A len cap]] W fun e w'=>e=.returned (.string (ag ((eV aD aQ n).getD [])))∧Below W.heap.size W w' from uf n abY.o (by have:=Wl.o;omega) _ W (NK.o W hb) (GL.o W hb));have VM:=hide (fun (W:World) (hb:Below w.heap.size w W)=>show Calls Tryz.prog 13 #[.agg #[.int .i64 kd,.int .i64 a0,.string (ag nm),.string (ag vl),.int .i64 xa,.int .i64 xb,.int .i64 xc,.int .i64 xd,.slice A len cap]] W fun e w'=>e=.returned (.bool (eV aD aQ n).isSome)∧Below W.heap.size W w' from pX n abY.o (by have:=Wl.o;omega) _ W (NK.o W hb) (GL.o W hb));have PA:=hide (fun t (h:eV aD aQ n=some t) (rd:List UInt8→Int×Int)=>lX h rd);have TL:=hide (fun t (h:eV aD aQ n=some t)=>N6 h)
  obtain ⟨tx,htx⟩:∃tx,eV aD aQ n=tx:=⟨_,rfl⟩
  rw [htx] at FM VM PA TL;clear htx;obtain ⟨n0,n1,n2,n3,n4,n5,n6,n7,n8⟩:=ak Rw2.o;go_wp2_with fail;refine (FM.o _ B2.o).mono ?_;rintro e w3 ⟨rfl,hb3⟩;clear n0 n1 n2 n3 n4 n5 n6 n7 n8;have B3:=hide (B2.o.trans (hb3.mono B2.o.size));have Rw3:=hide (Rw2.o.below hb3 Rw2.o.lt);clear hb3;obtain ⟨n0,n1,n2,n3,n4,n5,n6,n7,n8⟩:=ak Rw3.o;go_wp2_with fail;refine (VM.o _ B3.o).mono ?_;rintro e w4 ⟨rfl,hb4⟩;clear n0 n1 n2 n3 n4 n5 n6 n7 n8;have B4:=hide (B3.o.trans (hb4.mono B3.o.size));have Rw4:=hide (Rw3.o.below hb4 Rw3.o.lt);clear hb4
  cases tx with
  |none=>
   simp only [Option.getD_none,Option.isSome_none]
   have q0:(ag []).toList.isEmpty=true:=by rw [Lib.toList_data,dD];rfl
   generalize ag []=sE at*;go_wp2_with fail;refine (AW.o _ (GL.o _ B4.o)).mono ?_;rintro e w5 ⟨rfl,eG⟩;have B5:=hide (B4.o.trans (eG.mono B4.o.size));clear eG;go_wp2;go_ret;exact ⟨rfl,B5.o⟩
  |some t=>
   simp only [Option.getD_some,Option.isSome_some];have ht:=TL.o t rfl;obtain ⟨n',heq,JR⟩:=PA.o t rfl (fun t=>fX (ag t) 0);have ZR:=hide heq;have CN:=hide (fun (W:World) (hg:Gl W)=>qV t (by omega) 0 W hg);have PN:=hide (fun (W:World) (hg:Gl W)=>wG t (by omega) 0 W hg)
   have RE:=hide (fun (C:Nat→Prop) (x:Nd) (cx:List Value) (W:World) (hb:Below w.heap.size w W) (hx:cK C W x cx) (hc:aC x≤513) (he:Dv x n=true)=>show Calls Tryz.prog 14 #[.agg cx.toArray,.agg #[.int .i64 kd,.int .i64 a0,.string (ag nm),.string (ag vl),.int .i64 xa,.int .i64 xb,.int .i64 xc,.int .i64 xd,.slice A len cap]] W fun e w'=>e=.returned (.bool true)∧Below W.heap.size W w' from by
    have:=wC _ x n _ _ cx _ W (aa _) (by omega) (by have:=Wl.o;omega) hx (NK.o W hb);rw [he] at this
    exact this)
   have QE:=hide (fun (C:Nat→Prop) (x:Nd) (cx:List Value) (W:World) (hb:Below w.heap.size w W) (hx:cK C W x cx) (hc:aC x≤513) (he:Dv x n=true)=>show Calls Tryz.prog 15 #[.agg cx.toArray,.agg #[.int .i64 kd,.int .i64 a0,.string (ag nm),.string (ag vl),.int .i64 xa,.int .i64 xb,.int .i64 xc,.int .i64 xd,.slice A len cap]] W fun e w'=>e=.returned (.bool true)∧Below W.heap.size W w' from by
    have:=BI _ x n _ _ cx _ W (aa _) (by omega) (by have:=Wl.o;omega) hx (NK.o W hb);rw [he] at this
    exact this)
   rw [zE] at CN PN;rw [Q_.o.1] at JR;generalize hS:ag t=s at CN PN⊢;clear heq ht hS;by_cases h37:37≤kd
   ·have adg:(37:Int)≤kd:=h37;rw [decide_eq_true h37] at JR;rw [JR] at PN;generalize mn false t true (fun t=>fX (ag t) 0)=PQ at*;obtain ⟨pn,pa,pe⟩:=PQ;clear JR h37;go_wp2_with fail;refine (CN.o _ (GL.o _ B4.o)).mono ?_;intro e w5 hpe;obtain ⟨yk,y0,ya,yb,yc,yd,yn,yv,yA,yl,cv,rfl,lD,SX,eG⟩:=parsed hpe;clear hpe;have HNy:=hide lD;have HCy:=hide SX;clear lD SX;have B5:=hide (B4.o.trans (eG.mono B4.o.size));have Rw5:=hide (Rw4.o.below eG Rw4.o.lt);clear eG;unfold aB
    obtain ⟨w6,Wm⟩:∃W,w5.alloc (.cells #[.int .i64 yk,.int .i64 y0,.string (ag yn),.string (ag yv),.int .i64 ya,.int .i64 yb,.int .i64 yc,.int .i64 yd,.slice yA yl cv] 25)=W:=⟨_,rfl⟩
    have HW6:=hide Wm
    have fV:Below w5.heap.size w5 w6:=by rw [←Wm];exact (af _ _).alloc (aa _) _
    have Rm6:=ae (Row w6 w5.heap.size 25 #[.int .i64 yk,.int .i64 y0,.string (ag yn),.string (ag yv),.int .i64 ya,.int .i64 yb,.int .i64 yc,.int .i64 yd,.slice yA yl cv]) (by rw [←Wm];exact Row.new _ _ _);have aae:=hide (HNy.o.keeps (ah.of_below fV (aa _)));have B6:=hide (B5.o.trans (fV.mono B5.o.size));have XA:=hide (Rw5.o.below fV Rw5.o.lt);clear fV;clear Wm;go_upto_region 7 with fail;rw [HW6.o];obtain ⟨n0,n1,n2,n3,n4,n5,n6,n7,n8⟩:=ak XA.o;go_wp2_with fail;clear n0 n1 n2 n3 n4 n5 n6 n7 n8;refine (PN.o _ (GL.o _ B6.o)).mono ?_;intro e w7 hpe;obtain ⟨zk,z0,za,zb,zc,zd,zn,zv,zA,zl,aaf,rfl,abZ,ab0,sI⟩:=Lg hpe;clear hpe;have HNz:=hide abZ;have HCz:=hide ab0;clear abZ ab0;have Rm7:=hide (Rm6.o.below sI Rm6.o.lt);have B7:=hide (B6.o.trans (sI.mono B6.o.size));have Rw7:=hide (XA.o.below sI XA.o.lt);clear sI;unfold aB;obtain ⟨m0,m1,m2,m3,m4,m5,m6,m7,m8⟩:=ak Rm7.o;obtain ⟨fm0,fm1,fm2,fm3,fm4,fm5,fm6,fm7,Fv⟩:=aU Rm7.o
    obtain ⟨w8,RV⟩:∃W,kH w7 w5.heap.size (.int .i64 zk) (.int .i64 z0) (.string (ag zn)) (.string (ag zv)) (.int .i64 za) (.int .i64 zb) (.int .i64 zc) (.int .i64 zd) (.slice zA zl aaf)=W:=⟨_,rfl⟩
    have HW8:=ae ((((((((((w7.setCell ⟨w5.heap.size,0,none⟩ (.int .i64 zk)).setCell ⟨w5.heap.size,1,none⟩ (.int .i64 z0)).setCell ⟨w5.heap.size,2,none⟩ (.string (ag zn))).setCell ⟨w5.heap.size,3,none⟩ (.string (ag zv))).setCell ⟨w5.heap.size,4,none⟩ (.int .i64 za)).setCell ⟨w5.heap.size,5,none⟩ (.int .i64 zb)).setCell ⟨w5.heap.size,6,none⟩ (.int .i64 zc)).setCell ⟨w5.heap.size,7,none⟩ (.int .i64 zd)).setCell ⟨w5.heap.size,8,none⟩ (.slice zA zl aaf))=w8) RV;have adh:w5.heap.size<w6.heap.size:=Rm6.o.lt;have ad4:w.heap.size<w5.heap.size:=Rw5.o.lt;have B8:=ae (Below w.heap.size w w8) (by rw [←RV];exact B7.o.trans (ay (by omega) _ _ _ _ _ _ _ _ _));have Rm8:=ae (Row w8 w5.heap.size 25 #[.int .i64 zk,.int .i64 z0,.string (ag zn),.string (ag zv),.int .i64 za,.int .i64 zb,.int .i64 zc,.int .i64 zd,.slice zA zl aaf]) (by rw [←RV];exact aJ Rm7.o _ _ _ _ _ _ _ _ _);have Rw8:=ae (Row w8 w.heap.size 25 #[.int .i64 kd,.int .i64 a0,.string (ag nm),.string (ag vl),.int .i64 xa,.int .i64 xb,.int .i64 xc,.int .i64 xd,.slice A len cap]) (by rw [←RV];exact Rw7.o.keep (aN (C:=fun b=>b=w5.heap.size) rfl _ _ _ _ _ _ _ _ _) (by show¬w.heap.size=w5.heap.size;omega));have ab1:=ae (cK (fun b=>b<w6.heap.size) w8 n' _) (by rw [←RV];exact HNz.o.keeps (aN (C:=fun b=>b<w6.heap.size) (W:=w7) (g:=w5.heap.size) adh _ _ _ _ _ _ _ _ _));clear RV;go_upto_region 9 with fail;rw [HW8.o];clear m0 fm0 m1 fm1 m2 fm2 m3 fm3 m4 fm4 m5 fm5 m6 fm6 m7 fm7 m8 Fv;obtain ⟨n0,n1,n2,n3,n4,n5,n6,n7,n8⟩:=ak Rw8.o;obtain ⟨m0,m1,m2,m3,m4,m5,m6,m7,m8⟩:=ak Rm8.o;have RE1:=hide (RE.o _ n' _ w8 B8.o ab1.o HCz.o ZR.o);unfold aB at RE1;go_wp2_with fail;refine RE1.o.mono ?_;rintro e w9 ⟨rfl,iK⟩;clear n0 n1 n2 n3 n4 n5 n6 n7 n8;clear m0 m1 m2 m3 m4 m5 m6 m7 m8;have Rm9:=hide (Rm8.o.below iK Rm8.o.lt);have QE1:=hide (QE.o _ n' _ w9 (B8.o.trans (iK.mono B8.o.size)) (ab1.o.keeps (ah.of_below iK (aa _))) HCz.o ZR.o);unfold aB at QE1;have B9:=hide (B8.o.trans (iK.mono B8.o.size));have Rw9:=hide (Rw8.o.below iK Rw8.o.lt);clear iK;obtain ⟨n0,n1,n2,n3,n4,n5,n6,n7,n8⟩:=ak Rw9.o;obtain ⟨m0,m1,m2,m3,m4,m5,m6,m7,m8⟩:=ak Rm9.o;go_wp2_with fail;refine QE1.o.mono ?_;rintro e rF ⟨rfl,Mw⟩;clear n0 n1 n2 n3 n4 n5 n6 n7 n8;clear m0 m1 m2 m3 m4 m5 m6 m7 m8;have B10:=hide (B9.o.trans (Mw.mono B9.o.size));have ad5:=hide (Rw9.o.below Mw Rw9.o.lt);clear Mw;go_wp2_with fail;refine (AW.o _ (GL.o _ B10.o)).mono ?_;rintro e Xj ⟨rfl,Qg⟩;have B11:=hide (B10.o.trans (Qg.mono B10.o.size));clear Qg;go_wp2;go_ret;exact ⟨rfl,B11.o⟩
   ·have adg:¬(37:Int)≤kd:=h37;rw [decide_eq_false h37] at JR;rw [JR] at CN;clear JR PN h37;go_wp2_with fail;refine (CN.o _ (GL.o _ B4.o)).mono ?_;intro e w5 hpe;obtain ⟨yk,y0,ya,yb,yc,yd,yn,yv,yA,yl,cv,rfl,lD,SX,eG⟩:=Lg hpe;clear hpe;have HNy:=hide lD;have HCy:=hide SX;clear lD SX;have B5:=hide (B4.o.trans (eG.mono B4.o.size));have Rw5:=hide (Rw4.o.below eG Rw4.o.lt);clear eG;unfold aB
    obtain ⟨w6,Wm⟩:∃W,w5.alloc (.cells #[.int .i64 yk,.int .i64 y0,.string (ag yn),.string (ag yv),.int .i64 ya,.int .i64 yb,.int .i64 yc,.int .i64 yd,.slice yA yl cv] 25)=W:=⟨_,rfl⟩
    have HW6:=hide Wm
    have fV:Below w5.heap.size w5 w6:=by rw [←Wm];exact (af _ _).alloc (aa _) _
    have Rm6:=ae (Row w6 w5.heap.size 25 #[.int .i64 yk,.int .i64 y0,.string (ag yn),.string (ag yv),.int .i64 ya,.int .i64 yb,.int .i64 yc,.int .i64 yd,.slice yA yl cv]) (by rw [←Wm];exact Row.new _ _ _);have aae:=hide (HNy.o.keeps (ah.of_below fV (aa _)));have B6:=hide (B5.o.trans (fV.mono B5.o.size));have XA:=hide (Rw5.o.below fV Rw5.o.lt);clear fV;clear Wm;go_upto_region 7 with fail;rw [HW6.o];obtain ⟨n0,n1,n2,n3,n4,n5,n6,n7,n8⟩:=ak XA.o;go_upto_region 9 with fail;clear n0 n1 n2 n3 n4 n5 n6 n7 n8;obtain ⟨n0,n1,n2,n3,n4,n5,n6,n7,n8⟩:=ak XA.o;obtain ⟨m0,m1,m2,m3,m4,m5,m6,m7,m8⟩:=ak Rm6.o;have RE1:=hide (RE.o _ n' _ w6 B6.o aae.o HCy.o ZR.o);unfold aB at RE1;go_wp2_with fail;refine RE1.o.mono ?_;rintro e w7 ⟨rfl,sI⟩;clear n0 n1 n2 n3 n4 n5 n6 n7 n8;clear m0 m1 m2 m3 m4 m5 m6 m7 m8;have Rm7:=hide (Rm6.o.below sI Rm6.o.lt);have QE1:=hide (QE.o _ n' _ w7 (B6.o.trans (sI.mono B6.o.size)) (aae.o.keeps (ah.of_below sI (aa _))) HCy.o ZR.o);unfold aB at QE1;have B7:=hide (B6.o.trans (sI.mono B6.o.size));have Rw7:=hide (XA.o.below sI XA.o.lt);clear sI;obtain ⟨n0,n1,n2,n3,n4,n5,n6,n7,n8⟩:=ak Rw7.o;obtain ⟨m0,m1,m2,m3,m4,m5,m6,m7,m8⟩:=ak Rm7.o;go_wp2_with fail;refine QE1.o.mono ?_;rintro e w8 ⟨rfl,UI⟩;clear n0 n1 n2 n3 n4 n5 n6 n7 n8;clear m0 m1 m2 m3 m4 m5 m6 m7 m8;have B8:=hide (B7.o.trans (UI.mono B7.o.size));have Rw8:=hide (Rw7.o.below UI Rw7.o.lt);clear UI;go_wp2_with fail;refine (AW.o _ (GL.o _ B8.o)).mono ?_;rintro e w9 ⟨rfl,iK⟩;have B9:=hide (B8.o.trans (iK.mono B8.o.size));clear iK;go_wp2;go_ret;exact ⟨rfl,B9.o⟩
end Go.Proofs.YtddoehnkgcbboaaGreatDoor.qparseAgain
namespace Go.Proofs.YtddoehnkgcbboaaGreatDoor
open Go
section
variable {H : Type} {enc : TypeId × Value → H}
theorem sG {a:Assume} {C:Checked} {os:Os} {f:FuncId} {fn:Func} {s:ChangeSpec} {conds:List PathCond} {apart fresh handsOn again:Bool} {X:World→Array Value→Prop}
 (hX:∀(w w':World) (args:Array Value),w.heap=w'.heap→X w args→X w' args)
 (own:ownKnob C.prog.godebug=none) (started:os.Started) (noInit:C.prog.inits.idxOf? f=none) (hfn:C.prog.funcs[f]? =some fn)
 (witness:∃(w:World) (tape:Tape) (i:Input),w.os=os∧(w.forCall tape i).Shaped C.prog∧i.vars=[]∧Input.okWide C.prog (w.forCall tape i) .any w.heap.size f i∧
  ((s.pre enc C.prog fn conds apart (w.forCall tape i).memory i.args∧X (w.forCall tape i).memory i.args)∧sizedMet enc C.prog fn (OpenSpec.ofChange s) apart (w.forCall tape i).memory i.args)∧a.holds C.prog (lone (Frame.enter C.prog f i.args .normal) [] (w.forCall tape i)))
 (contract:∀(W:World) (base:Nat) (args:Array Value) (ds gs:List (DataW H)) (before:List MemPlace),
  (∀(j:Nat) t v,fn.params[j]? =some t→args[j]? =some v→Value.okWide C.prog W .any base t v)→
  DataW.Whole enc C.prog fn.params.toList s.vars apart W args.toList ds gs before→
  (DataW.weightsEach C.prog (fn.params.toList++s.plain.varTypes C.prog) (ds++gs)).all (·≤reachBytes)=true→X W args→W.ShapedOpen C.prog→
  Calls C.prog f args W fun e W'=>∃v,e=.returned v∧s.post enc C.prog fn apart fresh handsOn again W args v W'):
 ReturnsInHanded a C os f .any (fun w args=>(s.pre enc C.prog fn conds apart w args∧X w args)∧sizedMet enc C.prog fn (OpenSpec.ofChange s) apart w args) (s.post enc C.prog fn apart fresh handsOn again):=by
 refine returnsInHanded_of_calls own started noInit witness ?_;intro w tape i _ hsh _ hok hpre hholds;obtain ⟨_,_,_,fn',hfn',_,_,_,_,hval⟩:=hok;have e:fn'=fn:=au (hfn'.symm.trans hfn);subst e;obtain ⟨⟨⟨ds,gs,before,hw,hc⟩,hx⟩,hz⟩:=hpre;have hw':=DataW.Whole.of_heap (w':=w.forCall tape i) (by rfl) hw;refine (contract (w.forCall tape i) w.heap.size i.args ds gs before hval hw' (hz.weights hw) (hX _ _ _ (by rfl) hx) hsh).mono fun e W' ⟨v,he,hp⟩=>?_;subst he;exact ChangeSpec.post_blind hp
end
end Go.Proofs.YtddoehnkgcbboaaGreatDoor
namespace Go.Proofs.YtddoehnkgcbboaaGreatDoor.qparseAgain
open Go.ChangeShapes Go.WideShapes Go.ChangeAt Go.RowKit
open Go.ChangeMaps (open_string shut_string)
theorem own:ownKnob Tryz.prog.godebug=none:=by kernel_rfl
theorem laidOut:laidOutB Tryz.prog=true:=by kernel_rfl
theorem contract (H:Type) (enc:TypeId×Value→H) (W:World) (base:Nat) (args:Array Value) (ds gs:List (DataW H)) (before:List MemPlace)
 (XB:∀(j:Nat) t v,Tryz.f5.params[j]? =some t→args[j]? =some v→Value.okWide Tryz.prog W .any base t v)
 (hW:DataW.Whole enc Tryz.prog Tryz.f5.params.toList Rows.qparseAgainSpec.vars false W args.toList ds gs before)
 (hL:laidMetH Tryz.prog Rows.qparseAgainRow.laid W) (hsh:W.ShapedOpen Tryz.prog) (hz:(DataW.weightsEach Tryz.prog (Tryz.f5.params.toList++Rows.qparseAgainSpec.plain.varTypes Tryz.prog) (ds++gs)).all (·≤reachBytes)=true):
 Calls Tryz.prog 5 args W fun e W'=>∃v,e=.returned v∧Rows.qparseAgainSpec.post enc Tryz.prog Tryz.f5 false true false false W args v W':=by
 have hval:∀(j:Nat) t v,Tryz.f5.params[j]? =some t→args[j]? =some v→Value.okWide Tryz.prog W .any base t v:=XB;have hW':=hW;obtain ⟨p,q,Tm,hV,rfl,hfz,hnd⟩:=hW;have hA:DataW.TrodAll enc Tryz.prog W 0 (fun _=>true) true Tryz.f5.params.toList args.toList ds p:=Tm;rw [Tryz.params5] at hA hval hz;obtain ⟨v0,vs0,d0,ds0,p0,q0,hargs,rfl,rfl,h0,r0⟩:=trodAll_cons hA;obtain ⟨rfl,rfl,rfl⟩:=trodAll_nil r0
 obtain rfl:args=#[v0]:=by cases args;simp_all
 obtain ⟨rfl,rfl⟩:=trodVars_none hV;obtain ⟨cs0,rfl,ad6⟩:=okWide_struct Tryz.underlying25 (hval 0 25 v0 rfl rfl);have k0:=h0
 have lt0:∀x∈p0,x.block<W.heap.size:=by obtain ⟨m,hm⟩:=k0;exact DataW.trod_lt m _ _ _ hm
 have hw0:∀n∈d0.weights Tryz.prog 25,n≤reachBytes:=fun n hn=>of_decide_eq_true (qY.1 hz n (DataW.weights_mem_each (j:=0) rfl rfl n hn));obtain ⟨z0,hm0,w0⟩:=h0.elim fun fuel hf=>KT fuel fuel (aa _) _ _ hf hw0;clear Tm XB;refine (walk z0 cs0 W hm0 w0 (abX hL hsh)).mono fun e W' ⟨he,Ka⟩=>?_;subst he;exact ⟨_,rfl,_,_,_,[],_,[],hW',trodAll_mk1 (shut_bool Tryz.underlying4 _),(trodAll_cons_mk (Below.trod laidOut (by kernel_rfl) (of_decide_eq_true (by kernel_rfl)) k0 Ka lt0) trodAll_mk0),rfl,Ka.frame _,fun h=>by cases h⟩
theorem lifted (os:Os) (started:os.Started) (H:Type) (enc:TypeId×Value→H):
 ReturnsInHanded {} Tryz.checked os 5 .any (fun w args=>(Rows.qparseAgainSpec.pre enc Tryz.prog Tryz.f5 Rows.qparseAgainRow.domain false w args∧laidMetH Tryz.prog Rows.qparseAgainRow.laid w)∧sizedMet enc Tryz.prog Tryz.f5 (OpenSpec.ofChange Rows.qparseAgainSpec) false w args)
  (Rows.qparseAgainSpec.post enc Tryz.prog Tryz.f5 false true false false):=by
 refine sG (C:=Tryz.checked) (X:=fun w _=>laidMetH Tryz.prog Rows.qparseAgainRow.laid w) (fun _ _ _ hh h=>h.of_heap hh) own started (by kernel_rfl) Tryz.func5
  (ChangeSpec.witness_shaped (enc:=enc) (C:=Tryz.checked) (os:=os) (X:=fun w _=>laidMetH Tryz.prog Rows.qparseAgainRow.laid w) false (World.laidAll Tryz.prog os Rows.qparseAgainRow.laid) #[.agg #[.int .i64 0,.int .i64 0,.string ByteArray.empty,.string ByteArray.empty,.int .i64 0,.int .i64 0,.int .i64 0,.int .i64 0,.slice none 0 0]] 8 (World.laidAll_os _ _ _)
   (World.shaped_of_ZipB (by kernel_rfl) (by kernel_rfl)) (by kernel_rfl) (by kernel_rfl) (by kernel_rfl)
   (by rw [MakeChecks.laidMetH_plain _ _ _ (by kernel_rfl)];exact laidMet_laidAll _ (by kernel_rfl) (by kernel_rfl))) ?_
 intro W base args ds gs before hval hW hz hL hsh;exact contract H enc W base args ds gs before hval hW hL hsh hz
theorem over:Rows.qparseAgainRow.holds Tryz.pinned (OpenSpec.ofChange Rows.qparseAgainSpec):=
 OpenClaim.holds_of_wide 5 Tryz.f5 rfl rfl rfl rfl rfl rfl rfl ⟨rfl,rfl,rfl,rfl,rfl⟩ rfl rfl rfl rfl rfl (by kernel_rfl) Tryz.func5 (by kernel_rfl)
  (of_decide_eq_true (by kernel_rfl)) (by unfold Func.isWrapper;first|(rw [if_pos (by decide+kernel)];kernel_rfl)|(rw [if_neg (by decide+kernel)];exact ⟨rfl,rfl⟩))
  (fun os started H enc _=>lifted os started H enc)
theorem proved:Rows.QparseAgainSaid:=over
theorem plain (f:FuncId) (fn:Func) (hf:Tryz.pinned.checked.prog.funcNamed "wavestore/wavestorelaw49.QparseAgain"=some f) (hfn:Tryz.pinned.checked.prog.funcs[f]? =some fn):
 true=Tryz.pinned.checked.prog.looks []∧∀(j:Nat) t,fn.params[j]? =some t→Tryz.pinned.checked.prog.wantsStandIn t=false:=by
 obtain rfl:f=5:=au ((show Tryz.prog.funcNamed "wavestore/wavestorelaw49.QparseAgain"=some 5 by kernel_rfl).symm.trans hf)|>.symm
 obtain rfl:fn=Tryz.f5:=(au (Tryz.func5.symm.trans hfn)).symm;refine ⟨by kernel_rfl,fun j t ht=>?_⟩;rw [Tryz.params5] at ht
 have hm:t∈[25]:=by simpa using Array.mem_of_getElem? ht
 have hall:([25].all fun u=> !Tryz.prog.wantsStandIn u)=true:=by kernel_rfl
 exact (show Tryz.prog.wantsStandIn t=false by simpa using qY.1 hall t hm)
theorem JS:Rows.QparseAgainCardSaid:=
 Claim7.holds_tied_plain_at .later [] _ _ _ _ proved (fun _ h=>by cases h) (by kernel_rfl) (fun _ h=>by cases h) qparseAgain_row_tie rfl ⟨rfl,rfl⟩ (by kernel_rfl) rfl plain (by kernel_rfl)
end Go.Proofs.YtddoehnkgcbboaaGreatDoor.qparseAgain
namespace Go.Proofs.YtddoehnkgcbboaaGreatDoor
theorem qparseAgain_holds:Rows.QparseAgainCardSaid:=qparseAgain.JS
end Go.Proofs.YtddoehnkgcbboaaGreatDoor
