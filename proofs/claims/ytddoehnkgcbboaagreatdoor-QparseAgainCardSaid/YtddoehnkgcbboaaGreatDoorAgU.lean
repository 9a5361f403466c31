/- A part of the proof that the last file tells. -/
import Derived.Test.YtddoehnkgcbboaaGreatDoorAgT
set_option maxHeartbeats 16000000
set_option maxRecDepth 100000
set_option linter.unusedVariables false
set_option linter.unusedSimpArgs false
namespace Go.Proofs.YtddoehnkgcbboaaGreatDoor
open Go.RowKit Go.Shelf Go.Maps
def Nj (x:Nd):Prop:=iJ x.kind x.a x.b x.c x.d x.name x.value
theorem cK.kv {C:Nat→Prop} {W:World} {x:Nd} {kd a0 xa xb xc xd:Int} {nm vl:List UInt8} {s:Value} (h:cK C W x (aB kd a0 nm vl xa xb xc xd s)):x.kind=kd∧x.value=vl:=by
 obtain ⟨kd',a0',Ou,vl',xa',xb',xc',xd',ks⟩:=x
 obtain ⟨A,cap,e⟩:∃A cap,aB kd a0 nm vl xa xb xc xd s=aB kd' a0' Ou vl' xa' xb' xc' xd' (.slice A ks.length cap):=by
  generalize aB kd a0 nm vl xa xb xc xd s=cs at h;cases h;exact ⟨_,_,rfl⟩
 simp only [aB,List.cons.injEq,Value.int.injEq,Value.string.injEq,true_and,and_true] at e;exact ⟨e.1.symm,(Kh e.2.2.2.1).symm⟩
theorem cz.dC {W:World} {B b:Nat} {st:St} {M:Nat} (h:cz W B b (some st) M):W.cell? ⟨b,3,none⟩=some (.bool false)∧W.frozen? ⟨b,3,none⟩=false∧W.shape? b=some (79,4)∧
 ∀bd:Bool,cz (W.setCell ⟨b,3,none⟩ (.bool bd)) B b (jr bd st) M∧aM B b W (W.setCell ⟨b,3,none⟩ (.bool bd)):=by
 obtain ⟨v,st',bad,h1,h2,h3⟩:=h.at_
 cases bad with
 |true=>cases h3
 |false=>
  obtain rfl:st=st':=by injection h3
  obtain ⟨⟨_,_,c3⟩,_,_,f3⟩:=h1.cells;refine ⟨c3,f3,h1.shape,fun bd=>?_⟩;have ht:aM B b W (W.setCell ⟨b,3,none⟩ (.bool bd)):=(aM.refl B b W).set h1.ge _ _;exact ⟨h.next v st bd M ht (h1.yP bd) h2,ht⟩
theorem zi (o:Option St) (f k:St→Option St) (u:St→St):((o.bind f).map u).bind k=o.bind fun st=>(f st).bind fun st=>k (u st):=by
 cases o with
 |none=>rfl
 |some st=>
  show Option.bind (Option.map u (f st)) k=Option.bind (f st) _
  cases f st<;>rfl
theorem qx (o:Option St) (n:Nd) (fs:List Pw) (h:n.kind=44):o.bind (fS aD n fs)=o.bind fun st=>if bJ n false false false false∧fs.length=2∧iz aD (n.kids.getD 0 np)=13∧(n.kids.getD 0 np).kind≠44 then (jV fs 0 13 st).bind fun st=>jV fs 1 0 (bD st [32,105,102,32]) else none:=by
 cases o with
 |none=>rfl
 |some st=>
  show fS aD n fs st=_;unfold fS;rw [if_neg (show¬n.kind=45 by omega),if_neg (show¬n.kind=47 by omega),if_pos h];rfl
theorem zj (o:Option St) (n:Nd) (fs:List Pw) (h:n.kind=42):o.bind (fS aD n fs)=o.bind fun st=>if bJ n false false false false∧fs.length=1∧(n.kids.getD 0 np).kind=1 then kG n fs [111,99,99,117,114,115] 9 st else none:=by
 cases o with
 |none=>rfl
 |some st=>
  show fS aD n fs st=_;unfold fS;rw [if_neg (show¬n.kind=45 by omega),if_neg (show¬n.kind=47 by omega),if_neg (show¬n.kind=44 by omega),if_pos h];rfl
theorem Xk (ks:List Nd) (h:0<ks.length):ks.getD 0 np=ks[0]:=by
 cases ks with
 |nil=>cases h
 |cons x r=>rfl
theorem ZA (B b:Nat) (a0 xa xb xc xd:Int) (nm vl:List UInt8) (ks:List Nd) (A:Option Addr) (cap:Nat) (o:Option St) (M:Nat) (w:World) (h:cz w B b o M) (hk:sJ B w ks A) (gS:∀i (hi:i<ks.length),qs ks[i]) (hft:iJ 44 xa xb xc xd nm vl) (KM:∀i (hi:i<ks.length),Nj ks[i]) (hn:ks.length≤1000000) (hM:M+1500+2000*ax ks≤1099511627776):
 Calls Tryz.prog 112 #[.pointer (some ⟨b,0,none⟩),.agg (aB 44 a0 nm vl xa xb xc xd (.slice A ks.length cap)).toArray] w (jn B b w (o.bind (fS aD (.mk 44 a0 nm vl xa xb xc xd ks) (aq aD aQ ks))) (M+1500+2000*ax ks)):=by
 have hlt:=h.lt.1;have hge:=h.lt.2;have oN:=hide hk;have HKF:=hide KM;clear KM
 obtain ⟨w1,hw1⟩:∃w1,w1=w.alloc (.cells (aB 44 a0 nm vl xa xb xc xd (.slice A ks.length cap)).toArray 25):=⟨_,rfl⟩
 have hb1:Below w.heap.size w w1:=by rw [hw1];exact (af _ w).alloc (aa _) _
 have P1:=hide (h.keep hb1);have T1:=hide (aM.of_below (b:=b) hb1 (show B≤w.heap.size by omega));have fU:=ae (Row w1 w.heap.size 25 (aB 44 a0 nm vl xa xb xc xd (.slice A ks.length cap)).toArray) (by rw [hw1];exact Row.new _ _ _);have cR:=hide hw1.symm;have oO:=hide gS;have pM:=hide hft;clear h hk hw1 hb1 gS hft;unfold aB at cR fU⊢;go_enter Tryz.func112,Tryz.ntmps112;go_upto_region 1 with fail;rw [cR.o];obtain ⟨dJ,eN,ei,ek,dF,dG,eA,eB,cj⟩:=ak fU.o;go_wp2_with fail;refine bW (cM B b 44 a0 xa xb xc xd nm vl (.slice A ks.length cap) [] o M w1 P1.o) T1 fU (by decide) (by omega) fun w2 o2 Q2 P2 T2 ia=>?_;clear dJ eN ei ek dF dG eA eB cj;obtain ⟨dJ,eN,ei,ek,dF,dG,eA,eB,cj⟩:=ak ia.o;have C3:=hide (fx B b 44 a0 xa xb xc xd nm vl A ks.length cap 2 2 o2 M w2 P2.o (by omega));unfold aB at C3
 obtain ⟨o3,q3⟩:∃z_,iA o2 ks.length 2 2=z_:=⟨_,rfl⟩
 rw [q3] at C3
 have kE:iA (nX o (decide (nm=[])) (decide (vl=[])) (decide (xa=0)) (decide (xb=0)) (decide (xc=0)) (decide (xd=0)) []) ks.length 2 2=if bJ (.mk 44 a0 nm vl xa xb xc xd ks) false false false false=true∧2≤(ks.length:Int)∧(ks.length:Int)≤2 then o else none:=mY o [] 2 2
 rw [Q2.o,q3] at kE;have kX:=hide kE;clear kE q3
 cases o3 with
 |none=>
  go_wp2_with fail;refine (C3.o).mono ?_;rintro e w3 ⟨rfl,p3,t3⟩;have P3:=hide p3;have T3:=hide (T2.o.trans t3);have iR:=hide (t3.row ia.o (by decide) (by omega));clear p3 t3 C3;clear dJ eN ei ek dF dG eA eB cj
  have HP:=ae (cz w3 B b (o.bind (fS aD (.mk 44 a0 nm vl xa xb xc xd ks) (aq aD aQ ks))) (M+1500+2000*ax ks)) (by
   rw [qx o (.mk 44 a0 nm vl xa xb xc xd ks) (aq aD aQ ks) rfl,show o.bind _=none from iQ kX.o (fun h=>⟨h.1,by have:=h.2.1;rw [a_] at this;omega⟩)]
   exact P3.o.mono (by omega))
  go_wp2;go_end0;exact ⟨rfl,HP.o,T3.o⟩
 |some st=>
  obtain ⟨⟨hc1,hc2,hc3⟩,ho⟩:=iP kX.o;have uu:=hide (show ks.length=2 by omega)
  have hi0:0<ks.length:=by omega
  have hi1:1<ks.length:=by omega
  have XL:(1:Int)<(ks.length:Int):=by omega
  have hct:=vr ks hi1;have ZB:=hide (HKF.o 0 hi0);obtain ⟨bb,bc,lR,rX,rY,qQ,rZ,r_,se,sf,si,eX,eZ,I7,sj⟩:=oN.o.kid (i:=0) hi0;subst I7
  obtain ⟨x0,hx0⟩:∃x,ks[0]'hi0=x:=⟨_,rfl⟩
  rw [hx0] at sj;have K0:=hide (fun (W:World) (hb:Below B w W) (hz:w.heap.size≤W.heap.size)=>show (W.cell? ⟨bb,bc,none⟩=some (.int .i64 lR)∧W.cell? ⟨bb,bc+1,none⟩=some (.int .i64 rX)∧W.cell? ⟨bb,bc+2,none⟩=some (.string (ag rY))∧W.cell? ⟨bb,bc+3,none⟩=some (.string (ag qQ))∧W.cell? ⟨bb,bc+4,none⟩=some (.int .i64 rZ)∧W.cell? ⟨bb,bc+5,none⟩=some (.int .i64 r_)∧W.cell? ⟨bb,bc+6,none⟩=some (.int .i64 se)∧W.cell? ⟨bb,bc+7,none⟩=some (.int .i64 sf)∧W.cell? ⟨bb,bc+8,none⟩=some (.slice si eX eZ))∧cK (fun c=>B≤c) W x0 [Value.int .i64 lR,.int .i64 rX,.string (ag rY),.string (ag qQ),.int .i64 rZ,.int .i64 r_,.int .i64 se,.int .i64 sf,.slice si eX eZ] from sj W hb hz)
  have sk:Hid (qs x0):=by rw [←hx0];exact oO.o 0 hi0
  have I8:aC x0≤ax ks:=by rw [←hx0];exact ez (cI _)
  have xf:=hide hx0;clear hx0 sj;obtain ⟨bk1,of1,Rk,Rl,Rm,Rn,Ro,Rq,Rs,Rt,Ru,pP,pQ,Xh,Mb⟩:=oN.o.kid (i:=1) hi1
  obtain ⟨rfl,rfl⟩:bb=bk1∧bc=of1:=by injection Xh with e;injection e with e1 e2;exact ⟨e1,e2⟩
  clear Xh
  obtain ⟨x1,hx1⟩:∃x,ks[1]'hi1=x:=⟨_,rfl⟩
  rw [hx1] at Mb;have K1:=hide (fun (W:World) (hb:Below B w W) (hz:w.heap.size≤W.heap.size)=>show (W.cell? ⟨bb,bc+9,none⟩=some (.int .i64 Rk)∧W.cell? ⟨bb,bc+10,none⟩=some (.int .i64 Rl)∧W.cell? ⟨bb,bc+11,none⟩=some (.string (ag Rm))∧W.cell? ⟨bb,bc+12,none⟩=some (.string (ag Rn))∧W.cell? ⟨bb,bc+13,none⟩=some (.int .i64 Ro)∧W.cell? ⟨bb,bc+14,none⟩=some (.int .i64 Rq)∧W.cell? ⟨bb,bc+15,none⟩=some (.int .i64 Rs)∧W.cell? ⟨bb,bc+16,none⟩=some (.int .i64 Rt)∧W.cell? ⟨bb,bc+17,none⟩=some (.slice Ru pP pQ))∧cK (fun c=>B≤c) W x1 [Value.int .i64 Rk,.int .i64 Rl,.string (ag Rm),.string (ag Rn),.int .i64 Ro,.int .i64 Rq,.int .i64 Rs,.int .i64 Rt,.slice Ru pP pQ] from Mb W hb hz)
  have Zv:Hid (qs x1):=by rw [←hx1];exact oO.o 1 hi1
  have aby:aC x1≤ax ks:=by rw [←hx1];exact ez (cI _)
  have Ed:=hide hx1;clear hx1 Mb;rw [xf.o,Ed.o] at hct;rw [xf.o] at ZB;have nu:=hide (And.intro hc1 ho);clear hc1 hc2 hc3 ho;go_wp2_with fail;refine (C3.o).mono ?_;rintro e w3 ⟨rfl,p3,t3⟩;have P3:=hide p3;have T3:=hide (T2.o.trans t3);have iR:=hide (t3.row ia.o (by decide) (by omega));clear p3 t3 C3;clear dJ eN ei ek dF dG eA eB cj;have cj:w3.cell? ⟨w.heap.size,8,none⟩=some (.slice (some ⟨bb,bc,none⟩) ks.length cap):=iR.o.cell 8;obtain ⟨⟨d0,d1,d2,d3,d4,d5,d6,d7,d8⟩,hnd⟩:=K0.o w3 T3.o.below T3.o.size;have km:=hnd.kv;obtain ⟨c3,f3,s3,_⟩:=P3.o.dC
  obtain ⟨lv,hlv⟩:∃z_,Gv lR qQ=z_:=⟨_,rfl⟩
  have LV:Hid (Calls Tryz.prog 44 #[.agg #[.int .i64 lR,.int .i64 rX,.string (ag rY),.string (ag qQ),.int .i64 rZ,.int .i64 r_,.int .i64 se,.int .i64 sf,.slice si eX eZ]] w3 fun e w'=>e=.returned (.int .i64 lv)∧Below w3.heap.size w3 w'):=by
   rw [←hlv];exact qq lR rX rZ r_ se sf rY qQ (.slice si eX eZ) w3 (by rw [←km.1];exact ZB.o.kd) (by rw [←km.2];have:=ZB.o.vl;omega) P3.o.gl
  have Oy:=ae (iz aD (Nd.kids (.mk 44 a0 nm vl xa xb xc xd ks)|>.getD 0 np)=lv∧(Nd.kids (.mk 44 a0 nm vl xa xb xc xd ks)|>.getD 0 np).kind=lR) (by
   show iz aD (ks.getD 0 np)=lv∧(ks.getD 0 np).kind=lR
   rw [Xk ks hi0,xf.o,CV,km.1,km.2];exact ⟨hlv,rfl⟩)
  clear hlv km hnd;go_wp2_with fail;refine LV.o.mono ?_;rintro e wv ⟨rfl,hbv⟩;clear cj;clear d0 d1 d2 d3 d4 d5 d6 d7 d8 c3 f3 s3 LV;have htv:=aM.of_below (b:=b) hbv (br P3.o.lt.2 (Nat.le_of_lt P3.o.lt.1));have Pv:=hide (P3.o.keep hbv);have Tv:=hide (T3.o.trans htv);have Rnv:=hide (htv.row iR.o (by decide) (by omega));clear hbv htv;obtain ⟨⟨d0,d1,d2,d3,d4,d5,d6,d7,d8⟩,_⟩:=K0.o wv Tv.o.below Tv.o.size;obtain ⟨c3,f3,s3,_⟩:=Pv.o.dC;have cj:wv.cell? ⟨w.heap.size,8,none⟩=some (.slice (some ⟨bb,bc,none⟩) ks.length cap):=Rnv.o.cell 8;by_cases tQ:lv=13
  ·subst tQ;by_cases h44:lR=44
   ·have HC:=hide h44
    have e44:(lR==44)=true:=by simpa using h44
    clear h44;go_upto_region 28 with fail
    obtain ⟨w4,hw4⟩:∃W',W'=wv.setCell ⟨b,3,none⟩ (.bool true):=⟨_,rfl⟩
    obtain ⟨p4,t4⟩:=Pv.o.dC.2.2.2 true;rw [←hw4] at p4 t4;have P4:=hide p4;have T4:=hide (Tv.o.trans t4);have jJ:=hide (t4.row Rnv.o (by decide) (by omega));have Rv:=hide hw4.symm;clear p4 t4 hw4;rw [Rv.o];clear d0 d1 d2 d3 d4 d5 d6 d7 d8 c3 f3 s3 cj e44
    obtain ⟨o4,q4⟩:∃z_,jr true st=z_:=⟨_,rfl⟩
    rw [q4] at P4;have Q4:=hide q4;clear q4;have cj:w4.cell? ⟨w.heap.size,8,none⟩=some (.slice (some ⟨bb,bc,none⟩) ks.length cap):=jJ.o.cell 8;obtain ⟨⟨d0,d1,d2,d3,d4,d5,d6,d7,d8⟩,qR⟩:=K0.o w4 T4.o.below T4.o.size;have hnd:=hide qR;clear qR;go_wp2_with fail;refine bW (sk.o B b (13) _ o4 _ w4 P4.o hnd.o (by decide) (by decide) (by omega)) T4 jJ (by decide) (by omega) fun w5 o5 Q5 P5 T5 oP=>?_;clear cj d0 d1 d2 d3 d4 d5 d6 d7 d8 hnd;go_wp2_with fail;refine bW (bT B b [32,105,102,32] 4 o5 (M+2000*aC x0) w5 P5.o (by omega)) T5 oP (by decide) (by omega) fun w6 o6 Q6 P6 T6 oI=>?_;have cj:w6.cell? ⟨w.heap.size,8,none⟩=some (.slice (some ⟨bb,bc,none⟩) ks.length cap):=oI.o.cell 8;obtain ⟨⟨d0,d1,d2,d3,d4,d5,d6,d7,d8⟩,qR⟩:=K1.o w6 T6.o.below T6.o.size;have hnd:=hide qR;clear qR;go_wp2_with fail;refine bW (Zv.o B b (0) _ o6 _ w6 P6.o hnd.o (by decide) (by decide) (by omega)) T6 oI (by decide) (by omega) fun w7 o7 Q7 P7 T7 Dx=>?_;clear cj d0 d1 d2 d3 d4 d5 d6 d7 d8 hnd
    have HP:=ae (cz w7 B b (o.bind (fS aD (.mk 44 a0 nm vl xa xb xc xd ks) (aq aD aQ ks))) (M+1500+2000*ax ks)) (by
     have hp:=P7.o;rw [←Q7.o,←Q6.o,←Q5.o,←Q4.o] at hp;rw [nu.o.2,qx _ (.mk 44 a0 nm vl xa xb xc xd ks) (aq aD aQ ks) rfl,Option.bind_some];rw [if_neg (fun h=>by have h1:=h.2.2.1;have h2:=h.2.2.2;rw [Oy.o.1] at h1;rw [Oy.o.2] at h2;first|exact h2 HC.o|exact HC.o h1)]
     exact hp.mono (by first|omega|(simp only [aj,aK];omega)))
    go_wp2;go_end0;exact ⟨rfl,HP.o,T7.o⟩
   ·have HC:=ae ((13:Int)=13∧lR≠44) (⟨rfl,h44⟩)
    have e44:(lR==44)=false:=by simpa using h44
    clear h44;go_upto_region 28 with fail
    obtain ⟨w4,hw4⟩:∃W',W'=wv.setCell ⟨b,3,none⟩ (.bool false):=⟨_,rfl⟩
    obtain ⟨p4,t4⟩:=Pv.o.dC.2.2.2 false;rw [←hw4] at p4 t4;have P4:=hide p4;have T4:=hide (Tv.o.trans t4);have jJ:=hide (t4.row Rnv.o (by decide) (by omega));have Rv:=hide hw4.symm;clear p4 t4 hw4;rw [Rv.o];clear d0 d1 d2 d3 d4 d5 d6 d7 d8 c3 f3 s3 cj e44
    obtain ⟨o4,q4⟩:∃z_,jr false st=z_:=⟨_,rfl⟩
    rw [q4] at P4;have Q4:=hide q4;clear q4;have cj:w4.cell? ⟨w.heap.size,8,none⟩=some (.slice (some ⟨bb,bc,none⟩) ks.length cap):=jJ.o.cell 8;obtain ⟨⟨d0,d1,d2,d3,d4,d5,d6,d7,d8⟩,qR⟩:=K0.o w4 T4.o.below T4.o.size;have hnd:=hide qR;clear qR;go_wp2_with fail;refine bW (sk.o B b (13) _ o4 _ w4 P4.o hnd.o (by decide) (by decide) (by omega)) T4 jJ (by decide) (by omega) fun w5 o5 Q5 P5 T5 oP=>?_;clear cj d0 d1 d2 d3 d4 d5 d6 d7 d8 hnd;go_wp2_with fail;refine bW (bT B b [32,105,102,32] 4 o5 (M+2000*aC x0) w5 P5.o (by omega)) T5 oP (by decide) (by omega) fun w6 o6 Q6 P6 T6 oI=>?_;have cj:w6.cell? ⟨w.heap.size,8,none⟩=some (.slice (some ⟨bb,bc,none⟩) ks.length cap):=oI.o.cell 8;obtain ⟨⟨d0,d1,d2,d3,d4,d5,d6,d7,d8⟩,qR⟩:=K1.o w6 T6.o.below T6.o.size;have hnd:=hide qR;clear qR;go_wp2_with fail;refine bW (Zv.o B b (0) _ o6 _ w6 P6.o hnd.o (by decide) (by decide) (by omega)) T6 oI (by decide) (by omega) fun w7 o7 Q7 P7 T7 Dx=>?_;clear cj d0 d1 d2 d3 d4 d5 d6 d7 d8 hnd
    have HP:=ae (cz w7 B b (o.bind (fS aD (.mk 44 a0 nm vl xa xb xc xd ks) (aq aD aQ ks))) (M+1500+2000*ax ks)) (by
     have hp:=P7.o;rw [←Q7.o,←Q6.o,←Q5.o,←Q4.o] at hp;rw [nu.o.2,qx _ (.mk 44 a0 nm vl xa xb xc xd ks) (aq aD aQ ks) rfl,Option.bind_some];rw [zi] at hp;rw [if_pos ⟨nu.o.1,by rw [a_];exact uu.o,Oy.o.1,by rw [Oy.o.2];exact HC.o.2⟩,jk ks hi0,xf.o];simp only [jk ks hi1,Ed.o]
     exact hp.mono (by first|omega|(simp only [aj,aK];omega)))
    go_wp2;go_end0;exact ⟨rfl,HP.o,T7.o⟩
  ·have HC:=hide tQ
   have Qy:(lv==13)=false:=by simpa using tQ
   have acV:(lv !=13)=true:=by simpa using tQ
   clear tQ;go_upto_region 28 with fail
   obtain ⟨w4,hw4⟩:∃W',W'=wv.setCell ⟨b,3,none⟩ (.bool true):=⟨_,rfl⟩
   obtain ⟨p4,t4⟩:=Pv.o.dC.2.2.2 true;rw [←hw4] at p4 t4;have P4:=hide p4;have T4:=hide (Tv.o.trans t4);have jJ:=hide (t4.row Rnv.o (by decide) (by omega));have Rv:=hide hw4.symm;clear p4 t4 hw4;rw [Rv.o];clear d0 d1 d2 d3 d4 d5 d6 d7 d8 c3 f3 s3 cj Qy acV
   obtain ⟨o4,q4⟩:∃z_,jr true st=z_:=⟨_,rfl⟩
   rw [q4] at P4;have Q4:=hide q4;clear q4;have cj:w4.cell? ⟨w.heap.size,8,none⟩=some (.slice (some ⟨bb,bc,none⟩) ks.length cap):=jJ.o.cell 8;obtain ⟨⟨d0,d1,d2,d3,d4,d5,d6,d7,d8⟩,qR⟩:=K0.o w4 T4.o.below T4.o.size;have hnd:=hide qR;clear qR;go_wp2_with fail;refine bW (sk.o B b (13) _ o4 _ w4 P4.o hnd.o (by decide) (by decide) (by omega)) T4 jJ (by decide) (by omega) fun w5 o5 Q5 P5 T5 oP=>?_;clear cj d0 d1 d2 d3 d4 d5 d6 d7 d8 hnd;go_wp2_with fail;refine bW (bT B b [32,105,102,32] 4 o5 (M+2000*aC x0) w5 P5.o (by omega)) T5 oP (by decide) (by omega) fun w6 o6 Q6 P6 T6 oI=>?_;have cj:w6.cell? ⟨w.heap.size,8,none⟩=some (.slice (some ⟨bb,bc,none⟩) ks.length cap):=oI.o.cell 8;obtain ⟨⟨d0,d1,d2,d3,d4,d5,d6,d7,d8⟩,qR⟩:=K1.o w6 T6.o.below T6.o.size;have hnd:=hide qR;clear qR;go_wp2_with fail;refine bW (Zv.o B b (0) _ o6 _ w6 P6.o hnd.o (by decide) (by decide) (by omega)) T6 oI (by decide) (by omega) fun w7 o7 Q7 P7 T7 Dx=>?_;clear cj d0 d1 d2 d3 d4 d5 d6 d7 d8 hnd
   have HP:=ae (cz w7 B b (o.bind (fS aD (.mk 44 a0 nm vl xa xb xc xd ks) (aq aD aQ ks))) (M+1500+2000*ax ks)) (by
    have hp:=P7.o;rw [←Q7.o,←Q6.o,←Q5.o,←Q4.o] at hp;rw [nu.o.2,qx _ (.mk 44 a0 nm vl xa xb xc xd ks) (aq aD aQ ks) rfl,Option.bind_some];rw [if_neg (fun h=>by have h1:=h.2.2.1;have h2:=h.2.2.2;rw [Oy.o.1] at h1;rw [Oy.o.2] at h2;first|exact h2 HC.o|exact HC.o h1)]
    exact hp.mono (by first|omega|(simp only [aj,aK];omega)))
   go_wp2;go_end0;exact ⟨rfl,HP.o,T7.o⟩
theorem ZC (B b:Nat) (a0 xa xb xc xd:Int) (nm vl:List UInt8) (ks:List Nd) (A:Option Addr) (cap:Nat) (o:Option St) (M:Nat) (w:World) (h:cz w B b o M) (hk:sJ B w ks A) (gS:∀i (hi:i<ks.length),qs ks[i]) (hft:iJ 42 xa xb xc xd nm vl) (KM:∀i (hi:i<ks.length),Nj ks[i]) (hn:ks.length≤1000000) (hM:M+1500+2000*ax ks≤1099511627776):
 Calls Tryz.prog 112 #[.pointer (some ⟨b,0,none⟩),.agg (aB 42 a0 nm vl xa xb xc xd (.slice A ks.length cap)).toArray] w (jn B b w (o.bind (fS aD (.mk 42 a0 nm vl xa xb xc xd ks) (aq aD aQ ks))) (M+1500+2000*ax ks)):=by
 have hlt:=h.lt.1;have hge:=h.lt.2;have oN:=hide hk;have HKF:=hide KM;clear KM
 obtain ⟨w1,hw1⟩:∃w1,w1=w.alloc (.cells (aB 42 a0 nm vl xa xb xc xd (.slice A ks.length cap)).toArray 25):=⟨_,rfl⟩
 have hb1:Below w.heap.size w w1:=by rw [hw1];exact (af _ w).alloc (aa _) _
 have P1:=hide (h.keep hb1);have T1:=hide (aM.of_below (b:=b) hb1 (show B≤w.heap.size by omega));have fU:=ae (Row w1 w.heap.size 25 (aB 42 a0 nm vl xa xb xc xd (.slice A ks.length cap)).toArray) (by rw [hw1];exact Row.new _ _ _);have cR:=hide hw1.symm;have oO:=hide gS;have pM:=hide hft;clear h hk hw1 hb1 gS hft;unfold aB at cR fU⊢;go_enter Tryz.func112,Tryz.ntmps112;go_upto_region 1 with fail;rw [cR.o];obtain ⟨dJ,eN,ei,ek,dF,dG,eA,eB,cj⟩:=ak fU.o;go_wp2_with fail;refine bW (cM B b 42 a0 xa xb xc xd nm vl (.slice A ks.length cap) [] o M w1 P1.o) T1 fU (by decide) (by omega) fun w2 o2 Q2 P2 T2 ia=>?_;clear dJ eN ei ek dF dG eA eB cj;obtain ⟨dJ,eN,ei,ek,dF,dG,eA,eB,cj⟩:=ak ia.o;have C3:=hide (fx B b 42 a0 xa xb xc xd nm vl A ks.length cap 1 1 o2 M w2 P2.o (by omega));unfold aB at C3
 obtain ⟨o3,q3⟩:∃z_,iA o2 ks.length 1 1=z_:=⟨_,rfl⟩
 rw [q3] at C3
 have kE:iA (nX o (decide (nm=[])) (decide (vl=[])) (decide (xa=0)) (decide (xb=0)) (decide (xc=0)) (decide (xd=0)) []) ks.length 1 1=if bJ (.mk 42 a0 nm vl xa xb xc xd ks) false false false false=true∧1≤(ks.length:Int)∧(ks.length:Int)≤1 then o else none:=mY o [] 1 1
 rw [Q2.o,q3] at kE;have kX:=hide kE;clear kE q3
 cases o3 with
 |none=>
  go_wp2_with fail;refine (C3.o).mono ?_;rintro e w3 ⟨rfl,p3,t3⟩;have P3:=hide p3;have T3:=hide (T2.o.trans t3);have iR:=hide (t3.row ia.o (by decide) (by omega));clear p3 t3 C3;clear dJ eN ei ek dF dG eA eB cj
  have HP:=ae (cz w3 B b (o.bind (fS aD (.mk 42 a0 nm vl xa xb xc xd ks) (aq aD aQ ks))) (M+1500+2000*ax ks)) (by
   rw [zj o (.mk 42 a0 nm vl xa xb xc xd ks) (aq aD aQ ks) rfl,show o.bind _=none from iQ kX.o (fun h=>⟨h.1,by have:=h.2.1;rw [a_] at this;omega⟩)]
   exact P3.o.mono (by omega))
  go_wp2;go_end0;exact ⟨rfl,HP.o,T3.o⟩
 |some st=>
  obtain ⟨⟨hc1,hc2,hc3⟩,ho⟩:=iP kX.o;have uu:=hide (show ks.length=1 by omega)
  have hi0:0<ks.length:=by omega
  obtain ⟨bb,bc,lR,rX,rY,qQ,rZ,r_,se,sf,si,eX,eZ,I7,sj⟩:=oN.o.kid (i:=0) hi0;subst I7
  obtain ⟨x0,hx0⟩:∃x,ks[0]'hi0=x:=⟨_,rfl⟩
  rw [hx0] at sj;have K0:=hide (fun (W:World) (hb:Below B w W) (hz:w.heap.size≤W.heap.size)=>show (W.cell? ⟨bb,bc,none⟩=some (.int .i64 lR)∧W.cell? ⟨bb,bc+1,none⟩=some (.int .i64 rX)∧W.cell? ⟨bb,bc+2,none⟩=some (.string (ag rY))∧W.cell? ⟨bb,bc+3,none⟩=some (.string (ag qQ))∧W.cell? ⟨bb,bc+4,none⟩=some (.int .i64 rZ)∧W.cell? ⟨bb,bc+5,none⟩=some (.int .i64 r_)∧W.cell? ⟨bb,bc+6,none⟩=some (.int .i64 se)∧W.cell? ⟨bb,bc+7,none⟩=some (.int .i64 sf)∧W.cell? ⟨bb,bc+8,none⟩=some (.slice si eX eZ))∧cK (fun c=>B≤c) W x0 [Value.int .i64 lR,.int .i64 rX,.string (ag rY),.string (ag qQ),.int .i64 rZ,.int .i64 r_,.int .i64 se,.int .i64 sf,.slice si eX eZ] from sj W hb hz)
  have sk:Hid (qs x0):=by rw [←hx0];exact oO.o 0 hi0
  have I8:aC x0≤ax ks:=by rw [←hx0];exact ez (cI _)
  have xf:=hide hx0;clear hx0 sj;have nu:=hide (And.intro hc1 ho);clear hc1 hc2 hc3 ho;go_wp2_with fail;refine (C3.o).mono ?_;rintro e w3 ⟨rfl,p3,t3⟩;have P3:=hide p3;have T3:=hide (T2.o.trans t3);have iR:=hide (t3.row ia.o (by decide) (by omega));clear p3 t3 C3;clear dJ eN ei ek dF dG eA eB cj;have cj:w3.cell? ⟨w.heap.size,8,none⟩=some (.slice (some ⟨bb,bc,none⟩) ks.length cap):=iR.o.cell 8;obtain ⟨⟨d0,d1,d2,d3,d4,d5,d6,d7,d8⟩,hnd⟩:=K0.o w3 T3.o.below T3.o.size;have km:=hnd.kv;obtain ⟨c3,f3,s3,_⟩:=P3.o.dC
  have Oy:=ae ((Nd.kids (.mk 42 a0 nm vl xa xb xc xd ks)|>.getD 0 np).kind=lR) (by
   show (ks.getD 0 np).kind=lR
   rw [Xk ks hi0,xf.o,km.1])
  clear km hnd;by_cases h1:lR=1
  ·have HC:=hide h1
   have e1:(lR==1)=true:=by simpa using h1
   have e1':(lR !=1)=false:=by simpa using h1
   clear h1;go_upto_region 35 with fail
   obtain ⟨w4,hw4⟩:∃W',W'=w3.setCell ⟨b,3,none⟩ (.bool false):=⟨_,rfl⟩
   obtain ⟨p4,t4⟩:=P3.o.dC.2.2.2 false;rw [←hw4] at p4 t4;have P4:=hide p4;have T4:=hide (T3.o.trans t4);have jJ:=hide (t4.row iR.o (by decide) (by omega));have Rv:=hide hw4.symm;clear p4 t4 hw4;rw [Rv.o];clear d0 d1 d2 d3 d4 d5 d6 d7 d8 c3 f3 s3 cj e1 e1'
   obtain ⟨o4,q4⟩:∃z_,jr false st=z_:=⟨_,rfl⟩
   rw [q4] at P4;have Q4:=hide q4;clear q4;obtain ⟨dJ,eN,ei,ek,dF,dG,eA,eB,cj⟩:=ak jJ.o;have C5:=hide (oa B b 42 a0 xa xb xc xd nm vl ks (some ⟨bb,bc,none⟩) cap [111,99,99,117,114,115] 9 (by decide) (by decide) (by decide) o4 M w4 P4.o (oN.o.keep T4.o.below T4.o.size) oO.o pM.o (by omega) hM);unfold aB at C5;go_wp2_with fail;refine C5.o.mono ?_;rintro e w9 ⟨rfl,p9,t9⟩
   have HP:=ae (cz w9 B b (o.bind (fS aD (.mk 42 a0 nm vl xa xb xc xd ks) (aq aD aQ ks))) (M+1500+2000*ax ks)) (by
    have hp:=p9;rw [←Q4.o] at hp;rw [nu.o.2,zj _ (.mk 42 a0 nm vl xa xb xc xd ks) (aq aD aQ ks) rfl,Option.bind_some];rw [if_pos ⟨nu.o.1,by rw [a_];exact uu.o,by rw [Oy.o];exact HC.o⟩]
    exact hp)
   have T9:=hide (T4.o.trans t9);clear dJ eN ei ek dF dG eA eB cj;clear p9 t9 C5;go_wp2;go_end0;exact ⟨rfl,HP.o,T9.o⟩
  ·have HC:=hide h1
   have e1:(lR==1)=false:=by simpa using h1
   have e1':(lR !=1)=true:=by simpa using h1
   clear h1;go_upto_region 35 with fail
   obtain ⟨w4,hw4⟩:∃W',W'=w3.setCell ⟨b,3,none⟩ (.bool true):=⟨_,rfl⟩
   obtain ⟨p4,t4⟩:=P3.o.dC.2.2.2 true;rw [←hw4] at p4 t4;have P4:=hide p4;have T4:=hide (T3.o.trans t4);have jJ:=hide (t4.row iR.o (by decide) (by omega));have Rv:=hide hw4.symm;clear p4 t4 hw4;rw [Rv.o];clear d0 d1 d2 d3 d4 d5 d6 d7 d8 c3 f3 s3 cj e1 e1'
   obtain ⟨o4,q4⟩:∃z_,jr true st=z_:=⟨_,rfl⟩
   rw [q4] at P4;have Q4:=hide q4;clear q4;obtain ⟨dJ,eN,ei,ek,dF,dG,eA,eB,cj⟩:=ak jJ.o;have C5:=hide (oa B b 42 a0 xa xb xc xd nm vl ks (some ⟨bb,bc,none⟩) cap [111,99,99,117,114,115] 9 (by decide) (by decide) (by decide) o4 M w4 P4.o (oN.o.keep T4.o.below T4.o.size) oO.o pM.o (by omega) hM);unfold aB at C5;go_wp2_with fail;refine C5.o.mono ?_;rintro e w9 ⟨rfl,p9,t9⟩
   have HP:=ae (cz w9 B b (o.bind (fS aD (.mk 42 a0 nm vl xa xb xc xd ks) (aq aD aQ ks))) (M+1500+2000*ax ks)) (by
    have hp:=p9;rw [←Q4.o] at hp;rw [nu.o.2,zj _ (.mk 42 a0 nm vl xa xb xc xd ks) (aq aD aQ ks) rfl,Option.bind_some];rw [if_neg (fun h=>by have h1:=h.2.2;rw [Oy.o] at h1;exact HC.o h1)]
    exact hp)
   have T9:=hide (T4.o.trans t9);clear dJ eN ei ek dF dG eA eB cj;clear p9 t9 C5;go_wp2;go_end0;exact ⟨rfl,HP.o,T9.o⟩
end Go.Proofs.YtddoehnkgcbboaaGreatDoor
namespace Go.Proofs.YtddoehnkgcbboaaGreatDoor
open Go.RowKit Go.Shelf
theorem Je {L:List Lx} {k:Nat} (h:k<L.length):kx L k=L[k].text:=by unfold kx;rw [List.getElem?_eq_getElem h]
theorem Nk (p:PS) (F:Nat) (un uW:Nat→PR Nd) (ko:wR p) (hu:cY p 249 un F) (hpr:cY p 268 uW (F+1)):cY p 249 (zP p.L p.en un uW) (F+1):=by
 intro k w hF h;have hbz:p.b<w.heap.size:=h.row.lt;have hb0:Below w.heap.size w (w.alloc (.cells cG 25)):=(af _ _).alloc (aa _) _;have iX:Row (w.alloc (.cells cG 25)) w.heap.size 25 cG:=Row.new _ _ _;have PL:=hide (fun (k:Nat) (W:World) (h:bQ p W k)=>gD p k W h);have Xl:=hide (gD p k _ (h.below hb0));have AC:=hide (fun (k:Nat) (wd:List UInt8) (W:World) (h:bQ p W k)=>eW p k wd W h);have EX:=hide (fun (k:Nat) (wd:List UInt8) (W:World) (h:bQ p W k)=>h_ p k wd W h);have NM:=hide (fun (k:Nat) (W:World) (h:bQ p W k)=>rN p k 32768 W h);have HN:=hide (fun (W:World) (h:bQ p W (k+1))=>hu (k+1) W (by omega) h);have HP:=hide (fun (W:World) (h:bQ p W k)=>hpr k W hF h);have H:=hide h;have mi:=hide hb0;have oF:=hide iX;have HNG:=hide ko
 obtain ⟨RR,lM⟩:∃RR,zP p.L p.en un uW k=RR:=⟨_,rfl⟩
 have vU:=hide lM;rw [lM];generalize hpl:eO p.L p.en k=pl at Xl;have Gz:=hide hpl;clear hu hpr ko h hb0 iX lM hpl;go_enter Tryz.func249,Tryz.ntmps249;go_wp2_with fail;refine Xl.o.mono ?_;rintro e w1 ⟨rfl,hb1⟩;have hr1:Row w1 w.heap.size 25 cG:=oF.o.below hb1 oF.o.lt;have hb2:Below w.heap.size w w1:=mi.o.trans (hb1.mono mi.o.size);have zQ:=hide (AC.o k [126] w1 (H.o.below hb2));have jx:=hide hr1;have dX:=hide hb2;clear hb1 hb2 hr1
 cases hI:b_ p.L k [126] with
 |true=>
  rw [hI] at zQ;have HU:=ae (RR=(un (k+1)).bind fun x k'=>.ok (.mk 8 pl [] [] 0 0 0 0 [x]) k') (by rw [←vU.o];unfold zP;rw [if_pos (show b_ p.L k eu=true from hI),Gz.o]);clear HP hI;go_wp2_with fail;refine zQ.o.mono ?_;rintro e w2 ⟨rfl,h2,hk2⟩;have qG:=hide (jx.o.keep hk2 (by show¬w.heap.size=p.b;omega));have Du:=hide ((ah.of_below (C:=fun c=>c=p.b) dX.o (aa _)).trans hk2);have hz2:w.heap.size<w2.heap.size:=qG.o.lt;have X:=hide (HN.o w2 h2);clear h2 hk2
  cases hx:un (k+1) with
  |err a er=>
   rw [hx] at X;have HE:=ae (RR=.err a er) (by rw [HU.o,hx];rfl);clear hx;go_wp2_with fail;refine X.o.mono ?_;rintro e w3 ⟨rfl,hk3⟩;go_wp2;exact ⟨rfl,by rw [HE.o];exact ⟨rfl,Du.o.trans hk3⟩⟩
  |ok x k'=>
   rw [hx] at X;have HE:=ae (RR=.ok (.mk 8 pl [] [] 0 0 0 0 [x]) k') (by rw [HU.o,hx];rfl);clear hx;go_wp2_with fail;refine X.o.mono ?_;rintro e w3 ⟨⟨v,rfl,cs,rfl,hnd⟩,h3,hk3⟩;have hr3:Row w3 w.heap.size 25 cG:=qG.o.keep hk3 (by show¬w.heap.size=p.b;omega);have hkk:=Du.o.trans hk3;have hz3:=hk3.size;have fR:=hide hnd
   cases hnd with
   |mk kd a0 nm vl xa xb xc xd ks A cap bH hl hks hr=>
    unfold aB;have hr4:=hr3.alloc (.cells [aB kd a0 nm vl xa xb xc xd (.slice A ks.length cap)].flatten.toArray 25);have hb4:Below w3.heap.size w3 (w3.alloc (.cells [aB kd a0 nm vl xa xb xc xd (.slice A ks.length cap)].flatten.toArray 25)):=(af _ _).alloc (aa _) _;generalize lJ:w3.alloc (.cells [aB kd a0 nm vl xa xb xc xd (.slice A ks.length cap)].flatten.toArray 25)=W4 at hr4 hb4;have nT:w3.alloc (.cells #[.int .i64 kd,.int .i64 a0,.string (ag nm),.string (ag vl),.int .i64 xa,.int .i64 xb,.int .i64 xc,.int .i64 xd,.slice A ks.length cap] 25)=W4:=lJ;have NK:=hide (CK fR.o hz2 hz3 lJ.symm 8 pl 0 0 0 0 [] [] 1);obtain ⟨e0,e1,e2,e3,e4,e5,e6,e7,e8⟩:=ak hr4;obtain ⟨Kr,Ks,IJ,Kt,Ku,Kv,Kw,Ky,Kz⟩:=aU hr4;clear hl hks hr lJ hr3;go_wp2_with fail;refine bodyPost_ret (v:=.agg #[.int .i64 8,.int .i64 pl,.string {data:=#[]},.string {data:=#[]},.int .i64 0,.int .i64 0,.int .i64 0,.int .i64 0,.slice (some ⟨w3.heap.size,0,none⟩) 1 1]) (ai rfl _ _ w.heap.size 25 _ _ _ rfl (aJ hr4 _ _ _ _ _ _ _ _ _) Tryz.underlying25 rfl (by kernel_rfl)) rfl ?_;have hbl:=ay (W:=W4) (aa w.heap.size) (.int .i64 8) (.int .i64 pl) (.string {data:=#[]}) (.string {data:=#[]}) (.int .i64 0) (.int .i64 0) (.int .i64 0) (.int .i64 0) (.slice (some ⟨w3.heap.size,0,none⟩) 1 1);rw [HE.o];exact ⟨⟨_,rfl,NK.o⟩,H.o.above (h3.below hb4) hbl,(hkk.trans (ah.of_below hb4 (aa _))).over hbl⟩
 |false=>
  rw [hI] at zQ;clear HN;go_wp2_with fail;refine zQ.o.mono ?_;rintro e w2 ⟨rfl,h2,hk2⟩;have qG:=hide (jx.o.keep hk2 (by show¬w.heap.size=p.b;omega));have Du:=hide ((ah.of_below (C:=fun c=>c=p.b) dX.o (aa _)).trans hk2);have h2':bQ p w2 k:=h2;have VC:=hide (AC.o k [45] w2 h2');have H2:=hide h2';clear h2 h2' hk2
  cases hJ:b_ p.L k [45] with
  |true=>
   rw [hJ] at VC
   have hU:=ae (RR=(if cW p.L (k+1) 4 then .ok (.mk 4 pl [] (lN (kx p.L (k+1))) 0 0 0 0 []) (k+2) else ik p.L p.en (k+1))) (by
    rw [←vU.o];unfold zP
    rw [if_neg (show¬b_ p.L k eu=true from by rw [show b_ p.L k eu=false from hI];decide),if_pos (show b_ p.L k iy=true from hJ),Gz.o])
   clear HP hI hJ;go_wp2_with fail;refine VC.o.mono ?_;rintro e w3 ⟨rfl,h3,hk3⟩;have uq:=hide (qG.o.keep hk3 (by show¬w.heap.size=p.b;omega));have Ov:=hide (Du.o.trans hk3);have X:=hide (pC p (k+1) 4 w3 h3);clear h3 hk3
   cases hk4:cW p.L (k+1) 4 with
   |false=>
    rw [tO hk4] at X;have HE:=ae (RR=.err (eO p.L p.en (k+1)) 3) (by rw [hU.o,if_neg (by rw [hk4];decide)];rfl);clear hU hk4;go_wp2_with fail;refine X.o.mono ?_;rintro e w4 ⟨rfl,cC⟩;go_wp2;exact ⟨rfl,by rw [HE.o];exact ⟨rfl,Ov.o.trans cC⟩⟩
   |true=>
    rw [jW hk4] at X;have hlt:=fp hk4
    have LZ:(p.L[k+1]'hlt).kind=4:=by
     rw [tN hlt,cS,decide_eq_true_eq] at hk4;exact hk4.1
    have NG:=hide (HNG.o _ (cI hlt) LZ);have HE:=ae (RR=.ok (.mk 4 pl [] (lN (p.L[k+1]'hlt).text) 0 0 0 0 []) (k+2)) (by rw [hU.o,if_pos hk4,Je hlt]);generalize p.L[k+1]=x at*
    have hfd:∀W:World,(Instr.field 66 (.agg #[.int .i64 x.kind,.string (ag x.text),.int .i64 (x.az:Int)]) 1).run Tryz.prog W=.ok (.string (ag x.text)) W:=fun _=>by kernel_rfl
    rw [LZ] at hfd;clear hU hk4 hlt;go_wp2_with fail;refine X.o.mono ?_;rintro e w4 ⟨⟨v,rfl,rfl⟩,h4,cC⟩;have hr4:Row w4 w.heap.size 25 cG:=uq.o.keep cC (by show¬w.heap.size=p.b;omega);have PB:=hide hr4;have HK4:=hide (Ov.o.trans cC);have H4:=hide h4;clear hr4 h4 cC;go_wp2_with fail;refine (NG.o w4 H4.o.gl).mono ?_;rintro e w5 ⟨rfl,eG⟩;have oM:Row w5 w.heap.size 25 cG:=PB.o.below eG PB.o.lt;have yO:=hide (HK4.o.trans (ah.of_below eG (aa _)));have H5:=hide (H4.o.below eG);clear eG;obtain ⟨e0,e1,e2,e3,e4,e5,e6,e7,e8⟩:=ak oM;obtain ⟨Kr,Ks,IJ,Kt,Ku,Kv,Kw,Ky,Kz⟩:=aU oM;go_wp2_with fail;refine bodyPost_ret (v:=.agg #[.int .i64 4,.int .i64 pl,.string {data:=#[]},.string (ag (lN x.text)),.int .i64 0,.int .i64 0,.int .i64 0,.int .i64 0,.slice none 0 0]) (ai rfl _ _ w.heap.size 25 _ _ _ rfl (aJ oM _ _ _ _ _ _ _ _ _) Tryz.underlying25 rfl (by kernel_rfl)) rfl ?_;have hbl:=ay (W:=w5) (aa w.heap.size) (.int .i64 4) (.int .i64 pl) (.string {data:=#[]}) (.string (ag (lN x.text))) (.int .i64 0) (.int .i64 0) (.int .i64 0) (.int .i64 0) (.slice none 0 0);rw [HE.o];exact ⟨⟨_,rfl,_,rfl,cK.leaf _ _ 4 pl [] (lN x.text) 0 0 0 0 none 0⟩,H.o.above H5.o hbl,yO.o.over hbl⟩
  |false=>
   rw [hJ] at VC
   have HU:=ae (RR=(uW k).bind fun n k1=>if b_ p.L k1 dM then ky p.L p.en n k1 else .ok n k1) (by
    rw [←vU.o];unfold zP
    rw [if_neg (show¬b_ p.L k eu=true from by rw [show b_ p.L k eu=false from hI];decide),if_neg (show¬b_ p.L k iy=true from by rw [show b_ p.L k iy=false from hJ];decide)])
   clear hI hJ vU Gz;go_wp2_with fail;refine VC.o.mono ?_;rintro e w3 ⟨rfl,h3,hk3⟩;have uq:=hide (qG.o.keep hk3 (by show¬w.heap.size=p.b;omega));have Ov:=hide (Du.o.trans hk3);have hz3:w.heap.size<w3.heap.size:=uq.o.lt;have X:=hide (HP.o w3 h3);clear h3 hk3
   cases hx:uW k with
   |err a er=>
    rw [hx] at X;have HE:=ae (RR=.err a er) (by rw [HU.o,hx];rfl);clear hx;go_wp2_with fail;refine X.o.mono ?_;rintro e w4 ⟨rfl,hk4⟩;go_wp2;exact ⟨rfl,by rw [HE.o];exact ⟨rfl,Ov.o.trans hk4⟩⟩
   |ok n k1=>
    rw [hx] at X;have nt:=ae (RR=if b_ p.L k1 dM then ky p.L p.en n k1 else .ok n k1) (by rw [HU.o,hx];rfl);clear hx;go_wp2_with fail;refine X.o.mono ?_;rintro e w4 ⟨⟨v,rfl,cs,rfl,hnd⟩,h4,hk4⟩;have hr4:Row w4 w.heap.size 25 cG:=uq.o.keep hk4 (by show¬w.heap.size=p.b;omega);have mz:w.heap.size<w4.heap.size:=hr4.lt;have De:=hide (cU.new h4 (Ov.o.trans hk4) hr4 hnd hz3)
    cases hnd with
    |mk kd a0 nm vl xa xb xc xd ks A cap bH hl hks hr=>
     clear hl hks hr h4 hk4 hr4;generalize tG:w4.alloc (.cells (aB kd a0 nm vl xa xb xc xd (.slice A ks.length cap)).toArray 25)=W5 at De;have C9:w4.alloc (.cells #[.int .i64 kd,.int .i64 a0,.string (ag nm),.string (ag vl),.int .i64 xa,.int .i64 xb,.int .i64 xc,.int .i64 xd,.slice A ks.length cap] 25)=W5:=tG;clear tG;unfold aB;have PL5:=hide (PL.o k1 W5 De.o.at_);go_wp2_with fail;clear C9;refine PL5.o.mono ?_;rintro e W6 ⟨rfl,fV⟩;have FN:=De.o.below hbz mz fV;have AC6:=hide (AC.o k1 [91] W6 FN.at_);have Gw:=hide FN;clear fV FN
     cases hK:b_ p.L k1 [91] with
     |false=>
      rw [hK] at AC6;have HE:=ae (RR=.ok (.mk kd a0 nm vl xa xb xc xd ks) k1) (by rw [nt.o,if_neg (show¬b_ p.L k1 dM=true from by rw [show b_ p.L k1 dM=false from hK];decide)]);clear hK HU nt;go_wp2_with fail;refine AC6.o.mono ?_;rintro e W7 ⟨rfl,h7,hk7⟩;have hl7:=Gw.o.keep hbz mz h7 hk7;obtain ⟨h7,dL,hres,hrow,hnd⟩:=hl7;obtain ⟨d0,d1,d2,d3,d4,d5,d6,d7,d8⟩:=ak hrow;obtain ⟨e0,e1,e2,e3,e4,e5,e6,e7,e8⟩:=ak hres;obtain ⟨Kr,Ks,IJ,Kt,Ku,Kv,Kw,Ky,Kz⟩:=aU hres;have fR:=hide hnd;clear hrow hnd;go_wp2_with fail;refine bodyPost_ret (v:=.agg #[.int .i64 kd,.int .i64 a0,.string (ag nm),.string (ag vl),.int .i64 xa,.int .i64 xb,.int .i64 xc,.int .i64 xd,.slice A ks.length cap]) (ai rfl _ _ w.heap.size 25 _ _ _ rfl (aJ hres _ _ _ _ _ _ _ _ _) Tryz.underlying25 rfl (by kernel_rfl)) rfl ?_;have hbl:=ay (W:=W7) (aa w.heap.size) (.int .i64 kd) (.int .i64 a0) (.string (ag nm)) (.string (ag vl)) (.int .i64 xa) (.int .i64 xb) (.int .i64 xc) (.int .i64 xd) (.slice A ks.length cap);rw [HE.o];exact ⟨⟨_,rfl,_,rfl,(fR.o.keeps (aN (C:=fun b=>b≤w.heap.size∨b=w4.heap.size) (.inl (aa _)) _ _ _ _ _ _ _ _ _)).mono (fun b hb'=>.inl (Nat.le_of_lt hb'))⟩,H.o.above h7 hbl,dL.over hbl⟩
     |true=>
      rw [hK] at AC6;have oz:=ae (RR=ky p.L p.en (.mk kd a0 nm vl xa xb xc xd ks) k1) (by rw [nt.o,if_pos (show b_ p.L k1 dM=true from hK)]);generalize abz:eO p.L p.en k1=OA;have acW:=hide abz;clear hK HU nt abz;go_wp2_with fail;refine AC6.o.mono ?_;rintro e W7 ⟨rfl,h7,hk7⟩;have hl7:=Gw.o.keep hbz mz h7 hk7;have HL7:=hide hl7;obtain ⟨h7,dL,hres,hrow,hnd⟩:=hl7;obtain ⟨d0,d1,d2,d3,d4,d5,d6,d7,d8⟩:=ak hrow;have Db:=hrow.alloc (.cells [aB kd a0 nm vl xa xb xc xd (.slice A ks.length cap)].flatten.toArray 25);generalize VD:W7.alloc (.cells [aB kd a0 nm vl xa xb xc xd (.slice A ks.length cap)].flatten.toArray 25)=W8 at Db;have adW:W7.alloc (.cells #[.int .i64 kd,.int .i64 a0,.string (ag nm),.string (ag vl),.int .i64 xa,.int .i64 xb,.int .i64 xc,.int .i64 xd,.slice A ks.length cap] 25)=W8:=VD;have HL8:=hide (cU.wrap H.o hbz mz HL7.o VD.symm 6 OA);obtain ⟨g0,g1,g2,g3,g4,g5,g6,g7,g8⟩:=ak Db;obtain ⟨fg0,fg1,fg2,fg3,fg4,fg5,fg6,fg7,fg8⟩:=aU Db;clear VD hrow hres hnd dL;have NM8:=hide (NM.o (k1+1) _ HL8.o.at_)
      cases hA:gN p.L p.en (k1+1) 32768 with
      |err a er=>
       rw [hA] at NM8;have HE:=ae (RR=.err a er) (by rw [oz.o];unfold ky;rw [hA];rfl);clear hA;go_wp2_with fail;refine NM8.o.mono ?_;rintro e W9 ⟨rfl,ZE⟩;go_wp2;exact ⟨rfl,by rw [HE.o];exact ⟨rfl,HL8.o.keeps.trans ZE⟩⟩
      |ok na k2=>
       rw [hA] at NM8
       have qP:=ae (RR=if b_ p.L k2 lu then (gN p.L p.en (k2+1) 32768).bind fun b k3=>(av p.L p.en k3 dz).bind fun _ k4=>.ok (.mk 6 OA [] [] na b 0 0 [.mk kd a0 nm vl xa xb xc xd ks]) k4
        else (av p.L p.en k2 dz).bind fun _ k4=>.ok (.mk 6 OA [] [] na na 0 0 [.mk kd a0 nm vl xa xb xc xd ks]) k4) (by rw [oz.o];unfold ky;rw [hA,acW.o];rfl)
       clear hA oz;go_wp2_with fail;refine NM8.o.mono ?_;rintro e W9 ⟨⟨v,rfl,rfl⟩,h9,ZE⟩;have hl9:=HL8.o.keep hbz mz h9 ZE;have HL9:=hide hl9;have i4:W9.cell? ⟨w4.heap.size,4,none⟩=some (.int .i64 0):=hl9.row.cell 4;have fi4:=hl9.row.frozen 4;have Nl:=hl9.QA H.o mz na;generalize Rw:W9.setCell ⟨w4.heap.size,4,none⟩ (.int .i64 na)=Ah at Nl;have j4:Ah.cell? ⟨w4.heap.size,4,none⟩=some (.int .i64 na):=Nl.row.cell 4;have j5:Ah.cell? ⟨w4.heap.size,5,none⟩=some (.int .i64 0):=Nl.row.cell 5;have fj5:=Nl.row.frozen 5;have VE:=Nl.ML H.o mz na;generalize zm:Ah.setCell ⟨w4.heap.size,5,none⟩ (.int .i64 na)=Ai at VE;have abA:=hide VE;have VF:=hide (AC.o k2 [58] Ai VE.at_);clear hl9 Nl VE h9 ZE
       cases hC:b_ p.L k2 [58] with
       |false=>
        rw [hC] at VF;have zg:=ae (RR=(av p.L p.en k2 dz).bind fun _ k4=>.ok (.mk 6 OA [] [] na na 0 0 [.mk kd a0 nm vl xa xb xc xd ks]) k4) (by rw [qP.o,if_neg (show¬b_ p.L k2 lu=true from by rw [show b_ p.L k2 lu=false from hC];decide)]);clear hC qP;go_wp2_with fail;refine VF.o.mono ?_;rintro e Mx ⟨rfl,h12,Ap⟩;have Jf:=hide (abA.o.keep hbz mz h12 Ap);clear h12 Ap Rw zm;have VG:=hide (EX.o k2 [93] Mx Jf.o.at_)
        cases hD:av p.L p.en k2 [93] with
        |err a er=>
         rw [hD] at VG;have HE:=ae (RR=.err a er) (by rw [zg.o,show av p.L p.en k2 dz=.err a er from hD];rfl);clear hD;go_wp2_with fail;refine VG.o.mono ?_;rintro e WU ⟨rfl,Jg⟩;go_wp2;exact ⟨rfl,by rw [HE.o];exact ⟨rfl,Jf.o.keeps.trans Jg⟩⟩
        |ok u k4=>
         rw [hD] at VG;have HE:=ae (RR=.ok (.mk 6 OA [] [] na na 0 0 [.mk kd a0 nm vl xa xb xc xd ks]) k4) (by rw [zg.o,show av p.L p.en k2 dz=.ok u k4 from hD];rfl);clear hD;go_wp2_with fail;refine VG.o.mono ?_;rintro e WU ⟨⟨v,rfl,rfl⟩,h20,Jg⟩;have ZF:=Jf.o.keep hbz mz h20 Jg;obtain ⟨h20,dL,hres,hrow,hnd⟩:=ZF;obtain ⟨z0,z1,z2,z3,z4,z5,z6,z7,z8⟩:=ak hrow;obtain ⟨y0,y1,y2,y3,y4,y5,y6,y7,y8⟩:=ak hres;obtain ⟨M4,M5,M6,M7,M8,M9,M_,Na,Nb⟩:=aU hres;have fR:=hide hnd;clear hrow hnd;go_wp2_with fail;refine bodyPost_ret (v:=.agg #[.int .i64 6,.int .i64 OA,.string {data:=#[]},.string {data:=#[]},.int .i64 na,.int .i64 na,.int .i64 0,.int .i64 0,.slice (some ⟨W7.heap.size,0,none⟩) 1 1]) (ai rfl _ _ w.heap.size 25 _ _ _ rfl (aJ hres _ _ _ _ _ _ _ _ _) Tryz.underlying25 rfl (by kernel_rfl)) rfl ?_;have hbl:=ay (W:=WU) (aa w.heap.size) (.int .i64 6) (.int .i64 OA) (.string {data:=#[]}) (.string {data:=#[]}) (.int .i64 na) (.int .i64 na) (.int .i64 0) (.int .i64 0) (.slice (some ⟨W7.heap.size,0,none⟩) 1 1);rw [HE.o];exact ⟨⟨_,rfl,_,rfl,(fR.o.keeps (aN (C:=fun b=>b≤w.heap.size∨b=w4.heap.size) (.inl (aa _)) _ _ _ _ _ _ _ _ _)).mono (fun b hb'=>.inl (Nat.le_of_lt hb'))⟩,H.o.above h20 hbl,dL.over hbl⟩
       |true=>
        rw [hC] at VF;have zg:=ae (RR=(gN p.L p.en (k2+1) 32768).bind fun b k3=>(av p.L p.en k3 dz).bind fun _ k4=>.ok (.mk 6 OA [] [] na b 0 0 [.mk kd a0 nm vl xa xb xc xd ks]) k4) (by rw [qP.o,if_pos (show b_ p.L k2 lu=true from hC)]);clear hC qP;go_wp2_with fail;refine VF.o.mono ?_;rintro e Mx ⟨rfl,h12,Ap⟩;have Jf:=hide (abA.o.keep hbz mz h12 Ap);clear h12 Ap Rw zm;have VH:=hide (NM.o (k2+1) Mx Jf.o.at_)
        cases hA:gN p.L p.en (k2+1) 32768 with
        |err a er=>
         rw [hA] at VH;have HE:=ae (RR=.err a er) (by rw [zg.o,hA];rfl);clear hA;go_wp2_with fail;refine VH.o.mono ?_;rintro e My ⟨rfl,VJ⟩;go_wp2;exact ⟨rfl,by rw [HE.o];exact ⟨rfl,Jf.o.keeps.trans VJ⟩⟩
        |ok nb k3=>
         rw [hA] at VH;have Ox:=ae (RR=(av p.L p.en k3 dz).bind fun _ k4=>.ok (.mk 6 OA [] [] na nb 0 0 [.mk kd a0 nm vl xa xb xc xd ks]) k4) (by rw [zg.o,hA];rfl);clear hA zg;go_wp2_with fail;refine VH.o.mono ?_;rintro e My ⟨⟨v,rfl,rfl⟩,tQ,VJ⟩;have VL:=Jf.o.keep hbz mz tQ VJ;have i5:My.cell? ⟨w4.heap.size,5,none⟩=some (.int .i64 na):=VL.row.cell 5;have fi5:=VL.row.frozen 5;have ZG:=VL.ML H.o mz nb;generalize Df:My.setCell ⟨w4.heap.size,5,none⟩ (.int .i64 nb)=Ol at ZG;have ZH:=hide ZG;clear VL ZG tQ VJ;have VN:=hide (EX.o k3 [93] Ol ZH.o.at_)
         cases hD:av p.L p.en k3 [93] with
         |err a er=>
          rw [hD] at VN;have HE:=ae (RR=.err a er) (by rw [Ox.o,show av p.L p.en k3 dz=.err a er from hD];rfl);clear hD;go_wp2_with fail;refine VN.o.mono ?_;rintro e WU ⟨rfl,Jg⟩;go_wp2;exact ⟨rfl,by rw [HE.o];exact ⟨rfl,ZH.o.keeps.trans Jg⟩⟩
         |ok u k4=>
          rw [hD] at VN;have HE:=ae (RR=.ok (.mk 6 OA [] [] na nb 0 0 [.mk kd a0 nm vl xa xb xc xd ks]) k4) (by rw [Ox.o,show av p.L p.en k3 dz=.ok u k4 from hD];rfl);clear hD;go_wp2_with fail;refine VN.o.mono ?_;rintro e WU ⟨⟨v,rfl,rfl⟩,h20,Jg⟩;have ZF:=ZH.o.keep hbz mz h20 Jg;obtain ⟨h20,dL,hres,hrow,hnd⟩:=ZF;obtain ⟨z0,z1,z2,z3,z4,z5,z6,z7,z8⟩:=ak hrow;obtain ⟨y0,y1,y2,y3,y4,y5,y6,y7,y8⟩:=ak hres;obtain ⟨M4,M5,M6,M7,M8,M9,M_,Na,Nb⟩:=aU hres;have fR:=hide hnd;clear hrow hnd;go_wp2_with fail;refine bodyPost_ret (v:=.agg #[.int .i64 6,.int .i64 OA,.string {data:=#[]},.string {data:=#[]},.int .i64 na,.int .i64 nb,.int .i64 0,.int .i64 0,.slice (some ⟨W7.heap.size,0,none⟩) 1 1]) (ai rfl _ _ w.heap.size 25 _ _ _ rfl (aJ hres _ _ _ _ _ _ _ _ _) Tryz.underlying25 rfl (by kernel_rfl)) rfl ?_;have hbl:=ay (W:=WU) (aa w.heap.size) (.int .i64 6) (.int .i64 OA) (.string {data:=#[]}) (.string {data:=#[]}) (.int .i64 na) (.int .i64 nb) (.int .i64 0) (.int .i64 0) (.slice (some ⟨W7.heap.size,0,none⟩) 1 1);rw [HE.o];exact ⟨⟨_,rfl,_,rfl,(fR.o.keeps (aN (C:=fun b=>b≤w.heap.size∨b=w4.heap.size) (.inl (aa _)) _ _ _ _ _ _ _ _ _)).mono (fun b hb'=>.inl (Nat.le_of_lt hb'))⟩,H.o.above h20 hbl,dL.over hbl⟩
end Go.Proofs.YtddoehnkgcbboaaGreatDoor
namespace Go.Proofs.YtddoehnkgcbboaaGreatDoor
open Go.RowKit Go.Shelf Go.Maps
open Go.ChangeMaps (setBlock)
def qy:List (Int×Int):=[(0,1),(1,3),(3,2),(4,4),(5,5)]
def bq:Array MapEntry:=#[{key:=.int .i64 0,val:=.int .i64 1,born:=0},{key:=.int .i64 1,val:=.int .i64 3,born:=1},{key:=.int .i64 3,val:=.int .i64 2,born:=2},{key:=.int .i64 4,val:=.int .i64 4,born:=3},{key:=.int .i64 5,val:=.int .i64 5,born:=4}]
def VO (w:World) (r:Nat):Prop:=w.heap[r]? =some (.map bq 5)
theorem qT (w:World):Calls Tryz.prog 182 #[] w fun e w'=>e=.returned (.map (some w.heap.size))∧VO w' w.heap.size∧Below w.heap.size w w':=by
 have hmm:=@run_makeMap Tryz.prog;have hb0:(w.alloc (.map #[] 0)).heap[w.heap.size]? =some (.map #[] 0):=(MapKept.heap_alloc w _).1;obtain ⟨W1,r1,hb1,b1⟩:=xD _ _ _ _ _ _ _ _ (.int .i64 0) (.int .i64 1) Tryz.underlying124 Tryz.underlying3 rfl hb0 rfl;obtain ⟨W2,r2,hb2,b2⟩:=xD _ _ _ _ _ _ _ _ (.int .i64 1) (.int .i64 3) Tryz.underlying124 Tryz.underlying3 rfl hb1 rfl;obtain ⟨W3,r3,hb3,b3⟩:=xD _ _ _ _ _ _ _ _ (.int .i64 3) (.int .i64 2) Tryz.underlying124 Tryz.underlying3 rfl hb2 rfl;obtain ⟨W4,r4,hb4,b4⟩:=xD _ _ _ _ _ _ _ _ (.int .i64 4) (.int .i64 4) Tryz.underlying124 Tryz.underlying3 rfl hb3 rfl;obtain ⟨W5,r5,eG,b5⟩:=xD _ _ _ _ _ _ _ _ (.int .i64 5) (.int .i64 5) Tryz.underlying124 Tryz.underlying3 rfl hb4 rfl;have B:=((((((af w.heap.size w).alloc (aa _) _).trans (b1 _ (aa _))).trans (b2 _ (aa _))).trans (b3 _ (aa _))).trans (b4 _ (aa _))).trans (b5 _ (aa _));go_enter Tryz.func182,Tryz.ntmps182;go_wp2;go_ret;exact ⟨rfl,eG,B⟩
theorem Nn:∀e∈bq.toList,∃o∈qy,e.key=.int .i64 o.1∧e.val=.int .i64 o.2:=by
 intro e he;simp only [bq,List.mem_cons,List.not_mem_nil,or_false] at he
 rcases he with rfl|rfl|rfl|rfl|rfl
 ·exact ⟨(0,1),by decide,rfl,rfl⟩
 ·exact ⟨(1,3),by decide,rfl,rfl⟩
 ·exact ⟨(3,2),by decide,rfl,rfl⟩
 ·exact ⟨(4,4),by decide,rfl,rfl⟩
 ·exact ⟨(5,5),by decide,rfl,rfl⟩
theorem Np:∀o∈qy,∃e∈bq.toList,e.key=.int .i64 o.1:=by
 intro o ho;simp only [qy,List.mem_cons,List.not_mem_nil,or_false] at ho
 rcases ho with rfl|rfl|rfl|rfl|rfl
 ·exact ⟨_,bX,rfl⟩
 ·exact ⟨_,cL _ bX,rfl⟩
 ·exact ⟨_,cL _ (cL _ bX),rfl⟩
 ·exact ⟨_,cL _ (cL _ (cL _ bX)),rfl⟩
 ·exact ⟨_,cL _ (cL _ (cL _ (cL _ bX))),rfl⟩
theorem fZ:(∀e∈bq.toList,e.born<5)∧(bq.toList.map (·.born)).Nodup:=by
 refine ⟨?_,by decide⟩;intro e he;simp only [bq,List.mem_cons,List.not_mem_nil,or_false] at he
 rcases he with rfl|rfl|rfl|rfl|rfl<;>decide
theorem FP {L:List Lx} {k:Nat} {q:Int} (h:cW L k q=true):(L[k]'(fp h)).kind=q:=by
 rw [tN (fp h),cS,decide_eq_true_eq] at h;exact h.1
theorem gG {L:List Lx} {k:Nat} {q r:Int} (h:cW L k q=true) (hr:r≠q):cW L k r=false:=by
 cases h2:cW L k r with
 |false=>rfl
 |true=>exact absurd ((FP h2).symm.trans (FP h)) hr
def Dg (pl:Int) (kd:Int) (txt:List UInt8):Nd:=if kd=1 then .mk 1 pl txt [] 0 0 0 0 [] else .mk kd pl [] txt 0 0 0 0 []
theorem FQ {L:List Lx} {en:Int} {k:Nat} {o:Int×Int} (ho:o∈qy) (h:cW L k o.1=true):iU L en k=some (Dg (eO L en k) o.2 (kx L k)):=by
 simp only [qy,List.mem_cons,List.not_mem_nil,or_false] at ho;unfold iU Dg
 rcases ho with rfl|rfl|rfl|rfl|rfl
 ·rw [if_pos h,if_pos rfl]
 ·rw [if_neg (by rw [gG h (r:=0) (by decide)];decide),if_pos h,if_neg (by decide)]
 ·rw [if_neg (by rw [gG h (r:=0) (by decide)];decide),if_neg (by rw [gG h (r:=1) (by decide)];decide),if_pos h,if_neg (by decide)]
 ·rw [if_neg (by rw [gG h (r:=0) (by decide)];decide),if_neg (by rw [gG h (r:=1) (by decide)];decide),if_neg (by rw [gG h (r:=3) (by decide)];decide),if_pos h,if_neg (by decide)]
 ·rw [if_neg (by rw [gG h (r:=0) (by decide)];decide),if_neg (by rw [gG h (r:=1) (by decide)];decide),if_neg (by rw [gG h (r:=3) (by decide)];decide),if_neg (by rw [gG h (r:=4) (by decide)];decide),if_pos h,if_neg (by decide)]
theorem FT {L:List Lx} {en:Int} {k:Nat} (h:∀o∈qy,cW L k o.1=false):iU L en k=none:=by
 have h0:=h (0,1) (by decide);have h1:=h (1,3) (by decide);have h3:=h (3,2) (by decide);have h4:=h (4,4) (by decide);have h5:=h (5,5) (by decide);simp only at h0 h1 h3 h4 h5;unfold iU;rw [h0,h1,h3,h4,h5];rfl
structure tZ (p:PS) (w:World) (W:World) (k:Nat):Prop where
 at_:bQ p W k
 keeps:ah (fun c=>c=p.b) w W
 res:Row W w.heap.size 25 cG
theorem tZ.keep {p:PS} {w W W':World} {k k':Nat} (h:tZ p w W k) (hb:p.b<w.heap.size) (ha:bQ p W' k') (hk:ah (fun c=>c=p.b) W W'):tZ p w W' k':=
 ⟨ha,h.keeps.trans hk,h.res.keep hk (by show¬w.heap.size=p.b;omega)⟩
theorem tZ.below {p:PS} {w W W':World} {k:Nat} (h:tZ p w W k) (hb:p.b<w.heap.size) (hk:Below W.heap.size W W'):tZ p w W' k:=h.keep hb (h.at_.below hk) (ah.of_below hk (aa _))
theorem tZ.lt {p:PS} {w W:World} {k:Nat} (h:tZ p w W k):w.heap.size<W.heap.size:=h.res.lt
structure Nq (p:PS) (w:World) (k bm it:Nat) (W:World) (seen:Array Nat) (c0:Nat):Prop where
 pr:tZ p w W k
 map:VO W bm
 it:W.heap[it]? =some (.mapIter (some bm) 5 seen c0)
 since:5≤c0
theorem Nq.below {p:PS} {w W W':World} {k bm it c0:Nat} {seen:Array Nat} (h:Nq p w k bm it W seen c0) (hb:p.b<w.heap.size) (hk:Below W.heap.size W W'):Nq p w k bm it W' seen c0:=
 ⟨h.pr.below hb hk,(hk.block _ (Array.getElem?_eq_some_iff.1 h.map).1).trans h.map,(hk.block _ (Array.getElem?_eq_some_iff.1 h.it).1).trans h.it,h.since⟩
theorem Jh {L:List Lx} {en:Int} {k k':Nat} {wd:List UInt8} {u:Unit} (h:av L en k wd=.ok u k'):k≤k':=by
 unfold av at h
 split at h
 ·cases h;exact Nat.le_succ _
 ·cases h
end Go.Proofs.YtddoehnkgcbboaaGreatDoor
