/- A part of the proof that the last file tells. -/
import Derived.Test.YtddoehnkgcbboaaGreatDoorAgS
set_option maxHeartbeats 16000000
set_option maxRecDepth 100000
set_option linter.unusedVariables false
set_option linter.unusedSimpArgs false
namespace Go.Proofs.YtddoehnkgcbboaaGreatDoor
open Go.RowKit Go.Shelf Go.Maps
def Jb (xa xb:Int) (o:Option St):Option St:=o.bind fun st=>(dh xa 32768 (bD st [91])).bind fun st=>(if xa≠xb then dh xb 32768 (bD st [58]) else some st).bind fun st=>some (bD st [93])
theorem Vy {xa xb:Int} (h:xa≠xb) (o:Option St):((((o.map (bD · [91])).bind (dh xa 32768)).map (bD · [58])).bind (dh xb 32768)).map (bD · [93])=Jb xa xb o:=by
 unfold Jb
 cases o with
 |none=>rfl
 |some st=>
  show Option.map _ (Option.bind (Option.map _ (dh xa 32768 (bD st [91]))) _)=Option.bind (dh xa 32768 (bD st [91])) _
  cases dh xa 32768 (bD st [91]) with
  |none=>rfl
  |some st=>
   show Option.map _ (dh xb 32768 (bD st [58]))=Option.bind (if xa≠xb then dh xb 32768 (bD st [58]) else some st) _;rw [if_pos h]
   cases dh xb 32768 (bD st [58])<;>rfl
theorem Vz (xa:Int) (o:Option St):((o.map (bD · [91])).bind (dh xa 32768)).map (bD · [93])=Jb xa xa o:=by
 unfold Jb
 cases o with
 |none=>rfl
 |some st=>
  show Option.map _ (dh xa 32768 (bD st [91]))=Option.bind (dh xa 32768 (bD st [91])) _
  cases dh xa 32768 (bD st [91]) with
  |none=>rfl
  |some st=>
   show _=Option.bind (if xa≠xa then dh xa 32768 (bD st [58]) else some st) _;rw [if_neg (fun h=>h rfl)];rfl
theorem Dc (o:Option St) (n:Nd) (fs:List Pw) (h:n.kind=6):o.bind (bn aD aQ n fs)=o.bind fun st=>if bJ n false false true false∧fs.length=1 then Jb n.a n.b (jV fs 0 9 st) else none:=by
 cases o with
 |none=>rfl
 |some st=>
  show bn aD aQ n fs st=_;unfold bn;rw [if_neg (show¬(n.kind=17∨n.kind=18) by omega),if_neg (show¬(n.kind=28∨n.kind=8) by omega),if_pos h];rfl
theorem KJ (o:Option St) (n:Nd) (fs:List Pw) (h:n.kind=7):o.bind (bn aD aQ n fs)=o.bind fun st=>if bJ n false false false false∧1≤fs.length then (qN fs [123] st).bind fun st=>some (bD st [125]) else none:=by
 cases o with
 |none=>rfl
 |some st=>
  show bn aD aQ n fs st=_;unfold bn;rw [if_neg (show¬(n.kind=17∨n.kind=18) by omega),if_neg (show¬(n.kind=28∨n.kind=8) by omega),if_neg (show¬n.kind=6 by omega),if_pos h];rfl
def Jc (k:Nat):List UInt8:=if k=0 then [123] else [44,32]
def Dd (ks:List Nd) (k:Nat) (o:Option St):Option St:=o.bind (qN (aq aD aQ (ks.drop k)) (Jc k))
theorem Nf {ks:List Nd} {k:Nat} (hk:k<ks.length) (o:Option St):Dd ks (k+1) ((o.map (bD · (Jc k))).bind (bC aD aQ ks[k] 4))=Dd ks k o:=by
 unfold Dd;rw [cn hk,aq]
 cases o with
 |none=>rfl
 |some st=>rfl
theorem Rh (ks:List Nd) (o:Option St):Dd ks ks.length o=o:=by
 unfold Dd;rw [List.drop_length,aq]
 cases o<;>rfl
theorem Ri (k:Nat):(Jc k).length≤2:=by unfold Jc;split<;>simp
theorem abw (B b:Nat) (a0 xa xb xc xd:Int) (nm vl:List UInt8) (ks:List Nd) (A:Option Addr) (cap:Nat) (o:Option St) (M:Nat) (w:World) (h:cz w B b o M) (hk:sJ B w ks A) (gS:∀i (hi:i<ks.length),qs ks[i]) (hft:iJ 6 xa xb xc xd nm vl) (hn:ks.length≤1000000) (hM:M+1500+2000*ax ks≤1099511627776):
 Calls Tryz.prog 113 #[.pointer (some ⟨b,0,none⟩),.agg (aB 6 a0 nm vl xa xb xc xd (.slice A ks.length cap)).toArray] w (jn B b w (o.bind (bn aD aQ (.mk 6 a0 nm vl xa xb xc xd ks) (aq aD aQ ks))) (M+1500+2000*ax ks)):=by
 have hlt:=h.lt.1;have hge:=h.lt.2;have oN:=hide hk
 obtain ⟨w1,hw1⟩:∃w1,w1=w.alloc (.cells (aB 6 a0 nm vl xa xb xc xd (.slice A ks.length cap)).toArray 25):=⟨_,rfl⟩
 have hb1:Below w.heap.size w w1:=by rw [hw1];exact (af _ w).alloc (aa _) _
 have P1:=hide (h.keep hb1);have T1:=hide (aM.of_below (b:=b) hb1 (show B≤w.heap.size by omega));have fU:=ae (Row w1 w.heap.size 25 (aB 6 a0 nm vl xa xb xc xd (.slice A ks.length cap)).toArray) (by rw [hw1];exact Row.new _ _ _);have cR:=hide hw1.symm;have oO:=hide gS;have pM:=hide hft;clear h hk hw1 hb1 gS hft;unfold aB at cR fU⊢;go_enter Tryz.func113,Tryz.ntmps113;go_upto_region 1 with fail;rw [cR.o];obtain ⟨dJ,eN,ei,ek,dF,dG,eA,eB,cj⟩:=ak fU.o;go_wp2_with fail;refine bW (cM B b 6 a0 xa xb xc xd nm vl (.slice A ks.length cap) [97] o M w1 P1.o) T1 fU (by decide) (by omega) fun w2 o2 Q2 P2 T2 ia=>?_;clear dJ eN ei ek dF dG eA eB cj;obtain ⟨dJ,eN,ei,ek,dF,dG,eA,eB,cj⟩:=ak ia.o;have C3:=hide (fx B b 6 a0 xa xb xc xd nm vl A ks.length cap 1 1 o2 M w2 P2.o (by omega));unfold aB at C3
 obtain ⟨o3,q3⟩:∃z_,iA o2 ks.length 1 1=z_:=⟨_,rfl⟩
 rw [q3] at C3
 have kE:iA (nX o (decide (nm=[])) (decide (vl=[])) (decide (xa=0)) (decide (xb=0)) (decide (xc=0)) (decide (xd=0)) [97]) ks.length 1 1=if bJ (.mk 6 a0 nm vl xa xb xc xd ks) false false true false=true∧1≤(ks.length:Int)∧(ks.length:Int)≤1 then o else none:=mY o [97] 1 1
 rw [Q2.o,q3] at kE;have kX:=hide kE;clear kE q3
 cases o3 with
 |none=>
  go_wp2_with fail;refine (C3.o).mono ?_;rintro e w3 ⟨rfl,p3,t3⟩;have P3:=hide p3;have T3:=hide (T2.o.trans t3);have iR:=hide (t3.row ia.o (by decide) (by omega));clear p3 t3 C3;clear dJ eN ei ek dF dG eA eB cj
  have HP:=ae (cz w3 B b (o.bind (bn aD aQ (.mk 6 a0 nm vl xa xb xc xd ks) (aq aD aQ ks))) (M+1500+2000*ax ks)) (by
   rw [Dc o (.mk 6 a0 nm vl xa xb xc xd ks) (aq aD aQ ks) rfl,show o.bind _=none from iQ kX.o (fun h=>⟨h.1,by have:=h.2;rw [a_] at this;omega⟩)]
   exact P3.o.mono (by omega))
  go_wp2;go_end0;exact ⟨rfl,HP.o,T3.o⟩
 |some st=>
  obtain ⟨⟨hc1,hc2,hc3⟩,ho⟩:=iP kX.o;have HLEN:=hide (show ks.length=1 by omega)
  have hi0:0<ks.length:=by omega
  obtain ⟨bb,bc,lR,rX,rY,qQ,rZ,r_,se,sf,si,eX,eZ,I7,sj⟩:=oN.o.kid (i:=0) hi0;subst I7
  obtain ⟨x0,hx0⟩:∃x,ks[0]'hi0=x:=⟨_,rfl⟩
  rw [hx0] at sj;have K0:=hide (fun (W:World) (hb:Below B w W) (hz:w.heap.size≤W.heap.size)=>show (W.cell? ⟨bb,bc,none⟩=some (.int .i64 lR)∧W.cell? ⟨bb,bc+1,none⟩=some (.int .i64 rX)∧W.cell? ⟨bb,bc+2,none⟩=some (.string (ag rY))∧W.cell? ⟨bb,bc+3,none⟩=some (.string (ag qQ))∧W.cell? ⟨bb,bc+4,none⟩=some (.int .i64 rZ)∧W.cell? ⟨bb,bc+5,none⟩=some (.int .i64 r_)∧W.cell? ⟨bb,bc+6,none⟩=some (.int .i64 se)∧W.cell? ⟨bb,bc+7,none⟩=some (.int .i64 sf)∧W.cell? ⟨bb,bc+8,none⟩=some (.slice si eX eZ))∧cK (fun c=>B≤c) W x0 [Value.int .i64 lR,.int .i64 rX,.string (ag rY),.string (ag qQ),.int .i64 rZ,.int .i64 r_,.int .i64 se,.int .i64 sf,.slice si eX eZ] from sj W hb hz)
  have sk:Hid (qs x0):=by rw [←hx0];exact oO.o 0 hi0
  have I8:aC x0≤ax ks:=by rw [←hx0];exact ez (cI _)
  have xf:=hide hx0;clear hx0 sj;have nu:=hide (And.intro hc1 ho);clear hc1 hc2 hc3 ho;go_wp2_with fail;refine (C3.o).mono ?_;rintro e w3 ⟨rfl,p3,t3⟩;have P3:=hide p3;have T3:=hide (T2.o.trans t3);have iR:=hide (t3.row ia.o (by decide) (by omega));clear p3 t3 C3;clear dJ eN ei ek dF dG eA eB cj;have cj:w3.cell? ⟨w.heap.size,8,none⟩=some (.slice (some ⟨bb,bc,none⟩) ks.length cap):=iR.o.cell 8;obtain ⟨⟨d0,d1,d2,d3,d4,d5,d6,d7,d8⟩,qR⟩:=K0.o w3 T3.o.below T3.o.size;have hnd:=hide qR;clear qR;go_wp2_with fail;refine bW (sk.o B b (9) _ (some st) _ w3 P3.o hnd.o (by decide) (by decide) (by omega)) T3 iR (by decide) (by omega) fun w4 o4 Q4 P4 T4 jJ=>?_;clear cj d0 d1 d2 d3 d4 d5 d6 d7 d8 hnd;go_wp2_with fail;refine bW (bT B b [91] 1 o4 (M+2000*aC x0) w4 P4.o (by omega)) T4 jJ (by decide) (by omega) fun w5 o5 Q5 P5 T5 oP=>?_;have dF:w5.cell? ⟨w.heap.size,4,none⟩=some (.int .i64 xa):=oP.o.cell 4;go_wp2_with fail;refine bW (dA B b xa 32768 o5 ((M+2000*aC x0)+2) w5 P5.o pM.o.a (by omega)) T5 oP (by decide) (by omega) fun w6 o6 Q6 P6 T6 oI=>?_;clear dF;by_cases hab:xa=xb
  ·skip;subst hab;have dF:w6.cell? ⟨w.heap.size,4,none⟩=some (.int .i64 xa):=oI.o.cell 4;have dG:w6.cell? ⟨w.heap.size,5,none⟩=some (.int .i64 xa):=oI.o.cell 5;go_wp2_with fail;refine bW (bT B b [93] 1 o6 (((M+2000*aC x0)+2)+22) w6 P6.o (by omega)) T6 oI (by decide) (by omega) fun w7 o7 Q7 P7 T7 Dx=>?_;clear dF dG
   have HP:=ae (cz w7 B b (o.bind (bn aD aQ (.mk 6 a0 nm vl xa xa xc xd ks) (aq aD aQ ks))) (M+1500+2000*ax ks)) (by
    have hp:=P7.o;rw [←Q7.o,←Q6.o,←Q5.o,←Q4.o,Vz xa] at hp
    have e:(o.bind (bn aD aQ (.mk 6 a0 nm vl xa xa xc xd ks) (aq aD aQ ks)))=Jb xa xa (bC aD aQ x0 9 st):=by
     rw [nu.o.2,Dc _ (.mk 6 a0 nm vl xa xa xc xd ks) (aq aD aQ ks) rfl];show (if _ then _ else _)=_;rw [if_pos ⟨nu.o.1,by rw [a_];exact HLEN.o⟩,jk ks hi0,xf.o];rfl
    rw [e]
    exact hp.mono (by first|omega|(simp only [aj,aK];omega)))
   go_wp2;go_end0;exact ⟨rfl,HP.o,T7.o⟩
  ·skip;have xq:=hide hab;have dF:w6.cell? ⟨w.heap.size,4,none⟩=some (.int .i64 xa):=oI.o.cell 4;have dG:w6.cell? ⟨w.heap.size,5,none⟩=some (.int .i64 xb):=oI.o.cell 5;go_wp2_with fail;refine bW (bT B b [58] 1 o6 (((M+2000*aC x0)+2)+22) w6 P6.o (by omega)) T6 oI (by decide) (by omega) fun w7 o7 Q7 P7 T7 Dx=>?_;clear dF dG hab;have dG:w7.cell? ⟨w.heap.size,5,none⟩=some (.int .i64 xb):=Dx.o.cell 5;go_wp2_with fail;refine bW (dA B b xb 32768 o7 ((((M+2000*aC x0)+2)+22)+2) w7 P7.o pM.o.b (by omega)) T7 Dx (by decide) (by omega) fun w8 o8 Q8 P8 T8 Oz=>?_;clear dG;go_wp2_with fail;refine bW (bT B b [93] 1 o8 (((((M+2000*aC x0)+2)+22)+2)+22) w8 P8.o (by omega)) T8 Oz (by decide) (by omega) fun w9 o9 Q9 P9 T9 Xg=>?_
   have HP:=ae (cz w9 B b (o.bind (bn aD aQ (.mk 6 a0 nm vl xa xb xc xd ks) (aq aD aQ ks))) (M+1500+2000*ax ks)) (by
    have hp:=P9.o;rw [←Q9.o,←Q8.o,←Q7.o,←Q6.o,←Q5.o,←Q4.o,Vy xq.o] at hp
    have e:(o.bind (bn aD aQ (.mk 6 a0 nm vl xa xb xc xd ks) (aq aD aQ ks)))=Jb xa xb (bC aD aQ x0 9 st):=by
     rw [nu.o.2,Dc _ (.mk 6 a0 nm vl xa xb xc xd ks) (aq aD aQ ks) rfl];show (if _ then _ else _)=_;rw [if_pos ⟨nu.o.1,by rw [a_];exact HLEN.o⟩,jk ks hi0,xf.o];rfl
    rw [e]
    exact hp.mono (by first|omega|(simp only [aj,aK];omega)))
   go_wp2;go_end0;exact ⟨rfl,HP.o,T9.o⟩
theorem abx (B b:Nat) (a0 xa xb xc xd:Int) (nm vl:List UInt8) (ks:List Nd) (A:Option Addr) (cap:Nat) (o:Option St) (M:Nat) (w:World) (h:cz w B b o M) (hk:sJ B w ks A) (gS:∀i (hi:i<ks.length),qs ks[i]) (hft:iJ 7 xa xb xc xd nm vl) (hn:ks.length≤1000000) (h3:ks.length≤400) (hM:M+1500+2000*ax ks≤1099511627776):
 Calls Tryz.prog 113 #[.pointer (some ⟨b,0,none⟩),.agg (aB 7 a0 nm vl xa xb xc xd (.slice A ks.length cap)).toArray] w (jn B b w (o.bind (bn aD aQ (.mk 7 a0 nm vl xa xb xc xd ks) (aq aD aQ ks))) (M+1500+2000*ax ks)):=by
 have hlt:=h.lt.1;have hge:=h.lt.2;have oN:=hide hk
 obtain ⟨w1,hw1⟩:∃w1,w1=w.alloc (.cells (aB 7 a0 nm vl xa xb xc xd (.slice A ks.length cap)).toArray 25):=⟨_,rfl⟩
 have hb1:Below w.heap.size w w1:=by rw [hw1];exact (af _ w).alloc (aa _) _
 have P1:=hide (h.keep hb1);have T1:=hide (aM.of_below (b:=b) hb1 (show B≤w.heap.size by omega));have fU:=ae (Row w1 w.heap.size 25 (aB 7 a0 nm vl xa xb xc xd (.slice A ks.length cap)).toArray) (by rw [hw1];exact Row.new _ _ _);have cR:=hide hw1.symm;have oO:=hide gS;have pM:=hide hft;clear h hk hw1 hb1 gS hft;unfold aB at cR fU⊢;go_enter Tryz.func113,Tryz.ntmps113;go_upto_region 1 with fail;rw [cR.o];obtain ⟨dJ,eN,ei,ek,dF,dG,eA,eB,cj⟩:=ak fU.o;go_wp2_with fail;refine bW (cM B b 7 a0 xa xb xc xd nm vl (.slice A ks.length cap) [] o M w1 P1.o) T1 fU (by decide) (by omega) fun w2 o2 Q2 P2 T2 ia=>?_;clear dJ eN ei ek dF dG eA eB cj;obtain ⟨dJ,eN,ei,ek,dF,dG,eA,eB,cj⟩:=ak ia.o;have C3:=hide (fx B b 7 a0 xa xb xc xd nm vl A ks.length cap 1 ks.length o2 M w2 P2.o (by omega));unfold aB at C3
 obtain ⟨o3,q3⟩:∃z_,iA o2 ks.length 1 ks.length=z_:=⟨_,rfl⟩
 rw [q3] at C3
 have kE:iA (nX o (decide (nm=[])) (decide (vl=[])) (decide (xa=0)) (decide (xb=0)) (decide (xc=0)) (decide (xd=0)) []) ks.length 1 ks.length=if bJ (.mk 7 a0 nm vl xa xb xc xd ks) false false false false=true∧1≤(ks.length:Int)∧(ks.length:Int)≤ks.length then o else none:=mY o [] 1 ks.length
 rw [Q2.o,q3] at kE;have kX:=hide kE;clear kE q3
 cases o3 with
 |none=>
  go_wp2_with fail;refine (C3.o).mono ?_;rintro e w3 ⟨rfl,p3,t3⟩;have P3:=hide p3;have T3:=hide (T2.o.trans t3);have iR:=hide (t3.row ia.o (by decide) (by omega));clear p3 t3 C3;clear dJ eN ei ek dF dG eA eB cj
  have HP:=ae (cz w3 B b (o.bind (bn aD aQ (.mk 7 a0 nm vl xa xb xc xd ks) (aq aD aQ ks))) (M+1500+2000*ax ks)) (by
   rw [KJ o (.mk 7 a0 nm vl xa xb xc xd ks) (aq aD aQ ks) rfl,show o.bind _=none from iQ kX.o (fun h=>⟨h.1,by have:=h.2;rw [a_] at this;omega⟩)]
   exact P3.o.mono (by omega))
  go_wp2;go_end0;exact ⟨rfl,HP.o,T3.o⟩
 |some st=>
  obtain ⟨⟨hc1,hc2,hc3⟩,ho⟩:=iP kX.o;have HLEN:=hide (show 1≤ks.length by omega);have nu:=hide (And.intro hc1 ho);clear hc1 hc2 hc3 ho;go_wp2_with fail;refine (C3.o).mono ?_;rintro e w3 ⟨rfl,p3,t3⟩;have P3:=hide p3;have T3:=hide (T2.o.trans t3);have iR:=hide (t3.row ia.o (by decide) (by omega));clear p3 t3 C3;clear dJ eN ei ek dF dG eA eB cj
  obtain ⟨fin,hfin⟩:∃f,Dd ks 0 (some st)=f:=⟨_,rfl⟩
  have Vt:=hide (jl.start (ks:=ks) (c:=3) P3.o hfin);have I_:=hide hfin;clear hfin;have wU:=T3.o.size;have cj:w3.cell? ⟨w.heap.size,8,none⟩=some (.slice A ks.length cap):=iR.o.cell 8
  obtain ⟨N,hN⟩:∃N,ks.length=N:=⟨_,rfl⟩
  rw [hN] at cj iR hn h3⊢;have HN:=hide hN;clear hN;go_wp2_with fail;clear cj
  go_loopw [4,104] (fun s i wr=>jl B b w3 ks M 3 fin (Dd ks) i wr∧s=.string (ag (Jc (intOf i).toNat))) (fun _ i _=>N-(intOf i).toNat)
  case atStart=>exact ⟨Vt.o,rfl⟩
  case round=>
   obtain ⟨⟨k,o1,hk,rfl,hp,ht,he⟩,rfl⟩:=hrel;rw [HN.o] at hk;have qu:=hide hp;have Gx:=hide ht;have TA:=hide (T3.o.trans ht);have HE:=hide he;clear hp ht he;rw [show (intOf (.int .i64 (k:Int))).toNat=k from by simp [intOf]]
   obtain ⟨cw,hcw⟩:∃cw,Jc k=cw:=⟨_,rfl⟩
   have hcl:cw.length≤2:=by rw [←hcw];exact Ri k
   rw [hcw];have HCW:=hide hcw;clear hcw;by_cases hlt':k<N
   ·have ir:k<ks.length:=by rw [HN.o];exact hlt'
    have hk':(k:Int)<(N:Int):=by omega
    have uQ:(0:Int)≤(k:Int):=by omega
    have hw1:IntKind.i64.wrap ((k:Int)+1)=(k:Int)+1:=bI _ (by omega);obtain ⟨bk,off,yk,y0,yn,yv,ya,yb,yc,yd,yA,cZ,cv,rfl,hK⟩:=oN.o.kid ir;obtain ⟨⟨c0,c1,c2,c3,c4,c5,c6,c7,c8⟩,_⟩:=hK wr TA.o.below TA.o.size;have K0:=hide hK;have sk:=hide (oO.o k ir);have hst:=Nf ir o1;rw [HCW.o] at hst;have HST:=hide hst;have hcn:=mZ ir;have iM:=hide (fun (W':World) (o':Option St) (M':Nat) (h:cz W' B b o' M') (hM:M'≤M+3*k+2000*ax (ks.take k)+3+2000*aC ks[k]) (ht:aM B b w3 W') (e:Dd ks (k+1) o'=fin)=>jl.step (c:=3) ir h hM ht e rfl)
    obtain ⟨x,hx⟩:∃x,ks[k]=x:=⟨_,rfl⟩
    rw [hx] at sk hcn iM HST;have HX:=hide hx;clear hK hx hst
    obtain ⟨u,hu⟩:∃u,ax (ks.take k)=u:=⟨_,rfl⟩
    rw [hu] at qu hcn iM;have wS:B≤wr.heap.size:=br hge (Nat.le_of_lt qu.o.lt.1);have Pk:wr.heap.size≠b:=Nat.ne_of_gt qu.o.lt.1
    obtain ⟨w1',kN⟩:∃w1',w1'=wr.alloc (.cells (aB yk y0 yn yv ya yb yc yd (.slice yA cZ cv)).toArray 25):=⟨_,rfl⟩
    have hb1:Below wr.heap.size wr w1':=by rw [kN];exact (af _ wr).alloc (aa _) _
    have Y3:=hide (qu.o.keep hb1);have Y4:=hide (Gx.o.trans (aM.of_below (b:=b) hb1 wS));have tY:=ae (Row w1' wr.heap.size 25 (aB yk y0 yn yv ya yb yc yd (.slice yA cZ cv)).toArray) (by rw [kN];exact Row.new _ _ _);have pO:=hide kN.symm;clear kN hb1 hu;unfold aB at pO tY;go_upto_region 31 with fail;rw [pO.o];clear c0 c1 c2 c3 c4 c5 c6 c7 c8;go_wp2_with fail;refine bW (kM B b cw o1 (M+3*k+2000*u) w1' Y3.o (by omega)) Y4 tY (by decide) (by omega) fun Tx Xb Zd Ze Vu FC=>?_;obtain ⟨Y5,Y6,Y7,Y8,Y9,Y_,Za,Zb,Zc⟩:=ak FC.o;obtain ⟨_,hnd⟩:=K0.o Tx (T3.o.trans Vu.o).below (T3.o.trans Vu.o).size;go_wp2_with fail;refine bW (show Calls Tryz.prog 45 #[.pointer (some ⟨b,0,none⟩),.agg #[.int .i64 yk,.int .i64 y0,.string (ag yn),.string (ag yv),.int .i64 ya,.int .i64 yb,.int .i64 yc,.int .i64 yd,.slice yA cZ cv],.int .i64 4] Tx (jn B b Tx (Xb.bind (bC aD aQ x 4)) (((M+3*k+2000*u)+(cw.length+1))+2000*aC x)) from sk.o B b 4 _ Xb _ Tx Ze.o (by rw [←HX.o];exact hnd) (by decide) (by decide) (by omega)) Vu FC (by decide) (by omega) fun Zf Zg Zh Zi Zj Zk=>?_;clear Y5 Y6 Y7 Y8 Y9 Y_ Za Zb Zc hnd;have HL:=hide (iM.o Zf Zg _ Zi.o (by omega) Zj.o (by rw [←Zh.o,←Zd.o,HST.o];exact HE.o));go_wp2;go_roundw
    case rel=>exact ⟨HL.o,by rw [show Jc (intOf (.int .i64 ((k:Int)+1))).toNat=[44,32] from if_neg (by simp [intOf]<;>omega)];rfl⟩
    case measure=>simp [intOf];omega
   ·obtain rfl:k=N:=by omega
    have hk':¬(k:Int)<(k:Int):=by omega
    have LW:=hide (show o1=fin by have:=HE.o;rw [←HN.o,Rh] at this;exact this)
    have Zl:=ae (cz wr B b fin (M+3*k+2000*ax ks)) (by
     have:=qu.o;rw [LW.o] at this
     exact this.mono (by have:=kZ ks k;omega))
    have Zm:=TA;have Ar:=hide (Gx.o.row iR.o (by decide) (by omega));clear qu;go_wp2_with fail;refine bW (bT B b [125] 1 fin (M+3*k+2000*ax ks) wr Zl.o (by omega)) Zm Ar (by decide) (by omega) fun Zn o32 Zo Zp Zq Nc=>?_
    have HP:=ae (cz Zn B b (o.bind (bn aD aQ (.mk 7 a0 nm vl xa xb xc xd ks) (aq aD aQ ks))) (M+1500+2000*ax ks)) (by
     have hp:=Zp.o;rw [←Zo.o] at hp
     have e:(o.bind (bn aD aQ (.mk 7 a0 nm vl xa xb xc xd ks) (aq aD aQ ks)))=fin.map (bD · [125]):=by
      rw [nu.o.2,KJ _ (.mk 7 a0 nm vl xa xb xc xd ks) (aq aD aQ ks) rfl,←I_.o];show (if _ then _ else _)=_;rw [if_pos ⟨nu.o.1,by rw [a_];exact HLEN.o⟩];unfold Dd;rw [List.drop_zero];show Option.bind (qN (aq aD aQ ks) [123] st) _=Option.map _ (qN (aq aD aQ ks) [123] st)
      cases qN (aq aD aQ ks) [123] st<;>rfl
     rw [e]
     exact hp.mono (by first|omega|(simp only [aj,aK];omega)))
    go_wp2;go_end0;exact ⟨rfl,HP.o,Zq.o⟩
theorem sw (sg:List UInt8→Int) (ng:List UInt8→List UInt8):∀(ks:List Nd) (l:Nat),(aq sg ng ks).drop l=aq sg ng (ks.drop l)
 |ks,0=>by rw [List.drop_zero,List.drop_zero]
 |[],l+1=>by rw [List.drop_nil,aq,List.drop_nil]
 |x::r,l+1=>by rw [aq,List.drop_succ_cons,List.drop_succ_cons];exact sw sg ng r l
def FH (bk Rj cap l:Nat):Option Addr:=if cap=l then some ⟨bk,Rj,none⟩ else some ⟨bk,Rj+l*9,none⟩
theorem sJ.drop {B:Nat} {w:World} {ks:List Nd} {bk Rj cap:Nat} (h:sJ B w ks (some ⟨bk,Rj,none⟩)) (l:Nat) (hc:ks.length≤cap):sJ B w (ks.drop l) (FH bk Rj cap l):=by
 obtain ⟨bH,hl,hk,hr⟩:=h;refine ⟨bH.drop l,by rw [aA,aA,hl],fun i h1 h2=>?_,fun hp=>?_⟩
 ·rw [List.getElem_drop,List.getElem_drop];exact hk _ _ _
 ·rw [aA] at hp;obtain ⟨b,off,e,hb,hz,hat⟩:=hr (by omega);injection e with e;injection e with e1 e2;subst e1 e2;refine ⟨bk,Rj+l*9,by unfold FH;rw [if_neg (by omega)],hb,hz,fun i h1 j h2=>?_⟩;rw [List.getElem_drop];rw [aA] at h1;have:=hat (l+i) (by omega) j h2;rw [←this]
  congr 2
  rw [Nat.add_mul];omega
theorem KL (bk Rj n cap l:Nat) (hl:l≤n) (hl2:l≤1000) (W:World):(Instr.slice 23 (.slice (some ⟨bk,Rj,none⟩) n cap) (some (.int .i64 (l:Int))) none none).run Tryz.prog W=.ok (.slice (FH bk Rj cap l) (n-l) (cap-l)) W:=by
 have hs:(sizeOf 25).run Tryz.prog W=.ok 9 W:=by kernel_rfl
 have hu:(underlying 23).run Tryz.prog W=.ok (.slice 25) W:=by kernel_rfl
 have ha:(⟨bk,Rj,none⟩:Addr).add (l*9)=⟨bk,Rj+l*9,none⟩:=by unfold Addr.add;split<;>simp_all
 simp [Instr.slice,hu,hs,Instr.sliceBounds,Instr.sliceBound,asIntOf,Result.andThen,FH,ha]
 split<;>simp_all
theorem Ng:∀(ks:List Nd) (h:0<ks.length),ax ks=aC ks[0]+ax (ks.drop 1)
 |x::r,_=>by rw [ax];rfl
theorem vr:∀(ks:List Nd) (h:1<ks.length),ax ks=aC ks[0]+aC ks[1]+ax (ks.drop 2)
 |x::y::r,_=>by rw [ax,ax,Nat.add_assoc];rfl
theorem FJ (ks:List Nd) (o:Option St):lF ks 0 o=o.bind (kz (aq aD aQ ks)):=by unfold lF;rw [List.drop_zero]
theorem wa (B b:Nat) (ks:List Nd) (l:Nat) (A:Option Addr) (cap:Nat) (o:Option St) (M:Nat) (w:World) (h:cz w B b o M) (hk:sJ B w (ks.drop l) A) (gS:∀i (hi:i<ks.length),qs ks[i]) (hn:(ks.drop l).length≤1) (hM:M+(10+2000*ax (ks.drop l))≤1099511627776):
 Calls Tryz.prog 150 #[.pointer (some ⟨b,0,none⟩),.slice A (ks.length-l) cap] w (jn B b w (o.bind (kz (aq aD aQ (ks.drop l)))) (M+(10+2000*ax (ks.drop l)))):=by
 have h1:=Fx B b (ks.drop l) A cap o M w h hk (fun i hi=>by rw [List.getElem_drop];exact gS _ _) (by omega) (by omega);rw [FJ,aA] at h1;rw [aA] at hn
 exact h1.mono fun e w' hx=>⟨hx.1,hx.2.1.mono (by omega),hx.2.2⟩
theorem Jd (o:Option St) (f g h k:St→Option St) (u v:St→St):(((((o.bind f).map u).bind g).bind h).map v).bind k=o.bind fun st=>(f st).bind fun st=>(g (u st)).bind fun st=>(h st).bind fun st=>k (v st):=by
 cases o with
 |none=>rfl
 |some st=>
  show Option.bind (Option.map v (Option.bind (Option.bind (Option.map u (f st)) g) h)) k=Option.bind (f st) _
  cases f st with
  |none=>rfl
  |some st=>
   show Option.bind (Option.map v (Option.bind (g (u st)) h)) k=Option.bind (g (u st)) _
   cases g (u st) with
   |none=>rfl
   |some st=>
    show Option.bind (Option.map v (h st)) k=Option.bind (h st) _
    cases h st<;>rfl
theorem Nh (o:Option St) (f g h i k:St→Option St) (u v x y:St→St):((((((((o.bind f).map u).bind g).map v).bind h).map x).bind i).bind k).map y=o.bind fun st=>(f st).bind fun st=>(g (u st)).bind fun st=>(h (v st)).bind fun st=>(i (x st)).bind fun st=>(k st).bind fun st=>some (y st):=by
 cases o with
 |none=>rfl
 |some st=>
  show Option.map y (Option.bind (Option.bind (Option.map x (Option.bind (Option.map v (Option.bind (Option.map u (f st)) g)) h)) i) k)=Option.bind (f st) _
  cases f st with
  |none=>rfl
  |some st=>
   show Option.map y (Option.bind (Option.bind (Option.map x (Option.bind (Option.map v (g (u st))) h)) i) k)=Option.bind (g (u st)) _
   cases g (u st) with
   |none=>rfl
   |some st=>
    show Option.map y (Option.bind (Option.bind (Option.map x (h (v st))) i) k)=Option.bind (h (v st)) _
    cases h (v st) with
    |none=>rfl
    |some st=>
     show Option.map y (Option.bind (i (x st)) k)=Option.bind (i (x st)) _
     cases i (x st) with
     |none=>rfl
     |some st=>
      show Option.map y (k st)=Option.bind (k st) _
      cases k st<;>rfl
theorem Bz (o:Option St) (n:Nd) (fs:List Pw) (h:n.kind=45):o.bind (fS aD n fs)=o.bind fun st=>if bJ n false false true false∧2≤fs.length∧fs.length≤3 then (jV fs 0 11 st).bind fun st=>(mo n.a n.b (bD st [32,45,62,32])).bind fun st=>(kz (fs.drop 2) st).bind fun st=>jV fs 1 12 (bD st [32]) else none:=by
 cases o with
 |none=>rfl
 |some st=>
  show fS aD n fs st=_;unfold fS;rw [if_pos h];rfl
theorem FK (o:Option St) (n:Nd) (fs:List Pw) (h:n.kind=47):o.bind (fS aD n fs)=o.bind fun st=>if bJ n false false true true∧1≤fs.length∧fs.length≤2 then (jV fs 0 13 st).bind fun st=>(dh n.a 32768 (bD st [123])).bind fun st=>(dh n.b 32768 (bD st [44,32])).bind fun st=>(mo n.c n.d (bD st [44,32])).bind fun st=>(kz (fs.drop 1) st).bind fun st=>some (bD st [125]) else none:=by
 cases o with
 |none=>rfl
 |some st=>
  show fS aD n fs st=_;unfold fS;rw [if_neg (show¬n.kind=45 by omega),if_pos h];rfl
theorem Zt (B b:Nat) (a0 xa xb xc xd:Int) (nm vl:List UInt8) (ks:List Nd) (A:Option Addr) (cap:Nat) (o:Option St) (M:Nat) (w:World) (h:cz w B b o M) (hk:sJ B w ks A) (gS:∀i (hi:i<ks.length),qs ks[i]) (hft:iJ 45 xa xb xc xd nm vl) (hcap:ks.length≤cap) (hn:ks.length≤1000000) (hM:M+1500+2000*ax ks≤1099511627776):
 Calls Tryz.prog 112 #[.pointer (some ⟨b,0,none⟩),.agg (aB 45 a0 nm vl xa xb xc xd (.slice A ks.length cap)).toArray] w (jn B b w (o.bind (fS aD (.mk 45 a0 nm vl xa xb xc xd ks) (aq aD aQ ks))) (M+1500+2000*ax ks)):=by
 have hlt:=h.lt.1;have hge:=h.lt.2;have oN:=hide hk;have Zu:=hide hcap;clear hcap
 obtain ⟨w1,hw1⟩:∃w1,w1=w.alloc (.cells (aB 45 a0 nm vl xa xb xc xd (.slice A ks.length cap)).toArray 25):=⟨_,rfl⟩
 have hb1:Below w.heap.size w w1:=by rw [hw1];exact (af _ w).alloc (aa _) _
 have P1:=hide (h.keep hb1);have T1:=hide (aM.of_below (b:=b) hb1 (show B≤w.heap.size by omega));have fU:=ae (Row w1 w.heap.size 25 (aB 45 a0 nm vl xa xb xc xd (.slice A ks.length cap)).toArray) (by rw [hw1];exact Row.new _ _ _);have cR:=hide hw1.symm;have oO:=hide gS;have pM:=hide hft;clear h hk hw1 hb1 gS hft;unfold aB at cR fU⊢;go_enter Tryz.func112,Tryz.ntmps112;go_upto_region 1 with fail;rw [cR.o];obtain ⟨dJ,eN,ei,ek,dF,dG,eA,eB,cj⟩:=ak fU.o;go_wp2_with fail;refine bW (cM B b 45 a0 xa xb xc xd nm vl (.slice A ks.length cap) [97] o M w1 P1.o) T1 fU (by decide) (by omega) fun w2 o2 Q2 P2 T2 ia=>?_;clear dJ eN ei ek dF dG eA eB cj;obtain ⟨dJ,eN,ei,ek,dF,dG,eA,eB,cj⟩:=ak ia.o;have C3:=hide (fx B b 45 a0 xa xb xc xd nm vl A ks.length cap 2 3 o2 M w2 P2.o (by omega));unfold aB at C3
 obtain ⟨o3,q3⟩:∃z_,iA o2 ks.length 2 3=z_:=⟨_,rfl⟩
 rw [q3] at C3
 have kE:iA (nX o (decide (nm=[])) (decide (vl=[])) (decide (xa=0)) (decide (xb=0)) (decide (xc=0)) (decide (xd=0)) [97]) ks.length 2 3=if bJ (.mk 45 a0 nm vl xa xb xc xd ks) false false true false=true∧2≤(ks.length:Int)∧(ks.length:Int)≤3 then o else none:=mY o [97] 2 3
 rw [Q2.o,q3] at kE;have kX:=hide kE;clear kE q3
 cases o3 with
 |none=>
  go_wp2_with fail;refine (C3.o).mono ?_;rintro e w3 ⟨rfl,p3,t3⟩;have P3:=hide p3;have T3:=hide (T2.o.trans t3);have iR:=hide (t3.row ia.o (by decide) (by omega));clear p3 t3 C3;clear dJ eN ei ek dF dG eA eB cj
  have HP:=ae (cz w3 B b (o.bind (fS aD (.mk 45 a0 nm vl xa xb xc xd ks) (aq aD aQ ks))) (M+1500+2000*ax ks)) (by
   rw [Bz o (.mk 45 a0 nm vl xa xb xc xd ks) (aq aD aQ ks) rfl,show o.bind _=none from iQ kX.o (fun h=>⟨h.1,by have:=h.2;rw [a_] at this;omega⟩)]
   exact P3.o.mono (by omega))
  go_wp2;go_end0;exact ⟨rfl,HP.o,T3.o⟩
 |some st=>
  obtain ⟨⟨hc1,hc2,hc3⟩,ho⟩:=iP kX.o;have uu:=hide (show 2≤ks.length∧ks.length≤3 by omega)
  have hi0:0<ks.length:=by omega
  have hi1:1<ks.length:=by omega
  have XL:(1:Int)<(ks.length:Int):=by omega
  have hct:=vr ks hi1;obtain ⟨bb,bc,lR,rX,rY,qQ,rZ,r_,se,sf,si,eX,eZ,I7,sj⟩:=oN.o.kid (i:=0) hi0;subst I7
  obtain ⟨x0,hx0⟩:∃x,ks[0]'hi0=x:=⟨_,rfl⟩
  rw [hx0] at sj;have K0:=hide (fun (W:World) (hb:Below B w W) (hz:w.heap.size≤W.heap.size)=>show (W.cell? ⟨bb,bc,none⟩=some (.int .i64 lR)∧W.cell? ⟨bb,bc+1,none⟩=some (.int .i64 rX)∧W.cell? ⟨bb,bc+2,none⟩=some (.string (ag rY))∧W.cell? ⟨bb,bc+3,none⟩=some (.string (ag qQ))∧W.cell? ⟨bb,bc+4,none⟩=some (.int .i64 rZ)∧W.cell? ⟨bb,bc+5,none⟩=some (.int .i64 r_)∧W.cell? ⟨bb,bc+6,none⟩=some (.int .i64 se)∧W.cell? ⟨bb,bc+7,none⟩=some (.int .i64 sf)∧W.cell? ⟨bb,bc+8,none⟩=some (.slice si eX eZ))∧cK (fun c=>B≤c) W x0 [Value.int .i64 lR,.int .i64 rX,.string (ag rY),.string (ag qQ),.int .i64 rZ,.int .i64 r_,.int .i64 se,.int .i64 sf,.slice si eX eZ] from sj W hb hz)
  have sk:Hid (qs x0):=by rw [←hx0];exact oO.o 0 hi0
  have I8:aC x0≤ax ks:=by rw [←hx0];exact ez (cI _)
  have xf:=hide hx0;clear hx0 sj;obtain ⟨bk1,of1,Rk,Rl,Rm,Rn,Ro,Rq,Rs,Rt,Ru,pP,pQ,Xh,Mb⟩:=oN.o.kid (i:=1) hi1
  obtain ⟨rfl,rfl⟩:bb=bk1∧bc=of1:=by injection Xh with e;injection e with e1 e2;exact ⟨e1,e2⟩
  clear Xh
  obtain ⟨x1,hx1⟩:∃x,ks[1]'hi1=x:=⟨_,rfl⟩
  rw [hx1] at Mb;have K1:=hide (fun (W:World) (hb:Below B w W) (hz:w.heap.size≤W.heap.size)=>show (W.cell? ⟨bb,bc+9,none⟩=some (.int .i64 Rk)∧W.cell? ⟨bb,bc+10,none⟩=some (.int .i64 Rl)∧W.cell? ⟨bb,bc+11,none⟩=some (.string (ag Rm))∧W.cell? ⟨bb,bc+12,none⟩=some (.string (ag Rn))∧W.cell? ⟨bb,bc+13,none⟩=some (.int .i64 Ro)∧W.cell? ⟨bb,bc+14,none⟩=some (.int .i64 Rq)∧W.cell? ⟨bb,bc+15,none⟩=some (.int .i64 Rs)∧W.cell? ⟨bb,bc+16,none⟩=some (.int .i64 Rt)∧W.cell? ⟨bb,bc+17,none⟩=some (.slice Ru pP pQ))∧cK (fun c=>B≤c) W x1 [Value.int .i64 Rk,.int .i64 Rl,.string (ag Rm),.string (ag Rn),.int .i64 Ro,.int .i64 Rq,.int .i64 Rs,.int .i64 Rt,.slice Ru pP pQ] from Mb W hb hz)
  have Zv:Hid (qs x1):=by rw [←hx1];exact oO.o 1 hi1
  have aby:aC x1≤ax ks:=by rw [←hx1];exact ez (cI _)
  have Ed:=hide hx1;clear hx1 Mb;rw [xf.o,Ed.o] at hct;have nu:=hide (And.intro hc1 ho);clear hc1 hc2 hc3 ho;go_wp2_with fail;refine (C3.o).mono ?_;rintro e w3 ⟨rfl,p3,t3⟩;have P3:=hide p3;have T3:=hide (T2.o.trans t3);have iR:=hide (t3.row ia.o (by decide) (by omega));clear p3 t3 C3;clear dJ eN ei ek dF dG eA eB cj;have cj:w3.cell? ⟨w.heap.size,8,none⟩=some (.slice (some ⟨bb,bc,none⟩) ks.length cap):=iR.o.cell 8;obtain ⟨⟨d0,d1,d2,d3,d4,d5,d6,d7,d8⟩,qR⟩:=K0.o w3 T3.o.below T3.o.size;have hnd:=hide qR;clear qR;go_wp2_with fail;refine bW (sk.o B b (11) _ (some st) _ w3 P3.o hnd.o (by decide) (by decide) (by omega)) T3 iR (by decide) (by omega) fun w4 o4 Q4 P4 T4 jJ=>?_;clear cj d0 d1 d2 d3 d4 d5 d6 d7 d8 hnd;go_wp2_with fail;refine bW (bT B b [32,45,62,32] 4 o4 (M+2000*aC x0) w4 P4.o (by omega)) T4 jJ (by decide) (by omega) fun w5 o5 Q5 P5 T5 oP=>?_;have dF:w5.cell? ⟨w.heap.size,4,none⟩=some (.int .i64 xa):=oP.o.cell 4;have dG:w5.cell? ⟨w.heap.size,5,none⟩=some (.int .i64 xb):=oP.o.cell 5;go_wp2_with fail;refine bW (vZ B b xa xb o5 ((M+2000*aC x0)+5) w5 P5 pM.o.a pM.o.b (by omega)) T5 oP (by decide) (by omega) fun w6 o6 Q6 P6 T6 oI=>?_;clear dF dG;have cj:w6.cell? ⟨w.heap.size,8,none⟩=some (.slice (some ⟨bb,bc,none⟩) ks.length cap):=oI.o.cell 8;have hsl:(Instr.slice 23 (.slice (some ⟨bb,bc,none⟩) ks.length cap) (some (.int .i64 2)) none none).run Tryz.prog w6=.ok (.slice (FH bb bc cap 2) (ks.length-2) (cap-2)) w6:=KL bb bc ks.length cap 2 (by have:=uu.o;omega) (by decide) w6;go_wp2_with fail;refine bW (wa B b ks 2 (FH bb bc cap 2) (cap-2) o6 (((M+2000*aC x0)+5)+60) w6 P6.o ((oN.o.keep T6.o.below T6.o.size).drop 2 Zu.o) oO.o (by rw [aA];have:=uu.o;omega) (by omega)) T6 oI (by decide) (by omega) fun w7 o7 Q7 P7 T7 Dx=>?_;clear cj hsl;go_wp2_with fail;refine bW (bT B b [32] 1 o7 ((((M+2000*aC x0)+5)+60)+(10+2000*ax (ks.drop 2))) w7 P7.o (by omega)) T7 Dx (by decide) (by omega) fun w8 o8 Q8 P8 T8 Oz=>?_;have cj:w8.cell? ⟨w.heap.size,8,none⟩=some (.slice (some ⟨bb,bc,none⟩) ks.length cap):=Oz.o.cell 8;obtain ⟨⟨d0,d1,d2,d3,d4,d5,d6,d7,d8⟩,qR⟩:=K1.o w8 T8.o.below T8.o.size;have hnd:=hide qR;clear qR;go_wp2_with fail;refine bW (Zv.o B b (12) _ o8 _ w8 P8.o hnd.o (by decide) (by decide) (by omega)) T8 Oz (by decide) (by omega) fun w9 o9 Q9 P9 T9 Xg=>?_;clear cj d0 d1 d2 d3 d4 d5 d6 d7 d8 hnd
  have HP:=ae (cz w9 B b (o.bind (fS aD (.mk 45 a0 nm vl xa xb xc xd ks) (aq aD aQ ks))) (M+1500+2000*ax ks)) (by
   have hp:=P9.o;rw [←Q9.o,←Q8.o,←Q7.o,←Q6.o,←Q5.o,←Q4.o,Jd] at hp;rw [nu.o.2,Bz _ (.mk 45 a0 nm vl xa xb xc xd ks) (aq aD aQ ks) rfl,Option.bind_some,if_pos ⟨nu.o.1,by rw [a_];have:=uu.o;omega⟩,jk ks hi0,xf.o,sw];simp only [jk ks hi1,Ed.o];simp only [Option.bind_some] at hp
   exact hp.mono (by first|omega|(simp only [aj,aK];omega)))
  go_wp2;go_end0;exact ⟨rfl,HP.o,T9.o⟩
theorem Zw (B b:Nat) (a0 xa xb xc xd:Int) (nm vl:List UInt8) (ks:List Nd) (A:Option Addr) (cap:Nat) (o:Option St) (M:Nat) (w:World) (h:cz w B b o M) (hk:sJ B w ks A) (gS:∀i (hi:i<ks.length),qs ks[i]) (hft:iJ 47 xa xb xc xd nm vl) (hcap:ks.length≤cap) (hn:ks.length≤1000000) (hM:M+1500+2000*ax ks≤1099511627776):
 Calls Tryz.prog 112 #[.pointer (some ⟨b,0,none⟩),.agg (aB 47 a0 nm vl xa xb xc xd (.slice A ks.length cap)).toArray] w (jn B b w (o.bind (fS aD (.mk 47 a0 nm vl xa xb xc xd ks) (aq aD aQ ks))) (M+1500+2000*ax ks)):=by
 have hlt:=h.lt.1;have hge:=h.lt.2;have oN:=hide hk;have Zu:=hide hcap;clear hcap
 obtain ⟨w1,hw1⟩:∃w1,w1=w.alloc (.cells (aB 47 a0 nm vl xa xb xc xd (.slice A ks.length cap)).toArray 25):=⟨_,rfl⟩
 have hb1:Below w.heap.size w w1:=by rw [hw1];exact (af _ w).alloc (aa _) _
 have P1:=hide (h.keep hb1);have T1:=hide (aM.of_below (b:=b) hb1 (show B≤w.heap.size by omega));have fU:=ae (Row w1 w.heap.size 25 (aB 47 a0 nm vl xa xb xc xd (.slice A ks.length cap)).toArray) (by rw [hw1];exact Row.new _ _ _);have cR:=hide hw1.symm;have oO:=hide gS;have pM:=hide hft;clear h hk hw1 hb1 gS hft;unfold aB at cR fU⊢;go_enter Tryz.func112,Tryz.ntmps112;go_upto_region 1 with fail;rw [cR.o];obtain ⟨dJ,eN,ei,ek,dF,dG,eA,eB,cj⟩:=ak fU.o;go_wp2_with fail;refine bW (cM B b 47 a0 xa xb xc xd nm vl (.slice A ks.length cap) [97,99] o M w1 P1.o) T1 fU (by decide) (by omega) fun w2 o2 Q2 P2 T2 ia=>?_;clear dJ eN ei ek dF dG eA eB cj;obtain ⟨dJ,eN,ei,ek,dF,dG,eA,eB,cj⟩:=ak ia.o;have C3:=hide (fx B b 47 a0 xa xb xc xd nm vl A ks.length cap 1 2 o2 M w2 P2.o (by omega));unfold aB at C3
 obtain ⟨o3,q3⟩:∃z_,iA o2 ks.length 1 2=z_:=⟨_,rfl⟩
 rw [q3] at C3
 have kE:iA (nX o (decide (nm=[])) (decide (vl=[])) (decide (xa=0)) (decide (xb=0)) (decide (xc=0)) (decide (xd=0)) [97,99]) ks.length 1 2=if bJ (.mk 47 a0 nm vl xa xb xc xd ks) false false true true=true∧1≤(ks.length:Int)∧(ks.length:Int)≤2 then o else none:=mY o [97,99] 1 2
 rw [Q2.o,q3] at kE;have kX:=hide kE;clear kE q3
 cases o3 with
 |none=>
  go_wp2_with fail;refine (C3.o).mono ?_;rintro e w3 ⟨rfl,p3,t3⟩;have P3:=hide p3;have T3:=hide (T2.o.trans t3);have iR:=hide (t3.row ia.o (by decide) (by omega));clear p3 t3 C3;clear dJ eN ei ek dF dG eA eB cj
  have HP:=ae (cz w3 B b (o.bind (fS aD (.mk 47 a0 nm vl xa xb xc xd ks) (aq aD aQ ks))) (M+1500+2000*ax ks)) (by
   rw [FK o (.mk 47 a0 nm vl xa xb xc xd ks) (aq aD aQ ks) rfl,show o.bind _=none from iQ kX.o (fun h=>⟨h.1,by have:=h.2;rw [a_] at this;omega⟩)]
   exact P3.o.mono (by omega))
  go_wp2;go_end0;exact ⟨rfl,HP.o,T3.o⟩
 |some st=>
  obtain ⟨⟨hc1,hc2,hc3⟩,ho⟩:=iP kX.o;have uu:=hide (show 1≤ks.length∧ks.length≤2 by omega)
  have hi0:0<ks.length:=by omega
  have hct:=Ng ks hi0;obtain ⟨bb,bc,lR,rX,rY,qQ,rZ,r_,se,sf,si,eX,eZ,I7,sj⟩:=oN.o.kid (i:=0) hi0;subst I7
  obtain ⟨x0,hx0⟩:∃x,ks[0]'hi0=x:=⟨_,rfl⟩
  rw [hx0] at sj;have K0:=hide (fun (W:World) (hb:Below B w W) (hz:w.heap.size≤W.heap.size)=>show (W.cell? ⟨bb,bc,none⟩=some (.int .i64 lR)∧W.cell? ⟨bb,bc+1,none⟩=some (.int .i64 rX)∧W.cell? ⟨bb,bc+2,none⟩=some (.string (ag rY))∧W.cell? ⟨bb,bc+3,none⟩=some (.string (ag qQ))∧W.cell? ⟨bb,bc+4,none⟩=some (.int .i64 rZ)∧W.cell? ⟨bb,bc+5,none⟩=some (.int .i64 r_)∧W.cell? ⟨bb,bc+6,none⟩=some (.int .i64 se)∧W.cell? ⟨bb,bc+7,none⟩=some (.int .i64 sf)∧W.cell? ⟨bb,bc+8,none⟩=some (.slice si eX eZ))∧cK (fun c=>B≤c) W x0 [Value.int .i64 lR,.int .i64 rX,.string (ag rY),.string (ag qQ),.int .i64 rZ,.int .i64 r_,.int .i64 se,.int .i64 sf,.slice si eX eZ] from sj W hb hz)
  have sk:Hid (qs x0):=by rw [←hx0];exact oO.o 0 hi0
  have I8:aC x0≤ax ks:=by rw [←hx0];exact ez (cI _)
  have xf:=hide hx0;clear hx0 sj;rw [xf.o] at hct;have nu:=hide (And.intro hc1 ho);clear hc1 hc2 hc3 ho;go_wp2_with fail;refine (C3.o).mono ?_;rintro e w3 ⟨rfl,p3,t3⟩;have P3:=hide p3;have T3:=hide (T2.o.trans t3);have iR:=hide (t3.row ia.o (by decide) (by omega));clear p3 t3 C3;clear dJ eN ei ek dF dG eA eB cj;have cj:w3.cell? ⟨w.heap.size,8,none⟩=some (.slice (some ⟨bb,bc,none⟩) ks.length cap):=iR.o.cell 8;obtain ⟨⟨d0,d1,d2,d3,d4,d5,d6,d7,d8⟩,qR⟩:=K0.o w3 T3.o.below T3.o.size;have hnd:=hide qR;clear qR;go_wp2_with fail;refine bW (sk.o B b (13) _ (some st) _ w3 P3.o hnd.o (by decide) (by decide) (by omega)) T3 iR (by decide) (by omega) fun w4 o4 Q4 P4 T4 jJ=>?_;clear cj d0 d1 d2 d3 d4 d5 d6 d7 d8 hnd;go_wp2_with fail;refine bW (bT B b [123] 1 o4 (M+2000*aC x0) w4 P4.o (by omega)) T4 jJ (by decide) (by omega) fun w5 o5 Q5 P5 T5 oP=>?_;have dF:w5.cell? ⟨w.heap.size,4,none⟩=some (.int .i64 xa):=oP.o.cell 4;go_wp2_with fail;refine bW (dA B b xa 32768 o5 ((M+2000*aC x0)+2) w5 P5.o pM.o.a (by omega)) T5 oP (by decide) (by omega) fun w6 o6 Q6 P6 T6 oI=>?_;clear dF;go_wp2_with fail;refine bW (bT B b [44,32] 2 o6 (((M+2000*aC x0)+2)+22) w6 P6.o (by omega)) T6 oI (by decide) (by omega) fun w7 o7 Q7 P7 T7 Dx=>?_;have dG:w7.cell? ⟨w.heap.size,5,none⟩=some (.int .i64 xb):=Dx.o.cell 5;go_wp2_with fail;refine bW (dA B b xb 32768 o7 ((((M+2000*aC x0)+2)+22)+3) w7 P7.o pM.o.b (by omega)) T7 Dx (by decide) (by omega) fun w8 o8 Q8 P8 T8 Oz=>?_;clear dG;go_wp2_with fail;refine bW (bT B b [44,32] 2 o8 (((((M+2000*aC x0)+2)+22)+3)+22) w8 P8.o (by omega)) T8 Oz (by decide) (by omega) fun w9 o9 Q9 P9 T9 Xg=>?_;have eA:w9.cell? ⟨w.heap.size,6,none⟩=some (.int .i64 xc):=Xg.o.cell 6;have eB:w9.cell? ⟨w.heap.size,7,none⟩=some (.int .i64 xd):=Xg.o.cell 7;go_wp2_with fail;refine bW (vZ B b xc xd o9 ((((((M+2000*aC x0)+2)+22)+3)+22)+3) w9 P9 pM.o.c pM.o.d (by omega)) T9 Xg (by decide) (by omega) fun rF o10 Q10 Xi Zx Ni=>?_;clear eA eB;have cj:rF.cell? ⟨w.heap.size,8,none⟩=some (.slice (some ⟨bb,bc,none⟩) ks.length cap):=Ni.o.cell 8;have hsl:(Instr.slice 23 (.slice (some ⟨bb,bc,none⟩) ks.length cap) (some (.int .i64 1)) none none).run Tryz.prog rF=.ok (.slice (FH bb bc cap 1) (ks.length-1) (cap-1)) rF:=KL bb bc ks.length cap 1 (by have:=uu.o;omega) (by decide) rF;go_wp2_with fail;refine bW (wa B b ks 1 (FH bb bc cap 1) (cap-1) o10 (((((((M+2000*aC x0)+2)+22)+3)+22)+3)+60) rF Xi.o ((oN.o.keep Zx.o.below Zx.o.size).drop 1 Zu.o) oO.o (by rw [aA];have:=uu.o;omega) (by omega)) Zx Ni (by decide) (by omega) fun Xj o11 Q11 Ty T11 VB=>?_;clear cj hsl;go_wp2_with fail;refine bW (bT B b [125] 1 o11 ((((((((M+2000*aC x0)+2)+22)+3)+22)+3)+60)+(10+2000*ax (ks.drop 1))) Xj Ty.o (by omega)) T11 VB (by decide) (by omega) fun TB o12 Q12 Zy T12 Zz=>?_
  have HP:=ae (cz TB B b (o.bind (fS aD (.mk 47 a0 nm vl xa xb xc xd ks) (aq aD aQ ks))) (M+1500+2000*ax ks)) (by
   have hp:=Zy.o;rw [←Q12.o,←Q11.o,←Q10.o,←Q9.o,←Q8.o,←Q7.o,←Q6.o,←Q5.o,←Q4.o,Nh] at hp;rw [nu.o.2,FK _ (.mk 47 a0 nm vl xa xb xc xd ks) (aq aD aQ ks) rfl,Option.bind_some,if_pos ⟨nu.o.1,by rw [a_];have:=uu.o;omega⟩,jk ks hi0,xf.o,sw];simp only [Option.bind_some] at hp
   exact hp.mono (by first|omega|(simp only [aj,aK];omega)))
  go_wp2;go_end0;exact ⟨rfl,HP.o,T12.o⟩
end Go.Proofs.YtddoehnkgcbboaaGreatDoor
