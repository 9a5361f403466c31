/- A part of the proof that the last file tells. -/
import Derived.Test.YtddoehnkgcbboaaGreatDoorAgV
set_option maxHeartbeats 16000000
set_option maxRecDepth 100000
set_option linter.unusedVariables false
set_option linter.unusedSimpArgs false
namespace Go.Proofs.YtddoehnkgcbboaaGreatDoor
open Go.RowKit Go.Shelf
theorem cY.zero {p:PS} {f:FuncId} {r:Nat→PR Nd}:cY p f r 0:=fun k W hF h=>by
 have:=h.le;omega
theorem KY (p:PS) (ko:wR p):∀F:Nat,cY p 17 (cF p.L p.en (fq p) F).cond F∧cY p 50 (cF p.L p.en (fq p) F).ng F∧cY p 127 (cF p.L p.en (fq p) F).fo F∧cY p 249 (cF p.L p.en (fq p) F).un F
 |0=>⟨.zero,.zero,.zero,.zero⟩
 |F+1=>by
  obtain ⟨h1,h2,h3,h4⟩:=KY p ko F;have P:=dR (L:=p.L) (en:=p.en) (rd:=fq p) F;have pr:=FU p F _ _ h1 h3 P.cond P.fo;have ppr:=rO (L:=p.L) (en:=p.en) (rd:=fq p) P.cond P.fo;have un:=Nk p F _ _ ko h4 pr;have pun:=E0 (L:=p.L) (en:=p.en) P.un ppr;have sm:=UR p (F+1) _ un pun;have psm:=bP (L:=p.L) (en:=p.en) (ops:=CB) pun;have ba:=IG p (F+1) _ sm psm;have pba:=bP (L:=p.L) (en:=p.en) (ops:=EO) psm;have bx:=II p (F+1) _ ba pba;have pbx:=bP (L:=p.L) (en:=p.en) (ops:=IA) pba;have bo:=MF p (F+1) _ bx pbx;have pbo:=bP (L:=p.L) (en:=p.en) (ops:=orO) pbx;have cm:=yU p (F+1) _ bo pbo;have pcm:=uY (L:=p.L) (en:=p.en) pbo;have ng:=CL p F _ _ h2 cm;have png:=Bb (L:=p.L) (en:=p.en) P.ng pcm;have bt:=Qs p (F+1) _ ng png;have pbt:=bP (L:=p.L) (en:=p.en) (ops:=yD) png;have cd:=Al p (F+1) _ bt pbt;exact ⟨cd,ng,bo,un⟩
theorem ug (p:PS) (ko:wR p) (k:Nat) (W:World) (h:bQ p W k):Calls Tryz.prog 17 #[.pointer (some ⟨p.b,0,none⟩)] W (cQ p W (qI W.heap.size) (cX p.L p.en (fq p) k)):=
 (KY p ko (p.L.length+1)).1 k W (by omega) h
end Go.Proofs.YtddoehnkgcbboaaGreatDoor
namespace Go.Proofs.YtddoehnkgcbboaaGreatDoor
open Go.RowKit Go.Shelf Go.Maps
def gh (p:PS) (k:Nat):PR (Int×Int):=jf p.L p.en (fq p) k fun a b k6=>.ok (a,b) k6
theorem PR.bind_assoc' {α β γ:Type} (x:PR α) (f:α→Nat→PR β) (g:β→Nat→PR γ):(x.bind f).bind g=x.bind fun a k=>(f a k).bind g:=by cases x<;>rfl
theorem zB (p:PS) {α:Type} (k:Nat) (f:Int→Int→Nat→PR α):jf p.L p.en (fq p) k f=(gh p k).bind fun ab k6=>f ab.1 ab.2 k6:=by
 unfold gh jf;simp only [PR.bind_assoc'];rfl
def ac4 (_:World) (ab:Int×Int) (v:Value):Prop:=v=.tuple #[.int .i64 ab.1,.int .i64 ab.2]
theorem BM (p:PS) (k:Nat) (w:World) (h:bQ p w k):
 Calls Tryz.prog 66 #[.pointer (some ⟨p.b,0,none⟩)] w (cQ p w ac4 (gh p k)):=by
 have EX:=hide (fun (k:Nat) (wd:List UInt8) (W:World) (h:bQ p W k)=>h_ p k wd W h);have TM:=hide (fun (k:Nat) (W:World) (h:bQ p W k)=>Fs p k W h);have X1:=hide (EX.o k [91] w h)
 obtain ⟨RR,lM⟩:∃RR,gh p k=RR:=⟨_,rfl⟩
 rw [lM];have Dy:=ae (RR=(av p.L p.en k dM).bind fun _ k1=>(dE p.L p.en (fq p) k1).bind fun a k2=>(av p.L p.en k2 aG).bind fun _ k3=>(dE p.L p.en (fq p) k3).bind fun b k4=>(av p.L p.en k4 dz).bind fun _ k5=>.ok (a,b) k5) lM.symm;clear lM h;go_enter Tryz.func66,Tryz.ntmps66
 cases hD:av p.L p.en k [91] with
 |err a er=>
  rw [hD] at X1;have HE:=ae (RR=.err a er) (by rw [Dy.o,show av p.L p.en k dM=.err a er from hD];rfl);clear hD;go_wp2_with fail;refine X1.o.mono ?_;rintro e qJ ⟨rfl,cD⟩;go_wp2;exact ⟨rfl,by rw [HE.o];exact ⟨rfl,(ah.refl (fun c=>c=p.b) w).trans cD⟩⟩
 |ok u1 k1=>
  rw [hD] at X1;have nt:=ae (RR=(dE p.L p.en (fq p) k1).bind fun a k2=>(av p.L p.en k2 aG).bind fun _ k3=>(dE p.L p.en (fq p) k3).bind fun b k4=>(av p.L p.en k4 dz).bind fun _ k5=>.ok (a,b) k5) (by rw [Dy.o,show av p.L p.en k dM=.ok u1 k1 from hD];rfl);clear hD Dy;go_wp2_with fail;refine X1.o.mono ?_;rintro e W1 ⟨⟨v,rfl,rfl⟩,h1,hk1⟩;have PC:=hide ((ah.refl (fun c=>c=p.b) w).trans hk1);have X2:=hide (TM.o k1 W1 h1);clear h1 hk1
  cases hD:dE p.L p.en (fq p) k1 with
  |err a er=>
   rw [hD] at X2;have HE:=ae (RR=.err a er) (by rw [nt.o,show dE p.L p.en (fq p) k1=.err a er from hD];rfl);clear hD;go_wp2_with fail;refine X2.o.mono ?_;rintro e qJ ⟨rfl,cD⟩;go_wp2;exact ⟨rfl,by rw [HE.o];exact ⟨rfl,PC.o.trans cD⟩⟩
  |ok a k2=>
   rw [hD] at X2;have oz:=ae (RR=(av p.L p.en k2 aG).bind fun _ k3=>(dE p.L p.en (fq p) k3).bind fun b k4=>(av p.L p.en k4 dz).bind fun _ k5=>.ok (a,b) k5) (by rw [nt.o,show dE p.L p.en (fq p) k1=.ok a k2 from hD];rfl);clear hD nt;go_wp2_with fail;refine X2.o.mono ?_;rintro e W2 ⟨⟨v,rfl,rfl⟩,h2,hk2⟩;have Du:=hide (PC.o.trans hk2);have X3:=hide (EX.o k2 [44] W2 h2);clear h2 hk2
   cases hD:av p.L p.en k2 [44] with
   |err a er=>
    rw [hD] at X3;have HE:=ae (RR=.err a er) (by rw [oz.o,show av p.L p.en k2 aG=.err a er from hD];rfl);clear hD;go_wp2_with fail;refine X3.o.mono ?_;rintro e qJ ⟨rfl,cD⟩;go_wp2;exact ⟨rfl,by rw [HE.o];exact ⟨rfl,Du.o.trans cD⟩⟩
   |ok u3 k3=>
    rw [hD] at X3;have qP:=ae (RR=(dE p.L p.en (fq p) k3).bind fun b k4=>(av p.L p.en k4 dz).bind fun _ k5=>.ok (a,b) k5) (by rw [oz.o,show av p.L p.en k2 aG=.ok u3 k3 from hD];rfl);clear hD oz;go_wp2_with fail;refine X3.o.mono ?_;rintro e W3 ⟨⟨v,rfl,rfl⟩,h3,hk3⟩;have Ov:=hide (Du.o.trans hk3);have X4:=hide (TM.o k3 W3 h3);clear h3 hk3
    cases hD:dE p.L p.en (fq p) k3 with
    |err a er=>
     rw [hD] at X4;have HE:=ae (RR=.err a er) (by rw [qP.o,show dE p.L p.en (fq p) k3=.err a er from hD];rfl);clear hD;go_wp2_with fail;refine X4.o.mono ?_;rintro e qJ ⟨rfl,cD⟩;go_wp2;exact ⟨rfl,by rw [HE.o];exact ⟨rfl,Ov.o.trans cD⟩⟩
    |ok b k4=>
     rw [hD] at X4;have zg:=ae (RR=(av p.L p.en k4 dz).bind fun _ k5=>.ok (a,b) k5) (by rw [qP.o,show dE p.L p.en (fq p) k3=.ok b k4 from hD];rfl);clear hD qP;go_wp2_with fail;refine X4.o.mono ?_;rintro e W4 ⟨⟨v,rfl,rfl⟩,h4,hk4⟩;have HK4:=hide (Ov.o.trans hk4);have X5:=hide (EX.o k4 [93] W4 h4);clear h4 hk4
     cases hD:av p.L p.en k4 [93] with
     |err a er=>
      rw [hD] at X5;have HE:=ae (RR=.err a er) (by rw [zg.o,show av p.L p.en k4 dz=.err a er from hD];rfl);clear hD;go_wp2_with fail;refine X5.o.mono ?_;rintro e qJ ⟨rfl,cD⟩;go_wp2;exact ⟨rfl,by rw [HE.o];exact ⟨rfl,HK4.o.trans cD⟩⟩
     |ok u5 k5=>
      rw [hD] at X5;have Ox:=ae (RR=.ok (a,b) k5) (by rw [zg.o,show av p.L p.en k4 dz=.ok u5 k5 from hD];rfl);clear hD zg;go_wp2_with fail;refine X5.o.mono ?_;rintro e W5 ⟨⟨v,rfl,rfl⟩,h5,cC⟩;have yO:=hide (HK4.o.trans cC);go_wp2
      go_ret2
      rw [Ox.o];exact ⟨⟨_,rfl,rfl⟩,h5,yO.o⟩
def WhV (B:Nat) (W:World) (l:List Nd) (v:Value):Prop:=(l=[]∧v=.slice none 0 0)∨∃c gs cs,l=[c]∧v=.slice (some ⟨gs,0,none⟩) 1 1∧B≤gs∧Row W gs 25 cs.toArray∧cK (fun b=>b<B∨b=gs) W c cs
theorem BN (p:PS) (ko:wR p) (k:Nat) (w:World) (h:bQ p w k):
 Calls Tryz.prog 67 #[.pointer (some ⟨p.b,0,none⟩)] w (cQ p w (WhV w.heap.size) (dW p.L (cX p.L p.en (fq p)) k)):=by
 have AC:=hide (eW p k [119,104,105,108,101] w h);have HC:=hide (fun (W:World) (h:bQ p W (k+1))=>ug p ko (k+1) W h);unfold dW;have e:jA=[119,104,105,108,101]:=rfl;rw [e];clear h e
 cases hI:b_ p.L k [119,104,105,108,101] with
 |false=>
  rw [hI] at AC;rw [if_neg (by decide)];clear hI;go_enter Tryz.func67,Tryz.ntmps67;go_wp2_with fail;refine AC.o.mono ?_;rintro e w1 ⟨rfl,h1,hk1⟩;go_wp2;go_ret;exact ⟨⟨_,rfl,.inl ⟨rfl,rfl⟩⟩,h1,hk1⟩
 |true=>
  rw [hI] at AC;rw [if_pos rfl];clear hI
  cases hx:cX p.L p.en (fq p) (k+1) with
  |err a er=>
   rw [hx] at HC;show Calls _ _ _ _ (cQ p w (WhV w.heap.size) (.err a er));clear hx;go_enter Tryz.func67,Tryz.ntmps67;go_wp2_with fail;refine AC.o.mono ?_;rintro e w1 ⟨rfl,h1,hk1⟩;have X:=hide (HC.o w1 h1);have PC:=hide hk1;clear h1 hk1;go_wp2_with fail;refine X.o.mono ?_;rintro e w2 ⟨rfl,hk2⟩;go_wp2;exact ⟨rfl,rfl,PC.o.trans hk2⟩
  |ok c k'=>
   rw [hx] at HC;show Calls _ _ _ _ (cQ p w (WhV w.heap.size) (.ok [c] k'));clear hx;go_enter Tryz.func67,Tryz.ntmps67;go_wp2_with fail;refine AC.o.mono ?_;rintro e w1 ⟨rfl,h1,hk1⟩;have X:=hide (HC.o w1 h1);have PC:=hide hk1;have hz1:=hk1.size;clear h1 hk1;go_wp2_with fail;refine X.o.mono ?_;rintro e w2 ⟨⟨v,rfl,cs,rfl,hnd⟩,h2,hk2⟩;have hz2:=hk2.size;obtain ⟨kd,a0,nm,vl,xa,xb,xc,xd,A,len,cap,rfl⟩:=hnd.nine;have fR:=hide hnd;have Du:=hide (PC.o.trans hk2);have H2:=hide h2;clear hnd h2 hk2;unfold aB;go_wp2;go_ret;have hb:Below w2.heap.size w2 (w2.alloc (.cells (aB kd a0 nm vl xa xb xc xd (.slice A len cap)).toArray 25)):=(af _ _).alloc (aa _) _
   exact ⟨⟨_,rfl,.inr ⟨c,w2.heap.size,_,rfl,rfl,by omega,Row.new w2 _ _,(fR.o.ge hb).mono (fun b hb=>by
    rcases hb with hb|rfl
    ·exact .inl (by omega)
    ·exact .inr (aa _))⟩⟩,H2.o.below hb,Du.o.trans (ah.of_below hb (aa _))⟩
theorem NC (p:PS) (ko:wR p) (k:Nat) (w:World) (h:bQ p w k):
 Calls Tryz.prog 137 #[.pointer (some ⟨p.b,0,none⟩)] w (cQ p w (qI w.heap.size) (jB p.L p.en (cX p.L p.en (fq p)) k)):=by
 have hbz:p.b<w.heap.size:=h.row.lt;have hb0:Below w.heap.size w (w.alloc (.cells cG 25)):=(af _ _).alloc (aa _) _;have iX:Row (w.alloc (.cells cG 25)) w.heap.size 25 cG:=Row.new _ _ _;have Xl:=hide (gD p k _ (h.below hb0));have AC:=hide (fun (k:Nat) (wd:List UInt8) (W:World) (h:bQ p W k)=>eW p k wd W h);have EX:=hide (fun (k:Nat) (wd:List UInt8) (W:World) (h:bQ p W k)=>h_ p k wd W h);have TK:=hide (fun (k:Nat) (W:World) (h:bQ p W k)=>pC p k 0 W h)
 obtain ⟨cond,OC⟩:∃c,cX p.L p.en (fq p)=c:=⟨_,rfl⟩
 have HC:=hide (fun (k':Nat) (W:World) (hk:k+1≤k') (h:bQ p W k')=>show Calls Tryz.prog 17 #[.pointer (some ⟨p.b,0,none⟩)] W (cQ p W (qI W.heap.size) (cond k')) from by rw [←OC];exact ug p ko k' W h);have H:=hide h;have H0:=ae (tZ p w (w.alloc (.cells cG 25)) k) (⟨h.below hb0,ah.of_below hb0 (aa _),iX⟩);rw [OC]
 obtain ⟨RR,lM⟩:∃RR,jB p.L p.en cond k=RR:=⟨_,rfl⟩
 rw [lM];generalize hpl:eO p.L p.en k=pl at Xl
 have Dy:=ae (RR=if b_ p.L k ig then (av p.L p.en (k+1) aV).bind fun _ k1=>if cW p.L k1 0 then (av p.L p.en (k1+1) aI).bind fun _ k2=>.ok (.mk 42 pl [] [] 0 0 0 0 [.mk 1 (eO p.L p.en k1) (kx p.L k1) [] 0 0 0 0 []]) k2 else ik p.L p.en k1
  else match kj p.L fk k with
   |some q=>(av p.L p.en (k+1) aV).bind fun _ k1=>(cond k1).bind fun x k2=>(av p.L p.en k2 aI).bind fun _ k3=>.ok (.mk q pl [] [] 0 0 0 0 [x]) k3
   |none=>ik p.L p.en k) (by rw [←lM,←hpl];rfl)
 clear h hb0 iX lM hpl OC;go_enter Tryz.func137,Tryz.ntmps137;go_wp2_with fail;refine Xl.o.mono ?_;rintro e w1 ⟨rfl,hb1⟩;have H1:=hide (H0.o.below hbz hb1);clear hb1;have zQ:=hide (AC.o k [111,99,99,117,114,115] w1 H1.o.at_)
 cases hI:b_ p.L k [111,99,99,117,114,115] with
 |true=>
  rw [hI] at zQ;have nt:=ae (RR=(av p.L p.en (k+1) aV).bind fun _ k1=>if cW p.L k1 0 then (av p.L p.en (k1+1) aI).bind fun _ k2=>.ok (.mk 42 pl [] [] 0 0 0 0 [.mk 1 (eO p.L p.en k1) (kx p.L k1) [] 0 0 0 0 []]) k2 else ik p.L p.en k1) (by rw [Dy.o,if_pos (show b_ p.L k ig=true from hI)]);clear hI Dy;go_wp2_with fail;refine zQ.o.mono ?_;rintro e W2 ⟨rfl,h2,hk2⟩;have H2:=hide (H1.o.keep hbz h2 hk2);clear h2 hk2;have KN:=hide (EX.o (k+1) [40] W2 H2.o.at_)
  cases hD:av p.L p.en (k+1) [40] with
  |err a er=>
   rw [hD] at KN;have HE:=ae (RR=.err a er) (by rw [nt.o,show av p.L p.en (k+1) aV=.err a er from hD];rfl);clear hD;go_wp2_with fail;refine KN.o.mono ?_;rintro e qJ ⟨rfl,cD⟩;go_wp2;exact ⟨rfl,by rw [HE.o];exact ⟨rfl,H2.o.keeps.trans cD⟩⟩
  |ok u1 k1=>
   rw [hD] at KN;have oz:=ae (RR=if cW p.L k1 0 then (av p.L p.en (k1+1) aI).bind fun _ k2=>.ok (.mk 42 pl [] [] 0 0 0 0 [.mk 1 (eO p.L p.en k1) (kx p.L k1) [] 0 0 0 0 []]) k2 else ik p.L p.en k1) (by rw [nt.o,show av p.L p.en (k+1) aV=.ok u1 k1 from hD];rfl);clear hD nt;go_wp2_with fail;refine KN.o.mono ?_;rintro e W3 ⟨⟨v,rfl,rfl⟩,h3,hk3⟩;have H3:=hide (H2.o.keep hbz h3 hk3);clear h3 hk3;have Xn:=hide (TK.o k1 W3 H3.o.at_)
   cases hk:cW p.L k1 0 with
   |false=>
    rw [tO hk] at Xn;have HE:=ae (RR=.err (eO p.L p.en k1) 3) (by rw [oz.o,if_neg (by rw [hk];decide)];rfl);clear hk;go_wp2_with fail;refine Xn.o.mono ?_;rintro e qJ ⟨rfl,cD⟩;go_wp2;exact ⟨rfl,by rw [HE.o];exact ⟨rfl,H3.o.keeps.trans cD⟩⟩
   |true=>
    rw [jW hk] at Xn;have hlt:=fp hk;have qP:=ae (RR=(av p.L p.en (k1+1) aI).bind fun _ k2=>.ok (.mk 42 pl [] [] 0 0 0 0 [.mk 1 ((p.L[k1]'hlt).az:Int) (p.L[k1]'hlt).text [] 0 0 0 0 []]) k2) (by rw [oz.o,if_pos hk,Je hlt,CE hlt]);generalize p.L[k1]'_=x at qP Xn;clear hk oz hlt;go_wp2_with fail;refine Xn.o.mono ?_;rintro e W4 ⟨⟨v,rfl,rfl⟩,h4,hk4⟩;have hp4:=H3.o.keep hbz h4 hk4;have oM:=Row.new W4 66 #[.int .i64 x.kind,.string (ag x.text),.int .i64 (x.az:Int)];have eG:Below W4.heap.size W4 (W4.alloc (.cells #[.int .i64 x.kind,.string (ag x.text),.int .i64 (x.az:Int)] 66)):=(af _ W4).alloc (aa _) _;generalize tG:W4.alloc (.cells #[.int .i64 x.kind,.string (ag x.text),.int .i64 (x.az:Int)] 66)=W5 at oM eG;have H5:=hide (hp4.below hbz eG);have LY:=hide oM;have hz4:=hp4.lt;have C_:=hide (EX.o (k1+1) [41] W5 H5.o.at_);clear h4 hk4 hp4 oM eG
    cases hD:av p.L p.en (k1+1) [41] with
    |err a er=>
     rw [hD] at C_;have HE:=ae (RR=.err a er) (by rw [qP.o,show av p.L p.en (k1+1) aI=.err a er from hD];rfl);clear hD;go_wp2_with fail;refine C_.o.mono ?_;rintro e qJ ⟨rfl,cD⟩;go_wp2;exact ⟨rfl,by rw [HE.o];exact ⟨rfl,H5.o.keeps.trans cD⟩⟩
    |ok u k2=>
     rw [hD] at C_;have HE:=ae (RR=.ok (.mk 42 pl [] [] 0 0 0 0 [.mk 1 (x.az:Int) x.text [] 0 0 0 0 []]) k2) (by rw [qP.o,show av p.L p.en (k1+1) aI=.ok u k2 from hD];rfl);clear hD qP;go_wp2_with fail;refine C_.o.mono ?_;rintro e W8 ⟨⟨v,rfl,rfl⟩,h8,Oo⟩;have H8:=hide (H5.o.keep hbz h8 Oo);have Db:=LY.o.keep Oo (by show¬W4.heap.size=p.b;omega);have g1:W8.cell? ⟨W4.heap.size,1,none⟩=some (.string (ag x.text)):=Db.cell 1;have g2:W8.cell? ⟨W4.heap.size,2,none⟩=some (.int .i64 (x.az:Int)):=Db.cell 2;clear tG h8 Oo Db;have hz8:=H8.o.lt;have hr9:=H8.o.res.alloc (.cells [aB 1 (x.az:Int) x.text [] 0 0 0 0 (.slice none 0 0)].flatten.toArray 25);have iK:Below W8.heap.size W8 (W8.alloc (.cells [aB 1 (x.az:Int) x.text [] 0 0 0 0 (.slice none 0 0)].flatten.toArray 25)):=(af _ _).alloc (aa _) _;generalize Dw:W8.alloc (.cells [aB 1 (x.az:Int) x.text [] 0 0 0 0 (.slice none 0 0)].flatten.toArray 25)=W9 at hr9 iK;have ad0:W8.alloc (.cells #[.int .i64 1,.int .i64 (x.az:Int),.string (ag x.text),.string {data:=#[]},.int .i64 0,.int .i64 0,.int .i64 0,.int .i64 0,.slice none 0 0] 25)=W9:=Dw;have NK:=hide (CK (B:=W8.heap.size) (cK.leaf _ W8 1 (x.az:Int) x.text [] 0 0 0 0 none 0) hz8 (aa _) Dw.symm 42 pl 0 0 0 0 [] [] 1);obtain ⟨e0,e1,e2,e3,e4,e5,e6,e7,e8⟩:=ak hr9;obtain ⟨Kr,Ks,IJ,Kt,Ku,Kv,Kw,Ky,Kz⟩:=aU hr9;clear Dw;go_wp2_with fail;refine bodyPost_ret (v:=.agg #[.int .i64 42,.int .i64 pl,.string {data:=#[]},.string {data:=#[]},.int .i64 0,.int .i64 0,.int .i64 0,.int .i64 0,.slice (some ⟨W8.heap.size,0,none⟩) 1 1]) (ai rfl _ _ w.heap.size 25 _ _ _ rfl (aJ hr9 _ _ _ _ _ _ _ _ _) Tryz.underlying25 rfl (by kernel_rfl)) rfl ?_;have hbl:=ay (W:=W9) (aa w.heap.size) (.int .i64 42) (.int .i64 pl) (.string {data:=#[]}) (.string {data:=#[]}) (.int .i64 0) (.int .i64 0) (.int .i64 0) (.int .i64 0) (.slice (some ⟨W8.heap.size,0,none⟩) 1 1);rw [HE.o];exact ⟨⟨_,rfl,NK.o⟩,H.o.above (H8.o.at_.below iK) hbl,(H8.o.keeps.trans (ah.of_below iK (aa _))).over hbl⟩
 |false=>
  rw [hI] at zQ
  have nt:=ae (RR=(match kj p.L fk k with
   |some q=>(av p.L p.en (k+1) aV).bind fun _ k1=>(cond k1).bind fun x k2=>(av p.L p.en k2 aI).bind fun _ k3=>.ok (.mk q pl [] [] 0 0 0 0 [x]) k3
   |none=>ik p.L p.en k)) (by rw [Dy.o,if_neg (show¬b_ p.L k ig=true from by rw [show b_ p.L k ig=false from hI];decide)])
  clear hI Dy;go_wp2_with fail;refine zQ.o.mono ?_;rintro e Ai ⟨rfl,h2,hk2⟩;have wV:=hide (H1.o.keep hbz (show bQ p Ai k from h2) hk2);clear h2 hk2;have Jl:=hide (fun (W:World) (bm:Nat) (h:bQ p W k) (hm:nR W bm fk) (hb:bm≠p.b)=>jg p k bm fk W h hm hb (by unfold dQ;decide));have VQ:=hide (rR Ai)
  cases hO:kj p.L fk k with
  |some q=>
   obtain ⟨⟨o,ho,Kp⟩,hlt⟩:=tR hO
   have hq0:(q==0)=false:=by
    have h1:∀o∈fk,(o.2==0)=false:=by decide
    rw [←Kp];exact h1 o ho
   have nJ:=ae (RR=(av p.L p.en (k+1) aV).bind fun _ k1=>(cond k1).bind fun x k2=>(av p.L p.en k2 aI).bind fun _ k3=>.ok (.mk q pl [] [] 0 0 0 0 [x]) k3) (by rw [nt.o,hO])
   have hE:vQ p.L p.en fk k=.returned (.tuple #[.int .i64 q,.int .i64 (eO p.L p.en k)]):=by unfold vQ;rw [hO]
   have hN:vR p.L fk k=k+1:=by unfold vR;rw [hO]
   rw [hE,hN] at Jl;clear hE hN;clear hO ho Kp;go_wp2_with fail;refine VQ.o.mono ?_;rintro e Tj ⟨rfl,pR,pS⟩;have zr:=hide (wV.o.below hbz pS);have OB:=hide (Jl.o Tj _ zr.o.at_ pR (by have:=wV.o.at_.row.lt;omega));clear pR pS;go_wp2_with fail;refine OB.o.mono ?_;rintro e Om ⟨rfl,zt,pT⟩;have sA:=hide (zr.o.keep hbz zt pT);clear zt pT;have KN:=hide (EX.o (k+1) [40] Om sA.o.at_)
   cases hD:av p.L p.en (k+1) [40] with
   |err a er=>
    rw [hD] at KN;have HE:=ae (RR=.err a er) (by rw [nJ.o,show av p.L p.en (k+1) aV=.err a er from hD];rfl);clear hD;go_wp2_with fail;refine KN.o.mono ?_;rintro e qJ ⟨rfl,cD⟩;go_wp2;exact ⟨rfl,by rw [HE.o];exact ⟨rfl,sA.o.keeps.trans cD⟩⟩
   |ok u1 k1=>
    rw [hD] at KN;have acX:=Jh hD;have nE:=ae (RR=(cond k1).bind fun x k2=>(av p.L p.en k2 aI).bind fun _ k3=>.ok (.mk q pl [] [] 0 0 0 0 [x]) k3) (by rw [nJ.o,show av p.L p.en (k+1) aV=.ok u1 k1 from hD];rfl);clear hD nJ;go_wp2_with fail;refine KN.o.mono ?_;rintro e Xm ⟨⟨v,rfl,rfl⟩,h23,Fu⟩;have mA:=hide (sA.o.keep hbz h23 Fu);clear h23 Fu;have X:=hide (HC.o k1 Xm (by omega) mA.o.at_)
    cases hx:cond k1 with
    |err a er=>
     rw [hx] at X;have HE:=ae (RR=.err a er) (by rw [nE.o,hx];rfl);clear hx;go_wp2_with fail;refine X.o.mono ?_;rintro e qJ ⟨rfl,cD⟩;go_wp2;exact ⟨rfl,by rw [HE.o];exact ⟨rfl,mA.o.keeps.trans cD⟩⟩
    |ok x k2=>
     rw [hx] at X;have S':=ae (RR=(av p.L p.en k2 aI).bind fun _ k3=>.ok (.mk q pl [] [] 0 0 0 0 [x]) k3) (by rw [nE.o,hx];rfl);clear hx nE;go_wp2_with fail;refine X.o.mono ?_;rintro e w3 ⟨⟨v,rfl,cs,rfl,hnd⟩,h3,hk3⟩;have hr3:Row w3 w.heap.size 25 cG:=mA.o.res.keep hk3 (by show¬w.heap.size=p.b;omega);obtain ⟨kd,a0,nm,vl,xa,xb,xc,xd,A,len,cap,rfl⟩:=hnd.nine;generalize lJ:w3.alloc (.cells [aB kd a0 nm vl xa xb xc xd (.slice A len cap)].flatten.toArray 25)=W4
     have s4:W4.heap.size=w3.heap.size+1:=by rw [←lJ,aF]
     generalize tG:W4.alloc (.cells (aB q pl [] [] 0 0 0 0 (.slice (some ⟨w3.heap.size,0,none⟩) 1 1)).toArray 25)=W5;have km:=n_.new h3 (mA.o.keeps.trans hk3) hr3 hnd mA.o.lt lJ.symm tG.symm;rw [←s4] at km;have Q_:=hide km;have nT:w3.alloc (.cells #[.int .i64 kd,.int .i64 a0,.string (ag nm),.string (ag vl),.int .i64 xa,.int .i64 xb,.int .i64 xc,.int .i64 xd,.slice A len cap] 25)=W4:=lJ;have C9:W4.alloc (.cells #[.int .i64 q,.int .i64 pl,.string {data:=#[]},.string {data:=#[]},.int .i64 0,.int .i64 0,.int .i64 0,.int .i64 0,.slice (some ⟨w3.heap.size,0,none⟩) 1 1] 25)=W5:=tG
     have hg:w.heap.size<W4.heap.size:=by have:=hr3.lt;omega
     clear h3 hk3 hr3 hnd km lJ tG s4;unfold aB;have zo:=hide Q_.o.lf;have C_:=hide (EX.o k2 [41] W5 zo.o.at_)
     cases hD:av p.L p.en k2 [41] with
     |err a er=>
      rw [hD] at C_;have HE:=ae (RR=.err a er) (by rw [S'.o,show av p.L p.en k2 aI=.err a er from hD];rfl);clear hD;go_wp2_with fail;refine C_.o.mono ?_;rintro e qJ ⟨rfl,cD⟩;go_wp2;exact ⟨rfl,by rw [HE.o];exact ⟨rfl,zo.o.keeps.trans cD⟩⟩
     |ok u k3=>
      rw [hD] at C_;have HE:=ae (RR=.ok (.mk q pl [] [] 0 0 0 0 [x]) k3) (by rw [S'.o,show av p.L p.en k2 aI=.ok u k3 from hD];rfl);clear hD;go_wp2_with fail;refine C_.o.mono ?_;rintro e W6 ⟨⟨v,rfl,rfl⟩,h6,ki⟩;have Gw:=hide (zo.o.keep hbz hg h6 ki);clear h6 ki nT C9;obtain ⟨wU,dL,hres,hrow,hnd⟩:=Gw.o;obtain ⟨z0,z1,z2,z3,z4,z5,z6,z7,z8⟩:=ak hrow;obtain ⟨y0,y1,y2,y3,y4,y5,y6,y7,y8⟩:=ak hres;obtain ⟨M4,M5,M6,M7,M8,M9,M_,Na,Nb⟩:=aU hres;have fR:=hide hnd;clear hrow hnd;go_wp2_with fail;refine bodyPost_ret (v:=.agg #[.int .i64 q,.int .i64 pl,.string {data:=#[]},.string {data:=#[]},.int .i64 0,.int .i64 0,.int .i64 0,.int .i64 0,.slice (some ⟨w3.heap.size,0,none⟩) 1 1]) (ai rfl _ _ w.heap.size 25 _ _ _ rfl (aJ hres _ _ _ _ _ _ _ _ _) Tryz.underlying25 rfl (by kernel_rfl)) rfl ?_;have hbl:=ay (W:=W6) (aa w.heap.size) (.int .i64 q) (.int .i64 pl) (.string {data:=#[]}) (.string {data:=#[]}) (.int .i64 0) (.int .i64 0) (.int .i64 0) (.int .i64 0) (.slice (some ⟨w3.heap.size,0,none⟩) 1 1);rw [HE.o];exact ⟨⟨_,rfl,_,rfl,(fR.o.keeps (aN (C:=fun b=>b≤w.heap.size∨b=W4.heap.size) (.inl (aa _)) _ _ _ _ _ _ _ _ _)).mono (fun b hb'=>.inl (Nat.le_of_lt hb'))⟩,H.o.above wU hbl,dL.over hbl⟩
  |none=>
   have HE:=ae (RR=.err (eO p.L p.en k) 3) (by rw [nt.o,hO];rfl)
   have hE:vQ p.L p.en fk k=.returned (.tuple #[.int .i64 0,.int .i64 0]):=by unfold vQ;rw [hO]
   have hN:vR p.L fk k=k:=by unfold vR;rw [hO]
   rw [hE,hN] at Jl;clear hE hN hO;go_wp2_with fail;refine VQ.o.mono ?_;rintro e Tj ⟨rfl,pR,pS⟩;have zr:=hide (wV.o.below hbz pS);have OB:=hide (Jl.o Tj _ zr.o.at_ pR (by have:=wV.o.at_.row.lt;omega));clear pR pS;go_wp2_with fail;refine OB.o.mono ?_;rintro e Om ⟨rfl,zt,pT⟩;have sA:=hide (zr.o.keep hbz zt pT);clear zt pT;have FL:=hide (pB p k Om sA.o.at_);go_wp2_with fail;refine FL.o.mono ?_;rintro e Xm ⟨rfl,ac5⟩;go_wp2;exact ⟨rfl,by rw [HE.o];exact ⟨rfl,sA.o.keeps.trans (ah.of_below ac5 (aa _))⟩⟩
theorem Sn (p:PS) (ko:wR p) (F:Nat) (pat:Nat→PR Nd) (hq:cY p 25 pat F):cY p 98 (jt p.L p.en (cX p.L p.en (fq p)) pat) (F+1):=by
 intro k w hF h;have hbz:p.b<w.heap.size:=h.row.lt;have hb0:Below w.heap.size w (w.alloc (.cells cG 25)):=(af _ _).alloc (aa _) _;have iX:Row (w.alloc (.cells cG 25)) w.heap.size 25 cG:=Row.new _ _ _;have PL:=hide (fun (k:Nat) (W:World) (h:bQ p W k)=>gD p k W h);have AC0:=hide (eW p k [40] _ (h.below hb0));have AC:=hide (fun (k:Nat) (wd:List UInt8) (W:World) (h:bQ p W k)=>eW p k wd W h);have EX:=hide (fun (k:Nat) (wd:List UInt8) (W:World) (h:bQ p W k)=>h_ p k wd W h);have HQ:=hide (fun (k':Nat) (W:World) (hk:k+1≤k') (h:bQ p W k')=>hq k' W (by omega) h);have EV:=hide (fun (W:World) (h:bQ p W k)=>NC p ko k W h);have HC:=hide (fun (k':Nat) (W:World) (h:bQ p W k')=>ug p ko k' W h);have H:=hide h;have H0:=ae (tZ p w (w.alloc (.cells cG 25)) k) (⟨h.below hb0,ah.of_below hb0 (aa _),iX⟩)
 obtain ⟨cond,OC⟩:∃c,cX p.L p.en (fq p)=c:=⟨_,rfl⟩
 rw [OC] at EV HC⊢
 obtain ⟨RR,lM⟩:∃RR,jt p.L p.en cond pat k=RR:=⟨_,rfl⟩
 rw [lM]
 have Dy:=ae (RR=if b_ p.L k aV then (pat (k+1)).bind fun n k1=>(av p.L p.en k1 aI).bind fun _ k2=>.ok n k2
  else (jB p.L p.en cond k).bind fun n k1=>if b_ p.L k1 Gu then (cond (k1+1)).bind fun c k2=>.ok (.mk 44 (eO p.L p.en k1) [] [] 0 0 0 0 [n,c]) k2 else .ok n k1) lM.symm
 clear hq h hb0 iX lM OC;go_enter Tryz.func98,Tryz.ntmps98
 cases hI:b_ p.L k [40] with
 |true=>
  rw [hI] at AC0;have nt:=ae (RR=(pat (k+1)).bind fun n k1=>(av p.L p.en k1 aI).bind fun _ k2=>.ok n k2) (by rw [Dy.o,if_pos (show b_ p.L k aV=true from hI)]);clear hI Dy;go_wp2_with fail;refine AC0.o.mono ?_;rintro e W2 ⟨rfl,h2,hk2⟩;have H2:=hide (H0.o.keep hbz h2 hk2);clear h2 hk2;have nJ:=ae (RR=(pat (k+1)).bind fun n k'=>(av p.L p.en k' aI).bind fun _ k2=>.ok n k2) nt.o;have mA:=H2;have X:=hide (HQ.o (k+1) W2 (by omega) H2.o.at_)
  cases hx:pat (k+1) with
  |err a er=>
   rw [hx] at X;have HE:=ae (RR=.err a er) (by rw [nJ.o,hx];rfl);clear hx;go_wp2_with fail;refine X.o.mono ?_;rintro e qJ ⟨rfl,cD⟩;go_wp2;exact ⟨rfl,by rw [HE.o];exact ⟨rfl,mA.o.keeps.trans cD⟩⟩
  |ok n k1=>
   rw [hx] at X;have nE:=ae (RR=(av p.L p.en k1 aI).bind fun _ k2=>.ok n k2) (by rw [nJ.o,hx];rfl);clear hx nt nJ;go_wp2_with fail;refine X.o.mono ?_;rintro e w3 ⟨⟨v,rfl,cs,rfl,hnd⟩,h3,hk3⟩;have hr3:Row w3 w.heap.size 25 cG:=mA.o.res.keep hk3 (by show¬w.heap.size=p.b;omega);have hg:w.heap.size<w3.heap.size:=hr3.lt;have nL:=cU.new h3 (mA.o.keeps.trans hk3) hr3 hnd mA.o.lt;obtain ⟨kd,a0,nm,vl,xa,xb,xc,xd,A,len,cap,rfl⟩:=hnd.nine;generalize lJ:w3.alloc (.cells (aB kd a0 nm vl xa xb xc xd (.slice A len cap)).toArray 25)=W4 at nL;have De:=hide nL;have nT:w3.alloc (.cells #[.int .i64 kd,.int .i64 a0,.string (ag nm),.string (ag vl),.int .i64 xa,.int .i64 xb,.int .i64 xc,.int .i64 xd,.slice A len cap] 25)=W4:=lJ;clear h3 hk3 hr3 hnd nL lJ;unfold aB;have VP:=hide (EX.o k1 [41] W4 De.o.at_)
   cases hD:av p.L p.en k1 [41] with
   |err a er=>
    rw [hD] at VP;have HE:=ae (RR=.err a er) (by rw [nE.o,show av p.L p.en k1 aI=.err a er from hD];rfl);clear hD;go_wp2_with fail;refine VP.o.mono ?_;rintro e qJ ⟨rfl,cD⟩;go_wp2;exact ⟨rfl,by rw [HE.o];exact ⟨rfl,De.o.keeps.trans cD⟩⟩
   |ok u k2=>
    rw [hD] at VP;have HE:=ae (RR=.ok n k2) (by rw [nE.o,show av p.L p.en k1 aI=.ok u k2 from hD];rfl);clear hD;go_wp2_with fail;refine VP.o.mono ?_;rintro e W5 ⟨⟨v,rfl,rfl⟩,h5,cC⟩;have zo:=hide (De.o.keep hbz hg h5 cC);clear h5 cC nT;obtain ⟨wU,dL,hres,hrow,hnd⟩:=zo.o;obtain ⟨z0,z1,z2,z3,z4,z5,z6,z7,z8⟩:=ak hrow;obtain ⟨y0,y1,y2,y3,y4,y5,y6,y7,y8⟩:=ak hres;obtain ⟨M4,M5,M6,M7,M8,M9,M_,Na,Nb⟩:=aU hres;have fR:=hide hnd;clear hrow hnd;go_wp2_with fail;refine bodyPost_ret (v:=.agg #[.int .i64 kd,.int .i64 a0,.string (ag nm),.string (ag vl),.int .i64 xa,.int .i64 xb,.int .i64 xc,.int .i64 xd,.slice A len cap]) (ai rfl _ _ w.heap.size 25 _ _ _ rfl (aJ hres _ _ _ _ _ _ _ _ _) Tryz.underlying25 rfl (by kernel_rfl)) rfl ?_;have hbl:=ay (W:=W5) (aa w.heap.size) (.int .i64 kd) (.int .i64 a0) (.string (ag nm)) (.string (ag vl)) (.int .i64 xa) (.int .i64 xb) (.int .i64 xc) (.int .i64 xd) (.slice A len cap);rw [HE.o];exact ⟨⟨_,rfl,_,rfl,(fR.o.keeps (aN (C:=fun b=>b≤w.heap.size∨b=w3.heap.size) (.inl (aa _)) _ _ _ _ _ _ _ _ _)).mono (fun b hb'=>.inl (Nat.le_of_lt hb'))⟩,H.o.above wU hbl,dL.over hbl⟩
 |false=>
  rw [hI] at AC0;have nt:=ae (RR=(jB p.L p.en cond k).bind fun n k1=>if b_ p.L k1 Gu then (cond (k1+1)).bind fun c k2=>.ok (.mk 44 (eO p.L p.en k1) [] [] 0 0 0 0 [n,c]) k2 else .ok n k1) (by rw [Dy.o,if_neg (show¬b_ p.L k aV=true from by rw [show b_ p.L k aV=false from hI];decide)]);clear hI Dy;go_wp2_with fail;refine AC0.o.mono ?_;rintro e W2 ⟨rfl,h2,hk2⟩;have mA:=hide (H0.o.keep hbz (show bQ p W2 k from h2) hk2);clear h2 hk2;have X:=hide (EV.o W2 mA.o.at_)
  cases hx:jB p.L p.en cond k with
  |err a er=>
   rw [hx] at X;have HE:=ae (RR=.err a er) (by rw [nt.o,hx];rfl);clear hx;go_wp2_with fail;refine X.o.mono ?_;rintro e qJ ⟨rfl,cD⟩;go_wp2;exact ⟨rfl,by rw [HE.o];exact ⟨rfl,mA.o.keeps.trans cD⟩⟩
  |ok n k1=>
   rw [hx] at X;have oz:=ae (RR=if b_ p.L k1 Gu then (cond (k1+1)).bind fun c k2=>.ok (.mk 44 (eO p.L p.en k1) [] [] 0 0 0 0 [n,c]) k2 else .ok n k1) (by rw [nt.o,hx];rfl);clear hx nt;go_wp2_with fail;refine X.o.mono ?_;rintro e w3 ⟨⟨v,rfl,cs,rfl,hnd⟩,h3,hk3⟩;have hr3:Row w3 w.heap.size 25 cG:=mA.o.res.keep hk3 (by show¬w.heap.size=p.b;omega);have hg:w.heap.size<w3.heap.size:=hr3.lt;have nL:=cU.new h3 (mA.o.keeps.trans hk3) hr3 hnd mA.o.lt;obtain ⟨kd,a0,nm,vl,xa,xb,xc,xd,A,len,cap,rfl⟩:=hnd.nine;generalize lJ:w3.alloc (.cells (aB kd a0 nm vl xa xb xc xd (.slice A len cap)).toArray 25)=W4 at nL;have De:=hide nL;have nT:w3.alloc (.cells #[.int .i64 kd,.int .i64 a0,.string (ag nm),.string (ag vl),.int .i64 xa,.int .i64 xb,.int .i64 xc,.int .i64 xd,.slice A len cap] 25)=W4:=lJ;clear h3 hk3 hr3 hnd nL lJ;unfold aB;have Xq:=hide (PL.o k1 W4 De.o.at_);generalize hpl:eO p.L p.en k1=pl at Xq;have Gz:=hide hpl;clear hpl;go_wp2_with fail;refine Xq.o.mono ?_;rintro e W5 ⟨rfl,eG⟩;have zo:=hide (De.o.below hbz hg eG);clear eG nT;have KZ:=hide (AC.o k1 [105,102] W5 zo.o.at_)
   cases hJ:b_ p.L k1 [105,102] with
   |false=>
    rw [hJ] at KZ;have HE:=ae (RR=.ok n k1) (by rw [oz.o,if_neg (show¬b_ p.L k1 Gu=true from by rw [show b_ p.L k1 Gu=false from hJ];decide)]);clear hJ oz;go_wp2_with fail;refine KZ.o.mono ?_;rintro e W6 ⟨rfl,h6,ki⟩;have Gw:=hide (zo.o.keep hbz hg (show bQ p W6 k1 from h6) ki);clear h6 ki;obtain ⟨wU,dL,hres,hrow,hnd⟩:=Gw.o;obtain ⟨z0,z1,z2,z3,z4,z5,z6,z7,z8⟩:=ak hrow;obtain ⟨y0,y1,y2,y3,y4,y5,y6,y7,y8⟩:=ak hres;obtain ⟨M4,M5,M6,M7,M8,M9,M_,Na,Nb⟩:=aU hres;have fR:=hide hnd;clear hrow hnd;go_wp2_with fail;refine bodyPost_ret (v:=.agg #[.int .i64 kd,.int .i64 a0,.string (ag nm),.string (ag vl),.int .i64 xa,.int .i64 xb,.int .i64 xc,.int .i64 xd,.slice A len cap]) (ai rfl _ _ w.heap.size 25 _ _ _ rfl (aJ hres _ _ _ _ _ _ _ _ _) Tryz.underlying25 rfl (by kernel_rfl)) rfl ?_;have hbl:=ay (W:=W6) (aa w.heap.size) (.int .i64 kd) (.int .i64 a0) (.string (ag nm)) (.string (ag vl)) (.int .i64 xa) (.int .i64 xb) (.int .i64 xc) (.int .i64 xd) (.slice A len cap);rw [HE.o];exact ⟨⟨_,rfl,_,rfl,(fR.o.keeps (aN (C:=fun b=>b≤w.heap.size∨b=w3.heap.size) (.inl (aa _)) _ _ _ _ _ _ _ _ _)).mono (fun b hb'=>.inl (Nat.le_of_lt hb'))⟩,H.o.above wU hbl,dL.over hbl⟩
   |true=>
    rw [hJ] at KZ;have qP:=ae (RR=(cond (k1+1)).bind fun c k2=>.ok (.mk 44 pl [] [] 0 0 0 0 [n,c]) k2) (by rw [oz.o,if_pos (show b_ p.L k1 Gu=true from hJ),Gz.o]);clear hJ oz;go_wp2_with fail;refine KZ.o.mono ?_;rintro e W6 ⟨rfl,h6,ki⟩;obtain ⟨h6,dL,hres,hrow,hnd⟩:=zo.o.keep hbz hg h6 ki;obtain ⟨d0,d1,d2,d3,d4,d5,d6,d7,d8⟩:=ak hrow;have CX:=hide (HC.o (k1+1) W6.drew (h6.below ((af _ W6).drew)))
    have WW:¬(w3.heap.size=p.b):=by omega
    have yN:=hide hres;have wQ:=hide hrow;have fR:=hide hnd;clear hrow hres hnd;go_wp2_with fail
    cases hy:cond (k1+1) with
    |err a er=>
     rw [hy] at CX
     have Ak:=hide (fun (W:World) (hk:ah (fun c=>c=p.b) W6.drew W)=>show cQ p w (qI w.heap.size) RR (.panicked [{v:=ot a er,recovered:=false}]) W from by
      rw [qP.o,hy];exact ⟨rfl,(dL.drew).trans hk⟩)
     clear hy;refine wp_region_any (by kernel_rfl) ?_;change wpAny _ _ _ _ _ _ _ (World.drew _);refine wpAny_take (i:=0) (v:=?_) rfl (by kernel_rfl) (by kernel_rfl) (by kernel_rfl) (fun _ _ _ h=>h) (Or.inl ⟨by rfl,?_⟩) ?_;rotate_left
     ·intro w;go_simp;with_reducible rfl
     refine wpAny_take (i:=2) (v:=?_) rfl (by kernel_rfl) (by kernel_rfl) (by kernel_rfl) (fun _ _ _ h=>h) (Or.inl ⟨by rfl,?_⟩) ?_;rotate_left
     ·intro w;go_simp;with_reducible rfl
     refine oD (i:=1) (j:=3) (by kernel_rfl) rfl rfl (fun K hK=>?_) fun K hK=>?_
     ·go_simp;refine hK _ _ ?_;clear hK K;refine bK (i:=3) (by kernel_rfl) rfl fun K hK=>?_;go_simp;refine CX.o.mono ?_;rintro e w5 ⟨rfl,cC⟩;exact ⟨rfl,Ak.o _ cC⟩
     ·go_simp;refine CX.o.mono ?_;rintro e w5 ⟨rfl,cC⟩;exact ⟨rfl,Ak.o _ cC⟩
    |ok c k2=>
     rw [hy] at CX;have HE:=ae (RR=.ok (.mk 44 pl [] [] 0 0 0 0 [n,c]) k2) (by rw [qP.o,hy];rfl);clear hy qP;refine wp_region_any (by kernel_rfl) ?_;change wpAny _ _ _ _ _ _ _ (World.drew _);refine wpAny_take (i:=0) (v:=?_) rfl (by kernel_rfl) (by kernel_rfl) (by kernel_rfl) (fun _ _ _ h=>h) (Or.inl ⟨by rfl,?_⟩) ?_;rotate_left
     ·intro w;go_simp;with_reducible rfl
     refine wpAny_take (i:=2) (v:=?_) rfl (by kernel_rfl) (by kernel_rfl) (by kernel_rfl) (fun _ _ _ h=>h) (Or.inl ⟨by rfl,?_⟩) ?_;rotate_left
     ·intro w;go_simp;with_reducible rfl
     refine oD (i:=1) (j:=3) (by kernel_rfl) rfl rfl (fun K hK=>?_) fun K hK=>?_
     ·go_simp;refine hK _ _ ?_;clear hK K;refine bK (i:=3) (by kernel_rfl) rfl fun K hK=>?_;go_simp;refine CX.o.mono ?_;rintro e w5 ⟨⟨v,rfl,rP,rfl,jC⟩,h5,cC⟩;refine hK _ _ ?_;clear hK K
      have fO:ah (fun c=>c=p.b) W6 w5:=⟨cC.os,cC.tape,cC.output,cC.size,cC.block⟩
      have oM:=wQ.o.keep fO WW;have mM:Row w5 w.heap.size 25 cG:=yN.o.keep fO (by show¬w.heap.size=p.b;omega);obtain ⟨yk,y0,yn,yv,ya,yb,yc,yd,yA,cZ,cv,rfl⟩:=jC.nine;have Qr:=hide jC;have H5:=hide h5;have yO:=hide fO;unfold aB;clear h5 cC fO jC;refine bK (i:=4) (by kernel_rfl) rfl fun K hK=>?_;go_simp;refine hK _ _ ?_;clear hK K;generalize mj:World.alloc w5 _=W7
      have nS:Row W7 w.heap.size 25 cG:=by rw [←mj];exact mM.alloc _
      have fV:Below w5.heap.size w5 W7:=by rw [←mj];exact (af _ _).alloc (aa _) _
      have wZ:=yO.o.size;have hz3:w3.heap.size<W6.heap.size:=wQ.o.lt;have NK:=hide (xo (B:=w.heap.size+1) (((fR.o.keeps (yO.o.mono (fun b hb=>.inl (by show b≤_;have:b=p.b:=hb;omega)))).mono (fun b hb=>.inl (Nat.le_of_lt_succ hb)))) (Qr.o.mono (fun b hb=>cJ hb (show w.heap.size+1≤W6.heap.size by omega))) (Nat.lt_succ_self _) (by omega) mj.symm 44 pl 0 0 0 0 [] [] 2);obtain ⟨e0,e1,e2,e3,e4,e5,e6,e7,e8⟩:=ak nS;obtain ⟨Kr,Ks,IJ,Kt,Ku,Kv,Kw,Ky,Kz⟩:=aU nS;clear oM mM mj;refine bK (i:=5) (by kernel_rfl) rfl fun K hK=>?_;go_simp;refine hK _ _ ?_;clear hK K;refine bK (i:=6) (by kernel_rfl) rfl fun K hK=>?_;go_simp;refine hK _ _ ?_;clear hK K;refine wpAny_done (by kernel_rfl) ?_ _;go_wp2_with fail;refine bodyPost_ret (v:=.agg #[.int .i64 44,.int .i64 pl,.string {data:=#[]},.string {data:=#[]},.int .i64 0,.int .i64 0,.int .i64 0,.int .i64 0,.slice (some ⟨w5.heap.size,0,none⟩) 2 2]) (ai rfl _ _ w.heap.size 25 _ _ _ rfl (aJ nS _ _ _ _ _ _ _ _ _) Tryz.underlying25 rfl (by kernel_rfl)) rfl ?_;have hbl:=ay (W:=W7) (aa w.heap.size) (.int .i64 44) (.int .i64 pl) (.string {data:=#[]}) (.string {data:=#[]}) (.int .i64 0) (.int .i64 0) (.int .i64 0) (.int .i64 0) (.slice (some ⟨w5.heap.size,0,none⟩) 2 2);rw [HE.o];exact ⟨⟨_,rfl,NK.o⟩,H.o.above (H5.o.below fV) hbl,((dL.trans yO.o).trans (ah.of_below fV (aa _))).over hbl⟩
     ·go_simp;refine CX.o.mono ?_;rintro e w5 ⟨⟨v,rfl,rP,rfl,jC⟩,h5,cC⟩;refine hK _ _ ?_;clear hK K
      have fO:ah (fun c=>c=p.b) W6 w5:=⟨cC.os,cC.tape,cC.output,cC.size,cC.block⟩
      have oM:=wQ.o.keep fO WW;have mM:Row w5 w.heap.size 25 cG:=yN.o.keep fO (by show¬w.heap.size=p.b;omega);obtain ⟨yk,y0,yn,yv,ya,yb,yc,yd,yA,cZ,cv,rfl⟩:=jC.nine;have Qr:=hide jC;have H5:=hide h5;have yO:=hide fO;unfold aB;clear h5 cC fO jC;obtain ⟨c0,c1,c2,c3,c4,c5,c6,c7,c8⟩:=ak oM;refine bK (i:=1) (by kernel_rfl) rfl fun K hK=>?_;go_simp;refine hK _ _ ?_;clear hK K;refine bK (i:=4) (by kernel_rfl) rfl fun K hK=>?_;go_simp;refine hK _ _ ?_;clear hK K;generalize mj:World.alloc w5 _=W7
      have nS:Row W7 w.heap.size 25 cG:=by rw [←mj];exact mM.alloc _
      have fV:Below w5.heap.size w5 W7:=by rw [←mj];exact (af _ _).alloc (aa _) _
      have wZ:=yO.o.size;have hz3:w3.heap.size<W6.heap.size:=wQ.o.lt;have NK:=hide (xo (B:=w.heap.size+1) (((fR.o.keeps (yO.o.mono (fun b hb=>.inl (by show b≤_;have:b=p.b:=hb;omega)))).mono (fun b hb=>.inl (Nat.le_of_lt_succ hb)))) (Qr.o.mono (fun b hb=>cJ hb (show w.heap.size+1≤W6.heap.size by omega))) (Nat.lt_succ_self _) (by omega) mj.symm 44 pl 0 0 0 0 [] [] 2);obtain ⟨e0,e1,e2,e3,e4,e5,e6,e7,e8⟩:=ak nS;obtain ⟨Kr,Ks,IJ,Kt,Ku,Kv,Kw,Ky,Kz⟩:=aU nS;clear oM mM mj;refine bK (i:=5) (by kernel_rfl) rfl fun K hK=>?_;go_simp;refine hK _ _ ?_;clear hK K;refine bK (i:=6) (by kernel_rfl) rfl fun K hK=>?_;go_simp;refine hK _ _ ?_;clear hK K;refine wpAny_done (by kernel_rfl) ?_ _;go_wp2_with fail;refine bodyPost_ret (v:=.agg #[.int .i64 44,.int .i64 pl,.string {data:=#[]},.string {data:=#[]},.int .i64 0,.int .i64 0,.int .i64 0,.int .i64 0,.slice (some ⟨w5.heap.size,0,none⟩) 2 2]) (ai rfl _ _ w.heap.size 25 _ _ _ rfl (aJ nS _ _ _ _ _ _ _ _ _) Tryz.underlying25 rfl (by kernel_rfl)) rfl ?_;have hbl:=ay (W:=W7) (aa w.heap.size) (.int .i64 44) (.int .i64 pl) (.string {data:=#[]}) (.string {data:=#[]}) (.int .i64 0) (.int .i64 0) (.int .i64 0) (.int .i64 0) (.slice (some ⟨w5.heap.size,0,none⟩) 2 2);rw [HE.o];exact ⟨⟨_,rfl,NK.o⟩,H.o.above (H5.o.below fV) hbl,((dL.trans yO.o).trans (ah.of_below fV (aa _))).over hbl⟩
def Sp (C:Nat→Prop) (Y:World) (gk:Nat) (l:List Nd) (v:Value):Prop:=
 (l=[]∧v=.slice none 0 0)∨∃c gs cs,l=[c]∧v=.slice (some ⟨gs,0,none⟩) 1 1∧Row Y gs 25 cs.toArray∧cK (fun b=>C b∨b=gk) Y c cs
theorem cU.kids {p:PS} {w W':World} {g k k0 gk n c:Nat} {kd pl xa xb xc xd:Int} {ks:List Nd} {bH:List (List Value)} (H:bQ p w k0) (hg:w.heap.size<g) (ha:bQ p W' k) (dL:ah (fun c=>c=p.b) w W') (hres:Row W' w.heap.size 25 cG)
 (hrow:Row W' g 25 (aB kd pl [] [] xa xb xc xd (.slice none 0 0)).toArray) (hk:dm (fun b=>b≤w.heap.size∨b=g) W' (w.heap.size+1) gk n c ks bH):
 cU p w g (W'.setCell ⟨g,8,none⟩ (.slice (some ⟨gk,0,none⟩) ks.length c)) (.mk kd pl [] [] xa xb xc xd ks) (aB kd pl [] [] xa xb xc xd (.slice (some ⟨gk,0,none⟩) ks.length c)) k:=by
 have e:=hk.num;subst e;have QY:Below w.heap.size W' (W'.setCell ⟨g,8,none⟩ (.slice (some ⟨gk,0,none⟩) ks.length c)):=(af _ W').setCell (p:=⟨g,8,none⟩) (Nat.le_of_lt hg) _;have hk2:ah (fun b=>b≤w.heap.size∨b=g) W' (W'.setCell ⟨g,8,none⟩ (.slice (some ⟨gk,0,none⟩) ks.length c)):=(ah.refl _ W').set (.inl (.inr rfl)) 8 _;have h2:=(hk.keep hk2 (fun b hb=>hb)).node kd pl xa xb xc xd [] [];exact ⟨H.above ha QY,dL.over QY,hres.off (by omega) _ _,hrow.bU 8 _,h2⟩
theorem sD {p:PS} {w Y:World} {g k k0 gk n c:Nat} {kd pl xa xb xc xd:Int} {ks l:List Nd} {bH:List (List Value)} {v:Value} (H:bQ p w k0) (hg:w.heap.size<g) (ha:bQ p Y k) (dL:ah (fun c=>c=p.b) w Y) (hres:Row Y w.heap.size 25 cG)
 (hrow:Row Y g 25 (aB kd pl [] [] xa xb xc xd (.slice none 0 0)).toArray) (hk:dm (fun b=>b≤w.heap.size∨b=g) Y (w.heap.size+1) gk n c ks bH) (hn:n≤1000) (hw:Sp (fun b=>b≤w.heap.size∨b=g) Y gk l v):
 ∃gk' c' W',(Builtin.append_ #[23,23] 23 #[.slice (some ⟨gk,0,none⟩) n c,v]).run Tryz.prog Y=.ok (.slice (some ⟨gk',0,none⟩) (ks++l).length c') W'∧
  W'.cell? ⟨g,8,none⟩=some (.slice none 0 0)∧W'.frozen? ⟨g,8,none⟩=false∧
  cU p w g (W'.setCell ⟨g,8,none⟩ (.slice (some ⟨gk',0,none⟩) (ks++l).length c')) (.mk kd pl [] [] xa xb xc xd (ks++l)) (aB kd pl [] [] xa xb xc xd (.slice (some ⟨gk',0,none⟩) (ks++l).length c')) k:=by
 have Sq:=hk.num
 rcases hw with ⟨rfl,rfl⟩|⟨y,gs,cs,rfl,rfl,hrs,hny⟩
 ·obtain ⟨iN,hiN,hz⟩:=Option.map_eq_some_iff.1 I0;refine ⟨gk,c,Y,?_,hrow.cell 8,hrow.frozen 8,?_⟩
  ·rw [dH,Sq];exact run_append_owned_none Y (w.heap.size+1) 23 23 25 iN 9 Tryz.underlying23 hiN _ n _ hk.own
  ·rw [dH];exact cU.kids H hg ha dL hres hrow hk
 ·have hb0:=hk.cur.1;have hne:g≠gk:=fun e=>hk.not (.inr e.symm)
  obtain ⟨gk',c',W',gQ,iI,hgr⟩:=hk.app hny hrs (by have:=hres.lt;omega) (fun b hb=>by
   have e1:=hrow.lt;have e3:=hres.lt
   rcases hb with hb|rfl<;>omega) (by omega)
  have hB:Below (w.heap.size+1) Y W':=⟨hgr.os,hgr.tape,hgr.output,hgr.size,fun b hb=>hgr.block b (cJ hb (by have:=hres.lt;omega)) (by intro e;cases e;omega)⟩
  have hB':Below w.heap.size Y W':=⟨hB.os,hB.tape,hB.output,hB.size,fun b hb=>hB.block b (Nat.lt_succ_of_lt hb)⟩
  have hrow':=hrow.grown hgr (fun e=>hne (au e));refine ⟨gk',c',W',?_,hrow'.cell 8,hrow'.frozen 8,cU.kids H hg (H.above ha hB') (dL.over hB') (hres.below hB (Nat.lt_succ_self _)) hrow' iI⟩;rw [aw,Sq];exact gQ
structure kg (p:PS) (w:World) (g3 g5:Nat) (W:World) (n:Nd) (cs:List Value) (kd pl xa xb xc xd:Int) (k:Nat):Prop where
 at_:bQ p W k
 keeps:ah (fun c=>c=p.b) w W
 res:Row W w.heap.size 25 cG
 iV:Row W g3 25 cs.toArray
 js:Row W g5 25 (aB kd pl [] [] xa xb xc xd (.slice none 0 0)).toArray
 nd:cK (fun b=>(b≤w.heap.size∨b=g5)∨b=g3) W n cs
theorem kg.keep {p:PS} {w W W':World} {g3 g5 k k':Nat} {n:Nd} {cs:List Value} {kd pl xa xb xc xd:Int} (h:kg p w g3 g5 W n cs kd pl xa xb xc xd k) (hb:p.b<w.heap.size) (h3:w.heap.size<g3) (h5:w.heap.size<g5) (ha:bQ p W' k') (hk:ah (fun c=>c=p.b) W W'):kg p w g3 g5 W' n cs kd pl xa xb xc xd k':=
 ⟨ha,h.keeps.trans hk,h.res.keep hk (by show¬w.heap.size=p.b;omega),h.iV.keep hk (by show¬g3=p.b;omega),h.js.keep hk (by show¬g5=p.b;omega),h.nd.keeps (hk.mono (fun b hb'=>.inl (.inl (by show b≤_;have:b=p.b:=hb';omega))))⟩
theorem kg.new {p:PS} {w W W5:World} {g k:Nat} {n:Nd} {cs:List Value} (h:cU p w g W n cs k) (hb:p.b<w.heap.size) (kd pl:Int) (hW:W5=W.alloc (.cells (aB kd pl [] [] 0 0 0 0 (.slice none 0 0)).toArray 25)):kg p w g W.heap.size W5 n cs kd pl 0 0 0 0 k:=by
 have b5:Below W.heap.size W W5:=by rw [hW];exact (af _ _).alloc (aa _) _
 have r5:Row W5 W.heap.size 25 (aB kd pl [] [] 0 0 0 0 (.slice none 0 0)).toArray:=by rw [hW];exact Row.new _ _ _
 exact ⟨h.at_.below b5,h.keeps.trans (ah.of_below b5 (aa _)),h.res.below b5 h.res.lt,h.row.below b5 h.row.lt,r5,(h.nd.ge b5).mono (fun b hb=>by
  rcases hb with (hb|rfl)|rfl
  ·exact .inl (.inl hb)
  ·exact .inr (aa _)
  ·exact .inl (.inr rfl))⟩
theorem kg.QA {p:PS} {w W:World} {g3 g5 k k0:Nat} {n:Nd} {cs:List Value} {kd pl xa xb xc xd:Int} (H:bQ p w k0) (h5:w.heap.size<g5) (ux:g3≠g5) (h:kg p w g3 g5 W n cs kd pl xa xb xc xd k) (v:Int):kg p w g3 g5 (W.setCell ⟨g5,4,none⟩ (.int .i64 v)) n cs kd pl v xb xc xd k:=by
 have hb:Below w.heap.size W (W.setCell ⟨g5,4,none⟩ (.int .i64 v)):=(af _ W).setCell (p:=⟨g5,4,none⟩) (Nat.le_of_lt h5) _;have hk:ah (fun b=>(b≤w.heap.size∨b=g5)∨b=g3) W (W.setCell ⟨g5,4,none⟩ (.int .i64 v)):=(ah.refl _ W).set (.inl (.inl (.inr rfl))) 4 _;exact ⟨H.above h.at_ hb,h.keeps.over hb,h.res.off (by omega) _ _,h.iV.off ux _ _,h.js.bU 4 _,h.nd.keeps hk⟩
theorem kg.ML {p:PS} {w W:World} {g3 g5 k k0:Nat} {n:Nd} {cs:List Value} {kd pl xa xb xc xd:Int} (H:bQ p w k0) (h5:w.heap.size<g5) (ux:g3≠g5) (h:kg p w g3 g5 W n cs kd pl xa xb xc xd k) (v:Int):kg p w g3 g5 (W.setCell ⟨g5,5,none⟩ (.int .i64 v)) n cs kd pl xa v xc xd k:=by
 have hb:Below w.heap.size W (W.setCell ⟨g5,5,none⟩ (.int .i64 v)):=(af _ W).setCell (p:=⟨g5,5,none⟩) (Nat.le_of_lt h5) _;have hk:ah (fun b=>(b≤w.heap.size∨b=g5)∨b=g3) W (W.setCell ⟨g5,5,none⟩ (.int .i64 v)):=(ah.refl _ W).set (.inl (.inl (.inr rfl))) 5 _;exact ⟨H.above h.at_ hb,h.keeps.over hb,h.res.off (by omega) _ _,h.iV.off ux _ _,h.js.bU 5 _,h.nd.keeps hk⟩
theorem kg.abe {p:PS} {w W:World} {g3 g5 k k0:Nat} {n:Nd} {cs:List Value} {kd pl xa xb xc xd:Int} (H:bQ p w k0) (h5:w.heap.size<g5) (ux:g3≠g5) (h:kg p w g3 g5 W n cs kd pl xa xb xc xd k) (v:Int):kg p w g3 g5 (W.setCell ⟨g5,6,none⟩ (.int .i64 v)) n cs kd pl xa xb v xd k:=by
 have hb:Below w.heap.size W (W.setCell ⟨g5,6,none⟩ (.int .i64 v)):=(af _ W).setCell (p:=⟨g5,6,none⟩) (Nat.le_of_lt h5) _;have hk:ah (fun b=>(b≤w.heap.size∨b=g5)∨b=g3) W (W.setCell ⟨g5,6,none⟩ (.int .i64 v)):=(ah.refl _ W).set (.inl (.inl (.inr rfl))) 6 _;exact ⟨H.above h.at_ hb,h.keeps.over hb,h.res.off (by omega) _ _,h.iV.off ux _ _,h.js.bU 6 _,h.nd.keeps hk⟩
theorem kg.Yz {p:PS} {w W:World} {g3 g5 k k0:Nat} {n:Nd} {cs:List Value} {kd pl xa xb xc xd:Int} (H:bQ p w k0) (h5:w.heap.size<g5) (ux:g3≠g5) (h:kg p w g3 g5 W n cs kd pl xa xb xc xd k) (v:Int):kg p w g3 g5 (W.setCell ⟨g5,7,none⟩ (.int .i64 v)) n cs kd pl xa xb xc v k:=by
 have hb:Below w.heap.size W (W.setCell ⟨g5,7,none⟩ (.int .i64 v)):=(af _ W).setCell (p:=⟨g5,7,none⟩) (Nat.le_of_lt h5) _;have hk:ah (fun b=>(b≤w.heap.size∨b=g5)∨b=g3) W (W.setCell ⟨g5,7,none⟩ (.int .i64 v)):=(ah.refl _ W).set (.inl (.inl (.inr rfl))) 7 _;exact ⟨H.above h.at_ hb,h.keeps.over hb,h.res.off (by omega) _ _,h.iV.off ux _ _,h.js.bU 7 _,h.nd.keeps hk⟩
end Go.Proofs.YtddoehnkgcbboaaGreatDoor
