/- A part of the proof that the last file tells. -/
import Derived.Test.YtddoehnkgcbboaaGreatDoorAgZ
set_option maxHeartbeats 16000000
set_option maxRecDepth 100000
set_option linter.unusedVariables false
set_option linter.unusedSimpArgs false
namespace Go.Proofs.YtddoehnkgcbboaaGreatDoor
open Go.RowKit Go.Shelf Go.Maps
theorem Sr {p:PS} {w W Wd Wa Y:World} {g3 g5 k k':Nat} {n:Nd} {cs:List Value} {kd pl xa xb xc xd:Int} {l:List Nd} {v:Value} (hb:p.b<w.heap.size) (h3:w.heap.size<g3) (h5:w.heap.size<g5) (h:kg p w g3 g5 W n cs kd pl xa xb xc xd k) (hWd:Below W.heap.size W Wd) (hs:Wd.heap.size=W.heap.size)
 (V_:Wa=Wd.alloc (.cells [cs].flatten.toArray 25)) (hY:bQ p Y k') (hk:ah (fun c=>c=p.b) Wa Y) (hv:WhV Wa.heap.size Y l v):
 kg p w g3 g5 Y n cs kd pl xa xb xc xd k'∧dm (fun b=>b≤w.heap.size∨b=g5) Y (w.heap.size+1) W.heap.size 1 1 [n] [cs]∧Sp (fun b=>b≤w.heap.size∨b=g5) Y W.heap.size l v:=by
 have hz:=h.res.lt;have wZ:=h.js.lt;have hzb:=h.at_.row.lt
 have bd:Below W.heap.size W Wa:=by rw [V_];exact hWd.alloc (by omega) _
 have sa:Wa.heap.size=W.heap.size+1:=by rw [V_,aF,hs]
 have ea:kg p w g3 g5 Wa n cs kd pl xa xb xc xd k:=h.keep hb h3 h5 (h.at_.below bd) (ah.of_below bd (aa _))
 have hn:=(h.nd.ge bd).mono (C':=fun b=>(b≤w.heap.size∨b=g5)∨b=Wd.heap.size) (fun b hb=>by
  rcases hb with hb|rfl
  ·exact .inl (.inl hb)
  ·exact .inr (by omega))
 have ka:=dm.one (C:=fun b=>b≤w.heap.size∨b=g5) (base:=w.heap.size+1) hn V_ (by omega) (by rintro (h|h)<;>omega);rw [hs] at ka;refine ⟨ea.keep hb h3 h5 hY hk,ka.keep hk (fun b hb'=>.inl (by show b≤_;have:b=p.b:=hb';omega)),?_⟩
 rcases hv with hv|⟨c,gs,cs',e1,e2,_,hr,hc⟩
 ·exact .inl hv
 ·exact .inr ⟨c,gs,cs',e1,e2,hr,hc.mono (fun b hb=>.inl (by
   show b<Wa.heap.size
   rcases hb with (hb|rfl)|rfl<;>omega))⟩
theorem BO {p:PS} {w W Y Ya:World} {g3 g5 k k':Nat} {n:Nd} {cs:List Value} {kd pl xa xb xc xd:Int} {l:List Nd} {v:Value} (hb:p.b<w.heap.size) (h3:w.heap.size<g3) (h5:w.heap.size<g5) (h:kg p w g3 g5 W n cs kd pl xa xb xc xd k) (hY:bQ p Y k') (hk:ah (fun c=>c=p.b) W Y) (hv:WhV W.heap.size Y l v)
 (Gc:Ya=Y.alloc (.cells [cs].flatten.toArray 25)):
 kg p w g3 g5 Ya n cs kd pl xa xb xc xd k'∧dm (fun b=>b≤w.heap.size∨b=g5) Ya (w.heap.size+1) Y.heap.size 1 1 [n] [cs]∧Sp (fun b=>b≤w.heap.size∨b=g5) Ya Y.heap.size l v:=by
 have hz:=h.res.lt;have wZ:=h.js.lt;have hs:=hk.size;have ey:=h.keep hb h3 h5 hY hk
 have bd:Below Y.heap.size Y Ya:=by rw [Gc];exact (af _ _).alloc (aa _) _
 have hn:=(ey.nd.ge bd).mono (C':=fun b=>(b≤w.heap.size∨b=g5)∨b=Y.heap.size) (fun b hb=>by
  rcases hb with hb|rfl
  ·exact .inl (.inl hb)
  ·exact .inr (aa _))
 refine ⟨ey.keep hb h3 h5 (hY.below bd) (ah.of_below bd (aa _)),dm.one (C:=fun b=>b≤w.heap.size∨b=g5) (base:=w.heap.size+1) hn Gc (by omega) (by rintro (h|h)<;>omega),?_⟩
 rcases hv with hv|⟨c,gs,cs',e1,e2,_,hr,hc⟩
 ·exact .inl hv
 ·exact .inr ⟨c,gs,cs',e1,e2,hr.below bd hr.lt,(hc.ge bd).mono (fun b hb=>by
   rcases hb with (hb|rfl)|rfl
   ·exact .inl (.inl (by show b<W.heap.size;omega))
   ·exact .inl (.inl wZ)
   ·exact .inr (aa _))⟩
theorem wE (p:PS) (ko:wR p) (F:Nat) (pat:Nat→PR Nd) (hq:cY p 25 pat F):cY p 64 (im p.L p.en (fq p) (cX p.L p.en (fq p)) pat) (F+1):=by
 intro k w hF h;have hbz:p.b<w.heap.size:=h.row.lt;have hb0:Below w.heap.size w (w.alloc (.cells cG 25)):=(af _ _).alloc (aa _) _;have iX:Row (w.alloc (.cells cG 25)) w.heap.size 25 cG:=Row.new _ _ _;have PL:=hide (fun (k:Nat) (W:World) (h:bQ p W k)=>gD p k W h);have AC:=hide (fun (k:Nat) (wd:List UInt8) (W:World) (h:bQ p W k)=>eW p k wd W h);have EX:=hide (fun (k:Nat) (wd:List UInt8) (W:World) (h:bQ p W k)=>h_ p k wd W h);have NM:=hide (fun (k:Nat) (W:World) (h:bQ p W k)=>rN p k 32768 W h);have DL:=hide (fun (k:Nat) (W:World) (h:bQ p W k)=>BM p k W h);have WH:=hide (fun (k:Nat) (W:World) (h:bQ p W k)=>BN p ko k W h);have X:=hide (Sn p ko F pat hq k _ hF (h.below hb0));have H:=hide h;have mA:=ae (tZ p w (w.alloc (.cells cG 25)) k) (⟨h.below hb0,ah.of_below hb0 (aa _),iX⟩)
 obtain ⟨cond,OC⟩:∃c,cX p.L p.en (fq p)=c:=⟨_,rfl⟩
 rw [OC] at X WH⊢
 obtain ⟨RR,lM⟩:∃RR,im p.L p.en (fq p) cond pat k=RR:=⟨_,rfl⟩
 rw [lM]
 have nt:=ae (RR=(jt p.L p.en cond pat k).bind fun n k1=>if b_ p.L k1 bA then (gN p.L p.en (k1+1) 32768).bind fun a k2=>(av p.L p.en k2 aG).bind fun _ k3=>(gN p.L p.en k3 32768).bind fun b k4=>(av p.L p.en k4 aG).bind fun _ k5=>jf p.L p.en (fq p) k5 fun c d k6=>(dW p.L cond k6).bind fun l k7=>(av p.L p.en k7 aZ).bind fun _ k8=>.ok (.mk 47 (eO p.L p.en k1) [] [] a b c d (n::l)) k8
  else .ok n k1) lM.symm
 simp only [zB] at nt;clear hq h hb0 iX lM OC;go_enter Tryz.func64,Tryz.ntmps64
 cases hx:jt p.L p.en cond pat k with
 |err a er=>
  rw [hx] at X;have HE:=ae (RR=.err a er) (by rw [nt.o,hx];rfl);clear hx;go_wp2_with fail;refine X.o.mono ?_;rintro e qJ ⟨rfl,cD⟩;go_wp2;exact ⟨rfl,by rw [HE.o];exact ⟨rfl,mA.o.keeps.trans cD⟩⟩
 |ok n k1=>
  rw [hx] at X
  have oz:=ae (RR=if b_ p.L k1 bA then (gN p.L p.en (k1+1) 32768).bind fun a k2=>(av p.L p.en k2 aG).bind fun _ k3=>(gN p.L p.en k3 32768).bind fun b k4=>(av p.L p.en k4 aG).bind fun _ k5=>(gh p k5).bind fun ab k6=>(dW p.L cond k6).bind fun l k7=>(av p.L p.en k7 aZ).bind fun _ k8=>.ok (.mk 47 (eO p.L p.en k1) [] [] a b ab.1 ab.2 (n::l)) k8
   else .ok n k1) (by rw [nt.o,hx];rfl)
  clear hx nt;go_wp2_with fail;refine X.o.mono ?_;rintro e w3 ⟨⟨v,rfl,cs,rfl,hnd⟩,h3,hk3⟩;have hr3:Row w3 w.heap.size 25 cG:=mA.o.res.keep hk3 (by show¬w.heap.size=p.b;omega);have hg:w.heap.size<w3.heap.size:=hr3.lt;have nL:=cU.new h3 (mA.o.keeps.trans hk3) hr3 hnd mA.o.lt;obtain ⟨kd,a0,nm,vl,xa,xb,xc,xd,A,len,cap,rfl⟩:=hnd.nine;generalize lJ:w3.alloc (.cells (aB kd a0 nm vl xa xb xc xd (.slice A len cap)).toArray 25)=W4 at nL;have De:=hide nL;have nT:w3.alloc (.cells #[.int .i64 kd,.int .i64 a0,.string (ag nm),.string (ag vl),.int .i64 xa,.int .i64 xb,.int .i64 xc,.int .i64 xd,.slice A len cap] 25)=W4:=lJ;clear h3 hk3 hr3 hnd nL lJ;unfold aB;have Xq:=hide (PL.o k1 W4 De.o.at_);generalize hpl:eO p.L p.en k1=pl at Xq;have Gz:=hide hpl;clear hpl;go_wp2_with fail;refine Xq.o.mono ?_;rintro e W5 ⟨rfl,eG⟩;have zo:=hide (De.o.below hbz hg eG);clear eG nT;have KZ:=hide (AC.o k1 [123] W5 zo.o.at_)
  cases hJ:b_ p.L k1 [123] with
  |false=>
   rw [hJ] at KZ;have HE:=ae (RR=.ok n k1) (by rw [oz.o,if_neg (show¬b_ p.L k1 bA=true from by rw [show b_ p.L k1 bA=false from hJ];decide)]);clear hJ oz;go_wp2_with fail;refine KZ.o.mono ?_;rintro e W6 ⟨rfl,h6,ki⟩;have Gw:=hide (zo.o.keep hbz hg (show bQ p W6 k1 from h6) ki);clear h6 ki;obtain ⟨wU,dL,hres,hrow,hnd⟩:=Gw.o;obtain ⟨z0,z1,z2,z3,z4,z5,z6,z7,z8⟩:=ak hrow;obtain ⟨y0,y1,y2,y3,y4,y5,y6,y7,y8⟩:=ak hres;obtain ⟨M4,M5,M6,M7,M8,M9,M_,Na,Nb⟩:=aU hres;have fR:=hide hnd;clear hrow hnd;go_wp2_with fail;refine bodyPost_ret (v:=.agg #[.int .i64 kd,.int .i64 a0,.string (ag nm),.string (ag vl),.int .i64 xa,.int .i64 xb,.int .i64 xc,.int .i64 xd,.slice A len cap]) (ai rfl _ _ w.heap.size 25 _ _ _ rfl (aJ hres _ _ _ _ _ _ _ _ _) Tryz.underlying25 rfl (by kernel_rfl)) rfl ?_;have hbl:=ay (W:=W6) (aa w.heap.size) (.int .i64 kd) (.int .i64 a0) (.string (ag nm)) (.string (ag vl)) (.int .i64 xa) (.int .i64 xb) (.int .i64 xc) (.int .i64 xd) (.slice A len cap);rw [HE.o];exact ⟨⟨_,rfl,_,rfl,(fR.o.keeps (aN (C:=fun b=>b≤w.heap.size∨b=w3.heap.size) (.inl (aa _)) _ _ _ _ _ _ _ _ _)).mono (fun b hb'=>.inl (Nat.le_of_lt hb'))⟩,H.o.above wU hbl,dL.over hbl⟩
  |true=>
   rw [hJ] at KZ;have PH:=ae (RR=(gN p.L p.en (k1+1) 32768).bind fun a k2=>(av p.L p.en k2 aG).bind fun _ k3=>(gN p.L p.en k3 32768).bind fun b k4=>(av p.L p.en k4 aG).bind fun _ k5=>(gh p k5).bind fun ab k6=>(dW p.L cond k6).bind fun l k7=>(av p.L p.en k7 aZ).bind fun _ k8=>.ok (.mk 47 pl [] [] a b ab.1 ab.2 (n::l)) k8) (by rw [oz.o,if_pos (show b_ p.L k1 bA=true from hJ),Gz.o]);clear hJ oz;go_wp2_with fail;refine KZ.o.mono ?_;rintro e W6 ⟨rfl,h6,ki⟩;have FN:=zo.o.keep hbz hg h6 ki
   have Dk:w3.heap.size≠W6.heap.size:=by have:=FN.row.lt;omega
   have lI:w.heap.size<W6.heap.size:=FN.res.lt;generalize Da:W6.alloc (.cells (aB 47 pl [] [] 0 0 0 0 (.slice none 0 0)).toArray 25)=W7;have Z4:=hide (kg.new FN hbz 47 pl Da.symm);have abH:W6.alloc (.cells #[.int .i64 47,.int .i64 pl,.string {data:=#[]},.string {data:=#[]},.int .i64 0,.int .i64 0,.int .i64 0,.int .i64 0,.slice none 0 0] 25)=W7:=Da;have HW7:=hide abH;clear h6 ki FN Da abH;have X1:=hide (NM.o (k1+1) W7 Z4.o.at_)
   cases hD:gN p.L p.en (k1+1) 32768 with
   |err a er=>
    rw [hD] at X1;have HE:=ae (RR=.err a er) (by rw [PH.o,show gN p.L p.en (k1+1) 32768=.err a er from hD];rfl);clear hD;go_wp2_with fail;rw [HW7.o];refine X1.o.mono ?_;rintro e qJ ⟨rfl,cD⟩;go_wp2;exact ⟨rfl,by rw [HE.o];exact ⟨rfl,Z4.o.keeps.trans cD⟩⟩
   |ok na k2=>
    rw [hD] at X1;have ur:=ae (RR=(av p.L p.en k2 aG).bind fun _ k3=>(gN p.L p.en k3 32768).bind fun b k4=>(av p.L p.en k4 aG).bind fun _ k5=>(gh p k5).bind fun ab k6=>(dW p.L cond k6).bind fun l k7=>(av p.L p.en k7 aZ).bind fun _ k8=>.ok (.mk 47 pl [] [] na b ab.1 ab.2 (n::l)) k8) (by rw [PH.o,show gN p.L p.en (k1+1) 32768=.ok na k2 from hD];rfl);clear hD PH;go_wp2_with fail;rw [HW7.o];refine X1.o.mono ?_;rintro e W8 ⟨⟨v,rfl,rfl⟩,VD,Ss⟩;have Dl:=Z4.o.keep hbz hg lI VD Ss;clear VD Ss;have ac6:W8.cell? ⟨W6.heap.size,4,none⟩=some (.int .i64 0):=Dl.js.cell 4;have abI:=Dl.js.frozen 4;have Dm:=Dl.QA H.o lI Dk na;generalize Z5:W8.setCell ⟨W6.heap.size,4,none⟩ (.int .i64 na)=W9 at Dm;have HE9:=hide Dm;clear Dl Dm;have X2:=hide (EX.o k2 [44] W9 HE9.o.at_)
    cases hD:av p.L p.en k2 [44] with
    |err a er=>
     rw [hD] at X2;have HE:=ae (RR=.err a er) (by rw [ur.o,show av p.L p.en k2 aG=.err a er from hD];rfl);clear hD;go_wp2_with fail;refine X2.o.mono ?_;rintro e qJ ⟨rfl,cD⟩;go_wp2;exact ⟨rfl,by rw [HE.o];exact ⟨rfl,HE9.o.keeps.trans cD⟩⟩
    |ok u2 k3=>
     rw [hD] at X2;have UB:=ae (RR=(gN p.L p.en k3 32768).bind fun b k4=>(av p.L p.en k4 aG).bind fun _ k5=>(gh p k5).bind fun ab k6=>(dW p.L cond k6).bind fun l k7=>(av p.L p.en k7 aZ).bind fun _ k8=>.ok (.mk 47 pl [] [] na b ab.1 ab.2 (n::l)) k8) (by rw [ur.o,show av p.L p.en k2 aG=.ok u2 k3 from hD];rfl);clear hD ur;go_wp2_with fail;refine X2.o.mono ?_;rintro e Ah ⟨⟨v,rfl,rfl⟩,Rw,Xr⟩;have BP:=HE9.o.keep hbz hg lI Rw Xr;clear Rw Xr;have Aw:=hide BP;clear BP Z5;have X3:=hide (NM.o k3 Ah Aw.o.at_)
     cases hD:gN p.L p.en k3 32768 with
     |err a er=>
      rw [hD] at X3;have HE:=ae (RR=.err a er) (by rw [UB.o,show gN p.L p.en k3 32768=.err a er from hD];rfl);clear hD;go_wp2_with fail;refine X3.o.mono ?_;rintro e qJ ⟨rfl,cD⟩;go_wp2;exact ⟨rfl,by rw [HE.o];exact ⟨rfl,Aw.o.keeps.trans cD⟩⟩
     |ok nb k4=>
      rw [hD] at X3;have WN:=ae (RR=(av p.L p.en k4 aG).bind fun _ k5=>(gh p k5).bind fun ab k6=>(dW p.L cond k6).bind fun l k7=>(av p.L p.en k7 aZ).bind fun _ k8=>.ok (.mk 47 pl [] [] na nb ab.1 ab.2 (n::l)) k8) (by rw [UB.o,show gN p.L p.en k3 32768=.ok nb k4 from hD];rfl);clear hD UB;go_wp2_with fail;refine X3.o.mono ?_;rintro e Ai ⟨⟨v,rfl,rfl⟩,zm,wj⟩;have K2:=Aw.o.keep hbz hg lI zm wj;clear zm wj;have adk:Ai.cell? ⟨W6.heap.size,5,none⟩=some (.int .i64 0):=K2.js.cell 5;have ac7:=K2.js.frozen 5;have Su:=K2.ML H.o lI Dk nb;generalize abJ:Ai.setCell ⟨W6.heap.size,5,none⟩ (.int .i64 nb)=Mx at Su;have Z6:=hide Su;clear K2 Su;have X4:=hide (EX.o k4 [44] Mx Z6.o.at_)
      cases hD:av p.L p.en k4 [44] with
      |err a er=>
       rw [hD] at X4;have HE:=ae (RR=.err a er) (by rw [WN.o,show av p.L p.en k4 aG=.err a er from hD];rfl);clear hD;go_wp2_with fail;refine X4.o.mono ?_;rintro e qJ ⟨rfl,cD⟩;go_wp2;exact ⟨rfl,by rw [HE.o];exact ⟨rfl,Z6.o.keeps.trans cD⟩⟩
      |ok u4 k5=>
       rw [hD] at X4;have Vx:=ae (RR=(gh p k5).bind fun ab k6=>(dW p.L cond k6).bind fun l k7=>(av p.L p.en k7 aZ).bind fun _ k8=>.ok (.mk 47 pl [] [] na nb ab.1 ab.2 (n::l)) k8) (by rw [WN.o,show av p.L p.en k4 aG=.ok u4 k5 from hD];rfl);clear hD WN;go_wp2_with fail;refine X4.o.mono ?_;rintro e My ⟨⟨v,rfl,rfl⟩,FX,wo⟩;have Xt:=Z6.o.keep hbz hg lI FX wo;clear FX wo;have Z7:=hide Xt;clear Xt abJ;have X5:=hide (DL.o k5 My Z7.o.at_)
       cases hD:gh p k5 with
       |err a er=>
        rw [hD] at X5;have HE:=ae (RR=.err a er) (by rw [Vx.o,show gh p k5=.err a er from hD];rfl);clear hD;go_wp2_with fail;refine X5.o.mono ?_;rintro e qJ ⟨rfl,cD⟩;go_wp2;exact ⟨rfl,by rw [HE.o];exact ⟨rfl,Z7.o.keeps.trans cD⟩⟩
       |ok cd k6=>
        rw [hD] at X5;have UQ:=ae (RR=(dW p.L cond k6).bind fun l k7=>(av p.L p.en k7 aZ).bind fun _ k8=>.ok (.mk 47 pl [] [] na nb cd.1 cd.2 (n::l)) k8) (by rw [Vx.o,show gh p k5=.ok cd k6 from hD];rfl);clear hD Vx;go_wp2_with fail;refine X5.o.mono ?_;rintro e Ol ⟨⟨v,rfl,rfl⟩,Df,wu⟩;have K4:=Z7.o.keep hbz hg lI Df wu;clear Df wu;obtain ⟨nc,nd⟩:=cd;have adl:Ol.cell? ⟨W6.heap.size,6,none⟩=some (.int .i64 0):=K4.js.cell 6;have ac8:=K4.js.frozen 6;have Gd:=K4.abe H.o lI Dk nc;generalize adm:Ol.setCell ⟨W6.heap.size,6,none⟩ (.int .i64 nc)=W15 at Gd;have adn:W15.cell? ⟨W6.heap.size,7,none⟩=some (.int .i64 0):=Gd.js.cell 7;have ac9:=Gd.js.frozen 7;have Sv:=Gd.Yz H.o lI Dk nd;generalize ado:W15.setCell ⟨W6.heap.size,7,none⟩ (.int .i64 nd)=uV at Sv;have ni:=hide Sv;clear K4 Gd Sv;obtain ⟨d0,d1,d2,d3,d4,d5,d6,d7,d8⟩:=ak ni.o.iV;have CX:=hide (fun (W:World) (h:bQ p W k6)=>WH.o k6 W h);go_wp2_with fail
        cases hy:dW p.L cond k6 with
        |err a er=>
         have Ak:=hide (fun (W1 W:World) (h1:Below uV.heap.size uV W1) (hk:ah (fun c=>c=p.b) W1 W)=>show cQ p w (qI w.heap.size) RR (.panicked [{v:=ot a er,recovered:=false}]) W from by
          rw [UQ.o,hy];exact ⟨rfl,(ni.o.keeps.trans (ah.of_below h1 (aa _))).trans hk⟩)
         rw [hy] at CX;clear hy;refine wp_region_any (by kernel_rfl) ?_;change wpAny _ _ _ _ _ _ _ (World.drew _);refine wpAny_take (i:=2) (v:=?_) rfl (by kernel_rfl) (by kernel_rfl) (by kernel_rfl) (fun _ _ _ h=>h) (Or.inl ⟨by rfl,?_⟩) ?_;rotate_left
         ·intro w;go_simp;with_reducible rfl
         refine oD (i:=0) (j:=3) (by kernel_rfl) rfl rfl (fun K hK=>?_) fun K hK=>?_
         ·go_simp;refine hK _ _ ?_;clear hK K;refine oD (i:=1) (j:=3) (by kernel_rfl) rfl rfl (fun K hK=>?_) fun K hK=>?_
          ·go_simp;refine hK _ _ ?_;clear hK K;generalize V_:World.alloc _ _=Wa
           have bda:Below uV.heap.size uV Wa:=by rw [←V_];exact (af _ uV).alloc (aa _) _
           have CXa:=hide (CX.o Wa.drew (ni.o.at_.below bda.drew));refine bK (i:=3) (by kernel_rfl) rfl fun K hK=>?_;go_simp;refine CXa.o.mono ?_;rintro e w5 ⟨rfl,cC⟩;exact ⟨rfl,Ak.o _ _ bda.drew cC⟩
          ·have Z8:=hide (CX.o uV.drew (ni.o.at_.below ((af _ uV).drew)));go_simp;refine Z8.o.mono ?_;rintro e w5 ⟨rfl,cC⟩;exact ⟨rfl,Ak.o _ _ ((af _ uV).drew) cC⟩
         ·have Z8:=hide (CX.o uV.drew (ni.o.at_.below ((af _ uV).drew)));go_simp;refine Z8.o.mono ?_;rintro e w5 ⟨rfl,cC⟩;exact ⟨rfl,Ak.o _ _ ((af _ uV).drew) cC⟩
        |ok l k7=>
         rw [hy] at CX;have Wc:=ae (RR=(av p.L p.en k7 aZ).bind fun _ k8=>.ok (.mk 47 pl [] [] na nb nc nd (n::l)) k8) (by rw [UQ.o,hy];rfl);clear hy UQ;refine wp_region_any (by kernel_rfl) ?_;change wpAny _ _ _ _ _ _ _ (World.drew _);refine wpAny_take (i:=2) (v:=?_) rfl (by kernel_rfl) (by kernel_rfl) (by kernel_rfl) (fun _ _ _ h=>h) (Or.inl ⟨by rfl,?_⟩) ?_;rotate_left
         ·intro w;go_simp;with_reducible rfl
         refine oD (i:=0) (j:=3) (by kernel_rfl) rfl rfl (fun K hK=>?_) fun K hK=>?_
         ·go_simp;refine hK _ _ ?_;clear hK K;refine oD (i:=1) (j:=3) (by kernel_rfl) rfl rfl (fun K hK=>?_) fun K hK=>?_
          ·go_simp;refine hK _ _ ?_;clear hK K;generalize V_:World.alloc _ _=Wa;have abK:=hide V_.symm;refine bK (i:=3) (by kernel_rfl) rfl fun K hK=>?_
           have bda:Below uV.heap.size uV Wa:=by rw [←V_];exact (af _ uV).alloc (aa _) _
           have CXa:=hide (CX.o Wa.drew (ni.o.at_.below bda.drew));go_simp;refine CXa.o.mono ?_;rintro e Y ⟨⟨v,rfl,hv⟩,hY,ij⟩;refine hK _ _ ?_;clear hK K
           have qU:ah (fun c=>c=p.b) Wa Y:=⟨ij.os,ij.tape,ij.output,ij.size,ij.block⟩
           obtain ⟨eY,kY,vY⟩:=Sr hbz hg lI ni.o (af _ uV) rfl abK.o hY qU hv;clear hv hY qU ij V_ abK bda;obtain ⟨mB,ck,Yb,gQ,m8,Fv,hlb⟩:=sD H.o lI eY.at_ eY.keeps eY.res eY.js kY (by decide) vY;have fY:(Builtin.append_ #[23,23] 23 #[.slice (some ⟨uV.heap.size,0,none⟩) 1 1,v]).run Tryz.prog Y=.ok (.slice (some ⟨mB,0,none⟩) (n::l).length ck) Yb:=gQ;have lG:cU p w W6.heap.size (Yb.setCell ⟨W6.heap.size,8,none⟩ (.slice (some ⟨mB,0,none⟩) (n::l).length ck)) (.mk 47 pl [] [] na nb nc nd (n::l)) (aB 47 pl [] [] na nb nc nd (.slice (some ⟨mB,0,none⟩) (n::l).length ck)) k7:=hlb;generalize OD:Yb.setCell ⟨W6.heap.size,8,none⟩ (.slice (some ⟨mB,0,none⟩) (n::l).length ck)=Yc at lG;have GD:=hide lG;clear gQ hlb lG eY kY vY;generalize hlen:(n::l).length=We at fY OD GD;refine bK (i:=4) (by kernel_rfl) rfl fun K hK=>?_;refine dn (by kernel_rfl) (.tmp 34) (.tmp 36) 23 rfl rfl rfl fY ?_;refine hK _ _ ?_;clear hK K fY;refine bK (i:=5) (by kernel_rfl) rfl fun K hK=>?_;go_simp;refine hK _ _ ?_;clear hK K;refine bK (i:=6) (by kernel_rfl) rfl fun K hK=>?_;go_simp;refine hK _ _ ?_;clear hK K;refine wpAny_done (by kernel_rfl) ?_ _;clear m8 Fv OD;have X7:=hide (EX.o k7 [125] Yc GD.o.at_)
           cases hD:av p.L p.en k7 [125] with
           |err a er=>
            rw [hD] at X7;have HE:=ae (RR=.err a er) (by rw [Wc.o,show av p.L p.en k7 aZ=.err a er from hD];rfl);clear hD;go_wp2_with fail;refine X7.o.mono ?_;rintro e qJ ⟨rfl,cD⟩;go_wp2;exact ⟨rfl,by rw [HE.o];exact ⟨rfl,GD.o.keeps.trans cD⟩⟩
           |ok u7 k8=>
            rw [hD] at X7;have HE:=ae (RR=.ok (.mk 47 pl [] [] na nb nc nd (n::l)) k8) (by rw [Wc.o,show av p.L p.en k7 aZ=.ok u7 k8 from hD];rfl);clear hD Wc;go_wp2_with fail;refine X7.o.mono ?_;rintro e W30 ⟨⟨v,rfl,rfl⟩,Xu,Aq⟩;subst hlen;have Sw:=hide (GD.o.keep hbz lI Xu Aq);clear Xu Aq;obtain ⟨wU,dL,hres,hrow,hnd⟩:=Sw.o;obtain ⟨z0,z1,z2,z3,z4,z5,z6,z7,z8⟩:=ak hrow;obtain ⟨y0,y1,y2,y3,y4,y5,y6,y7,y8⟩:=ak hres;obtain ⟨M4,M5,M6,M7,M8,M9,M_,Na,Nb⟩:=aU hres;have fR:=hide hnd;clear hrow hnd;go_wp2_with fail;refine bodyPost_ret (v:=.agg #[.int .i64 47,.int .i64 pl,.string {data:=#[]},.string {data:=#[]},.int .i64 na,.int .i64 nb,.int .i64 nc,.int .i64 nd,.slice (some ⟨mB,0,none⟩) (n::l).length ck]) (ai rfl _ _ w.heap.size 25 _ _ _ rfl (aJ hres _ _ _ _ _ _ _ _ _) Tryz.underlying25 rfl (by kernel_rfl)) rfl ?_;have hbl:=ay (W:=W30) (aa w.heap.size) (.int .i64 47) (.int .i64 pl) (.string {data:=#[]}) (.string {data:=#[]}) (.int .i64 na) (.int .i64 nb) (.int .i64 nc) (.int .i64 nd) (.slice (some ⟨mB,0,none⟩) (n::l).length ck);rw [HE.o];exact ⟨⟨_,rfl,_,rfl,(fR.o.keeps (aN (C:=fun b=>b≤w.heap.size∨b=W6.heap.size) (.inl (aa _)) _ _ _ _ _ _ _ _ _)).mono (fun b hb'=>.inl (Nat.le_of_lt hb'))⟩,H.o.above wU hbl,dL.over hbl⟩
          ·skip;have Z8:=hide (CX.o uV.drew (ni.o.at_.below ((af _ uV).drew)));go_simp;refine Z8.o.mono ?_;rintro e Y ⟨⟨v,rfl,hv⟩,hY,ij⟩;refine hK _ _ ?_;clear hK K
           have qU:ah (fun c=>c=p.b) uV Y:=⟨ij.os,ij.tape,ij.output,ij.size,ij.block⟩
           refine bK (i:=1) (by kernel_rfl) rfl fun K hK=>?_;go_simp;refine hK _ _ ?_;clear hK K;generalize Gc:World.alloc Y _=Ya;obtain ⟨eY,kY,vY⟩:=BO hbz hg lI ni.o hY qU hv Gc.symm;clear hv hY qU ij Gc;obtain ⟨mB,ck,Yb,gQ,m8,Fv,hlb⟩:=sD H.o lI eY.at_ eY.keeps eY.res eY.js kY (by decide) vY;have fY:(Builtin.append_ #[23,23] 23 #[.slice (some ⟨Y.heap.size,0,none⟩) 1 1,v]).run Tryz.prog Ya=.ok (.slice (some ⟨mB,0,none⟩) (n::l).length ck) Yb:=gQ;have lG:cU p w W6.heap.size (Yb.setCell ⟨W6.heap.size,8,none⟩ (.slice (some ⟨mB,0,none⟩) (n::l).length ck)) (.mk 47 pl [] [] na nb nc nd (n::l)) (aB 47 pl [] [] na nb nc nd (.slice (some ⟨mB,0,none⟩) (n::l).length ck)) k7:=hlb;generalize OD:Yb.setCell ⟨W6.heap.size,8,none⟩ (.slice (some ⟨mB,0,none⟩) (n::l).length ck)=Yc at lG;have GD:=hide lG;clear gQ hlb lG eY kY vY;generalize hlen:(n::l).length=We at fY OD GD;refine bK (i:=4) (by kernel_rfl) rfl fun K hK=>?_;refine dn (by kernel_rfl) (.tmp 34) (.tmp 36) 23 rfl rfl rfl fY ?_;refine hK _ _ ?_;clear hK K fY;refine bK (i:=5) (by kernel_rfl) rfl fun K hK=>?_;go_simp;refine hK _ _ ?_;clear hK K;refine bK (i:=6) (by kernel_rfl) rfl fun K hK=>?_;go_simp;refine hK _ _ ?_;clear hK K;refine wpAny_done (by kernel_rfl) ?_ _;clear m8 Fv OD;have X7:=hide (EX.o k7 [125] Yc GD.o.at_)
           cases hD:av p.L p.en k7 [125] with
           |err a er=>
            rw [hD] at X7;have HE:=ae (RR=.err a er) (by rw [Wc.o,show av p.L p.en k7 aZ=.err a er from hD];rfl);clear hD;go_wp2_with fail;refine X7.o.mono ?_;rintro e qJ ⟨rfl,cD⟩;go_wp2;exact ⟨rfl,by rw [HE.o];exact ⟨rfl,GD.o.keeps.trans cD⟩⟩
           |ok u7 k8=>
            rw [hD] at X7;have HE:=ae (RR=.ok (.mk 47 pl [] [] na nb nc nd (n::l)) k8) (by rw [Wc.o,show av p.L p.en k7 aZ=.ok u7 k8 from hD];rfl);clear hD Wc;go_wp2_with fail;refine X7.o.mono ?_;rintro e W30 ⟨⟨v,rfl,rfl⟩,Xu,Aq⟩;subst hlen;have Sw:=hide (GD.o.keep hbz lI Xu Aq);clear Xu Aq;obtain ⟨wU,dL,hres,hrow,hnd⟩:=Sw.o;obtain ⟨z0,z1,z2,z3,z4,z5,z6,z7,z8⟩:=ak hrow;obtain ⟨y0,y1,y2,y3,y4,y5,y6,y7,y8⟩:=ak hres;obtain ⟨M4,M5,M6,M7,M8,M9,M_,Na,Nb⟩:=aU hres;have fR:=hide hnd;clear hrow hnd;go_wp2_with fail;refine bodyPost_ret (v:=.agg #[.int .i64 47,.int .i64 pl,.string {data:=#[]},.string {data:=#[]},.int .i64 na,.int .i64 nb,.int .i64 nc,.int .i64 nd,.slice (some ⟨mB,0,none⟩) (n::l).length ck]) (ai rfl _ _ w.heap.size 25 _ _ _ rfl (aJ hres _ _ _ _ _ _ _ _ _) Tryz.underlying25 rfl (by kernel_rfl)) rfl ?_;have hbl:=ay (W:=W30) (aa w.heap.size) (.int .i64 47) (.int .i64 pl) (.string {data:=#[]}) (.string {data:=#[]}) (.int .i64 na) (.int .i64 nb) (.int .i64 nc) (.int .i64 nd) (.slice (some ⟨mB,0,none⟩) (n::l).length ck);rw [HE.o];exact ⟨⟨_,rfl,_,rfl,(fR.o.keeps (aN (C:=fun b=>b≤w.heap.size∨b=W6.heap.size) (.inl (aa _)) _ _ _ _ _ _ _ _ _)).mono (fun b hb'=>.inl (Nat.le_of_lt hb'))⟩,H.o.above wU hbl,dL.over hbl⟩
         ·skip;have Z8:=hide (CX.o uV.drew (ni.o.at_.below ((af _ uV).drew)));go_simp;refine Z8.o.mono ?_;rintro e Y ⟨⟨v,rfl,hv⟩,hY,ij⟩;refine hK _ _ ?_;clear hK K
          have qU:ah (fun c=>c=p.b) uV Y:=⟨ij.os,ij.tape,ij.output,ij.size,ij.block⟩
          have c0:Y.cell? ⟨w3.heap.size,0,none⟩=some (.int .i64 kd):=(ni.o.keep hbz hg lI hY qU).iV.cell 0;have c1:Y.cell? ⟨w3.heap.size,1,none⟩=some (.int .i64 a0):=(ni.o.keep hbz hg lI hY qU).iV.cell 1;have c2:Y.cell? ⟨w3.heap.size,2,none⟩=some (.string (ag nm)):=(ni.o.keep hbz hg lI hY qU).iV.cell 2;have c3:Y.cell? ⟨w3.heap.size,3,none⟩=some (.string (ag vl)):=(ni.o.keep hbz hg lI hY qU).iV.cell 3;have c4:Y.cell? ⟨w3.heap.size,4,none⟩=some (.int .i64 xa):=(ni.o.keep hbz hg lI hY qU).iV.cell 4;have c5:Y.cell? ⟨w3.heap.size,5,none⟩=some (.int .i64 xb):=(ni.o.keep hbz hg lI hY qU).iV.cell 5;have c6:Y.cell? ⟨w3.heap.size,6,none⟩=some (.int .i64 xc):=(ni.o.keep hbz hg lI hY qU).iV.cell 6;have c7:Y.cell? ⟨w3.heap.size,7,none⟩=some (.int .i64 xd):=(ni.o.keep hbz hg lI hY qU).iV.cell 7;have c8:Y.cell? ⟨w3.heap.size,8,none⟩=some (.slice A len cap):=(ni.o.keep hbz hg lI hY qU).iV.cell 8;refine bK (i:=0) (by kernel_rfl) rfl fun K hK=>?_;go_simp;refine hK _ _ ?_;clear hK K;refine bK (i:=1) (by kernel_rfl) rfl fun K hK=>?_;go_simp;refine hK _ _ ?_;clear hK K;generalize Gc:World.alloc Y _=Ya;obtain ⟨eY,kY,vY⟩:=BO hbz hg lI ni.o hY qU hv Gc.symm;clear hv hY qU ij Gc;obtain ⟨mB,ck,Yb,gQ,m8,Fv,hlb⟩:=sD H.o lI eY.at_ eY.keeps eY.res eY.js kY (by decide) vY;have fY:(Builtin.append_ #[23,23] 23 #[.slice (some ⟨Y.heap.size,0,none⟩) 1 1,v]).run Tryz.prog Ya=.ok (.slice (some ⟨mB,0,none⟩) (n::l).length ck) Yb:=gQ;have lG:cU p w W6.heap.size (Yb.setCell ⟨W6.heap.size,8,none⟩ (.slice (some ⟨mB,0,none⟩) (n::l).length ck)) (.mk 47 pl [] [] na nb nc nd (n::l)) (aB 47 pl [] [] na nb nc nd (.slice (some ⟨mB,0,none⟩) (n::l).length ck)) k7:=hlb;generalize OD:Yb.setCell ⟨W6.heap.size,8,none⟩ (.slice (some ⟨mB,0,none⟩) (n::l).length ck)=Yc at lG;have GD:=hide lG;clear gQ hlb lG eY kY vY;generalize hlen:(n::l).length=We at fY OD GD;refine bK (i:=4) (by kernel_rfl) rfl fun K hK=>?_;refine dn (by kernel_rfl) (.tmp 34) (.tmp 36) 23 rfl rfl rfl fY ?_;refine hK _ _ ?_;clear hK K fY;refine bK (i:=5) (by kernel_rfl) rfl fun K hK=>?_;go_simp;refine hK _ _ ?_;clear hK K;refine bK (i:=6) (by kernel_rfl) rfl fun K hK=>?_;go_simp;refine hK _ _ ?_;clear hK K;refine wpAny_done (by kernel_rfl) ?_ _;clear m8 Fv OD;have X7:=hide (EX.o k7 [125] Yc GD.o.at_)
          cases hD:av p.L p.en k7 [125] with
          |err a er=>
           rw [hD] at X7;have HE:=ae (RR=.err a er) (by rw [Wc.o,show av p.L p.en k7 aZ=.err a er from hD];rfl);clear hD;go_wp2_with fail;refine X7.o.mono ?_;rintro e qJ ⟨rfl,cD⟩;go_wp2;exact ⟨rfl,by rw [HE.o];exact ⟨rfl,GD.o.keeps.trans cD⟩⟩
          |ok u7 k8=>
           rw [hD] at X7;have HE:=ae (RR=.ok (.mk 47 pl [] [] na nb nc nd (n::l)) k8) (by rw [Wc.o,show av p.L p.en k7 aZ=.ok u7 k8 from hD];rfl);clear hD Wc;go_wp2_with fail;refine X7.o.mono ?_;rintro e W30 ⟨⟨v,rfl,rfl⟩,Xu,Aq⟩;subst hlen;have Sw:=hide (GD.o.keep hbz lI Xu Aq);clear Xu Aq;obtain ⟨wU,dL,hres,hrow,hnd⟩:=Sw.o;obtain ⟨z0,z1,z2,z3,z4,z5,z6,z7,z8⟩:=ak hrow;obtain ⟨y0,y1,y2,y3,y4,y5,y6,y7,y8⟩:=ak hres;obtain ⟨M4,M5,M6,M7,M8,M9,M_,Na,Nb⟩:=aU hres;have fR:=hide hnd;clear hrow hnd;go_wp2_with fail;refine bodyPost_ret (v:=.agg #[.int .i64 47,.int .i64 pl,.string {data:=#[]},.string {data:=#[]},.int .i64 na,.int .i64 nb,.int .i64 nc,.int .i64 nd,.slice (some ⟨mB,0,none⟩) (n::l).length ck]) (ai rfl _ _ w.heap.size 25 _ _ _ rfl (aJ hres _ _ _ _ _ _ _ _ _) Tryz.underlying25 rfl (by kernel_rfl)) rfl ?_;have hbl:=ay (W:=W30) (aa w.heap.size) (.int .i64 47) (.int .i64 pl) (.string {data:=#[]}) (.string {data:=#[]}) (.int .i64 na) (.int .i64 nb) (.int .i64 nc) (.int .i64 nd) (.slice (some ⟨mB,0,none⟩) (n::l).length ck);rw [HE.o];exact ⟨⟨_,rfl,_,rfl,(fR.o.keeps (aN (C:=fun b=>b≤w.heap.size∨b=W6.heap.size) (.inl (aa _)) _ _ _ _ _ _ _ _ _)).mono (fun b hb'=>.inl (Nat.le_of_lt hb'))⟩,H.o.above wU hbl,dL.over hbl⟩
theorem dm.two {C:Nat→Prop} {W W6:World} {base:Nat} {n x:Nd} {cs rP:List Value} (hn:cK (fun b=>C b∨b=W.heap.size) W6 n cs) (hx:cK (fun b=>C b∨b=W.heap.size) W6 x rP) (hW:W6=W.alloc (.cells [cs,rP].flatten.toArray 25)) (hb:base≤W.heap.size) (hC:¬C W.heap.size):
 dm C W6 base W.heap.size 2 2 [n,x] [cs,rP]:=by
 have h1:=hn.len;have h2:=hx.len
 have RH:[cs,rP].flatten.length=18:=by
  show (cs++(rP++[])).length=18;rw [dH,aw];omega
 have hrow:W6.heap[W.heap.size]? =some (.cells [cs,rP].flatten.toArray 25 (0,0)):=by rw [hW];exact heap_alloc_new W _
 refine ⟨⟨RH,.inr ⟨W.heap.size,2,_,rfl,hb,hrow,aa _,by decide,?_,?_⟩⟩,rfl,rfl,fun i hi hi'=>?_,hC⟩
 ·rw [List.size_toArray,RH]
 ·rw [List.toList_toArray];exact List.take_of_length_le (by rw [RH];decide)
 ·match i,hi,hi' with
  |0,_,_=>exact hn
  |1,_,_=>exact hx
  |i+2,hi,_=>exact absurd hi (by simp)
theorem wF {C:Nat→Prop} {p:PS} {w Y:World} {g k k0 gk n c:Nat} {kd pl xa xb xc xd:Int} {ks l:List Nd} {bH:List (List Value)} {v:Value} (hC1:∀b,b≤w.heap.size∨b=g→C b) (hC2:∀b,C b→b<Y.heap.size) (H:bQ p w k0) (hg:w.heap.size<g) (ha:bQ p Y k) (dL:ah (fun c=>c=p.b) w Y) (hres:Row Y w.heap.size 25 cG)
 (hrow:Row Y g 25 (aB kd pl [] [] xa xb xc xd (.slice none 0 0)).toArray) (hk:dm C Y (w.heap.size+1) gk n c ks bH) (hn:n≤1000) (hw:Sp C Y gk l v):
 ∃gk' c' W',(Builtin.append_ #[23,23] 23 #[.slice (some ⟨gk,0,none⟩) n c,v]).run Tryz.prog Y=.ok (.slice (some ⟨gk',0,none⟩) (ks++l).length c') W'∧
  W'.cell? ⟨g,8,none⟩=some (.slice none 0 0)∧W'.frozen? ⟨g,8,none⟩=false∧
  cU p w g (W'.setCell ⟨g,8,none⟩ (.slice (some ⟨gk',0,none⟩) (ks++l).length c')) (.mk kd pl [] [] xa xb xc xd (ks++l)) (aB kd pl [] [] xa xb xc xd (.slice (some ⟨gk',0,none⟩) (ks++l).length c')) k∧
  cK C (W'.setCell ⟨g,8,none⟩ (.slice (some ⟨gk',0,none⟩) (ks++l).length c')) (.mk kd pl [] [] xa xb xc xd (ks++l)) (aB kd pl [] [] xa xb xc xd (.slice (some ⟨gk',0,none⟩) (ks++l).length c'))∧
  Y.grownBy W' (some gk):=by
 have Sq:=hk.num
 have fin:∀{W':World} {gk n c:Nat} {ks:List Nd} {bH:List (List Value)},bQ p W' k→ah (fun c=>c=p.b) w W'→Row W' w.heap.size 25 cG→Row W' g 25 (aB kd pl [] [] xa xb xc xd (.slice none 0 0)).toArray→dm C W' (w.heap.size+1) gk n c ks bH→
  cU p w g (W'.setCell ⟨g,8,none⟩ (.slice (some ⟨gk,0,none⟩) ks.length c)) (.mk kd pl [] [] xa xb xc xd ks) (aB kd pl [] [] xa xb xc xd (.slice (some ⟨gk,0,none⟩) ks.length c)) k∧cK C (W'.setCell ⟨g,8,none⟩ (.slice (some ⟨gk,0,none⟩) ks.length c)) (.mk kd pl [] [] xa xb xc xd ks) (aB kd pl [] [] xa xb xc xd (.slice (some ⟨gk,0,none⟩) ks.length c)):=by
  intro W' gk n c ks bH ha dL hres hrow hk;have e:=hk.num;subst e;have QY:Below w.heap.size W' (W'.setCell ⟨g,8,none⟩ (.slice (some ⟨gk,0,none⟩) ks.length c)):=(af _ W').setCell (p:=⟨g,8,none⟩) (Nat.le_of_lt hg) _;have hk2:ah C W' (W'.setCell ⟨g,8,none⟩ (.slice (some ⟨gk,0,none⟩) ks.length c)):=(ah.refl _ W').set (.inl (hC1 g (.inr rfl))) 8 _;have h2:=(hk.keep hk2 (fun b hb=>hb)).node kd pl xa xb xc xd [] [];exact ⟨⟨H.above ha QY,dL.over QY,hres.off (by omega) _ _,hrow.bU 8 _,h2.mono hC1⟩,h2⟩
 rcases hw with ⟨rfl,rfl⟩|⟨y,gs,cs,rfl,rfl,hrs,hny⟩
 ·obtain ⟨iN,hiN,hz⟩:=Option.map_eq_some_iff.1 I0;obtain ⟨f1,f2⟩:=fin ha dL hres hrow hk;refine ⟨gk,c,Y,?_,hrow.cell 8,hrow.frozen 8,?_,?_,⟨rfl,rfl,rfl,aa _,fun _ _ _=>rfl⟩⟩
  ·rw [dH,Sq];exact run_append_owned_none Y (w.heap.size+1) 23 23 25 iN 9 Tryz.underlying23 hiN _ n _ hk.own
  ·rw [dH];exact f1
  ·rw [dH];exact f2
 ·have hb0:=hk.cur.1;have hne:g≠gk:=fun e=>hk.not (hC1 gk (.inr e.symm));obtain ⟨gk',c',W',gQ,iI,hgr⟩:=hk.app hny hrs (by have:=hres.lt;omega) hC2 (by omega)
  have hB:Below (w.heap.size+1) Y W':=⟨hgr.os,hgr.tape,hgr.output,hgr.size,fun b hb=>hgr.block b (cJ hb (by have:=hres.lt;omega)) (by intro e;cases e;omega)⟩
  have hB':Below w.heap.size Y W':=⟨hB.os,hB.tape,hB.output,hB.size,fun b hb=>hB.block b (Nat.lt_succ_of_lt hb)⟩
  have hrow':=hrow.grown hgr (fun e=>hne (au e));obtain ⟨f1,f2⟩:=fin (H.above ha hB') (dL.over hB') (hres.below hB (Nat.lt_succ_self _)) hrow' iI;refine ⟨gk',c',W',?_,hrow'.cell 8,hrow'.frozen 8,f1,f2,hgr⟩;rw [aw,Sq];exact gQ
theorem K5 {p:PS} {w W Y Ya:World} {g3 g5 k k' B:Nat} {n x:Nd} {cs rP:List Value} {kd pl xa xb xc xd:Int} {l:List Nd} {v:Value} (hb:p.b<w.heap.size) (h3:w.heap.size<g3) (h5:w.heap.size<g5) (h:kg p w g3 g5 W n cs kd pl xa xb xc xd k) (hv:WhV B W l v) (hB:w.heap.size<B∧g3<B∧g5<B)
 (hY:bQ p Y k') (hk:ah (fun c=>c=p.b) W Y) (hx:cK (fun b=>b<W.heap.size) Y x rP) (Gc:Ya=Y.alloc (.cells [cs,rP].flatten.toArray 25)):
 kg p w g3 g5 Ya n cs kd pl xa xb xc xd k'∧dm (fun b=>(b≤w.heap.size∨b=g5)∨b=g3) Ya (w.heap.size+1) Y.heap.size 2 2 [n,x] [cs,rP]∧Sp (fun b=>(b≤w.heap.size∨b=g5)∨b=g3) Ya Y.heap.size l v:=by
 have hz:=h.res.lt;have wZ:=h.js.lt;have hz3:=h.iV.lt;have hs:=hk.size;have ey:=h.keep hb h3 h5 hY hk
 have bd:Below Y.heap.size Y Ya:=by rw [Gc];exact (af _ _).alloc (aa _) _
 have hn:=(ey.nd.ge bd).mono (C':=fun b=>((b≤w.heap.size∨b=g5)∨b=g3)∨b=Y.heap.size) (fun b hb=>by
  rcases hb with hb|rfl
  ·exact .inl hb
  ·exact .inr (aa _))
 have hx2:=(hx.ge bd).mono (C':=fun b=>((b≤w.heap.size∨b=g5)∨b=g3)∨b=Y.heap.size) (fun b hb=>by
  rcases hb with ((hb|rfl)|rfl)|rfl
  ·exact .inl (by show b<W.heap.size;omega)
  ·exact .inl wZ
  ·exact .inl hz3
  ·exact .inr (aa _))
 refine ⟨ey.keep hb h3 h5 (hY.below bd) (ah.of_below bd (aa _)),dm.two hn hx2 Gc (by omega) (by rintro ((h|h)|h)<;>omega),?_⟩
 rcases hv with hv|⟨c,gs,cs',e1,e2,hgs,hr,hc⟩
 ·exact .inl hv
 ·have dL:∀b,(fun c=>c=p.b) b→(fun b=>b<B∨b=gs) b:=fun b hb'=>.inl (by have:b=p.b:=hb';show b<B;omega);have hr2:=hr.keep hk (by show¬gs=p.b;omega)
  exact .inr ⟨c,gs,cs',e1,e2,hr2.below bd hr2.lt,((hc.keeps (hk.mono dL)).ge bd).mono (fun b hb=>by
   rcases hb with ((hb|rfl)|rfl)|rfl
   ·exact .inl (.inl (by omega))
   ·exact .inl (.inl hB.2.2)
   ·exact .inl (.inl hB.2.1)
   ·exact .inr (aa _))⟩
theorem K6 {p:PS} {w W:World} {g3 g5 k k0 A':Nat} {n:Nd} {kd a0 xa xb xc xd:Int} {nm vl:List UInt8} {s:Value} {cs:List Value} (H:bQ p w k0) (h3:w.heap.size<g3) (h:cU p w g5 W n (aB kd a0 nm vl xa xb xc xd s) k) (hr:Row W g3 25 cs.toArray) (h9:cs.length=9)
 (hn:cK (fun b=>(b≤w.heap.size∨b=g5)∨b=g3) W n (aB kd a0 nm vl xa xb xc xd s)):
 cU p w g3 (kH W g3 (.int .i64 kd) (.int .i64 a0) (.string (ag nm)) (.string (ag vl)) (.int .i64 xa) (.int .i64 xb) (.int .i64 xc) (.int .i64 xd) s) n (aB kd a0 nm vl xa xb xc xd s) k:=by
 have WV:=ay (W:=W) (Nat.le_of_lt h3) (.int .i64 kd) (.int .i64 a0) (.string (ag nm)) (.string (ag vl)) (.int .i64 xa) (.int .i64 xb) (.int .i64 xc) (.int .i64 xd) s;have hbG:=ay (W:=W) (aa g3) (.int .i64 kd) (.int .i64 a0) (.string (ag nm)) (.string (ag vl)) (.int .i64 xa) (.int .i64 xb) (.int .i64 xc) (.int .i64 xd) s;have UM:=aN (C:=fun b=>(b≤w.heap.size∨b=g5)∨b=g3) (W:=W) (.inr rfl) (.int .i64 kd) (.int .i64 a0) (.string (ag nm)) (.string (ag vl)) (.int .i64 xa) (.int .i64 xb) (.int .i64 xc) (.int .i64 xd) s
 obtain ⟨v0,v1,v2,v3,v4,v5,v6,v7,v8,rfl⟩:∃v0 v1 v2 v3 v4 v5 v6 v7 v8,cs=[v0,v1,v2,v3,v4,v5,v6,v7,v8]:=by
  match cs,h9 with
  |[v0,v1,v2,v3,v4,v5,v6,v7,v8],_=>exact ⟨_,_,_,_,_,_,_,_,_,rfl⟩
 exact ⟨H.above h.at_ WV,h.keeps.over WV,h.res.below hbG h3,aJ hr _ _ _ _ _ _ _ _ _,(hn.keeps UM).mono (fun b hb=>by
  rcases hb with hb|hb
  ·exact .inl (.inl hb)
  ·exact .inr hb)⟩
theorem Dn (p:PS) (ko:wR p) (F:Nat) (pat:Nat→PR Nd) (hq:cY p 25 pat F) (hpg:Prog (im p.L p.en (fq p) (cX p.L p.en (fq p)) pat)) (hpw:Prog (dW p.L (cX p.L p.en (fq p)))) (hpd:Prog (gh p)):cY p 43 (ES p.L p.en (fq p) (cX p.L p.en (fq p)) pat) (F+1):=by
 intro k w hF h;have hbz:p.b<w.heap.size:=h.row.lt;have hb0:Below w.heap.size w (w.alloc (.cells cG 25)):=(af _ _).alloc (aa _) _;have iX:Row (w.alloc (.cells cG 25)) w.heap.size 25 cG:=Row.new _ _ _;have PL:=hide (fun (k:Nat) (W:World) (h:bQ p W k)=>gD p k W h);have AC:=hide (fun (k:Nat) (wd:List UInt8) (W:World) (h:bQ p W k)=>eW p k wd W h);have DL:=hide (fun (k:Nat) (W:World) (h:bQ p W k)=>BM p k W h);have WH:=hide (fun (k:Nat) (W:World) (h:bQ p W k)=>BN p ko k W h);have EL:=hide (fun (k':Nat) (W:World) (hk:k≤k') (h:bQ p W k')=>wE p ko F pat hq k' W (by omega) h);have X:=hide (wE p ko F pat hq k _ hF (h.below hb0));have H:=hide h;have mA:=ae (tZ p w (w.alloc (.cells cG 25)) k) (⟨h.below hb0,ah.of_below hb0 (aa _),iX⟩)
 obtain ⟨cond,OC⟩:∃c,cX p.L p.en (fq p)=c:=⟨_,rfl⟩
 rw [OC] at X WH EL hpg hpw⊢;have EP:=hide hpg;have WP:=hide hpw;have DP:=hide hpd
 obtain ⟨RR,lM⟩:∃RR,ES p.L p.en (fq p) cond pat k=RR:=⟨_,rfl⟩
 rw [lM];have nt:=ae (RR=(im p.L p.en (fq p) cond pat k).bind fun n k1=>kJ p.L p.en (fq p) cond pat (p.L.length+1) n k1) lM.symm;clear hq h hb0 iX lM OC hpg hpw hpd;go_enter Tryz.func43,Tryz.ntmps43
 cases hx:im p.L p.en (fq p) cond pat k with
 |err a er=>
  rw [hx] at X;have HE:=ae (RR=.err a er) (by rw [nt.o,hx];rfl);clear hx;go_wp2_with fail;refine X.o.mono ?_;rintro e qJ ⟨rfl,cD⟩;go_wp2;exact ⟨rfl,by rw [HE.o];exact ⟨rfl,mA.o.keeps.trans cD⟩⟩
 |ok n1 k1=>
  rw [hx] at X;have QZ:=EP.o _ _ _ hx;have oz:=ae (kJ p.L p.en (fq p) cond pat (p.L.length+1) n1 k1=RR) (by rw [nt.o,hx];rfl);clear hx nt;go_wp2_with fail;refine X.o.mono ?_;rintro e w3 ⟨⟨v,rfl,cs,rfl,hnd⟩,h3,hk3⟩;have hr3:Row w3 w.heap.size 25 cG:=mA.o.res.keep hk3 (by show¬w.heap.size=p.b;omega);have hg:w.heap.size<w3.heap.size:=hr3.lt;have nL:=cU.new h3 (mA.o.keeps.trans hk3) hr3 hnd mA.o.lt;obtain ⟨kd,a0,nm,vl,xa,xb,xc,xd,A,len,cap,rfl⟩:=hnd.nine;generalize lJ:w3.alloc (.cells (aB kd a0 nm vl xa xb xc xd (.slice A len cap)).toArray 25)=W4 at nL;have De:=hide nL;have nT:w3.alloc (.cells #[.int .i64 kd,.int .i64 a0,.string (ag nm),.string (ag vl),.int .i64 xa,.int .i64 xb,.int .i64 xc,.int .i64 xd,.slice A len cap] 25)=W4:=lJ;clear h3 hk3 hr3 hnd nL lJ;unfold aB;go_wp2_with fail;clear nT
  go_loopw [] (fun W=>∃n cs k2 m,cU p w w3.heap.size W n cs k2∧kJ p.L p.en (fq p) cond pat m n k2=RR∧p.L.length<m+k2∧k≤k2) (fun W=>p.L.length+1-placeOf p W)
  case atStart=>exact ⟨_,_,_,_,De.o,oz.o,by omega,QZ⟩
  case round=>
   obtain ⟨n,cs,k2,m,hat,hRm,hmk,hkk⟩:=hrel
   obtain ⟨m',rfl⟩:∃m',m=m'+1:=⟨m-1,by have:=hat.at_.le;omega⟩
   have UO:=hide hat;have HRm:=hide hRm;have hk2:=hat.at_.le;obtain ⟨kd,a0,nm,vl,xa,xb,xc,xd,A,len,cap,rfl⟩:=hat.nd.nine;have Xq:=hide (PL.o k2 wr hat.at_);generalize hpl:eO p.L p.en k2=pl at Xq;have Gz:=hide hpl;clear hpl hat hRm;go_wp2_with fail;refine Xq.o.mono ?_;rintro e W5 ⟨rfl,eG⟩;have zo:=hide (UO.o.below hbz hg eG);clear eG;have KZ:=hide (AC.o k2 [45,62] W5 zo.o.at_)
   cases hJ:b_ p.L k2 [45,62] with
   |false=>
    rw [hJ] at KZ;have HE:=ae (RR=.ok n k2) (by rw [←HRm.o];unfold kJ;rw [if_neg (show¬b_ p.L k2 ly=true from by rw [show b_ p.L k2 ly=false from hJ];decide)]);clear hJ;go_wp2_with fail;refine KZ.o.mono ?_;rintro e W6 ⟨rfl,h6,ki⟩;have Gw:=hide (zo.o.keep hbz hg (show bQ p W6 k2 from h6) ki);clear h6 ki;obtain ⟨wU,dL,hres,hrow,hnd⟩:=Gw.o;obtain ⟨z0,z1,z2,z3,z4,z5,z6,z7,z8⟩:=ak hrow;obtain ⟨y0,y1,y2,y3,y4,y5,y6,y7,y8⟩:=ak hres;obtain ⟨M4,M5,M6,M7,M8,M9,M_,Na,Nb⟩:=aU hres;have fR:=hide hnd;clear hrow hnd;go_wp2_with fail;refine bodyPost_ret (v:=.agg #[.int .i64 kd,.int .i64 a0,.string (ag nm),.string (ag vl),.int .i64 xa,.int .i64 xb,.int .i64 xc,.int .i64 xd,.slice A len cap]) (ai rfl _ _ w.heap.size 25 _ _ _ rfl (aJ hres _ _ _ _ _ _ _ _ _) Tryz.underlying25 rfl (by kernel_rfl)) rfl ?_;have hbl:=ay (W:=W6) (aa w.heap.size) (.int .i64 kd) (.int .i64 a0) (.string (ag nm)) (.string (ag vl)) (.int .i64 xa) (.int .i64 xb) (.int .i64 xc) (.int .i64 xd) (.slice A len cap);rw [HE.o];exact ⟨⟨_,rfl,_,rfl,(fR.o.keeps (aN (C:=fun b=>b≤w.heap.size∨b=w3.heap.size) (.inl (aa _)) _ _ _ _ _ _ _ _ _)).mono (fun b hb'=>.inl (Nat.le_of_lt hb'))⟩,H.o.above wU hbl,dL.over hbl⟩
   |true=>
    rw [hJ] at KZ
    have PH:=ae (RR=(gh p (k2+1)).bind fun ab k3=>(dW p.L cond k3).bind fun l k4=>(im p.L p.en (fq p) cond pat k4).bind fun x k5=>kJ p.L p.en (fq p) cond pat m' (.mk 45 pl [] [] ab.1 ab.2 0 0 (n::x::l)) k5) (by
     rw [←HRm.o]
     conv=>lhs;unfold kJ
     rw [if_pos (show b_ p.L k2 ly=true from hJ),zB,Gz.o])
    clear hJ;go_wp2_with fail;refine KZ.o.mono ?_;rintro e W6 ⟨rfl,h6,ki⟩;have FN:=zo.o.keep hbz hg h6 ki
    have Dk:w3.heap.size≠W6.heap.size:=by have:=FN.row.lt;omega
    have lI:w.heap.size<W6.heap.size:=FN.res.lt;generalize Da:W6.alloc (.cells (aB 45 pl [] [] 0 0 0 0 (.slice none 0 0)).toArray 25)=W7;have Z4:=hide (kg.new FN hbz 45 pl Da.symm);have HW7:=ae (W6.alloc (.cells #[.int .i64 45,.int .i64 pl,.string {data:=#[]},.string {data:=#[]},.int .i64 0,.int .i64 0,.int .i64 0,.int .i64 0,.slice none 0 0] 25)=W7) Da;clear h6 ki FN Da;have X1:=hide (DL.o (k2+1) W7 Z4.o.at_)
    cases hD:gh p (k2+1) with
    |err a er=>
     rw [hD] at X1;have HE:=ae (RR=.err a er) (by rw [PH.o,show gh p (k2+1)=.err a er from hD];rfl);clear hD;go_wp2_with fail;rw [HW7.o];refine X1.o.mono ?_;rintro e qJ ⟨rfl,cD⟩;go_wp2;exact ⟨rfl,by rw [HE.o];exact ⟨rfl,Z4.o.keeps.trans cD⟩⟩
    |ok cd k3=>
     rw [hD] at X1;have ur:=ae (RR=(dW p.L cond k3).bind fun l k4=>(im p.L p.en (fq p) cond pat k4).bind fun x k5=>kJ p.L p.en (fq p) cond pat m' (.mk 45 pl [] [] cd.1 cd.2 0 0 (n::x::l)) k5) (by rw [PH.o,show gh p (k2+1)=.ok cd k3 from hD];rfl);have Fu:=DP.o _ _ _ hD;clear hD PH;go_wp2_with fail;rw [HW7.o];refine X1.o.mono ?_;rintro e W8 ⟨⟨v,rfl,rfl⟩,VD,Ss⟩;have Dl:=Z4.o.keep hbz hg lI VD Ss;clear VD Ss;obtain ⟨na,nb⟩:=cd;have ac6:W8.cell? ⟨W6.heap.size,4,none⟩=some (.int .i64 0):=Dl.js.cell 4;have abI:=Dl.js.frozen 4;have Dm:=Dl.QA H.o lI Dk na;generalize Z5:W8.setCell ⟨W6.heap.size,4,none⟩ (.int .i64 na)=W9 at Dm;have ad1:W9.cell? ⟨W6.heap.size,5,none⟩=some (.int .i64 0):=Dm.js.cell 5;have adp:=Dm.js.frozen 5;have BP:=Dm.ML H.o lI Dk nb;generalize abL:W9.setCell ⟨W6.heap.size,5,none⟩ (.int .i64 nb)=Ah at BP;have Aw:=hide BP;clear Dl Dm BP;have X2:=hide (WH.o k3 Ah Aw.o.at_)
     cases hD:dW p.L cond k3 with
     |err a er=>
      rw [hD] at X2;have HE:=ae (RR=.err a er) (by rw [ur.o,hD];rfl);clear hD;go_wp2_with fail;refine X2.o.mono ?_;rintro e qJ ⟨rfl,cD⟩;go_wp2;exact ⟨rfl,by rw [HE.o];exact ⟨rfl,Aw.o.keeps.trans cD⟩⟩
     |ok l k4=>
      rw [hD] at X2;have UB:=ae (RR=(im p.L p.en (fq p) cond pat k4).bind fun x k5=>kJ p.L p.en (fq p) cond pat m' (.mk 45 pl [] [] na nb 0 0 (n::x::l)) k5) (by rw [ur.o,hD];rfl);have Ra:=WP.o _ _ _ hD;clear hD ur;go_wp2_with fail;refine X2.o.mono ?_;rintro e Ai ⟨⟨v,rfl,hv⟩,h11,abM⟩;have uh:=hide (Aw.o.keep hbz hg lI h11 abM);have HV:=hide hv
      have abN:w.heap.size<Ah.heap.size∧w3.heap.size<Ah.heap.size∧W6.heap.size<Ah.heap.size:=⟨Aw.o.res.lt,Aw.o.iV.lt,Aw.o.js.lt⟩
      clear h11 abM hv Z5 abL;obtain ⟨d0,d1,d2,d3,d4,d5,d6,d7,d8⟩:=ak uh.o.iV;have CX:=hide (EL.o k4 Ai.drew (by omega) (uh.o.at_.below ((af _ Ai).drew)));go_wp2_with fail
      cases hy:im p.L p.en (fq p) cond pat k4 with
      |err a er=>
       rw [hy] at CX
       have Ak:=hide (fun (W:World) (hk:ah (fun c=>c=p.b) Ai.drew W)=>show cQ p w (qI w.heap.size) RR (.panicked [{v:=ot a er,recovered:=false}]) W from by
        rw [UB.o,hy];exact ⟨rfl,(uh.o.keeps.drew).trans hk⟩)
       clear hy;refine wp_region_any (by kernel_rfl) ?_;change wpAny _ _ _ _ _ _ _ (World.drew _);refine wpAny_take (i:=1) (v:=?_) rfl (by kernel_rfl) (by kernel_rfl) (by kernel_rfl) (fun _ _ _ h=>h) (Or.inl ⟨by rfl,?_⟩) ?_;rotate_left
       ·intro w;go_simp;with_reducible rfl
       refine wpAny_take (i:=4) (v:=?_) rfl (by kernel_rfl) (by kernel_rfl) (by kernel_rfl) (fun _ _ _ h=>h) (Or.inl ⟨by rfl,?_⟩) ?_;rotate_left
       ·intro w;go_simp;with_reducible rfl
       refine oD (i:=0) (j:=2) (by kernel_rfl) rfl rfl (fun K hK=>?_) fun K hK=>?_
       ·go_simp;refine hK _ _ ?_;clear hK K;refine bK (i:=2) (by kernel_rfl) rfl fun K hK=>?_;go_simp;refine CX.o.mono ?_;rintro e w5 ⟨rfl,cC⟩;exact ⟨rfl,Ak.o _ cC⟩
       ·go_simp;refine CX.o.mono ?_;rintro e w5 ⟨rfl,cC⟩;exact ⟨rfl,Ak.o _ cC⟩
      |ok x k5=>
       rw [hy] at CX;have ad2:=EP.o _ _ _ hy;have WN:=ae (kJ p.L p.en (fq p) cond pat m' (.mk 45 pl [] [] na nb 0 0 (n::x::l)) k5=RR) (by rw [UB.o,hy];rfl);clear hy UB;refine wp_region_any (by kernel_rfl) ?_;change wpAny _ _ _ _ _ _ _ (World.drew _);refine wpAny_take (i:=1) (v:=?_) rfl (by kernel_rfl) (by kernel_rfl) (by kernel_rfl) (fun _ _ _ h=>h) (Or.inl ⟨by rfl,?_⟩) ?_;rotate_left
       ·intro w;go_simp;with_reducible rfl
       refine wpAny_take (i:=4) (v:=?_) rfl (by kernel_rfl) (by kernel_rfl) (by kernel_rfl) (fun _ _ _ h=>h) (Or.inl ⟨by rfl,?_⟩) ?_;rotate_left
       ·intro w;go_simp;with_reducible rfl
       refine oD (i:=0) (j:=2) (by kernel_rfl) rfl rfl (fun K hK=>?_) fun K hK=>?_
       ·go_simp;refine hK _ _ ?_;clear hK K;refine bK (i:=2) (by kernel_rfl) rfl fun K hK=>?_;go_simp;refine CX.o.mono ?_;rintro e Y ⟨⟨vx,rfl,rP,rfl,jC⟩,hY,ij⟩;refine hK _ _ ?_;clear hK K
        have qU:ah (fun c=>c=p.b) Ai Y:=⟨ij.os,ij.tape,ij.output,ij.size,ij.block⟩
        obtain ⟨yk,y0,yn,yv,ya,yb,yc,yd,yA,cZ,cv,rfl⟩:=jC.nine;have km:=jC;unfold aB;refine bK (i:=3) (by kernel_rfl) rfl fun K hK=>?_;go_simp;refine hK _ _ ?_;clear hK K;generalize Gc:World.alloc Y _=Ya;obtain ⟨eY,kY,vY⟩:=K5 hbz hg lI uh.o HV.o abN hY qU km Gc.symm;have r3:=eY.iV
        obtain ⟨mB,ck,Yb,gQ,m8,Fv,hlb,WJ,hgr⟩:=wF (C:=fun b=>(b≤w.heap.size∨b=W6.heap.size)∨b=w3.heap.size) (fun b hb=>.inl hb) (fun b hb=>by
         have e1:=eY.res.lt;have e2:=eY.iV.lt;have e3:=eY.js.lt
         rcases hb with (hb|rfl)|rfl<;>omega) H.o lI eY.at_ eY.keeps eY.res eY.js kY (by decide) vY
        have NF:=(r3.grown hgr (fun e=>kY.not (.inr (au e).symm))).off Dk 8 (.slice (some ⟨mB,0,none⟩) (n::x::l).length ck);have fY:(Builtin.append_ #[23,23] 23 #[.slice (some ⟨Y.heap.size,0,none⟩) 2 2,v]).run Tryz.prog Ya=.ok (.slice (some ⟨mB,0,none⟩) (n::x::l).length ck) Yb:=gQ;have lG:cU p w W6.heap.size (Yb.setCell ⟨W6.heap.size,8,none⟩ (.slice (some ⟨mB,0,none⟩) (n::x::l).length ck)) (.mk 45 pl [] [] na nb 0 0 (n::x::l)) (aB 45 pl [] [] na nb 0 0 (.slice (some ⟨mB,0,none⟩) (n::x::l).length ck)) k5:=hlb;have Ju:cK (fun b=>(b≤w.heap.size∨b=W6.heap.size)∨b=w3.heap.size) (Yb.setCell ⟨W6.heap.size,8,none⟩ (.slice (some ⟨mB,0,none⟩) (n::x::l).length ck)) (.mk 45 pl [] [] na nb 0 0 (n::x::l)) (aB 45 pl [] [] na nb 0 0 (.slice (some ⟨mB,0,none⟩) (n::x::l).length ck)):=WJ;generalize OD:Yb.setCell ⟨W6.heap.size,8,none⟩ (.slice (some ⟨mB,0,none⟩) (n::x::l).length ck)=Yc at lG Ju NF;have uq:=hide NF;have GD:=hide lG;have HLd:=hide (K6 (A':=0) H.o hg lG NF rfl Ju);have r5:=lG.row;obtain ⟨z0,z1,z2,z3,z4,z5,z6,z7,z8⟩:=ak r5;obtain ⟨o0,o1,o2,o3,o4,o5,o6,o7,o8⟩:=ak NF;obtain ⟨fo0,fo1,fo2,fo3,fo4,fo5,fo6,fo7,fo8⟩:=aU NF;clear gQ hlb lG WJ Ju eY kY vY r3 NF r5 hgr hY qU ij Gc jC km;generalize hlen:(n::x::l).length=We at*;refine bK (i:=5) (by kernel_rfl) rfl fun K hK=>?_;refine dn (by kernel_rfl) (.tmp 29) (.tmp 30) 23 rfl rfl rfl fY ?_;refine hK _ _ ?_;clear hK K fY;refine bK (i:=6) (by kernel_rfl) rfl fun K hK=>?_;go_simp;refine hK _ _ ?_;clear hK K;refine bK (i:=7) (by kernel_rfl) rfl fun K hK=>?_;go_simp;refine hK _ _ ?_;clear hK K;refine wpAny_done (by kernel_rfl) ?_ _;clear m8 Fv OD;go_wp2;go_roundw
        case rel=>exact ⟨_,_,k5,m',HLd.o,WN.o,by omega,by omega⟩
        case measure=>exact Nat.lt_of_le_of_lt (Nat.le_of_eq (congrArg (fun z=>p.L.length+1-z) (di HLd.o.at_))) (by rw [di UO.o.at_];omega)
       ·go_simp;refine CX.o.mono ?_;rintro e Y ⟨⟨vx,rfl,rP,rfl,jC⟩,hY,ij⟩;refine hK _ _ ?_;clear hK K
        have qU:ah (fun c=>c=p.b) Ai Y:=⟨ij.os,ij.tape,ij.output,ij.size,ij.block⟩
        obtain ⟨yk,y0,yn,yv,ya,yb,yc,yd,yA,cZ,cv,rfl⟩:=jC.nine;have km:=jC;unfold aB;have c0:Y.cell? ⟨w3.heap.size,0,none⟩=some (.int .i64 kd):=(uh.o.keep hbz hg lI hY qU).iV.cell 0;have c1:Y.cell? ⟨w3.heap.size,1,none⟩=some (.int .i64 a0):=(uh.o.keep hbz hg lI hY qU).iV.cell 1;have c2:Y.cell? ⟨w3.heap.size,2,none⟩=some (.string (ag nm)):=(uh.o.keep hbz hg lI hY qU).iV.cell 2;have c3:Y.cell? ⟨w3.heap.size,3,none⟩=some (.string (ag vl)):=(uh.o.keep hbz hg lI hY qU).iV.cell 3;have c4:Y.cell? ⟨w3.heap.size,4,none⟩=some (.int .i64 xa):=(uh.o.keep hbz hg lI hY qU).iV.cell 4;have c5:Y.cell? ⟨w3.heap.size,5,none⟩=some (.int .i64 xb):=(uh.o.keep hbz hg lI hY qU).iV.cell 5;have c6:Y.cell? ⟨w3.heap.size,6,none⟩=some (.int .i64 xc):=(uh.o.keep hbz hg lI hY qU).iV.cell 6;have c7:Y.cell? ⟨w3.heap.size,7,none⟩=some (.int .i64 xd):=(uh.o.keep hbz hg lI hY qU).iV.cell 7;have c8:Y.cell? ⟨w3.heap.size,8,none⟩=some (.slice A len cap):=(uh.o.keep hbz hg lI hY qU).iV.cell 8;refine bK (i:=0) (by kernel_rfl) rfl fun K hK=>?_;go_simp;refine hK _ _ ?_;clear hK K;refine bK (i:=3) (by kernel_rfl) rfl fun K hK=>?_;go_simp;refine hK _ _ ?_;clear hK K;generalize Gc:World.alloc Y _=Ya;obtain ⟨eY,kY,vY⟩:=K5 hbz hg lI uh.o HV.o abN hY qU km Gc.symm;have r3:=eY.iV
        obtain ⟨mB,ck,Yb,gQ,m8,Fv,hlb,WJ,hgr⟩:=wF (C:=fun b=>(b≤w.heap.size∨b=W6.heap.size)∨b=w3.heap.size) (fun b hb=>.inl hb) (fun b hb=>by
         have e1:=eY.res.lt;have e2:=eY.iV.lt;have e3:=eY.js.lt
         rcases hb with (hb|rfl)|rfl<;>omega) H.o lI eY.at_ eY.keeps eY.res eY.js kY (by decide) vY
        have NF:=(r3.grown hgr (fun e=>kY.not (.inr (au e).symm))).off Dk 8 (.slice (some ⟨mB,0,none⟩) (n::x::l).length ck);have fY:(Builtin.append_ #[23,23] 23 #[.slice (some ⟨Y.heap.size,0,none⟩) 2 2,v]).run Tryz.prog Ya=.ok (.slice (some ⟨mB,0,none⟩) (n::x::l).length ck) Yb:=gQ;have lG:cU p w W6.heap.size (Yb.setCell ⟨W6.heap.size,8,none⟩ (.slice (some ⟨mB,0,none⟩) (n::x::l).length ck)) (.mk 45 pl [] [] na nb 0 0 (n::x::l)) (aB 45 pl [] [] na nb 0 0 (.slice (some ⟨mB,0,none⟩) (n::x::l).length ck)) k5:=hlb;have Ju:cK (fun b=>(b≤w.heap.size∨b=W6.heap.size)∨b=w3.heap.size) (Yb.setCell ⟨W6.heap.size,8,none⟩ (.slice (some ⟨mB,0,none⟩) (n::x::l).length ck)) (.mk 45 pl [] [] na nb 0 0 (n::x::l)) (aB 45 pl [] [] na nb 0 0 (.slice (some ⟨mB,0,none⟩) (n::x::l).length ck)):=WJ;generalize OD:Yb.setCell ⟨W6.heap.size,8,none⟩ (.slice (some ⟨mB,0,none⟩) (n::x::l).length ck)=Yc at lG Ju NF;have uq:=hide NF;have GD:=hide lG;have HLd:=hide (K6 (A':=0) H.o hg lG NF rfl Ju);have r5:=lG.row;obtain ⟨z0,z1,z2,z3,z4,z5,z6,z7,z8⟩:=ak r5;obtain ⟨o0,o1,o2,o3,o4,o5,o6,o7,o8⟩:=ak NF;obtain ⟨fo0,fo1,fo2,fo3,fo4,fo5,fo6,fo7,fo8⟩:=aU NF;clear gQ hlb lG WJ Ju eY kY vY r3 NF r5 hgr hY qU ij Gc jC km;generalize hlen:(n::x::l).length=We at*;refine bK (i:=5) (by kernel_rfl) rfl fun K hK=>?_;refine dn (by kernel_rfl) (.tmp 29) (.tmp 30) 23 rfl rfl rfl fY ?_;refine hK _ _ ?_;clear hK K fY;refine bK (i:=6) (by kernel_rfl) rfl fun K hK=>?_;go_simp;refine hK _ _ ?_;clear hK K;refine bK (i:=7) (by kernel_rfl) rfl fun K hK=>?_;go_simp;refine hK _ _ ?_;clear hK K;refine wpAny_done (by kernel_rfl) ?_ _;clear m8 Fv OD;go_wp2;go_roundw
        case rel=>exact ⟨_,_,k5,m',HLd.o,WN.o,by omega,by omega⟩
        case measure=>exact Nat.lt_of_le_of_lt (Nat.le_of_eq (congrArg (fun z=>p.L.length+1-z) (di HLd.o.at_))) (by rw [di UO.o.at_];omega)
end Go.Proofs.YtddoehnkgcbboaaGreatDoor
namespace Go.Proofs.YtddoehnkgcbboaaGreatDoor
open Go.RowKit Go.Shelf
theorem Prog.then {α β:Type} {f:Nat→PR α} {g:α→Nat→PR β} {k:Nat} (hf:Prog f) (hg:∀x,Prog (g x)) (j:Nat) (hj:j≤k):∀x k',(f k).bind g=.ok x k'→j≤k':=by
 intro x k' h
 cases hx:f k with
 |err a e=>rw [hx] at h;cases h
 |ok y k1=>
  rw [hx] at h;have h1:=hf _ _ _ hx;have h2:=hg y _ _ _ h;omega
theorem Prog.seq {α β:Type} {f:Nat→PR α} {g:α→Nat→PR β} (hf:Prog f) (hg:∀x,Prog (g x)):Prog fun k=>(f k).bind g:=fun k x k' h=>Prog.then hf hg k (aa _) x k' h
theorem Prog.ok {α:Type} (x:α):Prog (fun k=>PR.ok x k):=fun k y k' h=>by cases h;exact aa _
theorem Prog.exp {L:List Lx} {en:Int} (wd:List UInt8):Prog (fun k=>av L en k wd):=fun k x k' h=>Jh h
theorem Prog.num {L:List Lx} {en:Int} (most:Int):Prog (fun k=>gN L en k most):=fun k x k' h=>by
 simp only [gN] at h
 split at h
 ·split at h
  ·cases h
  ·cases h;exact Nat.le_succ _
 ·cases h
theorem Prog.time {L:List Lx} {en:Int} {rd:List UInt8→Int×Int}:Prog (fun k=>dE L en rd k):=fun k x k' h=>by
 simp only [dE] at h
 split at h
 ·split at h
  ·cases h;exact Nat.le_succ _
  ·cases h
 ·exact Prog.num 1099511627776 k x k' h
theorem Prog.succ {α:Type} {f:Nat→PR α} (hf:Prog f):Prog (fun k=>f (k+1)):=fun k x k' h=>by
 have:=hf _ _ _ h;omega
theorem Ge (p:PS):Prog (gh p):=
 Prog.seq (Prog.exp _) fun _=>Prog.seq Prog.time fun a=>Prog.seq (Prog.exp _) fun _=>Prog.seq Prog.time fun b=>Prog.seq (Prog.exp _) fun _=>Prog.ok _
theorem Gf (p:PS) (ko:wR p):∀F:Nat,cY p 25 (lO p.L p.en (fq p) F) F
 |0=>.zero
 |F+1=>E1 p (F+1) _ (Dn p ko F _ (Gf p ko F) (nY jF (mV F)) (l_ jF) (Ge p)) (vg jF (mV F))
theorem Sy (p:PS) (ko:wR p) (k:Nat) (W:World) (h:bQ p W k):Calls Tryz.prog 25 #[.pointer (some ⟨p.b,0,none⟩)] W (cQ p W (qI W.heap.size) (Mz p.L p.en (fq p) k)):=
 Gf p ko (p.L.length+1) k W (by omega) h
end Go.Proofs.YtddoehnkgcbboaaGreatDoor
