/- A part of the proof that the last file tells. -/
import Derived.Test.YtddoehnkgcbboaaGreatDoorAgQ
import Derived.Lib.AppendZeros
set_option maxHeartbeats 16000000
set_option maxRecDepth 100000
set_option linter.unusedVariables false
set_option linter.unusedSimpArgs false
namespace Go.Proofs.YtddoehnkgcbboaaGreatDoor
open Go.RowKit Go.Shelf Go.Maps
theorem cK.nine {C:Nat→Prop} {W:World} {n:Nd} {cs:List Value} (h:cK C W n cs):∃kd a0 nm vl xa xb xc xd A len cap,cs=aB kd a0 nm vl xa xb xc xd (.slice A len cap):=by
 cases h;exact ⟨_,_,_,_,_,_,_,_,_,_,_,rfl⟩
theorem dn {P:Program} {w w':World} {ops:Array Oper} {o:Oper} {a:Act} {K:Act→World→Prop} {Q:Exit→Act→World→Prop} {E:Prop} (hw:Region.wanted o (yielded ops a.tmps)=true) (s x:Operand) (t:TypeId)
 (ho:o.op=.call {callee:=.builtin .append,args:=#[s,x],argTypes:=#[t,t]}) {v u r:Value} (hs:a.eval s=v) (hx:a.eval x=u)
 (hr:(Builtin.append_ #[t,t] o.type #[v,u]).run P w=.ok r w') (h:K (a.put o.dst r) w'):
 if Region.wanted o (yielded ops a.tmps)=true then Oper.wp P o a w K Q else E:=by
 rw [if_pos hw];exact Lib.wp_append_run w s x t t ho _ _ hs hx _ _ hr h
theorem C8 (p:PS) (F:Nat) (cond:Nat→PR Nd) (hc:cY p 17 cond F) (hp:Prog cond) (q az:Int) (k:Nat) (w:World) (hF:p.L.length<F+k) (h:bQ p w k):
 Calls Tryz.prog 278 #[.pointer (some ⟨p.b,0,none⟩),.int .i64 q,.int .i64 az] w (cQ p w (qI w.heap.size) (jU p.L p.en (fq p) cond q az k)):=by
 have hbz:p.b<w.heap.size:=h.row.lt;have hb0:Below w.heap.size w (w.alloc (.cells cG 25)):=(af _ _).alloc (aa _) _;have iX:Row (w.alloc (.cells cG 25)) w.heap.size 25 cG:=Row.new _ _ _;have EX:=hide (fun (k:Nat) (wd:List UInt8) (W:World) (h:bQ p W k)=>h_ p k wd W h);have EX0:=hide (h_ p k [40] _ (h.below hb0));have TM:=hide (fun (k:Nat) (W:World) (h:bQ p W k)=>Fs p k W h);have HC:=hide (fun (k':Nat) (W:World) (hk:k≤k') (h:bQ p W k')=>hc k' W (by omega) h);have HPG:=hide hp;have H:=hide h;have mi:=hide hb0;have oF:=hide iX
 obtain ⟨RR,lM⟩:∃RR,jU p.L p.en (fq p) cond q az k=RR:=⟨_,rfl⟩
 have vU:=hide lM;rw [lM];clear hc hp h hb0 iX lM;go_enter Tryz.func278,Tryz.ntmps278
 cases Y0:av p.L p.en k [40] with
 |err a er=>
  rw [Y0] at EX0;have HE:=ae (RR=.err a er) (by rw [←vU.o];unfold jU;rw [show av p.L p.en k aV=.err a er from Y0];rfl);clear Y0;go_wp2_with fail;refine EX0.o.mono ?_;rintro e w1 ⟨rfl,hk1⟩;go_wp2;exact ⟨rfl,by rw [HE.o];exact ⟨rfl,(ah.of_below mi.o (aa _)).trans hk1⟩⟩
 |ok u0 k1=>
  rw [Y0] at EX0
  have QZ:k≤k1:=by
   have h1:av p.L p.en k [40]=.ok u0 k1:=Y0;unfold av at h1
   split at h1
   ·cases h1;exact Nat.le_succ _
   ·cases h1
  have HU:=ae (RR=(cond k1).bind fun x k2=>(av p.L p.en k2 aG).bind fun _ k3=>
   if q=35∨q=36 then (cond k3).bind fun y k4=>(av p.L p.en k4 aG).bind fun _ k5=>nQ p.L p.en (fq p) k5 fun a b k6=>(av p.L p.en k6 aI).bind fun _ k7=>.ok (.mk q az [] [] a b 0 0 [x,y]) k7
   else nQ p.L p.en (fq p) k3 fun a b k6=>(av p.L p.en k6 aI).bind fun _ k7=>.ok (.mk q az [] [] a b 0 0 [x]) k7) (by rw [←vU.o];unfold jU;rw [show av p.L p.en k aV=.ok u0 k1 from Y0];rfl)
  clear Y0 vU;go_wp2_with fail;refine EX0.o.mono ?_;rintro e w1 ⟨⟨v,rfl,rfl⟩,h1,hk1⟩;have jx:=hide (oF.o.keep hk1 (by show¬w.heap.size=p.b;omega));have PC:=hide ((ah.of_below (C:=fun c=>c=p.b) mi.o (aa _)).trans hk1);have hz1:w.heap.size<w1.heap.size:=jx.o.lt;have X:=hide (HC.o k1 w1 QZ h1);clear h1 hk1
  cases hx:cond k1 with
  |err a er=>
   rw [hx] at X;have HE:=ae (RR=.err a er) (by rw [HU.o,hx];rfl);clear hx;go_wp2_with fail;refine X.o.mono ?_;rintro e w3 ⟨rfl,hk3⟩;go_wp2;exact ⟨rfl,by rw [HE.o];exact ⟨rfl,PC.o.trans hk3⟩⟩
  |ok x k2=>
   rw [hx] at X;have Ap:=HPG.o _ _ _ hx
   have oz:=ae (RR=(av p.L p.en k2 aG).bind fun _ k3=>
    if q=35∨q=36 then (cond k3).bind fun y k4=>(av p.L p.en k4 aG).bind fun _ k5=>nQ p.L p.en (fq p) k5 fun a b k6=>(av p.L p.en k6 aI).bind fun _ k7=>.ok (.mk q az [] [] a b 0 0 [x,y]) k7
    else nQ p.L p.en (fq p) k3 fun a b k6=>(av p.L p.en k6 aI).bind fun _ k7=>.ok (.mk q az [] [] a b 0 0 [x]) k7) (by rw [HU.o,hx];rfl)
   clear hx HU;go_wp2_with fail;refine X.o.mono ?_;rintro e w3 ⟨⟨v,rfl,cs,rfl,hnd⟩,h3,hk3⟩;have hr3:Row w3 w.heap.size 25 cG:=jx.o.keep hk3 (by show¬w.heap.size=p.b;omega);have hkk:=PC.o.trans hk3;obtain ⟨kd,a0,nm,vl,xa,xb,xc,xd,A,len,cap,rfl⟩:=hnd.nine;have fR:=hide hnd;generalize lJ:w3.alloc (.cells [aB kd a0 nm vl xa xb xc xd (.slice A len cap)].flatten.toArray 25)=W4
   have s4:W4.heap.size=w3.heap.size+1:=by rw [←lJ,aF]
   generalize tG:W4.alloc (.cells (aB q az [] [] 0 0 0 0 (.slice (some ⟨w3.heap.size,0,none⟩) 1 1)).toArray 25)=W5;have km:=n_.new h3 hkk hr3 fR.o hz1 lJ.symm tG.symm;rw [←s4] at km;have Q_:=hide km;have nT:w3.alloc (.cells #[.int .i64 kd,.int .i64 a0,.string (ag nm),.string (ag vl),.int .i64 xa,.int .i64 xb,.int .i64 xc,.int .i64 xd,.slice A len cap] 25)=W4:=lJ;have C9:W4.alloc (.cells #[.int .i64 q,.int .i64 az,.string {data:=#[]},.string {data:=#[]},.int .i64 0,.int .i64 0,.int .i64 0,.int .i64 0,.slice (some ⟨w3.heap.size,0,none⟩) 1 1] 25)=W5:=tG
   have hg:w.heap.size<W4.heap.size:=by have:=hr3.lt;omega
   have C_:=hide (EX.o k2 [44] W5 Q_.o.at_);clear h3 hk3 hr3 hkk lJ tG hnd km s4;unfold aB
   cases hD:av p.L p.en k2 [44] with
   |err a er=>
    rw [hD] at C_;have HE:=ae (RR=.err a er) (by rw [oz.o,show av p.L p.en k2 aG=.err a er from hD];rfl);clear hD;go_wp2_with fail;refine C_.o.mono ?_;rintro e W6 ⟨rfl,ki⟩;go_wp2;exact ⟨rfl,by rw [HE.o];exact ⟨rfl,Q_.o.keeps.trans ki⟩⟩
   |ok u5 k3=>
    rw [hD] at C_
    have Fu:k2≤k3:=by
     have h1:av p.L p.en k2 [44]=.ok u5 k3:=hD;unfold av at h1
     split at h1
     ·cases h1;exact Nat.le_succ _
     ·cases h1
    have qP:=ae (RR=if q=35∨q=36 then (cond k3).bind fun y k4=>(av p.L p.en k4 aG).bind fun _ k5=>nQ p.L p.en (fq p) k5 fun a b k6=>(av p.L p.en k6 aI).bind fun _ k7=>.ok (.mk q az [] [] a b 0 0 [x,y]) k7
     else nQ p.L p.en (fq p) k3 fun a b k6=>(av p.L p.en k6 aI).bind fun _ k7=>.ok (.mk q az [] [] a b 0 0 [x]) k7) (by rw [oz.o,show av p.L p.en k2 aG=.ok u5 k3 from hD];rfl)
    clear hD oz;go_wp2_with fail;refine C_.o.mono ?_;rintro e W6 ⟨⟨v,rfl,rfl⟩,h6,ki⟩;clear nT C9;have Ow:=hide (Q_.o.keep hbz hg h6 ki);clear h6 ki
    obtain ⟨mb,hmb⟩:∃mb:Bool,mb=decide (q=35∨q=36):=⟨_,rfl⟩
    have Xa:=hide hmb;clear hmb;go_upto_region 4 with fail;go_cut [23] (fun v wx=>v=.bool mb∧wx=W6)
    case first=>
     by_cases ux:q=35
     ·have e35:(q==35)=true:=beq_iff_eq.2 ux;have HMT:=ae (mb=true) (Xa.o.trans (decide_eq_true (.inl ux)));clear ux;go_wp2_with fail;go_meet;exact ⟨by rw [HMT.o],rfl⟩
     ·have e35:(q==35)=false:=aP.2 ux;by_cases zR:q=36
      ·have e36:(q==36)=true:=beq_iff_eq.2 zR;have HMT:=ae (mb=true) (Xa.o.trans (decide_eq_true (.inr zR)));clear ux zR;go_wp2_with fail;go_meet;exact ⟨by rw [HMT.o],rfl⟩
      ·have e36:(q==36)=false:=aP.2 zR;have HMT:=ae (mb=false) (Xa.o.trans (decide_eq_false (fun h=>h.elim ux zR)));clear ux zR;go_wp2_with fail;go_meet;exact ⟨by rw [HMT.o],rfl⟩
    case rest=>
    obtain ⟨rfl,e9⟩:=hcut;subst e9
    obtain ⟨W6,e_⟩:∃x,x=wc:=⟨_,rfl⟩
    subst e_;go_upto_if 23 with fail;go_cut [] (fun wx=>∃(KS:List Nd) (gk ck kk:Nat),Hid (cU p w W4.heap.size wx (.mk q az [] [] 0 0 0 0 KS) (aB q az [] [] 0 0 0 0 (.slice (some ⟨gk,0,none⟩) KS.length ck)) kk)∧Hid (RR=nQ p.L p.en (fq p) kk fun a b k6=>(av p.L p.en k6 aI).bind fun _ k7=>.ok (.mk q az [] [] a b 0 0 KS) k7))
    case first=>
     cases mb with
     |true=>
      have zg:=ae (RR=_) (by rw [qP.o,if_pos (of_decide_eq_true Xa.o.symm)]);clear qP Xa
      have hgp:¬(W4.heap.size=p.b):=by omega
      have c8:W6.cell? ⟨W4.heap.size,8,none⟩=some (.slice (some ⟨w3.heap.size,0,none⟩) 1 1):=Ow.o.row.cell 8;have CX:=hide (HC.o k3 W6.drew (by omega) (Ow.o.at_.below ((af _ W6).drew)));go_upto_region 5 with fail;go_cut [] (fun wx=>∃(y:Nd) (k4 gk ck:Nat) (bH:List (List Value)),Hid (n_ p w W4.heap.size wx q az gk 2 ck [x,y] bH k4)∧Hid (RR=(av p.L p.en k4 aG).bind fun _ k5=>nQ p.L p.en (fq p) k5 fun a b k6=>(av p.L p.en k6 aI).bind fun _ k7=>.ok (.mk q az [] [] a b 0 0 [x,y]) k7))
      case first=>
       cases hy:cond k3 with
       |err a er=>
        rw [hy] at CX
        have Ak:=hide (fun (W:World) (hk:ah (fun c=>c=p.b) W6.drew W)=>show cQ p w (qI w.heap.size) RR (.panicked [{v:=ot a er,recovered:=false}]) W from by
         rw [zg.o,hy];exact ⟨rfl,(Ow.o.keeps.drew).trans hk⟩)
        clear hy;refine wp_region_any (by kernel_rfl) ?_;change wpAny _ _ _ _ _ _ _ (World.drew _);refine wpAny_take (i:=0) (v:=?_) rfl (by kernel_rfl) (by kernel_rfl) (by kernel_rfl) (fun _ _ _ h=>h) (Or.inl ⟨by rfl,?_⟩) ?_;rotate_left
        ·intro w;go_simp;with_reducible rfl
        refine wpAny_take (i:=2) (v:=?_) rfl (by kernel_rfl) (by kernel_rfl) (by kernel_rfl) (fun _ _ _ h=>h) (Or.inl ⟨by rfl,?_⟩) ?_;rotate_left
        ·intro w;go_simp;with_reducible rfl
        refine oD (i:=1) (j:=3) (by kernel_rfl) rfl rfl (fun K hK=>?_) fun K hK=>?_
        ·go_simp;refine hK _ _ ?_;clear hK K;refine bK (i:=3) (by kernel_rfl) rfl fun K hK=>?_;go_simp;refine CX.o.mono ?_;rintro e w5 ⟨rfl,cC⟩;exact ⟨rfl,Ak.o _ cC⟩
        ·go_simp;refine CX.o.mono ?_;rintro e w5 ⟨rfl,cC⟩;exact ⟨rfl,Ak.o _ cC⟩
       |ok y k4=>
        rw [hy] at CX;have Ox:=ae (RR=(av p.L p.en k4 aG).bind fun _ k5=>nQ p.L p.en (fq p) k5 fun a b k6=>(av p.L p.en k6 aI).bind fun _ k7=>.ok (.mk q az [] [] a b 0 0 [x,y]) k7) (by rw [zg.o,hy];rfl);clear hy zg;refine wp_region_any (by kernel_rfl) ?_;change wpAny _ _ _ _ _ _ _ (World.drew _);refine wpAny_take (i:=0) (v:=?_) rfl (by kernel_rfl) (by kernel_rfl) (by kernel_rfl) (fun _ _ _ h=>h) (Or.inl ⟨by rfl,?_⟩) ?_;rotate_left
        ·intro w;go_simp;with_reducible rfl
        refine wpAny_take (i:=2) (v:=?_) rfl (by kernel_rfl) (by kernel_rfl) (by kernel_rfl) (fun _ _ _ h=>h) (Or.inl ⟨by rfl,?_⟩) ?_;rotate_left
        ·intro w;go_simp;with_reducible rfl
        refine oD (i:=1) (j:=3) (by kernel_rfl) rfl rfl (fun K hK=>?_) fun K hK=>?_
        ·go_simp;refine hK _ _ ?_;clear hK K;refine bK (i:=3) (by kernel_rfl) rfl fun K hK=>?_;go_simp;refine CX.o.mono ?_;rintro e w5 ⟨⟨v,rfl,csy,rfl,lD⟩,h5,cC⟩;refine hK _ _ ?_;clear hK K
         have fO:ah (fun c=>c=p.b) W6 w5:=⟨cC.os,cC.tape,cC.output,cC.size,cC.block⟩
         have pK:=Ow.o.keep hbz hg h5 fO;obtain ⟨yk,y0,yn,yv,ya,yb,yc,yd,yA,cZ,cv,rfl⟩:=lD.nine
         have I6:=lD.mono (C':=fun b=>(b≤w.heap.size∨b=W4.heap.size)∨b=w3.heap.size) (fun b hb=>by
          have e1:=Ow.o.row.lt;have e2:=Ow.o.kids.lt;have e3:=Ow.o.res.lt;show b<W6.heap.size
          rcases hb with (hb|rfl)|rfl<;>omega)
         unfold aB;refine bK (i:=4) (by kernel_rfl) rfl fun K hK=>?_;go_simp;refine hK _ _ ?_;clear hK K;generalize Da:World.alloc w5 _=W7
         have b7:Below w5.heap.size w5 W7:=by rw [←Da];exact (af _ _).alloc (aa _) _
         have r7:Row W7 w5.heap.size 25 (aB yk y0 yn yv ya yb yc yd (.slice yA cZ cv)).toArray:=by rw [←Da];exact Row.new _ _ _
         have jI:=pK.keep hbz hg (h5.below b7) (ah.of_below b7 (aa _))
         obtain ⟨gk,ck,W8,gQ,iI,hgr⟩:=jI.kids.app (I6.keeps (ah.of_below b7 (aa _))) r7 (by have:=jI.res.lt;omega) (fun b hb=>by
          have e1:=jI.row.lt;have e3:=jI.res.lt
          rcases hb with hb|rfl<;>omega) (by omega)
         have Db:=jI.row.grown hgr (by intro e;exact jI.kids.not (.inr (au e).symm));have zh:n_ p w W4.heap.size (W8.setCell ⟨W4.heap.size,8,none⟩ (.slice (some ⟨gk,0,none⟩) 2 ck)) q az gk 2 ck [x,y] _ k4:=jI.app H.o hg iI hgr;have fY:(Builtin.append_ #[23,23] 23 #[.slice (some ⟨w3.heap.size,0,none⟩) 1 1,.slice (some ⟨w5.heap.size,0,none⟩) 1 1]).run Tryz.prog W7=.ok (.slice (some ⟨gk,0,none⟩) 2 ck) W8:=gQ;have m8:W8.cell? ⟨W4.heap.size,8,none⟩=some (.slice (some ⟨w3.heap.size,0,none⟩) 1 1):=Db.cell 8;have Fv:=Db.frozen 8;generalize Dw:W8.setCell ⟨W4.heap.size,8,none⟩ (.slice (some ⟨gk,0,none⟩) 2 ck)=W9 at zh;have Vj:=hide zh;clear zh jI pK Db iI hgr gQ b7 r7 I6 lD h5 cC fO Da;refine bK (i:=5) (by kernel_rfl) rfl fun K hK=>?_;refine dn (by kernel_rfl) (.tmp 25) (.tmp 28) 23 rfl rfl rfl fY ?_;refine hK _ _ ?_;clear hK K fY;refine bK (i:=6) (by kernel_rfl) rfl fun K hK=>?_;go_simp;refine hK _ _ ?_;clear hK K;refine bK (i:=7) (by kernel_rfl) rfl fun K hK=>?_;go_simp;refine hK _ _ ?_;clear hK K;refine wpAny_done (by kernel_rfl) ?_ _;go_wp2_with fail;go_meet;exact ⟨y,k4,gk,ck,_,Vj,Ox⟩
        ·go_simp;refine CX.o.mono ?_;rintro e w5 ⟨⟨v,rfl,csy,rfl,lD⟩,h5,cC⟩;refine hK _ _ ?_;clear hK K
         have fO:ah (fun c=>c=p.b) W6 w5:=⟨cC.os,cC.tape,cC.output,cC.size,cC.block⟩
         have pK:=Ow.o.keep hbz hg h5 fO;obtain ⟨yk,y0,yn,yv,ya,yb,yc,yd,yA,cZ,cv,rfl⟩:=lD.nine
         have I6:=lD.mono (C':=fun b=>(b≤w.heap.size∨b=W4.heap.size)∨b=w3.heap.size) (fun b hb=>by
          have e1:=Ow.o.row.lt;have e2:=Ow.o.kids.lt;have e3:=Ow.o.res.lt;show b<W6.heap.size
          rcases hb with (hb|rfl)|rfl<;>omega)
         unfold aB;have c8b:w5.cell? ⟨W4.heap.size,8,none⟩=some (.slice (some ⟨w3.heap.size,0,none⟩) 1 1):=pK.row.cell 8;refine oD (i:=1) (j:=4) (by kernel_rfl) rfl rfl (fun K hK=>?_) fun K hK=>?_
         ·go_simp;refine hK _ _ ?_;clear hK K;refine bK (i:=4) (by kernel_rfl) rfl fun K hK=>?_;go_simp;refine hK _ _ ?_;clear hK K;generalize Da:World.alloc w5 _=W7
          have b7:Below w5.heap.size w5 W7:=by rw [←Da];exact (af _ _).alloc (aa _) _
          have r7:Row W7 w5.heap.size 25 (aB yk y0 yn yv ya yb yc yd (.slice yA cZ cv)).toArray:=by rw [←Da];exact Row.new _ _ _
          have jI:=pK.keep hbz hg (h5.below b7) (ah.of_below b7 (aa _))
          obtain ⟨gk,ck,W8,gQ,iI,hgr⟩:=jI.kids.app (I6.keeps (ah.of_below b7 (aa _))) r7 (by have:=jI.res.lt;omega) (fun b hb=>by
           have e1:=jI.row.lt;have e3:=jI.res.lt
           rcases hb with hb|rfl<;>omega) (by omega)
          have Db:=jI.row.grown hgr (by intro e;exact jI.kids.not (.inr (au e).symm));have zh:n_ p w W4.heap.size (W8.setCell ⟨W4.heap.size,8,none⟩ (.slice (some ⟨gk,0,none⟩) 2 ck)) q az gk 2 ck [x,y] _ k4:=jI.app H.o hg iI hgr;have fY:(Builtin.append_ #[23,23] 23 #[.slice (some ⟨w3.heap.size,0,none⟩) 1 1,.slice (some ⟨w5.heap.size,0,none⟩) 1 1]).run Tryz.prog W7=.ok (.slice (some ⟨gk,0,none⟩) 2 ck) W8:=gQ;have m8:W8.cell? ⟨W4.heap.size,8,none⟩=some (.slice (some ⟨w3.heap.size,0,none⟩) 1 1):=Db.cell 8;have Fv:=Db.frozen 8;generalize Dw:W8.setCell ⟨W4.heap.size,8,none⟩ (.slice (some ⟨gk,0,none⟩) 2 ck)=W9 at zh;have Vj:=hide zh;clear zh jI pK Db iI hgr gQ b7 r7 I6 lD h5 cC fO Da;refine bK (i:=5) (by kernel_rfl) rfl fun K hK=>?_;refine dn (by kernel_rfl) (.tmp 25) (.tmp 28) 23 rfl rfl rfl fY ?_;refine hK _ _ ?_;clear hK K fY;refine bK (i:=6) (by kernel_rfl) rfl fun K hK=>?_;go_simp;refine hK _ _ ?_;clear hK K;refine bK (i:=7) (by kernel_rfl) rfl fun K hK=>?_;go_simp;refine hK _ _ ?_;clear hK K;refine wpAny_done (by kernel_rfl) ?_ _;go_wp2_with fail;go_meet;exact ⟨y,k4,gk,ck,_,Vj,Ox⟩
         ·go_simp;refine hK _ _ ?_;clear hK K;generalize Da:World.alloc w5 _=W7
          have b7:Below w5.heap.size w5 W7:=by rw [←Da];exact (af _ _).alloc (aa _) _
          have r7:Row W7 w5.heap.size 25 (aB yk y0 yn yv ya yb yc yd (.slice yA cZ cv)).toArray:=by rw [←Da];exact Row.new _ _ _
          have jI:=pK.keep hbz hg (h5.below b7) (ah.of_below b7 (aa _));have c8c:W7.cell? ⟨W4.heap.size,8,none⟩=some (.slice (some ⟨w3.heap.size,0,none⟩) 1 1):=jI.row.cell 8;refine bK (i:=1) (by kernel_rfl) rfl fun K hK=>?_;go_simp;refine hK _ _ ?_;clear hK K
          obtain ⟨gk,ck,W8,gQ,iI,hgr⟩:=jI.kids.app (I6.keeps (ah.of_below b7 (aa _))) r7 (by have:=jI.res.lt;omega) (fun b hb=>by
           have e1:=jI.row.lt;have e3:=jI.res.lt
           rcases hb with hb|rfl<;>omega) (by omega)
          have Db:=jI.row.grown hgr (by intro e;exact jI.kids.not (.inr (au e).symm));have zh:n_ p w W4.heap.size (W8.setCell ⟨W4.heap.size,8,none⟩ (.slice (some ⟨gk,0,none⟩) 2 ck)) q az gk 2 ck [x,y] _ k4:=jI.app H.o hg iI hgr;have fY:(Builtin.append_ #[23,23] 23 #[.slice (some ⟨w3.heap.size,0,none⟩) 1 1,.slice (some ⟨w5.heap.size,0,none⟩) 1 1]).run Tryz.prog W7=.ok (.slice (some ⟨gk,0,none⟩) 2 ck) W8:=gQ;have m8:W8.cell? ⟨W4.heap.size,8,none⟩=some (.slice (some ⟨w3.heap.size,0,none⟩) 1 1):=Db.cell 8;have Fv:=Db.frozen 8;generalize Dw:W8.setCell ⟨W4.heap.size,8,none⟩ (.slice (some ⟨gk,0,none⟩) 2 ck)=W9 at zh;have Vj:=hide zh;clear zh jI pK Db iI hgr gQ b7 r7 I6 lD h5 cC fO Da;refine bK (i:=5) (by kernel_rfl) rfl fun K hK=>?_;refine dn (by kernel_rfl) (.tmp 25) (.tmp 28) 23 rfl rfl rfl fY ?_;refine hK _ _ ?_;clear hK K fY;refine bK (i:=6) (by kernel_rfl) rfl fun K hK=>?_;go_simp;refine hK _ _ ?_;clear hK K;refine bK (i:=7) (by kernel_rfl) rfl fun K hK=>?_;go_simp;refine hK _ _ ?_;clear hK K;refine wpAny_done (by kernel_rfl) ?_ _;go_wp2_with fail;go_meet;exact ⟨y,k4,gk,ck,_,Vj,Ox⟩
      case rest=>
       obtain ⟨y,k4,gk,ck,bH,Vj,Ox⟩:=hcut
       obtain ⟨W9,e_⟩:∃x,x=wc:=⟨_,rfl⟩
       subst e_;have EX9:=hide (EX.o k4 [44] W9 Vj.o.at_)
       cases hD:av p.L p.en k4 [44] with
       |err a er=>
        rw [hD] at EX9;have HE:=ae (RR=.err a er) (by rw [Ox.o,show av p.L p.en k4 aG=.err a er from hD];rfl);clear hD;go_wp2_with fail;refine EX9.o.mono ?_;rintro e Ah ⟨rfl,Vk⟩;go_wp2;exact ⟨rfl,by rw [HE.o];exact ⟨rfl,Vj.o.keeps.trans Vk⟩⟩
       |ok u9 k5=>
        rw [hD] at EX9;have HU6:=ae (RR=nQ p.L p.en (fq p) k5 fun a b k6=>(av p.L p.en k6 aI).bind fun _ k7=>.ok (.mk q az [] [] a b 0 0 [x,y]) k7) (by rw [Ox.o,show av p.L p.en k4 aG=.ok u9 k5 from hD];rfl);clear hD Ox;go_wp2_with fail;refine EX9.o.mono ?_;rintro e Ah ⟨⟨v,rfl,rfl⟩,h10,Vk⟩;have acR:=hide (Vj.o.keep hbz hg h10 Vk).lf;clear h10 Vk;go_wp2_with fail;go_meet;exact ⟨[x,y],gk,ck,k5,acR,HU6⟩
     |false=>
      have zg:=ae (RR=_) (by rw [qP.o,if_neg (of_decide_eq_false Xa.o.symm)]);clear qP Xa;go_wp2_with fail;go_meet;exact ⟨[x],w3.heap.size,1,k3,hide Ow.o.lf,zg⟩
    case rest=>
     clear qP Xa;obtain ⟨KS,gk,ck,kk,Gw,zg⟩:=hcut
     obtain ⟨uV,e_⟩:∃x,x=wc:=⟨_,rfl⟩
     subst e_;have TM1:=hide (TM.o kk uV Gw.o.at_)
     cases hA:dE p.L p.en (fq p) kk with
     |err a er=>
      rw [hA] at TM1;have HE:=ae (RR=.err a er) (by rw [zg.o];unfold nQ;rw [hA];rfl);clear hA;go_wp2_with fail;refine TM1.o.mono ?_;rintro e W30 ⟨rfl,Aq⟩;go_wp2;exact ⟨rfl,by rw [HE.o];exact ⟨rfl,Gw.o.keeps.trans Aq⟩⟩
     |ok na ka=>
      rw [hA] at TM1;have nt:=ae (RR=(av p.L p.en ka aG).bind fun _ k2=>(dE p.L p.en (fq p) k2).bind fun b k3=>(av p.L p.en k3 aI).bind fun _ k7=>.ok (.mk q az [] [] na b 0 0 KS) k7) (by rw [zg.o];unfold nQ;rw [hA];rfl);clear hA zg;go_wp2_with fail;refine TM1.o.mono ?_;rintro e W31 ⟨⟨v,rfl,rfl⟩,h31,abn⟩;have Vl:=Gw.o.keep hbz hg h31 abn;have i4:W31.cell? ⟨W4.heap.size,4,none⟩=some (.int .i64 0):=Vl.row.cell 4;have fi4:=Vl.row.frozen 4;have Vm:=Vl.QA H.o hg na;generalize acS:W31.setCell ⟨W4.heap.size,4,none⟩ (.int .i64 na)=W32 at Vm;have abo:=hide Vm;have Vn:=hide (EX.o ka [44] W32 Vm.at_);clear Vl Vm h31 abn
      cases hC:av p.L p.en ka [44] with
      |err a er=>
       rw [hC] at Vn;have HE:=ae (RR=.err a er) (by rw [nt.o,show av p.L p.en ka aG=.err a er from hC];rfl);clear hC;go_wp2_with fail;refine Vn.o.mono ?_;rintro e W33 ⟨rfl,Vo⟩;go_wp2;exact ⟨rfl,by rw [HE.o];exact ⟨rfl,abo.o.keeps.trans Vo⟩⟩
      |ok uc kb=>
       rw [hC] at Vn;have oz:=ae (RR=(dE p.L p.en (fq p) kb).bind fun b k3=>(av p.L p.en k3 aI).bind fun _ k7=>.ok (.mk q az [] [] na b 0 0 KS) k7) (by rw [nt.o,show av p.L p.en ka aG=.ok uc kb from hC];rfl);clear hC nt;go_wp2_with fail;refine Vn.o.mono ?_;rintro e W33 ⟨⟨v,rfl,rfl⟩,h33,Vo⟩;clear acS;have Y1:=hide (abo.o.keep hbz hg h33 Vo);clear h33 Vo;have TM2:=hide (TM.o kb W33 Y1.o.at_)
       cases hA:dE p.L p.en (fq p) kb with
       |err a er=>
        rw [hA] at TM2;have HE:=ae (RR=.err a er) (by rw [oz.o,hA];rfl);clear hA;go_wp2_with fail;refine TM2.o.mono ?_;rintro e XW ⟨rfl,Ra⟩;go_wp2;exact ⟨rfl,by rw [HE.o];exact ⟨rfl,Y1.o.keeps.trans Ra⟩⟩
       |ok nb kc=>
        rw [hA] at TM2;have qP:=ae (RR=(av p.L p.en kc aI).bind fun _ k7=>.ok (.mk q az [] [] na nb 0 0 KS) k7) (by rw [oz.o,hA];rfl);clear hA oz;go_wp2_with fail;refine TM2.o.mono ?_;rintro e XW ⟨⟨v,rfl,rfl⟩,WI,Ra⟩;have Vp:=Y1.o.keep hbz hg WI Ra;have i5:XW.cell? ⟨W4.heap.size,5,none⟩=some (.int .i64 0):=Vp.row.cell 5;have fi5:=Vp.row.frozen 5;have Vq:=Vp.ML H.o hg nb;generalize acT:XW.setCell ⟨W4.heap.size,5,none⟩ (.int .i64 nb)=W35 at Vq;have abp:=hide Vq;have Vr:=hide (EX.o kc [41] W35 Vq.at_);clear Vp Vq WI Ra
        cases hC:av p.L p.en kc [41] with
        |err a er=>
         rw [hC] at Vr;have HE:=ae (RR=.err a er) (by rw [qP.o,show av p.L p.en kc aI=.err a er from hC];rfl);clear hC;go_wp2_with fail;refine Vr.o.mono ?_;rintro e W36 ⟨rfl,Y2⟩;go_wp2;exact ⟨rfl,by rw [HE.o];exact ⟨rfl,abp.o.keeps.trans Y2⟩⟩
        |ok ud kd2=>
         rw [hC] at Vr;have HE:=ae (RR=.ok (.mk q az [] [] na nb 0 0 KS) kd2) (by rw [qP.o,show av p.L p.en kc aI=.ok ud kd2 from hC];rfl);clear hC qP;go_wp2_with fail;refine Vr.o.mono ?_;rintro e W36 ⟨⟨v,rfl,rfl⟩,zR,Y2⟩;have acU:=abp.o.keep hbz hg zR Y2;obtain ⟨zR,dL,hres,hrow,hnd⟩:=acU;obtain ⟨z0,z1,z2,z3,z4,z5,z6,z7,z8⟩:=ak hrow;obtain ⟨y0,y1,y2,y3,y4,y5,y6,y7,y8⟩:=ak hres;obtain ⟨M4,M5,M6,M7,M8,M9,M_,Na,Nb⟩:=aU hres;have fR:=hide hnd;clear hrow hnd acT;go_wp2_with fail;refine bodyPost_ret (v:=.agg #[.int .i64 q,.int .i64 az,.string {data:=#[]},.string {data:=#[]},.int .i64 na,.int .i64 nb,.int .i64 0,.int .i64 0,.slice (some ⟨gk,0,none⟩) KS.length ck]) (ai rfl _ _ w.heap.size 25 _ _ _ rfl (aJ hres _ _ _ _ _ _ _ _ _) Tryz.underlying25 rfl (by kernel_rfl)) rfl ?_;have hbl:=ay (W:=W36) (aa w.heap.size) (.int .i64 q) (.int .i64 az) (.string {data:=#[]}) (.string {data:=#[]}) (.int .i64 na) (.int .i64 nb) (.int .i64 0) (.int .i64 0) (.slice (some ⟨gk,0,none⟩) KS.length ck);rw [HE.o];exact ⟨⟨_,rfl,_,rfl,(fR.o.keeps (aN (C:=fun b=>b≤w.heap.size∨b=W4.heap.size) (.inl (aa _)) _ _ _ _ _ _ _ _ _)).mono (fun b hb'=>.inl (Nat.le_of_lt hb'))⟩,H.o.above zR hbl,dL.over hbl⟩
end Go.Proofs.YtddoehnkgcbboaaGreatDoor
namespace Go.Proofs.YtddoehnkgcbboaaGreatDoor
open Go.RowKit Go.Shelf
theorem mK.nine {C:Nat→Prop} {W:World} {A:Option Addr} {bH:List (List Value)} (h:mK C W A bH) {i:Nat} (hi:i<bH.length):∃b off,A=some ⟨b,off,none⟩∧¬C b∧b<W.heap.size∧∀j,j<9→W.cell? ⟨b,off+i*9+j,none⟩=(bH[i])[j]? :=by
 obtain ⟨b,off,hA,hb,hz,hat⟩:=h (by omega);exact ⟨b,off,hA,hb,hz,hat i hi⟩
theorem iW {W:World} {b o:Nat} {kd a0 xa xb xc xd:Int} {nm vl:List UInt8} {s:Value} {cs:List Value} (e:cs=aB kd a0 nm vl xa xb xc xd s) (h:∀j,j<9→W.cell? ⟨b,o+j,none⟩=cs[j]?):
 W.cell? ⟨b,o,none⟩=some (.int .i64 kd)∧W.cell? ⟨b,o+1,none⟩=some (.int .i64 a0)∧W.cell? ⟨b,o+2,none⟩=some (.string (ag nm))∧W.cell? ⟨b,o+3,none⟩=some (.string (ag vl))∧W.cell? ⟨b,o+4,none⟩=some (.int .i64 xa)∧W.cell? ⟨b,o+5,none⟩=some (.int .i64 xb)∧W.cell? ⟨b,o+6,none⟩=some (.int .i64 xc)∧W.cell? ⟨b,o+7,none⟩=some (.int .i64 xd)∧W.cell? ⟨b,o+8,none⟩=some s:=by
 subst e;exact ⟨h 0 (by decide),h 1 (by decide),h 2 (by decide),h 3 (by decide),h 4 (by decide),h 5 (by decide),h 6 (by decide),h 7 (by decide),h 8 (by decide)⟩
theorem vh:∀(m:Nat) (n:Nd) (C:Nat→Prop) (cs:List Value) (W:World),aC n≤m→m≤1000000→cK C W n cs→
 Calls Tryz.prog 33 #[.agg cs.toArray] W fun e w'=>e=.returned (.int .i64 (iF n:Int))∧Below W.heap.size W w'
 |0,n,C,cs,W,h,_,_=>by have:=mX n;omega
 |m+1,n,C,cs,W,hm,hmm,h=>by
  have IH:=hide (fun (x:Nd) (cx:List Value) (W':World) (hx:aC x≤m) (h:cK C W' x cx)=>vh m x C cx W' hx (by omega) h)
  cases h with
  |mk kd a0 nm vl xa xb xc xd ks A cap bH hl hks hr hcap=>
   clear hcap;rw [aC] at hm;have hkl:=j_ ks;have hlv:=pI ks
   have HT:=hide (fun (i:Nat) (hi:i<ks.length)=>show ml (ks.take (i+1))=max (ml (ks.take i)) (iF ks[i]) from by
    rw [List.take_succ_eq_append_getElem hi,Bv])
   have HB:=hide (fun (i:Nat) (hi:i<ks.length)=>show aC ks[i]≤m∧iF ks[i]≤1000000 from by
    have h1:=ez (cI hi);have h2:=ze ks[i]
    omega)
   have HLe:=hide (fun (i:Nat)=>show ml (ks.take i)≤1000000 from by
    have h1:=pI (ks.take i)
    have h2:ax (ks.take i)≤ax ks:=by
     clear IH HT HB hks hr hl h1
     induction ks generalizing i with
     |nil=>simp
     |cons x r ih=>
      cases i with
      |zero=>simp [ax]
      |succ i=>
       rw [List.take_succ_cons,ax,ax];rw [ax] at hm;have:=ih (by omega) (by simpa using j_ r) (pI r) i;omega
    omega)
   obtain ⟨W1,hW1⟩:∃W1,W1=W.alloc (.cells (aB kd a0 nm vl xa xb xc xd (.slice A ks.length cap)).toArray 25):=⟨_,rfl⟩
   have hb1:Below W.heap.size W W1:=by rw [hW1];exact (af _ W).alloc (aa _) _
   have HR:=hide (hr.keeps (ah.of_below hb1 (aa _)));have HK:=hide (fun (i:Nat) (hi:i<ks.length) (h':i<bH.length)=>(hks i hi h').keeps (ah.of_below hb1 (aa _)));have HL:=hide hl;have dX:=hide hb1
   have ki:ks.length≤1000000:=by omega
   have HF:=ae (iF (.mk kd a0 nm vl xa xb xc xd ks)=ml (ks.take ks.length)+1) (by rw [iF,List.take_length]);unfold aB;unfold aB at hW1;clear hr hks hl hb1 hm hkl hlv
   obtain ⟨N,hN⟩:∃N,ks.length=N:=⟨_,rfl⟩
   rw [hN] at hW1 HF⊢;rw [hN] at ki;have HN:=hide hN;have jq:=hide hW1.symm;clear hN hW1;go_enter Tryz.func33,Tryz.ntmps33;go_wp2_with fail;rw [jq.o]
   go_loopw [3,9] (fun t i wr=>∃k:Nat,k≤N∧i=.int .i64 (k:Int)∧t=.int .i64 (ml (ks.take k):Int)∧Below W1.heap.size W1 wr) (fun _ i _=>N-(intOf i).toNat)
   case atStart=>exact ⟨0,bj _,rfl,rfl,af _ _⟩
   case round=>
    obtain ⟨k,hk,rfl,rfl,hb⟩:=hrel;have hle:=HLe.o k;by_cases hlt:k<N
    ·have ir:k<ks.length:=by rw [HN.o];exact hlt
     have tW:k<bH.length:=by rw [HL.o];exact ir
     have hk':(k:Int)<(N:Int):=by omega
     have uQ:(0:Int)≤(k:Int):=by omega
     have hw1:IntKind.i64.wrap ((k:Int)+1)=(k:Int)+1:=bI _ (by omega);obtain ⟨bk,off,rfl,_,hbz,hat⟩:=HR.o.nine tW;have abq:bk<wr.heap.size:=cJ hbz hb.size;have hat':∀j,j<9→wr.cell? ⟨bk,off+k*9+j,none⟩=(bH[k])[j]? :=fun j hj=>(hb.cell (p:=⟨bk,_,none⟩) hbz).trans (hat j hj);have hnd:=(HK.o k ir tW).keeps (ah.of_below hb (aa _));obtain ⟨yk,y0,yn,yv,ya,yb,yc,yd,yA,cZ,cv,ye⟩:=hnd.nine;obtain ⟨c0,c1,c2,c3,c4,c5,c6,c7,c8⟩:=iW ye hat';obtain ⟨hcm,hlm⟩:=HB.o k ir
     have Tw:=hide (fun (o:Obj)=>show Calls Tryz.prog 33 #[.agg #[.int .i64 yk,.int .i64 y0,.string (ag yn),.string (ag yv),.int .i64 ya,.int .i64 yb,.int .i64 yc,.int .i64 yd,.slice yA cZ cv]] (wr.alloc o) fun e w'=>e=.returned (.int .i64 (iF ks[k]:Int))∧Below (wr.alloc o).heap.size (wr.alloc o) w' from by
      have:=IH.o ks[k] bH[k] (wr.alloc o) hcm (hnd.keeps (ah.of_below ((af _ wr).alloc (aa _) o) (aa _)));rw [ye] at this
      exact this)
     have MI:=hide (HT.o k ir);have Hb:=hide hb;have iM:=hide (fun o=>hb.alloc hb.size o)
     obtain ⟨v,hv⟩:∃v,iF ks[k]=v:=⟨_,rfl⟩
     rw [hv] at Tw MI hlm
     obtain ⟨u,hu⟩:∃u,ml (ks.take k)=u:=⟨_,rfl⟩
     rw [hu] at MI hle⊢;clear hat hat' hnd ye hb hv hu hcm;go_wp2_with fail;refine (Tw.o _).mono ?_;rintro e w2 ⟨rfl,hb2⟩;have lK:=hide ((iM.o _).trans (hb2.mono (iM.o _).size));clear hb2 c0 c1 c2 c3 c4 c5 c6 c7 c8;go_wp2;go_roundw
     case rel=>exact ⟨k+1,by omega,by go_num,by rw [MI.o];exact congrArg (Value.int IntKind.i64) (by omega),lK.o⟩
     case measure=>simp [intOf];omega
    ·obtain rfl:k=N:=by omega
     have hk':¬(k:Int)<(k:Int):=by omega
     have hw1:IntKind.i64.wrap ((ml (ks.take k):Int)+1)=(ml (ks.take k):Int)+1:=bI _ (by omega);have Hb:=hide (dX.o.trans (hb.mono dX.o.size));clear hb;generalize ml (ks.take k)=u at*;go_wp2;go_ret;exact ⟨by rw [HF.o];rfl,Hb.o⟩
end Go.Proofs.YtddoehnkgcbboaaGreatDoor
namespace Go.Proofs.YtddoehnkgcbboaaGreatDoor
open Go.RowKit Go.Shelf Go.Maps
def sJ (B:Nat) (W:World) (ks:List Nd) (A:Option Addr):Prop:=
 ∃bH:List (List Value),bH.length=ks.length∧(∀i (h:i<ks.length) (h':i<bH.length),cK (fun c=>B≤c) W ks[i] bH[i])∧mK (fun c=>B≤c) W A bH
theorem vo {B:Nat} {W W':World} (h:Below B W W') (hB:W.heap.size≤W'.heap.size):ah (fun c=>B≤c) W W':=
 ⟨h.os,h.tape,h.output,hB,fun b _ hn=>h.block b (Nat.lt_of_not_le hn)⟩
theorem cK.abr {B:Nat} {W:World} {kd a0 xa xb xc xd:Int} {nm vl:List UInt8} {ks:List Nd} {cs:List Value} (h:cK (fun c=>B≤c) W (.mk kd a0 nm vl xa xb xc xd ks) cs):
 ∃A cap,cs=aB kd a0 nm vl xa xb xc xd (.slice A ks.length cap)∧sJ B W ks A∧ks.length≤cap:=by
 cases h with
 |mk _ _ _ _ _ _ _ _ _ A cap bH hl hk hr hcap=>exact ⟨A,cap,rfl,⟨bH,hl,hk,hr⟩,hcap⟩
theorem sJ.kid {B:Nat} {w:World} {ks:List Nd} {A:Option Addr} (h:sJ B w ks A) {i:Nat} (hi:i<ks.length):∃bk off yk y0 yn yv ya yb yc yd yA cZ cv,A=some ⟨bk,off,none⟩∧
 ∀W,Below B w W→w.heap.size≤W.heap.size→(W.cell? ⟨bk,off+i*9,none⟩=some (.int .i64 yk)∧W.cell? ⟨bk,off+i*9+1,none⟩=some (.int .i64 y0)∧W.cell? ⟨bk,off+i*9+2,none⟩=some (.string (ag yn))∧W.cell? ⟨bk,off+i*9+3,none⟩=some (.string (ag yv))∧W.cell? ⟨bk,off+i*9+4,none⟩=some (.int .i64 ya)∧W.cell? ⟨bk,off+i*9+5,none⟩=some (.int .i64 yb)∧W.cell? ⟨bk,off+i*9+6,none⟩=some (.int .i64 yc)∧W.cell? ⟨bk,off+i*9+7,none⟩=some (.int .i64 yd)∧W.cell? ⟨bk,off+i*9+8,none⟩=some (.slice yA cZ cv))∧
  cK (fun c=>B≤c) W ks[i] (aB yk y0 yn yv ya yb yc yd (.slice yA cZ cv)):=by
 obtain ⟨bH,hl,hk,hr⟩:=h
 have hi':i<bH.length:=by omega
 obtain ⟨bk,off,rfl,hB,hz,hat⟩:=hr.nine hi';obtain ⟨yk,y0,yn,yv,ya,yb,yc,yd,yA,cZ,cv,ye⟩:=(hk i hi hi').nine;refine ⟨bk,off,yk,y0,yn,yv,ya,yb,yc,yd,yA,cZ,cv,rfl,fun W hb hz'=>⟨?_,?_⟩⟩
 ·exact iW ye fun j hj=>(hb.cell (p:=⟨bk,_,none⟩) (Nat.lt_of_not_le hB)).trans (hat j hj)
 ·rw [←ye];exact (hk i hi hi').keeps (vo hb hz')
theorem sJ.keep {B:Nat} {W W':World} {ks:List Nd} {A:Option Addr} (h:sJ B W ks A) (hb:Below B W W') (hz:W.heap.size≤W'.heap.size):sJ B W' ks A:=by
 obtain ⟨bH,hl,hk,hr⟩:=h;exact ⟨bH,hl,fun i h1 h2=>(hk i h1 h2).keeps (vo hb hz),hr.keeps (vo hb hz)⟩
def qs (x:Nd):Prop:=∀(B b:Nat) (need:Int) (cs:List Value) (o:Option St) (M:Nat) (W:World),cz W B b o M→cK (fun c=>B≤c) W x cs→0≤need→need≤13→M+2000*aC x≤1099511627776→
 Calls Tryz.prog 45 #[.pointer (some ⟨b,0,none⟩),.agg cs.toArray,.int .i64 need] W (jn B b W (o.bind (bC aD aQ x need)) (M+2000*aC x))
structure iJ (kd xa xb xc xd:Int) (nm vl:List UInt8):Prop where
 kd:In64 kd
 a:In64 xa
 b:In64 xb
 c:In64 xc
 d:In64 xd
 nm:nm.length≤200
 vl:vl.length≤200
theorem a_ (sg:List UInt8→Int) (ng:List UInt8→List UInt8):∀ks:List Nd,(aq sg ng ks).length=ks.length
 |[]=>rfl
 |x::r=>by rw [aq,aj,aj,a_ sg ng r]
theorem Bw (sg:List UInt8→Int) (ng:List UInt8→List UInt8):∀(ks:List Nd) (i:Nat) (h:i<ks.length),(aq sg ng ks)[i]? =some (bC sg ng ks[i])
 |x::r,0,_=>by rw [aq];rfl
 |x::r,i+1,h=>by rw [aq,List.getElem?_cons_succ];exact Bw sg ng r i (by simpa using h)
theorem jk (ks:List Nd) {i:Nat} (h:i<ks.length) (need:Int) (st:St):jV (aq aD aQ ks) i need st=bC aD aQ ks[i] need st:=by
 unfold jV;rw [Bw _ _ _ _ h]
theorem pL (o:Option St) (z:Bool) (used:List UInt8) (c:UInt8) (x:Bool):mR (if x=true then o else none) z used c=if (x&&(z||gg used c))=true then o else none:=by
 unfold mR;cases x<;>cases z<;>cases gg used c<;>rfl
theorem KI (o:Option St) (z1 z2 z3 z4 z5 z6:Bool) (used:List UInt8):nX o z1 z2 z3 z4 z5 z6 used=if ((((((z1||gg used 110)&&(z2||gg used 118))&&(z3||gg used 97))&&(z4||gg used 97))&&(z5||gg used 99))&&(z6||gg used 99))=true then o else none:=by
 unfold nX;rw [show mR o z1 used 110=if (z1||gg used 110)=true then o else none from rfl,pL,pL,pL,pL,pL]
theorem mY {kd a0 xa xb xc xd:Int} {nm vl:List UInt8} {ks:List Nd} (o:Option St) (used:List UInt8) (least most:Int):
 iA (nX o (decide (nm=[])) (decide (vl=[])) (decide (xa=0)) (decide (xb=0)) (decide (xc=0)) (decide (xd=0)) used) ks.length least most=
  if bJ (.mk kd a0 nm vl xa xb xc xd ks) (gg used 110) (gg used 118) (gg used 97) (gg used 99)=true∧least≤(ks.length:Int)∧(ks.length:Int)≤most then o else none:=by
 rw [KI];unfold iA;show (if _ then (if bJ (.mk kd a0 nm vl xa xb xc xd ks) (gg used 110) (gg used 118) (gg used 97) (gg used 99)=true then o else none) else none)=_;by_cases h1:least≤(ks.length:Int)∧(ks.length:Int)≤most
 ·by_cases h2:bJ (.mk kd a0 nm vl xa xb xc xd ks) (gg used 110) (gg used 118) (gg used 97) (gg used 99)=true
  ·rw [if_pos h1,if_pos h2,if_pos ⟨h2,h1⟩]
  ·rw [if_pos h1,if_neg h2,if_neg (fun h=>h2 h.1)]
 ·rw [if_neg h1,if_neg (fun h=>h1 h.2)]
theorem iP {c:Prop} [Decidable c] {o:Option St} {st:St} (h:some st=if c then o else none):c∧o=some st:=by
 by_cases hc:c
 ·rw [if_pos hc] at h;exact ⟨hc,h.symm⟩
 ·rw [if_neg hc] at h;cases h
theorem iQ {c c':Prop} [Decidable c] [Decidable c'] {o:Option St} {f:St→Option St} (h:none=if c then o else none) (hc:c'→c):o.bind (fun st=>if c' then f st else none)=none:=by
 cases o with
 |none=>rfl
 |some st=>
  show (if c' then f st else none)=none;by_cases h':c'
  ·rw [if_pos (hc h')] at h;cases h
  ·rw [if_neg h']
theorem Vs (st:St) (s:List UInt8) (r:Option St):(r.map (bD · [41]))=r.bind fun st=>some (bD st [41]):=by cases r<;>rfl
theorem oa (B b:Nat) (kd a0 xa xb xc xd:Int) (nm vl:List UInt8) (ks:List Nd) (A:Option Addr) (cap:Nat) (s:List UInt8) (need:Int) (hs:s.length≤20) (h0:0≤need) (tQ:need≤13) (o:Option St) (M:Nat) (w:World) (h:cz w B b o M) (hk:sJ B w ks A) (gS:∀i (hi:i<ks.length),qs ks[i]) (hft:iJ kd xa xb xc xd nm vl) (hn:ks.length≤1000000) (hM:M+1500+2000*ax ks≤1099511627776):
 Calls Tryz.prog 109 #[.pointer (some ⟨b,0,none⟩),.agg (aB kd a0 nm vl xa xb xc xd (.slice A ks.length cap)).toArray,.string (ag s),.int .i64 need] w (jn B b w (o.bind (kG (.mk kd a0 nm vl xa xb xc xd ks) (aq aD aQ ks) s need)) (M+1500+2000*ax ks)):=by
 have hlt:=h.lt.1;have hge:=h.lt.2;have oN:=hide hk
 obtain ⟨w1,hw1⟩:∃w1,w1=w.alloc (.cells (aB kd a0 nm vl xa xb xc xd (.slice A ks.length cap)).toArray 25):=⟨_,rfl⟩
 have hb1:Below w.heap.size w w1:=by rw [hw1];exact (af _ w).alloc (aa _) _
 have P1:=hide (h.keep hb1);have T1:=hide (aM.of_below (b:=b) hb1 (show B≤w.heap.size by omega));have fU:=ae (Row w1 w.heap.size 25 (aB kd a0 nm vl xa xb xc xd (.slice A ks.length cap)).toArray) (by rw [hw1];exact Row.new _ _ _);have cR:=hide hw1.symm;have oO:=hide gS;have pM:=hide hft;clear h hk hw1 hb1 gS hft;unfold aB at cR fU⊢;go_enter Tryz.func109,Tryz.ntmps109;go_upto_region 1 with fail;rw [cR.o];obtain ⟨dJ,eN,ei,ek,dF,dG,eA,eB,cj⟩:=ak fU.o;go_wp2_with fail;refine bW (cM B b kd a0 xa xb xc xd nm vl (.slice A ks.length cap) [] o M w1 P1.o) T1 fU (by decide) (by omega) fun w2 o2 Q2 P2 T2 ia=>?_;clear dJ eN ei ek dF dG eA eB cj;obtain ⟨dJ,eN,ei,ek,dF,dG,eA,eB,cj⟩:=ak ia.o;have C3:=hide (fx B b kd a0 xa xb xc xd nm vl A ks.length cap 1 1 o2 M w2 P2.o (by omega));unfold aB at C3
 obtain ⟨o3,q3⟩:∃z_,iA o2 ks.length 1 1=z_:=⟨_,rfl⟩
 rw [q3] at C3
 have kE:iA (nX o (decide (nm=[])) (decide (vl=[])) (decide (xa=0)) (decide (xb=0)) (decide (xc=0)) (decide (xd=0)) []) ks.length 1 1=if bJ (.mk kd a0 nm vl xa xb xc xd ks) false false false false=true∧1≤(ks.length:Int)∧(ks.length:Int)≤1 then o else none:=mY o [] 1 1
 rw [Q2.o,q3] at kE;have kX:=hide kE;clear kE q3
 cases o3 with
 |none=>
  go_wp2_with fail;refine (C3.o).mono ?_;rintro e w3 ⟨rfl,p3,t3⟩;have P3:=hide p3;have T3:=hide (T2.o.trans t3);have iR:=hide (t3.row ia.o (by decide) (by omega));clear p3 t3 C3;clear dJ eN ei ek dF dG eA eB cj
  have HP:=ae (cz w3 B b (o.bind (kG (.mk kd a0 nm vl xa xb xc xd ks) (aq aD aQ ks) s need)) (M+1500+2000*ax ks)) (by
   rw [show o.bind (kG (.mk kd a0 nm vl xa xb xc xd ks) (aq aD aQ ks) s need)=none from iQ kX.o (fun h=>⟨h.1,by have:=h.2;rw [a_] at this;omega⟩)]
   exact P3.o.mono (by omega))
  go_wp2;go_end0;exact ⟨rfl,HP.o,T3.o⟩
 |some st=>
  obtain ⟨⟨hc1,hc2,hc3⟩,ho⟩:=iP kX.o;have HLEN:=hide (show ks.length=1 by omega)
  have hi0:0<ks.length:=by omega
  obtain ⟨bb,bc,lR,rX,rY,qQ,rZ,r_,se,sf,si,eX,eZ,I7,sj⟩:=oN.o.kid (i:=0) hi0;subst I7
  obtain ⟨x0,hx0⟩:∃x,ks[0]'hi0=x:=⟨_,rfl⟩
  rw [hx0] at sj;have K0:=hide (fun (W:World) (hb:Below B w W) (hz:w.heap.size≤W.heap.size)=>show (W.cell? ⟨bb,bc,none⟩=some (.int .i64 lR)∧W.cell? ⟨bb,bc+1,none⟩=some (.int .i64 rX)∧W.cell? ⟨bb,bc+2,none⟩=some (.string (ag rY))∧W.cell? ⟨bb,bc+3,none⟩=some (.string (ag qQ))∧W.cell? ⟨bb,bc+4,none⟩=some (.int .i64 rZ)∧W.cell? ⟨bb,bc+5,none⟩=some (.int .i64 r_)∧W.cell? ⟨bb,bc+6,none⟩=some (.int .i64 se)∧W.cell? ⟨bb,bc+7,none⟩=some (.int .i64 sf)∧W.cell? ⟨bb,bc+8,none⟩=some (.slice si eX eZ))∧cK (fun c=>B≤c) W x0 [Value.int .i64 lR,.int .i64 rX,.string (ag rY),.string (ag qQ),.int .i64 rZ,.int .i64 r_,.int .i64 se,.int .i64 sf,.slice si eX eZ] from sj W hb hz)
  have sk:Hid (qs x0):=by rw [←hx0];exact oO.o 0 hi0
  have I8:aC x0≤ax ks:=by rw [←hx0];exact ez (cI _)
  have xf:=hide hx0;clear hx0 sj;have nu:=hide (And.intro hc1 ho);clear hc1 hc2 hc3 ho;go_wp2_with fail;refine (C3.o).mono ?_;rintro e w3 ⟨rfl,p3,t3⟩;have P3:=hide p3;have T3:=hide (T2.o.trans t3);have iR:=hide (t3.row ia.o (by decide) (by omega));clear p3 t3 C3;clear dJ eN ei ek dF dG eA eB cj;have CW:=ae (Calls Tryz.prog 73 #[.pointer (some ⟨b,0,none⟩),.slice (some ⟨w3.heap.size,0,none⟩) 2 2] (w3.alloc (.cells #[.string (ag s),.string {data:=#[40]}] 9)) (jn B b (w3.alloc (.cells #[.string (ag s),.string {data:=#[40]}] 9)) ((some st:Option St).map (fB · [s,[40]])) (M+jD [s,[40]]))) (u_ B b [s,[40]] w3.heap.size 2 _ _ _ (P3.o.alloc _) (Row.new _ _ _) (by simp only [jD,aj,aK];omega) (by simp));have Bx:B≤w3.heap.size:=br P3.o.lt.2 (Nat.le_of_lt P3.o.lt.1);have C4:=hide (CW.o.mono fun e w' hx=>show jn B b w3 ((some st:Option St).map (fB · [s,[40]])) (M+40) e w' from ⟨hx.1,hx.2.1.mono (by simp only [jD,aj,aK];omega),((aM.refl B b w3).alloc Bx _).trans hx.2.2⟩);clear CW Bx
  obtain ⟨o4,q4⟩:∃z_,(some st:Option St).map (fB · [s,[40]])=z_:=⟨_,rfl⟩
  rw [q4] at C4;have Q4:=hide q4;clear q4;go_wp2_with fail;refine (C4.o).mono ?_;rintro e w4 ⟨rfl,p4,t4⟩;have P4:=hide p4;have T4:=hide (T3.o.trans t4);have jJ:=hide (t4.row iR.o (by decide) (by omega));clear p4 t4 C4;have cj:w4.cell? ⟨w.heap.size,8,none⟩=some (.slice (some ⟨bb,bc,none⟩) ks.length cap):=jJ.o.cell 8;obtain ⟨⟨d0,d1,d2,d3,d4,d5,d6,d7,d8⟩,qR⟩:=K0.o w4 T4.o.below T4.o.size;have hnd:=hide qR;clear qR;go_wp2_with fail;refine bW (sk.o B b (need) _ o4 _ w4 P4.o hnd.o h0 tQ (by omega)) T4 jJ (by decide) (by omega) fun w5 o5 Q5 P5 T5 oP=>?_;clear cj d0 d1 d2 d3 d4 d5 d6 d7 d8 hnd;go_wp2_with fail;refine bW (bT B b [41] 1 o5 ((M+40)+2000*aC x0) w5 P5.o (by omega)) T5 oP (by decide) (by omega) fun w6 o6 Q6 P6 T6 oI=>?_
  have HP:=ae (cz w6 B b (o.bind (kG (.mk kd a0 nm vl xa xb xc xd ks) (aq aD aQ ks) s need)) (M+1500+2000*ax ks)) (by
   have hp:=P6.o;rw [←Q6.o,←Q5.o,←Q4.o,Vs st s] at hp
   have e:o.bind (kG (.mk kd a0 nm vl xa xb xc xd ks) (aq aD aQ ks) s need)=(bC aD aQ x0 need (fB st [s,[40]])).bind fun st=>some (bD st [41]):=by
    rw [nu.o.2];show kG _ _ _ _ st=_;unfold kG;rw [if_pos ⟨nu.o.1,by rw [a_];exact HLEN.o⟩,jk ks hi0,xf.o]
   rw [e]
   exact hp.mono (by first|omega|(simp only [aj,aK];omega)))
  go_wp2;go_end0;exact ⟨rfl,HP.o,T6.o⟩
def jl (B b:Nat) (w:World) (ks:List Nd) (M c:Nat) (fin:Option St) (rest:Nat→Option St→Option St) (i:Value) (wr:World):Prop:=
 ∃(k:Nat) (o:Option St),k≤ks.length∧i=.int .i64 (k:Int)∧cz wr B b o (M+c*k+2000*ax (ks.take k))∧aM B b w wr∧rest k o=fin
theorem jl.start {B b:Nat} {w:World} {ks:List Nd} {M c:Nat} {fin:Option St} {rest:Nat→Option St→Option St} {o:Option St} (h:cz w B b o M) (e:rest 0 o=fin):jl B b w ks M c fin rest (.int .i64 (0:Int)) w:=
 ⟨0,o,bj _,rfl,h.mono (by omega),aM.refl _ _ _,e⟩
theorem jl.step {B b:Nat} {w wr:World} {ks:List Nd} {M c M':Nat} {fin:Option St} {rest:Nat→Option St→Option St} {o:Option St} {k:Nat} (hk:k<ks.length) (h:cz wr B b o M') (hM:M'≤M+c*k+2000*ax (ks.take k)+c+2000*aC ks[k]) (ht:aM B b w wr) (e:rest (k+1) o=fin) {i:Value} (hi:i=.int .i64 ((k:Int)+1)):jl B b w ks M c fin rest i wr:=by
 refine ⟨k+1,o,hk,?_,h.mono ?_,ht,e⟩
 ·rw [hi];rfl
 ·rw [List.take_succ_eq_append_getElem hk,tV,Nat.mul_succ];omega
theorem kZ (ks:List Nd):∀k,ax (ks.take k)≤ax ks:=by
 induction ks with
 |nil=>intro k;simp
 |cons x r ih=>
  intro k
  cases k with
  |zero=>simp [ax]
  |succ k=>rw [List.take_succ_cons,ax,ax];have:=ih k;omega
theorem mZ {ks:List Nd} {k:Nat} (h:k<ks.length):ax (ks.take k)+aC ks[k]≤ax ks:=by
 have:=kZ ks (k+1);rw [List.take_succ_eq_append_getElem h,tV] at this;exact this
def lF (ks:List Nd) (k:Nat) (o:Option St):Option St:=o.bind (kz (aq aD aQ (ks.drop k)))
theorem Fw {ks:List Nd} {k:Nat} (hk:k<ks.length) (o:Option St):lF ks (k+1) ((o.map (bD · [32,119,104,105,108,101,32])).bind (bC aD aQ ks[k] 0))=lF ks k o:=by
 unfold lF;rw [cn hk,aq]
 cases o with
 |none=>rfl
 |some st=>rfl
theorem I9 (ks:List Nd) (o:Option St):lF ks ks.length o=o:=by
 unfold lF;rw [List.drop_length,aq]
 cases o<;>rfl
theorem Fx (B b:Nat) (ks:List Nd) (A:Option Addr) (cap:Nat) (o:Option St) (M:Nat) (w:World) (h:cz w B b o M) (hk:sJ B w ks A) (gS:∀i (hi:i<ks.length),qs ks[i]) (hn:ks.length≤1000000) (hM:M+10*ks.length+2000*ax ks≤1099511627776):
 Calls Tryz.prog 150 #[.pointer (some ⟨b,0,none⟩),.slice A ks.length cap] w (jn B b w (lF ks 0 o) (M+10*ks.length+2000*ax ks)):=by
 have hlt:=h.lt.1;have hge:=h.lt.2;have oN:=hide hk;have oO:=hide gS;have P0:=hide h;have HM:=hide hM
 obtain ⟨fin,hfin⟩:∃f,lF ks 0 o=f:=⟨_,rfl⟩
 rw [hfin];have Vt:=hide (jl.start (ks:=ks) (c:=10) h hfin);clear h hk gS hM hfin
 obtain ⟨N,hN⟩:∃N,ks.length=N:=⟨_,rfl⟩
 rw [hN] at hn⊢;have HN:=hide hN;clear hN;go_enter Tryz.func150,Tryz.ntmps150;go_wp2_with fail
 go_loopw [8] (fun i wr=>jl B b w ks M 10 fin (lF ks) i wr) (fun i _=>N-(intOf i).toNat)
 case atStart=>exact Vt.o
 case round=>
  obtain ⟨k,o1,hk,rfl,hp,ht,he⟩:=hrel;rw [HN.o] at hk;have qu:=hide hp;have Gx:=hide ht;have HE:=hide he;clear hp ht he;by_cases hlt':k<N
  ·have ir:k<ks.length:=by rw [HN.o];exact hlt'
   have hk':(k:Int)<(N:Int):=by omega
   have uQ:(0:Int)≤(k:Int):=by omega
   have hw1:IntKind.i64.wrap ((k:Int)+1)=(k:Int)+1:=bI _ (by omega);obtain ⟨bk,off,yk,y0,yn,yv,ya,yb,yc,yd,yA,cZ,cv,rfl,hK⟩:=oN.o.kid ir;obtain ⟨⟨c0,c1,c2,c3,c4,c5,c6,c7,c8⟩,_⟩:=hK wr Gx.o.below Gx.o.size;have K0:=hide hK;have sk:=hide (oO.o k ir);have HST:=hide (Fw ir o1);have hcn:=mZ ir;have hmm:=HM.o;have iM:=hide (fun (W':World) (o':Option St) (M':Nat) (h:cz W' B b o' M') (hM:M'≤M+10*k+2000*ax (ks.take k)+10+2000*aC ks[k]) (ht:aM B b w W') (e:lF ks (k+1) o'=fin)=>jl.step (c:=10) ir h hM ht e rfl)
   obtain ⟨x,hx⟩:∃x,ks[k]=x:=⟨_,rfl⟩
   rw [hx] at sk hcn iM HST;have HX:=hide hx;clear hK hx;rw [HN.o] at hmm
   obtain ⟨u,hu⟩:∃u,ax (ks.take k)=u:=⟨_,rfl⟩
   rw [hu] at qu hcn iM;have wS:B≤wr.heap.size:=br hge (Nat.le_of_lt qu.o.lt.1);have Pk:wr.heap.size≠b:=Nat.ne_of_gt qu.o.lt.1
   obtain ⟨w1,kN⟩:∃w1,w1=wr.alloc (.cells (aB yk y0 yn yv ya yb yc yd (.slice yA cZ cv)).toArray 25):=⟨_,rfl⟩
   have hb1:Below wr.heap.size wr w1:=by rw [kN];exact (af _ wr).alloc (aa _) _
   have P1:=hide (qu.o.keep hb1);have T1:=hide (Gx.o.trans (aM.of_below (b:=b) hb1 wS));have fU:=ae (Row w1 wr.heap.size 25 (aB yk y0 yn yv ya yb yc yd (.slice yA cZ cv)).toArray) (by rw [kN];exact Row.new _ _ _);have cR:=hide kN.symm;clear kN hb1 hu;unfold aB at cR fU;go_upto_region 3 with fail;rw [cR.o];clear c0 c1 c2 c3 c4 c5 c6 c7 c8;go_wp2_with fail;refine bW (bT B b [32,119,104,105,108,101,32] 7 o1 (M+10*k+2000*u) w1 P1.o (by omega)) T1 fU (by decide) (by omega) fun w2 o2 Q2 P2 T2 ia=>?_;obtain ⟨dJ,eN,ei,ek,dF,dG,eA,eB,cj⟩:=ak ia.o;obtain ⟨_,hnd⟩:=K0.o w2 T2.o.below T2.o.size;go_wp2_with fail;refine bW (show Calls Tryz.prog 45 #[.pointer (some ⟨b,0,none⟩),.agg #[.int .i64 yk,.int .i64 y0,.string (ag yn),.string (ag yv),.int .i64 ya,.int .i64 yb,.int .i64 yc,.int .i64 yd,.slice yA cZ cv],.int .i64 0] w2 (jn B b w2 (o2.bind (bC aD aQ x 0)) (((M+10*k+2000*u)+8)+2000*aC x)) from sk.o B b 0 _ o2 _ w2 P2.o (by rw [←HX.o];exact hnd) (by decide) (by decide) (by first|omega|(simp only [aj,aK];omega))) T2 ia (by decide) (by omega) fun w3 o3 Q3 P3 T3 iR=>?_;clear dJ eN ei ek dF dG eA eB cj hnd;have HL:=hide (iM.o w3 o3 _ P3.o (by first|omega|(simp only [aj,aK];omega)) T3.o (by rw [←Q3.o,←Q2.o,HST.o];exact HE.o));go_wp2;go_roundw
   case rel=>exact HL.o
   case measure=>simp [intOf];omega
  ·obtain rfl:k=N:=by omega
   have hk':¬(k:Int)<(k:Int):=by omega
   have LW:=hide (show o1=fin by have:=HE.o;rw [←HN.o,I9] at this;exact this)
   have P9:=ae (cz wr B b fin (M+10*k+2000*ax ks)) (by
    have:=qu.o;rw [LW.o] at this
    exact this.mono (by have:=kZ ks k;omega))
   clear qu;go_wp2;go_end0;exact ⟨rfl,P9.o,Gx.o⟩
end Go.Proofs.YtddoehnkgcbboaaGreatDoor
