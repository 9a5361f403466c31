/- A part of the proof that the last file tells. -/
import Derived.Test.YtddoehnkgcbboaaGreatDoorAgG
set_option maxHeartbeats 16000000
set_option maxRecDepth 100000
set_option linter.unusedVariables false
set_option linter.unusedSimpArgs false
namespace Go.Proofs.YtddoehnkgcbboaaGreatDoor
open Go.RowKit Go.Shelf
theorem Yk (l:List UInt8):cf l=ag l:=rfl
theorem Er (l:List UInt8) (w:World) (hl:l.length≤50000) (hG:Gl w):
 Calls Tryz.prog 122 #[.string (ag l)] w fun e w'=>e=.returned (sQ (fg l))∧Below w.heap.size w w':=by
 have hz:=aO l;have hg:∀(i:Nat) (h:i<(ag l).size) (h2:i<l.length),(ag l)[i]'h=l[i]:=fun i h h2=>fu l i h
 obtain ⟨n,hn⟩:∃n,bf bg l=n:=⟨_,rfl⟩
 have hnl:n≤l.length:=by rw [←hn];exact fA _ _
 have RD:=hide (fun W:World=>show Calls Tryz.prog 117 #[.string (ag l),.int .i64 0,.func (.func 121) #[] #[]] W fun e w'=>e=.returned (.int .i64 (n:Int))∧Below W.heap.size W w' by
  have:=oW l 0 W (by omega) (by omega);rw [List.drop_zero,hn,Nat.zero_add] at this
  exact this)
 have RD1:=hide (fun W:World=>show Calls Tryz.prog 117 #[.string (ag l),.int .i64 ((n:Int)+1),.func (.func 121) #[] #[]] W fun e w'=>e=.returned (.int .i64 ((n+1+bf bg (l.drop (n+1)):Nat):Int))∧Below W.heap.size W w' by
  have:=oW l (n+1) W (by omega) (by omega)
  rwa [show ((n+1:Nat):Int)=(n:Int)+1 by omega] at this)
 have CQ:=hide (fun W:World=>xG l n W (by omega) (by omega))
 obtain ⟨C,hC⟩:∃C,bY l n=C:=⟨_,rfl⟩
 have hCl:C≤l.length:=by rw [←hC];exact AX _ _
 obtain ⟨e1,he1⟩:∃e1,jS l n=e1:=⟨_,rfl⟩
 have acz:n≤e1∧e1≤l.length:=by rw [←he1];exact Kc hnl
 obtain ⟨e2,Ae⟩:∃e2,ic l e1=e2:=⟨_,rfl⟩
 have adI:e1≤e2∧e2≤l.length:=by rw [←Ae];exact Ke acz.2
 have EX:=hide (fun W:World=>zT l e1 W (by omega) (by omega))
 obtain ⟨k,hk⟩:∃k,iD (l.drop n)=k:=⟨_,rfl⟩
 have hkl:k≤2∧n+k≤l.length:=by rw [←hk];have:=pj (l.drop n);rw [aA] at this;omega
 have zZ:=hide (show fg l=tF l n C e2 k by unfold fg;rw [hn,hC,he1,Ae,hk]);have AL:=hide (fun (m:Nat) (W:World) (h:m≤50000)=>GM l m W (by omega) (by omega));have xs:∀m,(ag l).extract 0 m=ag (l.take m):=sN l;have xd:(ag l).extract n (ag l).size=ag (l.drop n):=sM l n
 have xm:(ag l).extract n (n+k)=ag ((l.drop n).take k):=by rw [B_,Nat.add_sub_cancel_left]
 rw [hC] at CQ;rw [Ae] at EX;have HXs:=hide xs;have HXd:=hide xd;have HXm:=hide xm;have He1:=hide he1;have Hk:=hide hk;have HLD:=ae ((ag l).size=l.length) hz;clear hn hC he1 Ae hk xs xd xm;generalize ag l=s at*;have Hg:=hide hg;clear hg hz;go_enter Tryz.func122,Tryz.ntmps122;go_upto_region 1 with fail
 obtain ⟨W1,hW1⟩:∃W1,w.alloc (.cells #[.int .i64 0,.string ⟨#[]⟩,.int .i64 0,.int .i64 0,.int .i64 0] 85)=W1:=⟨_,rfl⟩
 rw [hW1];have mi:=hide (show Below w.heap.size w W1 by rw [←hW1];exact (af _ _).alloc (aa _) _);have oF:=hide (show ZW W1 w.heap.size by rw [←hW1];exact Row.new _ _ _);clear hW1
 obtain ⟨g,hgg⟩:∃g,w.heap.size=g:=⟨_,rfl⟩
 rw [hgg] at oF;rw [hgg];have AJ:=hide hgg;clear hgg;go_wp2_with fail;refine (RD.o _).mono ?_;rintro e w1 ⟨rfl,hb⟩;have dX:=hide (mi.o.trans (hb.mono mi.o.size));have jx:=ae (ZW w1 g) (oF.o.below hb oF.o.lt);clear hb;go_wp2_with fail;refine (CQ.o _).mono ?_;rintro e w2 ⟨rfl,hb⟩;have iM:=hide (dX.o.trans (hb.mono dX.o.size));have qG:=ae (ZW w2 g) (jx.o.below hb jx.o.lt);clear hb;by_cases hC0:0<C
 ·have hC':(0:Int)<(C:Int):=by omega
  have hCs:(C:Int)≤(s.size:Int):=by have:=HLD.o;omega
  cases hal:bB l C with
  |false=>
   have A:=hide (fun W:World=>AL.o C W (by omega));rw [hal] at A;have HV:=hide (show fg l=dI 3 by rw [zZ.o];unfold tF;rw [if_pos hC0,hal];rfl);clear hal hC0;go_wp2_with fail;refine (A.o _).mono ?_;rintro e wz ⟨rfl,rfl⟩;go_wp2_with fail;refine (eF 3 _).mono ?_;rintro e w3 ⟨rfl,hb⟩;have nk:=hide (iM.o.trans (hb.mono iM.o.size));have uq:=ae (ZW w3 g) (qG.o.below hb qG.o.lt);clear hb;have r9:=uq.o;have N_:=r9.cell 0;have Oa:=r9.cell 1;have Ob:=r9.cell 2;have Oc:=r9.cell 3;have Od:=r9.cell 4;have Oe:=r9.frozen 0;have Og:=r9.frozen 1;have Oh:=r9.frozen 2;have Oi:=r9.frozen 3;have Oj:=r9.frozen 4;clear r9;go_wp2;refine bodyPost_ret (v:=.agg #[.int .i64 0,.string ⟨#[]⟩,.int .i64 0,.int .i64 0,.int .i64 3]) (ai rfl _ _ g 85 _ _ _ rfl (uq.o.put _ _ _ _ _) Tryz.underlying85 rfl (by kernel_rfl)) rfl ?_;rw [HV.o];exact ⟨rfl,eo nk.o (Nat.le_of_eq AJ.o) _ _ _ _ _⟩
  |true=>
   have A:=hide (fun W:World=>AL.o C W (by omega));rw [hal] at A
   obtain ⟨⟨t,er⟩,hu⟩:∃p,fD (l.take C)=p:=⟨_,rfl⟩
   have HV:=hide (show fg l=⟨3,t,C,er⟩ by rw [zZ.o];unfold tF;rw [if_pos hC0,hal,if_pos rfl,hu]);have BT:=hide (fun W:World=>Hi (l.take C) W (by rw [cr];omega));rw [hu] at BT;have x1:=HXs.o C;generalize ag (l.take C)=sp at*;clear hal hC0 hu;go_wp2_with fail;refine (A.o _).mono ?_;rintro e wz ⟨rfl,rfl⟩;go_wp2_with fail;refine (BT.o _).mono ?_;rintro e w3 ⟨rfl,hb⟩;have nk:=hide (iM.o.trans (hb.mono iM.o.size));have uq:=ae (ZW w3 g) (qG.o.below hb qG.o.lt);clear hb;have r9:=uq.o;have N_:=r9.cell 0;have Oa:=r9.cell 1;have Ob:=r9.cell 2;have Oc:=r9.cell 3;have Od:=r9.cell 4;have Oe:=r9.frozen 0;have Og:=r9.frozen 1;have Oh:=r9.frozen 2;have Oi:=r9.frozen 3;have Oj:=r9.frozen 4;clear r9;go_wp2;refine bodyPost_ret (v:=.agg #[.int .i64 3,.string (ag t),.int .i64 0,.int .i64 (C:Int),.int .i64 er]) (ai rfl _ _ g 85 _ _ _ rfl (uq.o.put _ _ _ _ _) Tryz.underlying85 rfl (by kernel_rfl)) rfl ?_;rw [HV.o];exact ⟨rfl,eo nk.o (Nat.le_of_eq AJ.o) _ _ _ _ _⟩
 have hC':¬(0:Int)<(C:Int):=by omega
 have nJ:=hide (show fg l=if n<e2 then (if bB l e2 then ⟨4,(cP (l.take e2)).1,e2,(cP (l.take e2)).2⟩ else dI 3) else if bB l (n+k)=false then dI 3 else if 15<(bO (l.take n)).length then dI 9 else ma (if k=0 then 1 else 2) (bO (l.take n)++(l.drop n).take k) (n+k) by rw [zZ.o];unfold tF;rw [if_neg hC0]);clear hC0 RD CQ zZ;have HG2:=ae (Gl w2) (hG.below iM.o);go_upto_region 9 with fail
 obtain ⟨dt,hdt⟩:∃dt,Cs l n=dt:=⟨_,rfl⟩
 have Hdt:=hide hdt;have hqB:=Yj l n;rw [hdt] at hqB;have HqB:=hide hqB;clear hdt hqB;go_cut [56] (fun v wx=>v=.bool dt∧wx=w2)
 case first=>
  have hw1:IntKind.i64.wrap ((n:Int)+1)=(n:Int)+1:=bI _ (by omega);by_cases d1:l.length≤n+1
  ·have q1:¬(n:Int)+1<(s.size:Int):=by have:=HLD.o;omega
   have HE:=hide (show Value.bool false=.bool dt by rw [←Hdt.o,Px d1]);clear d1;go_wp2_with fail;go_meet;exact ⟨HE.o,rfl⟩
  have q1:(n:Int)+1<(s.size:Int):=by have:=HLD.o;omega
  have q0:(0:Int)≤(n:Int):=by omega
  have q2:(0:Int)≤(n:Int)+1:=by omega
  have q3:((n:Int)+1).toNat=n+1:=by omega
  have q4:(n:Int)<(s.size:Int):=by omega
  have hs0:n<s.size:=by omega
  have hs1:n+1<s.size:=by omega
  obtain ⟨c,hc⟩:∃c,l[n]'(by omega)=c:=⟨_,rfl⟩
  obtain ⟨d,hd⟩:∃d,l[n+1]'(by omega)=d:=⟨_,rfl⟩
  have hsc:s[n]'hs0=c:=by rw [Hg.o n hs0 (by omega),hc]
  have SY:s[n+1]'hs1=d:=by rw [Hg.o (n+1) hs1 (by omega),hd]
  by_cases oL:c=46;rotate_left
  ·have p1:((c.toNat:Int)==46)=false:=aL (d:=46) oL;have HE:=hide (show Value.bool false=.bool dt by rw [←Hdt.o,Uw (by omega) (by rw [hc];exact oL)]);clear d1 hc hd oL;go_wp2_with fail;go_meet;exact ⟨HE.o,rfl⟩
  subst oL;have HE:=hide (show Value.bool (bg d)=.bool dt by rw [←Hdt.o,Py (by omega) hc,hd]);have DG:=hide (jw d);clear d1 hc hd;generalize bg d=dg at*;go_wp2_with fail;refine (DG.o _).mono ?_;rintro e wz ⟨rfl,rfl⟩;go_wp2_with fail;go_meet;exact ⟨HE.o,rfl⟩
 case rest=>
 obtain ⟨rfl,rfl⟩:=hcut;go_upto_if 56 with fail;go_cut [7] (fun v wx=>v=.int .i64 (e1:Int)∧Below w.heap.size w wx∧ZW wx g∧Gl wx)
 case first=>
  have hw1:IntKind.i64.wrap ((n:Int)+1)=(n:Int)+1:=bI _ (by omega)
  cases dt with
  |false=>
   have HE:=hide (show Value.int .i64 (n:Int)=.int .i64 (e1:Int) by rw [←He1.o,HqB.o];rfl);go_wp2_with fail;go_meet;exact ⟨HE.o,iM.o,qG.o,HG2.o⟩
  |true=>
   have hee:n+1+bf bg (l.drop (n+1))=e1:=by rw [←He1.o,HqB.o];rfl
   rw [hee] at RD1;clear hee;go_wp2_with fail;refine (RD1.o _).mono ?_;rintro e w3 ⟨rfl,hb⟩;have nk:=hide (iM.o.trans (hb.mono iM.o.size));have uq:=ae (ZW w3 g) (qG.o.below hb qG.o.lt);have HG3:=hide (HG2.o.below hb);clear hb;go_wp2_with fail;go_meet;exact ⟨rfl,nk.o,uq.o,HG3.o⟩
 case rest=>
 obtain ⟨rfl,hb,hr,hG2⟩:=hcut;have nk:=hide hb;have uq:=hide hr;have HG3:=hide hG2;clear hb hr hG2 RD1 He1 iM qG HG2 dX jx mi oF Hg;go_wp2_with fail;refine (EX.o _).mono ?_;rintro e w4 ⟨rfl,hb⟩;have zN:=hide (nk.o.trans (hb.mono nk.o.size));have PB:=ae (ZW w4 g) (uq.o.below hb uq.o.lt);clear hb;have Ul:=ae (Gl w4) (hG.below zN.o);clear EX;by_cases hne:n<e2
 ·have aaK:(n:Int)<(e2:Int):=by omega
  have hes:(e2:Int)≤(s.size:Int):=by have:=HLD.o;omega
  have A:=hide (fun W:World=>AL.o e2 W (by omega))
  cases hal:bB l e2 with
  |false=>
   rw [hal] at A;have HV:=hide (show fg l=dI 3 by rw [nJ.o,if_pos hne,hal];rfl);clear hal hne;go_wp2_with fail;refine (A.o _).mono ?_;rintro e wz ⟨rfl,rfl⟩;go_wp2_with fail;refine (eF 3 _).mono ?_;rintro e w5 ⟨rfl,hb⟩;have mI:=hide (zN.o.trans (hb.mono zN.o.size));have LY:=ae (ZW w5 g) (PB.o.below hb PB.o.lt);clear hb;have r9:=LY.o;have N_:=r9.cell 0;have Oa:=r9.cell 1;have Ob:=r9.cell 2;have Oc:=r9.cell 3;have Od:=r9.cell 4;have Oe:=r9.frozen 0;have Og:=r9.frozen 1;have Oh:=r9.frozen 2;have Oi:=r9.frozen 3;have Oj:=r9.frozen 4;clear r9;go_wp2;refine bodyPost_ret (v:=.agg #[.int .i64 0,.string ⟨#[]⟩,.int .i64 0,.int .i64 0,.int .i64 3]) (ai rfl _ _ g 85 _ _ _ rfl (LY.o.put _ _ _ _ _) Tryz.underlying85 rfl (by kernel_rfl)) rfl ?_;rw [HV.o];exact ⟨rfl,eo mI.o (Nat.le_of_eq AJ.o) _ _ _ _ _⟩
  |true=>
   rw [hal] at A;have hrq:cP (l.take e2)=((bG 100000 (l.take e2)).1.data.toList,(bG 100000 (l.take e2)).2):=rfl;have DP:=hide (fun (W:World) (h:Gl W)=>Cr (l.take e2) W (by rw [cr];omega) h)
   obtain ⟨⟨t,er⟩,hu⟩:∃p,bG 100000 (l.take e2)=p:=⟨_,rfl⟩
   rw [hu] at hrq DP;have HV:=hide (show fg l=⟨4,t.data.toList,e2,er⟩ by rw [nJ.o,if_pos hne,hal,if_pos rfl,hrq]);have x1:=HXs.o e2;rw [Yk] at DP;generalize ag (l.take e2)=sp at*;clear hal hne hu hrq;go_wp2_with fail;refine (A.o _).mono ?_;rintro e wz ⟨rfl,rfl⟩;go_wp2_with fail;refine (DP.o _ Ul.o).mono ?_;rintro e w5 ⟨rfl,hb⟩;have mI:=hide (zN.o.trans (hb.mono zN.o.size));have LY:=ae (ZW w5 g) (PB.o.below hb PB.o.lt);clear hb;have r9:=LY.o;have N_:=r9.cell 0;have Oa:=r9.cell 1;have Ob:=r9.cell 2;have Oc:=r9.cell 3;have Od:=r9.cell 4;have Oe:=r9.frozen 0;have Og:=r9.frozen 1;have Oh:=r9.frozen 2;have Oi:=r9.frozen 3;have Oj:=r9.frozen 4;clear r9;go_wp2;refine bodyPost_ret (v:=.agg #[.int .i64 4,.string t,.int .i64 0,.int .i64 (e2:Int),.int .i64 er]) (ai rfl _ _ g 85 _ _ _ rfl (LY.o.put _ _ _ _ _) Tryz.underlying85 rfl (by kernel_rfl)) rfl ?_;rw [HV.o];exact ⟨rfl,eo mI.o (Nat.le_of_eq AJ.o) _ _ _ _ _⟩
 have aaK:¬(n:Int)<(e2:Int):=by omega
 have hee:e2=n:=by omega
 have nE:=hide (show fg l=if bB l (n+k)=false then dI 3 else if 15<(bO (l.take n)).length then dI 9 else ma (if k=0 then 1 else 2) (bO (l.take n)++(l.drop n).take k) (n+k) by rw [nJ.o,if_neg hne]);subst hee;clear nJ hne aaK
 have hns:(e2:Int)≤(s.size:Int):=by have:=HLD.o;omega
 have ST:=hide (fun W:World=>zW (l.take e2) W)
 obtain ⟨T,hT⟩:∃T,bO (l.take e2)=T:=⟨_,rfl⟩
 have WA:T.length≤50001:=by
  rw [←hT];unfold bO
  split
  ·show 1≤_;omega
  ·have:=(List.dropWhile_sublist (p:=(·==(48:UInt8))) (l:=l.take e2)).length_le;rw [cr] at this;omega
 rw [hT] at ST nE;have x1:=HXs.o e2;generalize ag (l.take e2)=sp at*;clear hT;go_wp2_with fail;refine (ST.o _).mono ?_;rintro e w5 ⟨rfl,hb⟩;have mI:=hide (zN.o.trans (hb.mono zN.o.size));have LY:=ae (ZW w5 g) (PB.o.below hb PB.o.lt);clear hb;have HG5:=ae (Gl w5) (hG.below mI.o);have x2:=HXd.o
 have q0:(0:Int)≤(e2:Int):=by omega
 have HP:=hide (fun (u:List UInt8) (W:World)=>show Calls Tryz.prog 124 #[.string (ag (l.drop e2)),.string (ag u)] W fun e w'=>e=.returned (.bool (Lib.hasPrefix (l.drop e2) u))∧w'=W from Tryz.strings_HasPrefix (ag (l.drop e2)) (ag u) W)
 obtain ⟨D,hD⟩:∃D,l.drop e2=D:=⟨_,rfl⟩
 have Hk2:=hide (show gY cA D=k by rw [←hD];exact Hk.o);rw [hD] at HP nE;have acA:=hide (show s.extract e2 (e2+k)=ag (D.take k) by rw [←hD];exact HXm.o);rw [hD] at x2
 have hDk:(D.take k).length≤2:=by rw [cr];omega
 clear hD Hk HXm HXd;generalize ag D=sd at*;go_upto_region 19 with fail
 obtain ⟨W6,mj⟩:∃W6,w5.alloc (.cells (cA.map fun u=>Value.string (ag u)).toArray 9)=W6:=⟨_,rfl⟩
 change Code.wp _ _ _ _ (w5.alloc (.cells (cA.map fun u=>Value.string (ag u)).toArray 9));have sH:=hide (show Below w.heap.size w W6 by rw [←mj];exact mI.o.alloc mI.o.size _);have Gt:=hide (show ZW W6 g by rw [←mj];exact LY.o.alloc _);have HU:=hide (show Row W6 w5.heap.size 9 (cA.map fun u=>Value.string (ag u)).toArray by rw [←mj];exact Row.new _ _ _);rw [mj]
 obtain ⟨gu,Yl⟩:∃gu,w5.heap.size=gu:=⟨_,rfl⟩
 rw [Yl] at HU;rw [Yl];clear mj Yl
 go_loop [7,10,90] (fun v7 v10 v90=>∃i:Nat,v90=.int .i64 (i:Int)∧i≤6∧((v10=.int .i64 1∧v7=.int .i64 (e2:Int)∧gY (cA.drop i) D=k)∨(v10=.int .i64 2∧v7=.int .i64 ((e2+k:Nat):Int)∧0<k))) (fun _ _ v=>6-(intOf v).toNat)
 case atStart=>exact ⟨0,rfl,by omega,.inl ⟨rfl,rfl,Hk2.o⟩⟩
 case round=>
  obtain ⟨i,rfl,hi,hst⟩:=hrel;by_cases hlt:i<6
  ·have hi':(i:Int)<6:=by omega
   have hi0:(0:Int)≤(i:Int):=by omega
   have WC:i<cA.length:=hlt
   obtain ⟨u,hu⟩:∃u,cA[i]'WC=u:=⟨_,rfl⟩
   have hcell:W6.cell? ⟨gu,i,none⟩=some (.string (ag u)):=by
    have:=HU.o.cell i;rw [List.getElem?_toArray,List.getElem?_map,List.getElem?_eq_getElem WC,hu] at this;exact this
   have WE:cA.drop i=u::cA.drop (i+1):=by rw [←hu];exact cn WC
   have Ym:u.length≤2∧0<u.length:=by
    have h:=cI WC;rw [hu] at h;exact (show ∀v∈cA,v.length≤2∧0<v.length by decide) u h
   have WG:=aO u;have P:=hide (HP.o u);generalize ag u=us at*
   rcases hst with ⟨rfl,rfl,hf⟩|⟨rfl,rfl,hf⟩
   ·rw [WE] at hf
    cases hp:Lib.hasPrefix D u with
    |true=>
     rw [hp] at P
     have hk:u.length=k:=by rw [←hf];simp only [gY];rw [if_pos hp]
     have hnn:(e2:Int)+(us.size:Int)=((e2+k:Nat):Int):=by omega
     have HN:=hide (show Value.int .i64 ((e2:Int)+(us.size:Int))=.int .i64 ((e2+k:Nat):Int) by rw [hnn]);have Hk0:=hide (show 0<k by omega)
     have Ux:(us.size:Int)≤2:=by omega
     clear hf hp WE hu hk hnn WG Ym;go_wp2_with fail;refine (P.o _).mono ?_;rintro e wz ⟨rfl,rfl⟩;go_wp2;go_round
     case rel=>exact ⟨i+1,by go_num,by omega,.inr ⟨rfl,HN.o,Hk0.o⟩⟩
     case measure=>simp [intOf];omega
    |false=>
     rw [hp] at P;have Hf:=hide (show gY (cA.drop (i+1)) D=k by rw [←hf];conv=>rhs;unfold gY;rw [if_neg (by rw [hp];decide)]);clear hf hp WE hu WG Ym;go_wp2_with fail;refine (P.o _).mono ?_;rintro e wz ⟨rfl,rfl⟩;go_wp2;go_round
     case rel=>exact ⟨i+1,by go_num,by omega,.inl ⟨rfl,rfl,Hf.o⟩⟩
     case measure=>simp [intOf];omega
   ·have Hf:=hide hf;clear hf WE hu WG Ym;go_wp2;go_round
    case rel=>exact ⟨i+1,by go_num,by omega,.inr ⟨rfl,rfl,Hf.o⟩⟩
    case measure=>simp [intOf];omega
  ·have hi':¬(i:Int)<6:=by omega
   obtain rfl:i=6:=by omega
   obtain ⟨kd,LZ⟩:∃kd:Int,(if k=0 then 1 else 2)=kd:=⟨_,rfl⟩
   obtain ⟨q,hq⟩:∃q,e2+k=q:=⟨_,rfl⟩
   rw [LZ,hq] at nE
   have acB:u10=.int .i64 kd∧u7=.int .i64 (q:Int):=by
    rcases hst with ⟨rfl,rfl,hf⟩|⟨rfl,rfl,hf⟩
    ·have uQ:k=0:=by rw [←hf];rfl
     rw [if_pos uQ] at LZ;exact ⟨by rw [LZ],by rw [←hq,uQ];rfl⟩
    ·rw [if_neg (by omega)] at LZ;exact ⟨by rw [LZ],by rw [hq]⟩
   obtain ⟨rfl,rfl⟩:=acB
   have hql:q≤l.length:=by omega
   have hqs:(q:Int)≤(s.size:Int):=by have:=HLD.o;omega
   have hqn:(e2:Int)≤(q:Int):=by omega
   have A:=hide (fun W:World=>AL.o q W (by omega));have x3:=acA.o;rw [hq] at x3;have y1:∀W:World,(Op.stringOp .add (ag T) (ag (D.take k))).run Tryz.prog W=.ok (.string (ag (T++D.take k))) W:=fun W=>wK T (D.take k) (by omega) W;have FD:=hide (fun W:World=>iT kd (q:Int) (T++D.take k) W);have Yi:=aO T
   obtain ⟨R,hR⟩:∃R,T++D.take k=R:=⟨_,rfl⟩
   rw [hR] at y1 FD nE;clear hst hq LZ HP hi hR
   cases hal:bB l q with
   |false=>
    rw [hal] at A;have HV:=hide (show fg l=dI 3 by rw [nE.o,hal];rfl);clear hal;go_wp2_with fail;refine (A.o _).mono ?_;rintro e wz ⟨rfl,rfl⟩;go_wp2_with fail;refine (eF 3 _).mono ?_;rintro e w7 ⟨rfl,hb⟩;have Ct:=hide (sH.o.trans (hb.mono sH.o.size));have Kf:=ae (ZW w7 g) (Gt.o.below hb Gt.o.lt);clear hb;have r9:=Kf.o;have N_:=r9.cell 0;have Oa:=r9.cell 1;have Ob:=r9.cell 2;have Oc:=r9.cell 3;have Od:=r9.cell 4;have Oe:=r9.frozen 0;have Og:=r9.frozen 1;have Oh:=r9.frozen 2;have Oi:=r9.frozen 3;have Oj:=r9.frozen 4;clear r9;go_wp2;refine bodyPost_ret (v:=.agg #[.int .i64 0,.string ⟨#[]⟩,.int .i64 0,.int .i64 0,.int .i64 3]) (ai rfl _ _ g 85 _ _ _ rfl (Kf.o.put _ _ _ _ _) Tryz.underlying85 rfl (by kernel_rfl)) rfl ?_;rw [HV.o];exact ⟨rfl,eo Ct.o (Nat.le_of_eq AJ.o) _ _ _ _ _⟩
   |true=>
    rw [hal] at A;by_cases hbig:15<T.length
    ·have HV:=hide (show fg l=dI 9 by rw [nE.o,hal,if_neg (by decide),if_pos hbig])
     have hb1:(15:Int)<((ag T).size:Int):=by omega
     generalize ag T=ts at*;clear hal Yi hbig;go_wp2_with fail;refine (A.o _).mono ?_;rintro e wz ⟨rfl,rfl⟩;go_wp2_with fail;refine (eF 9 _).mono ?_;rintro e w7 ⟨rfl,hb⟩;have Ct:=hide (sH.o.trans (hb.mono sH.o.size));have Kf:=ae (ZW w7 g) (Gt.o.below hb Gt.o.lt);clear hb;have r9:=Kf.o;have N_:=r9.cell 0;have Oa:=r9.cell 1;have Ob:=r9.cell 2;have Oc:=r9.cell 3;have Od:=r9.cell 4;have Oe:=r9.frozen 0;have Og:=r9.frozen 1;have Oh:=r9.frozen 2;have Oi:=r9.frozen 3;have Oj:=r9.frozen 4;clear r9;go_wp2;refine bodyPost_ret (v:=.agg #[.int .i64 0,.string ⟨#[]⟩,.int .i64 0,.int .i64 0,.int .i64 9]) (ai rfl _ _ g 85 _ _ _ rfl (Kf.o.put _ _ _ _ _) Tryz.underlying85 rfl (by kernel_rfl)) rfl ?_;rw [HV.o];exact ⟨rfl,eo Ct.o (Nat.le_of_eq AJ.o) _ _ _ _ _⟩
    ·have HV:=hide (show fg l=ma kd R q by rw [nE.o,hal,if_neg (by decide),if_neg hbig])
     have hb1:¬(15:Int)<((ag T).size:Int):=by omega
     generalize ag T=ts at*;generalize ag (D.take k)=ds at*;clear hal Yi hbig;go_wp2_with fail;refine (A.o _).mono ?_;rintro e wz ⟨rfl,rfl⟩;go_wp2_with fail;refine (FD.o _).mono ?_;rintro e w7 ⟨rfl,hb⟩;have Ct:=hide (sH.o.trans (hb.mono sH.o.size));have Kf:=ae (ZW w7 g) (Gt.o.below hb Gt.o.lt);clear hb;have r9:=Kf.o;have N_:=r9.cell 0;have Oa:=r9.cell 1;have Ob:=r9.cell 2;have Oc:=r9.cell 3;have Od:=r9.cell 4;have Oe:=r9.frozen 0;have Og:=r9.frozen 1;have Oh:=r9.frozen 2;have Oi:=r9.frozen 3;have Oj:=r9.frozen 4;clear r9;go_wp2;refine bodyPost_ret (v:=.agg #[.int .i64 kd,.string (ag R),.int .i64 0,.int .i64 (q:Int),.int .i64 0]) (ai rfl _ _ g 85 _ _ _ rfl (Kf.o.put _ _ _ _ _) Tryz.underlying85 rfl (by kernel_rfl)) rfl ?_;rw [HV.o];exact ⟨rfl,eo Ct.o (Nat.le_of_eq AJ.o) _ _ _ _ _⟩
def dS:List (List UInt8)→List UInt8→Option (List UInt8)
 |[],_=>none
 |u::us,t=>if Lib.hasPrefix t u=true then some u else dS us t
def wM (r:Option (List UInt8)):Wq:=match r with|some u=>ma 6 u u.length|none=>dI 3
def aR (l:List UInt8):Wq:=match l with
 |[]=>dI 3
 |c::_=>if oC c=true∨c=92 then iY l else if bg c then fg l else if c=34 then fF l else wM (dS eD l)
theorem L8 (l:List UInt8) (w:World) (hl:l.length≤50000) (h0:0<l.length) (hG:Gl w):
 Calls Tryz.prog 76 #[.string (ag l)] w fun e w'=>e=.returned (sQ (aR l))∧Below w.heap.size w w':=by
 have hz:=aO l
 obtain ⟨c,r,hcr⟩:∃c r,l=c::r:=by
  cases l with
  |nil=>cases h0
  |cons a t=>exact ⟨a,t,rfl⟩
 have hs0:0<(ag l).size:=by omega
 have hsc:(ag l)[0]'hs0=c:=by rw [fu];simp [hcr]
 have zZ:=hide (show aR l=if oC c=true∨c=92 then iY l else if bg c then fg l else if c=34 then fF l else wM (dS eD l) by rw [hcr];rfl);have FI:=hide (rq c);have DG:=hide (jw c);have PA:=hide (fun W:World=>Ll l W hl);have NU:=hide (fun (W:World) (h:Gl W)=>Er l W hl h);have QU:=hide (fun W:World=>Cj l W hl);have HP:=hide (fun (u:List UInt8) (W:World)=>show Calls Tryz.prog 124 #[.string (ag l),.string (ag u)] W fun e w'=>e=.returned (.bool (Lib.hasPrefix l u))∧w'=W from Tryz.strings_HasPrefix (ag l) (ag u) W);clear hcr;generalize ag l=s at*;have Hz:=hide hz;have HG:=hide hG;clear hz hG;go_enter Tryz.func76,Tryz.ntmps76;go_upto_region 1 with fail
 obtain ⟨W1,hW1⟩:∃W1,w.alloc (.cells #[.int .i64 0,.string ⟨#[]⟩,.int .i64 0,.int .i64 0,.int .i64 0] 85)=W1:=⟨_,rfl⟩
 rw [hW1];have mi:=hide (show Below w.heap.size w W1 by rw [←hW1];exact (af _ _).alloc (aa _) _);have oF:=hide (show ZW W1 w.heap.size by rw [←hW1];exact Row.new _ _ _);clear hW1
 obtain ⟨g,hgg⟩:∃g,w.heap.size=g:=⟨_,rfl⟩
 rw [hgg] at oF;rw [hgg];have AJ:=hide hgg;clear hgg;have HG0:=ae (Gl W1) (HG.o.below mi.o);clear HG
 cases hf:oC c with
 |true=>
  rw [hf] at FI
  have hv:aR l=iY l:=by rw [zZ.o,if_pos (.inl hf)]
  obtain ⟨X,hX⟩:∃X,iY l=X:=⟨_,rfl⟩
  rw [hX] at hv PA;have HV:=hide hv;clear hv hX hf;obtain ⟨kd,tx,sz,er⟩:=X;have PA:=hide (fun W:World=>show Calls Tryz.prog 120 #[.string s] W fun e w'=>e=.returned (.agg #[.int .i64 kd,.string (ag tx),.int .i64 0,.int .i64 (sz:Int),.int .i64 er])∧Below W.heap.size W w' from PA.o W);go_wp2_with fail;refine (FI.o _).mono ?_;rintro e wz ⟨rfl,rfl⟩;go_wp2_with fail;refine (PA.o _).mono ?_;rintro e w1 ⟨rfl,hb⟩;have dX:=hide (mi.o.trans (hb.mono mi.o.size));have jx:=ae (ZW w1 g) (oF.o.below hb oF.o.lt);clear hb;have r9:=jx.o;have N_:=r9.cell 0;have Oa:=r9.cell 1;have Ob:=r9.cell 2;have Oc:=r9.cell 3;have Od:=r9.cell 4;have Oe:=r9.frozen 0;have Og:=r9.frozen 1;have Oh:=r9.frozen 2;have Oi:=r9.frozen 3;have Oj:=r9.frozen 4;clear r9;go_wp2;refine bodyPost_ret (v:=.agg #[.int .i64 kd,.string (ag tx),.int .i64 0,.int .i64 (sz:Int),.int .i64 er]) (ai rfl _ _ g 85 _ _ _ rfl (jx.o.put _ _ _ _ _) Tryz.underlying85 rfl (by kernel_rfl)) rfl ?_;rw [HV.o];exact ⟨rfl,eo dX.o (Nat.le_of_eq AJ.o) _ _ _ _ _⟩
 |false=>
 rw [hf] at FI;by_cases Lp:c=92
 ·have hv:aR l=iY l:=by rw [zZ.o,if_pos (.inr Lp)]
  obtain ⟨X,hX⟩:∃X,iY l=X:=⟨_,rfl⟩
  rw [hX] at hv PA;have HV:=hide hv;clear hv hX hf;subst Lp;obtain ⟨kd,tx,sz,er⟩:=X;have PA:=hide (fun W:World=>show Calls Tryz.prog 120 #[.string s] W fun e w'=>e=.returned (.agg #[.int .i64 kd,.string (ag tx),.int .i64 0,.int .i64 (sz:Int),.int .i64 er])∧Below W.heap.size W w' from PA.o W);have FI:=hide (fun W:World=>show Calls Tryz.prog 119 #[.int .u8 92] W fun e w'=>e=.returned (.bool false)∧w'=W from FI.o W);go_wp2_with fail;refine (FI.o _).mono ?_;rintro e wz ⟨rfl,rfl⟩;go_wp2_with fail;refine (PA.o _).mono ?_;rintro e w1 ⟨rfl,hb⟩;have dX:=hide (mi.o.trans (hb.mono mi.o.size));have jx:=ae (ZW w1 g) (oF.o.below hb oF.o.lt);clear hb;have r9:=jx.o;have N_:=r9.cell 0;have Oa:=r9.cell 1;have Ob:=r9.cell 2;have Oc:=r9.cell 3;have Od:=r9.cell 4;have Oe:=r9.frozen 0;have Og:=r9.frozen 1;have Oh:=r9.frozen 2;have Oi:=r9.frozen 3;have Oj:=r9.frozen 4;clear r9;go_wp2;refine bodyPost_ret (v:=.agg #[.int .i64 kd,.string (ag tx),.int .i64 0,.int .i64 (sz:Int),.int .i64 er]) (ai rfl _ _ g 85 _ _ _ rfl (jx.o.put _ _ _ _ _) Tryz.underlying85 rfl (by kernel_rfl)) rfl ?_;rw [HV.o];exact ⟨rfl,eo dX.o (Nat.le_of_eq AJ.o) _ _ _ _ _⟩
 have e92:((c.toNat:Int)==92)=false:=aL (d:=92) Lp;have nJ:=hide (show aR l=if bg c then fg l else if c=34 then fF l else wM (dS eD l) by rw [zZ.o,if_neg (by rintro (h|h);rw [hf] at h;cases h;exact Lp h)]);clear zZ hf Lp PA
 cases hd:bg c with
 |true=>
  rw [hd] at DG
  have hv:aR l=fg l:=by rw [nJ.o,hd,if_pos rfl]
  obtain ⟨X,hX⟩:∃X,fg l=X:=⟨_,rfl⟩
  rw [hX] at hv NU;have HV:=hide hv;clear hv hX hd;obtain ⟨kd,tx,sz,er⟩:=X;have NU:=hide (fun (W:World) (h:Gl W)=>show Calls Tryz.prog 122 #[.string s] W fun e w'=>e=.returned (.agg #[.int .i64 kd,.string (ag tx),.int .i64 0,.int .i64 (sz:Int),.int .i64 er])∧Below W.heap.size W w' from NU.o W h);go_wp2_with fail;refine (FI.o _).mono ?_;rintro e wz ⟨rfl,rfl⟩;go_wp2_with fail;refine (DG.o _).mono ?_;rintro e wz ⟨rfl,rfl⟩;go_wp2_with fail;refine (NU.o _ HG0.o).mono ?_;rintro e w1 ⟨rfl,hb⟩;have dX:=hide (mi.o.trans (hb.mono mi.o.size));have jx:=ae (ZW w1 g) (oF.o.below hb oF.o.lt);clear hb;have r9:=jx.o;have N_:=r9.cell 0;have Oa:=r9.cell 1;have Ob:=r9.cell 2;have Oc:=r9.cell 3;have Od:=r9.cell 4;have Oe:=r9.frozen 0;have Og:=r9.frozen 1;have Oh:=r9.frozen 2;have Oi:=r9.frozen 3;have Oj:=r9.frozen 4;clear r9;go_wp2;refine bodyPost_ret (v:=.agg #[.int .i64 kd,.string (ag tx),.int .i64 0,.int .i64 (sz:Int),.int .i64 er]) (ai rfl _ _ g 85 _ _ _ rfl (jx.o.put _ _ _ _ _) Tryz.underlying85 rfl (by kernel_rfl)) rfl ?_;rw [HV.o];exact ⟨rfl,eo dX.o (Nat.le_of_eq AJ.o) _ _ _ _ _⟩
 |false=>
 rw [hd] at DG;by_cases WI:c=34
 ·have hv:aR l=fF l:=by rw [nJ.o,hd,if_neg (by decide),if_pos WI]
  obtain ⟨X,hX⟩:∃X,fF l=X:=⟨_,rfl⟩
  rw [hX] at hv QU;have HV:=hide hv;clear hv hX hd;subst WI;obtain ⟨kd,tx,sz,er⟩:=X;have QU:=hide (fun W:World=>show Calls Tryz.prog 123 #[.string s] W fun e w'=>e=.returned (.agg #[.int .i64 kd,.string (ag tx),.int .i64 0,.int .i64 (sz:Int),.int .i64 er])∧Below W.heap.size W w' from QU.o W);have FI:=hide (fun W:World=>show Calls Tryz.prog 119 #[.int .u8 34] W fun e w'=>e=.returned (.bool false)∧w'=W from FI.o W);have DG:=hide (fun W:World=>show Calls Tryz.prog 121 #[.int .u8 34] W fun e w'=>e=.returned (.bool false)∧w'=W from DG.o W);go_wp2_with fail;refine (FI.o _).mono ?_;rintro e wz ⟨rfl,rfl⟩;go_wp2_with fail;refine (DG.o _).mono ?_;rintro e wz ⟨rfl,rfl⟩;go_wp2_with fail;refine (QU.o _).mono ?_;rintro e w1 ⟨rfl,hb⟩;have dX:=hide (mi.o.trans (hb.mono mi.o.size));have jx:=ae (ZW w1 g) (oF.o.below hb oF.o.lt);clear hb;have r9:=jx.o;have N_:=r9.cell 0;have Oa:=r9.cell 1;have Ob:=r9.cell 2;have Oc:=r9.cell 3;have Od:=r9.cell 4;have Oe:=r9.frozen 0;have Og:=r9.frozen 1;have Oh:=r9.frozen 2;have Oi:=r9.frozen 3;have Oj:=r9.frozen 4;clear r9;go_wp2;refine bodyPost_ret (v:=.agg #[.int .i64 kd,.string (ag tx),.int .i64 0,.int .i64 (sz:Int),.int .i64 er]) (ai rfl _ _ g 85 _ _ _ rfl (jx.o.put _ _ _ _ _) Tryz.underlying85 rfl (by kernel_rfl)) rfl ?_;rw [HV.o];exact ⟨rfl,eo dX.o (Nat.le_of_eq AJ.o) _ _ _ _ _⟩
 have e34:((c.toNat:Int)==34)=false:=aL (d:=34) WI
 obtain ⟨R,hR⟩:∃R,dS eD l=R:=⟨_,rfl⟩
 have nE:=hide (show aR l=wM R by rw [nJ.o,hd,if_neg (by decide),if_neg WI,hR]);have HR:=hide hR;clear nJ hd WI QU NU hR;go_wp2_with fail;refine (FI.o _).mono ?_;rintro e wz ⟨rfl,rfl⟩;go_wp2_with fail;refine (DG.o _).mono ?_;rintro e wz ⟨rfl,rfl⟩;go_upto_region 10 with fail;have HG5:=HG0
 obtain ⟨W6,mj⟩:∃W6,wz.alloc (.cells (eD.map fun u=>Value.string (ag u)).toArray 9)=W6:=⟨_,rfl⟩
 change Code.wp _ _ _ _ (wz.alloc (.cells (eD.map fun u=>Value.string (ag u)).toArray 9));have sH:=hide (show Below w.heap.size w W6 by rw [←mj];exact mi.o.alloc mi.o.size _);have Gt:=hide (show ZW W6 g by rw [←mj];exact oF.o.alloc _);have HU:=hide (show Row W6 wz.heap.size 9 (eD.map fun u=>Value.string (ag u)).toArray by rw [←mj];exact Row.new _ _ _);rw [mj]
 obtain ⟨gu,Yl⟩:∃gu,wz.heap.size=gu:=⟨_,rfl⟩
 rw [Yl] at HU;rw [Yl];clear mj Yl
 go_loop [31] (fun v=>∃i:Nat,v=.int .i64 (i:Int)∧i≤26∧dS (eD.drop i) l=R) (fun v=>26-(intOf v).toNat)
 case atStart=>exact ⟨0,rfl,by omega,HR.o⟩
 case round=>
  obtain ⟨i,rfl,hi,hf⟩:=hrel;by_cases hlt:i<26
  ·have hi':(i:Int)<26:=by omega
   have hi0:(0:Int)≤(i:Int):=by omega
   have WC:i<eD.length:=hlt
   obtain ⟨u,hu⟩:∃u,eD[i]'WC=u:=⟨_,rfl⟩
   have hcell:W6.cell? ⟨gu,i,none⟩=some (.string (ag u)):=by
    have:=HU.o.cell i;rw [List.getElem?_toArray,List.getElem?_map,List.getElem?_eq_getElem WC,hu] at this;exact this
   have WE:eD.drop i=u::eD.drop (i+1):=by rw [←hu];exact cn WC
   have WG:=aO u;have P:=hide (HP.o u);have FD:=hide (fun W:World=>iT 6 (u.length:Int) u W);rw [←WG] at FD;rw [WE] at hf
   cases hp:Lib.hasPrefix l u with
   |true=>
    rw [hp] at P
    have J1:some u=R:=by rw [←hf];simp only [dS];rw [if_pos hp]
    have HV:=hide (show aR l=⟨6,u,(ag u).size,0⟩ by rw [nE.o,←J1,WG];rfl)
    obtain ⟨us,Ux⟩:∃us,ag u=us:=⟨_,rfl⟩
    rw [Ux] at P FD HV hcell;have Huu:=hide Ux;clear hf hp WE hu WG J1 Ux;go_wp2_with fail;refine (P.o _).mono ?_;rintro e wz ⟨rfl,rfl⟩;go_wp2_with fail;refine (FD.o _).mono ?_;rintro e w7 ⟨rfl,hb⟩;have Ct:=hide (sH.o.trans (hb.mono sH.o.size));have Kf:=ae (ZW w7 g) (Gt.o.below hb Gt.o.lt);clear hb;have r9:=Kf.o;have N_:=r9.cell 0;have Oa:=r9.cell 1;have Ob:=r9.cell 2;have Oc:=r9.cell 3;have Od:=r9.cell 4;have Oe:=r9.frozen 0;have Og:=r9.frozen 1;have Oh:=r9.frozen 2;have Oi:=r9.frozen 3;have Oj:=r9.frozen 4;clear r9;go_wp2;refine bodyPost_ret (v:=.agg #[.int .i64 6,.string us,.int .i64 0,.int .i64 (us.size:Int),.int .i64 0]) (ai rfl _ _ g 85 _ _ _ rfl (Kf.o.put _ _ _ _ _) Tryz.underlying85 rfl (by kernel_rfl)) rfl ?_;rw [HV.o];exact ⟨by rw [←Huu.o];rfl,eo Ct.o (Nat.le_of_eq AJ.o) _ _ _ _ _⟩
   |false=>
    rw [hp] at P;have Hf:=hide (show dS (eD.drop (i+1)) l=R by rw [←hf];conv=>rhs;unfold dS;rw [if_neg (by rw [hp];decide)]);generalize ag u=us at*;clear hf hp WE hu WG;go_wp2_with fail;refine (P.o _).mono ?_;rintro e wz ⟨rfl,rfl⟩;go_wp2;go_round
    case rel=>exact ⟨i+1,by go_num,by omega,Hf.o⟩
    case measure=>simp [intOf];omega
  ·have hi':¬(i:Int)<26:=by omega
   obtain rfl:i=26:=by omega
   have HV:=hide (show aR l=dI 3 by rw [nE.o,←hf];rfl);clear hf;go_wp2_with fail;refine (eF 3 _).mono ?_;rintro e w7 ⟨rfl,hb⟩;have Ct:=hide (sH.o.trans (hb.mono sH.o.size));have Kf:=ae (ZW w7 g) (Gt.o.below hb Gt.o.lt);clear hb;have r9:=Kf.o;have N_:=r9.cell 0;have Oa:=r9.cell 1;have Ob:=r9.cell 2;have Oc:=r9.cell 3;have Od:=r9.cell 4;have Oe:=r9.frozen 0;have Og:=r9.frozen 1;have Oh:=r9.frozen 2;have Oi:=r9.frozen 3;have Oj:=r9.frozen 4;clear r9;go_wp2;refine bodyPost_ret (v:=.agg #[.int .i64 0,.string ⟨#[]⟩,.int .i64 0,.int .i64 0,.int .i64 3]) (ai rfl _ _ g 85 _ _ _ rfl (Kf.o.put _ _ _ _ _) Tryz.underlying85 rfl (by kernel_rfl)) rfl ?_;rw [HV.o];exact ⟨rfl,eo Ct.o (Nat.le_of_eq AJ.o) _ _ _ _ _⟩
theorem AZ:∀(n:Nat) (l:List UInt8) (p:List UInt8×Nat),oQ n l=some p→1≤p.2∧p.2≤l.length
 |0,_,_,h=>by cases h
 |n+1,l,p,h=>by
  unfold oQ at h
  cases hs:gM l with
  |none=>rw [hs] at h;cases h
  |some q=>
   obtain ⟨h1,h2⟩:=oY hs;rw [hs] at h;simp only [Option.bind_some] at h
   split at h
   ·rename_i hh
    have hlt:q.2<l.length:=by
     rcases Nat.lt_or_ge q.2 l.length with h|h
     ·exact h
     ·rw [dc h] at hh;cases hh
    cases hr:oQ n (l.drop (q.2+1)) with
    |none=>rw [hr] at h;cases h
    |some r=>
     rw [hr] at h;cases h;have:=AZ n _ r hr;rw [aA] at this;exact ⟨by show 1≤q.2+1+r.2;omega,by show q.2+1+r.2≤l.length;omega⟩
   ·cases h;exact ⟨h1,h2⟩
theorem aH {e:Int} (h:(dI e).err=0):e=0:=h
theorem Ia {l:List UInt8} (h:(iY l).err=0):1≤(iY l).size∧(iY l).size≤l.length:=by
 unfold iY at h⊢
 cases hp:oQ (l.length+1) l with
 |none=>rw [hp] at h;exact absurd (aH h) (by decide)
 |some p=>exact AZ _ _ _ hp
theorem L9 {l:List UInt8} {c:UInt8} {r:List UInt8} (hl:l=c::r) (hd:bg c=true) (h:(fg l).err=0):1≤(fg l).size∧(fg l).size≤l.length:=by
 unfold fg tF at h⊢
 have AA:1≤bf bg l:=by rw [hl,ft hd];omega
 have hnl:=fA bg l;have hC:=AX l (bf bg l);have h1:=Kc hnl;have h2:=Ke h1.2;have h3:=pj (l.drop (bf bg l));rw [aA] at h3;generalize bf bg l=n at*;generalize bY l n=C at*;generalize ic l (jS l n)=e2 at*;generalize iD (l.drop n)=k at*;generalize jS l n=e1 at*;by_cases c1:0<C
 ·rw [if_pos c1] at h⊢;by_cases c2:bB l C=true
  ·rw [if_pos c2];exact ⟨c1,hC⟩
  ·rw [if_neg c2] at h;exact absurd (aH h) (by decide)
 ·rw [if_neg c1] at h⊢;by_cases c3:n<e2
  ·rw [if_pos c3] at h⊢;by_cases c2:bB l e2=true
   ·rw [if_pos c2];exact ⟨by show 1≤e2;omega,h2.2⟩
   ·rw [if_neg c2] at h;exact absurd (aH h) (by decide)
  ·rw [if_neg c3] at h⊢;by_cases c4:bB l (n+k)=false
   ·rw [if_pos c4] at h;exact absurd (aH h) (by decide)
   ·rw [if_neg c4] at h⊢;by_cases c5:15<(bO (l.take n)).length
    ·rw [if_pos c5] at h;exact absurd (aH h) (by decide)
    ·rw [if_neg c5];exact ⟨by show 1≤n+k;omega,by show n+k≤l.length;omega⟩
theorem Cu {l:List UInt8} (h:(fF l).err=0):1≤(fF l).size∧(fF l).size≤l.length:=by
 rw [gX] at h⊢;unfold iO at h⊢;generalize 1+bV (l.drop 1)=E at*;by_cases c1:l.length≤E
 ·rw [if_pos c1] at h;exact absurd (aH h) (by decide)
 ·rw [if_neg c1];exact ⟨by show 1≤E+1;omega,by show E+1≤l.length;omega⟩
theorem pk:∀{us:List (List UInt8)} {t u:List UInt8},dS us t=some u→u∈us∧Lib.hasPrefix t u=true
 |[],_,_,h=>by cases h
 |v::us,t,u,h=>by
  unfold dS at h
  split at h
  ·rename_i hp;cases h;exact ⟨bX,hp⟩
  ·have:=pk h;exact ⟨cL _ this.1,this.2⟩
theorem L_ {l:List UInt8} (h:(wM (dS eD l)).err=0):1≤(wM (dS eD l)).size∧(wM (dS eD l)).size≤l.length:=by
 cases hs:dS eD l with
 |none=>rw [hs] at h;exact absurd (aH h) (by decide)
 |some u=>
  obtain ⟨h1,h2⟩:=pk hs;refine ⟨(show ∀v∈eD,1≤v.length by decide) u h1,?_⟩;exact (List.isPrefixOf_iff_prefix.1 h2).length_le
theorem dU (c:UInt8) (r:List UInt8):aR (c::r)=if oC c=true∨c=92 then iY (c::r) else if bg c then fg (c::r) else if c=34 then fF (c::r) else wM (dS eD (c::r)):=rfl
theorem nK {l:List UInt8} (hl:0<l.length) (h:(aR l).err=0):1≤(aR l).size∧(aR l).size≤l.length:=by
 cases l with
 |nil=>cases hl
 |cons c r=>
  rw [dU] at h⊢;by_cases c1:oC c=true∨c=92
  ·rw [if_pos c1] at h⊢;exact Ia h
  ·rw [if_neg c1] at h⊢;by_cases c2:bg c=true
   ·rw [if_pos c2] at h⊢;exact L9 rfl c2 h
   ·rw [if_neg c2] at h⊢;by_cases c3:c=34
    ·rw [if_pos c3] at h⊢;exact Cu h
    ·rw [if_neg c3] at h⊢;exact L_ h
def iE (l:List UInt8) (az:Nat):Nat:=az+cV (l.drop az)
def ku (l:List UInt8):Nat→Nat→List (Nat×Wq)
 |0,_=>[]
 |k+1,a=>if a<l.length then (a,aR (l.drop a))::(if (aR (l.drop a)).err=0 then ku l k (iE l (a+(aR (l.drop a)).size)) else []) else []
theorem xZ:∀(k:Nat) (l:List UInt8),mC k l≤l.length
 |0,_=>bj _
 |_+1,[]=>bj _
 |k+1,c::t=>by
  simp only [mC];rw [aj]
  split
  ·have:=xZ k t;omega
  ·split
   ·have h1:=xZ k (t.drop (bf (· !=10) t));have h2:=fA (· !=10) t;rw [aA] at h1;omega
   ·omega
theorem x9 {l:List UInt8} {a:Nat} (h:a≤l.length):iE l a≤l.length:=by
 unfold iE cV;have:=xZ (l.drop a).length (l.drop a);rw [aA] at this;rw [aA];omega
theorem x_ (l:List UInt8) (a:Nat):a≤iE l a:=Nat.le_add_right _ _
theorem po (l:List UInt8):∀(n m a:Nat),l.length≤a+n→l.length≤a+m→ku l n a=ku l m a
 |0,0,_,_,_=>rfl
 |0,m+1,a,h,_=>by unfold ku;rw [if_neg (by omega)]
 |n+1,0,a,_,h=>by unfold ku;rw [if_neg (by omega)]
 |n+1,m+1,a,hn,hm=>by
  unfold ku;by_cases c1:a<l.length
  ·rw [if_pos c1,if_pos c1];by_cases c2:(aR (l.drop a)).err=0
   ·rw [if_pos c2,if_pos c2];have h1:=(nK (by rw [aA];omega) c2).1;have h2:=x_ l (a+(aR (l.drop a)).size);rw [po l n m _ (by omega) (by omega)]
   ·rw [if_neg c2,if_neg c2]
  ·rw [if_neg c1,if_neg c1]
def fN (l:List UInt8) (a:Nat):List (Nat×Wq):=ku l l.length a
theorem qL {l:List UInt8} {a:Nat} (h:l.length≤a):fN l a=[]:=by
 unfold fN;rw [po l l.length 0 a (by omega) (by omega)];rfl
theorem ll {l:List UInt8} {a:Nat} (h:a<l.length):fN l a=(a,aR (l.drop a))::(if (aR (l.drop a)).err=0 then fN l (iE l (a+(aR (l.drop a)).size)) else []):=by
 unfold fN;rw [po l l.length (l.length+1) a (by omega) (by omega)]
 conv=>lhs;unfold ku
 rw [if_pos h]
def jd (l:List UInt8):List (Nat×Wq):=fN l (iE l 0)
structure Lx where
 kind:Int
 text:List UInt8
 az:Nat
def jz:List (Nat×Wq)→List Lx→List Lx×Nat×Int
 |[],out=>(out,0,0)
 |(a,x)::r,out=>if x.err=0 then (if out.length=512 then ([],a,9) else jz r (out++[⟨x.kind,x.text,a⟩])) else ([],a,x.err)
def df (l:List UInt8):List Lx×Nat×Int:=if 16384<l.length then ([],0,9) else jz (jd l) []
section
attribute [local go_sem] Oper.semAt_some
theorem Gl.kept {C:Nat→Prop} {W W':World} (h:Gl W) (hk:ah C W W') (h1:¬C 3) (h2:¬C 2):Gl W':=
 h.keep fun b hb he=>hk.block b hb (by rcases he with rfl|rfl;exact h1;exact h2)
def Yn (bt b:Nat):Prop:=b=bt∨b=3∨b=2
theorem drop_cons {α:Type} {xs:List α} {k:Nat} {x:α} {r:List α} (h:xs.drop k=x::r):xs[k]? =some x∧xs.drop (k+1)=r∧k<xs.length:=by
 have h1:(xs.drop k)[0]? =some x:=by rw [h];rfl
 rw [List.getElem?_drop,Nat.add_zero] at h1;refine ⟨h1,?_,(List.getElem?_eq_some_iff.1 h1).1⟩
 have h2:(xs.drop k).drop 1=r:=by rw [h];rfl
 rw [dB] at h2;exact h2
theorem A0 {α:Type} {xs:List α} {k:Nat} (h:xs.drop k=[]) (hk:k≤xs.length):k=xs.length:=by
 rw [List.drop_eq_nil_iff] at h;omega
theorem Ib (l:List UInt8) (hl:l.length≤20000) (bt:Nat) (w:World) (hb:Row w bt 9 #[.string (ag l)]) (hG:Gl w):
 Iter Tryz.prog 74 #[.pointer (some ⟨bt,0,none⟩)] (fun x:Nat×Wq=>#[.int .i64 (x.1:Int),sQ x.2]) (jd l) (Yn bt) w:=by
 intro lp J Jx C0 W hR hRC hC hRl hJ Yo hY h0;have hbW:Row W bt 9 #[.string (ag l)]:=(hR.block bt (.inl rfl)).trans hb;have hGW:Gl W:=hG.keep fun b _ he=>hR.block b (.inr he);have hbt:bt<W.heap.size:=hbW.lt;have hcell:W.cell? ⟨bt,0,none⟩=some (.string (ag l)):=hbW.cell 0;have WJ:¬C0 bt:=hRC bt (.inl rfl);have AA:¬C0 3:=hRC _ (.inr (.inl rfl));have Es:¬C0 2:=hRC _ (.inr (.inr rfl));have HY:=hide hY;have HGW:=hide hGW;have HN:=hide (And.intro WJ (And.intro AA Es));have hz:=aO l;have hx:∀i,(ag l).extract i (ag l).size=ag (l.drop i):=sM l;have SK:=hide (fun (a:Nat) (W:World) (h:a≤100000)=>show Calls Tryz.prog 75 #[.string (ag l),.int .i64 (a:Int)] W fun e w'=>e=.returned (.int .i64 ((iE l a:Nat):Int))∧Below W.heap.size W w' from Az l a W (by omega) h);have SK0:=hide (fun (W:World)=>show Calls Tryz.prog 75 #[.string (ag l),.int .i64 0] W fun e w'=>e=.returned (.int .i64 ((iE l 0:Nat):Int))∧Below W.heap.size W w' from Az l 0 W (by omega) (by omega));have RD:=hide (fun (a:Nat) (W:World) (h:a<l.length) (hg:Gl W)=>L8 (l.drop a) W (by rw [aA];omega) (by rw [aA];omega) hg);have Hx:=hide hx;have HbW:=hide hbW;have HC:=hide hC;have HJ:=hide hJ;have H0:=hide h0
 obtain ⟨a0,ha0⟩:∃a0,iE l 0=a0:=⟨_,rfl⟩
 have hWq:jd l=fN l a0:=by rw [←ha0];rfl
 have HWq:=hide hWq;have Ha:=hide (show a0≤l.length by rw [←ha0];exact x9 (bj _));rw [ha0] at SK0;clear hY hG hb hR hRC hRl hx hGW WJ AA Es hbW hC hJ Yo h0 ha0 hWq;generalize ag l=s at*;have Hz:=hide hz;clear hz;refine callsIn_of_wp Tryz.func74 rfl trivial ?_;simp only [Tryz.ntmps74,List.size_toArray,aj,aK,Nat.reduceAdd,Nat.reduceSub,Array.replicate_succ,Array.replicate_zero,List.push_toArray,List.append_toArray,List.nil_append,List.cons_append]
 gi_wp2_with fail
 refine (callsIn_wide.2 (SK0.o _)).mono ?_;rintro e w1 ⟨rfl,hb1⟩;have PC:=ae (ah C0 W w1) (ah.of_below hb1 (aa _));have HJ1:=ae (J 0 C0 w1) (HJ.o _ _ _ _ H0.o (Same.of_below hb1 (fun b hb=>hb.elim id (HC.o b))));have HG1:=ae (iB C0 W C0 w1) (HC.o.ab3.later hb1.size);have Ha0:=ae (a0≤l.length) Ha.o;clear hb1 hcell
 gi_wp2_with fail
 gi_loopw [3] (fun v wr=>∃(a k:Nat) (C:Nat→Prop),v=.int .i64 (a:Int)∧a≤l.length∧k≤(jd l).length∧(jd l).drop k=fN l a∧J k C wr∧¬C bt∧ah C0 W wr∧iB C0 W C wr) (fun v _=>l.length-(intOf v).toNat)
 case atStart=>exact ⟨a0,0,C0,rfl,Ha0.o,bj _,HWq.o,HJ1.o,HN.o.1,PC.o,HG1.o⟩
 case round=>
  obtain ⟨a,k,C,rfl,ha,hk,hdr,hj,hCb,dL,hgr⟩:=hrel;have Uy:Row wr bt 9 #[.string s]:=HbW.o.keep dL HN.o.1;have hcb:wr.cell? ⟨bt,0,none⟩=some (.string s):=Uy.cell 0;have hgl:Gl wr:=HGW.o.kept dL HN.o.2.1 HN.o.2.2;by_cases hlt:a<l.length
  ·have hi':(a:Int)<(s.size:Int):=by have:=Hz.o;omega
   have hi0:(0:Int)≤(a:Int):=by omega
   have hi2:(a:Int)≤(s.size:Int):=by omega
   have x1:=Hx.o a;have RDa:=hide (RD.o a wr hlt hgl);rw [ll hlt] at hdr;have hsz:=fun h=>nK (l:=l.drop a) (by rw [aA];omega) h;rw [aA] at hsz
   obtain ⟨X,hX⟩:∃X,aR (l.drop a)=X:=⟨_,rfl⟩
   rw [hX] at hdr hsz RDa;obtain ⟨d1,d2,d3⟩:=drop_cons hdr;have D1:=hide d1;have D2:=hide d2;have D3:=hide d3;have Hbx:=hide Uy;have Hsz:=hide hsz;have Hj:=hide hj;have J_:=hide dL;have Yp:=hide hgr;obtain ⟨kd,tx,sz,er⟩:=X;have RDa:=ae (Calls Tryz.prog 76 #[.string (ag (l.drop a))] wr fun e w'=>e=.returned (.agg #[.int .i64 kd,.string (ag tx),.int .i64 0,.int .i64 (sz:Int),.int .i64 er])∧Below wr.heap.size wr w') RDa.o;generalize ag (l.drop a)=sp at*;clear hX hdr d1 d2 d3 Uy hsz hj dL hgr hgl
   gi_wp2_with fail
   refine (callsIn_wide.2 RDa.o).mono ?_;rintro e w2 ⟨rfl,hb2⟩
   gi_wp2_with fail
   obtain ⟨A,hA⟩:∃A,w2.heap.size=A:=⟨_,rfl⟩
   rw [hA]
   obtain ⟨W5,tG⟩:∃W5,w2.alloc (.cells #[.int .i64 kd,.string (ag tx),.int .i64 0,.int .i64 (sz:Int),.int .i64 er] 85)=W5:=⟨_,rfl⟩
   rw [tG]
   have wZ:W5.heap.size=A+1:=by rw [←tG,aF,hA]
   have hzr:wr.heap.size≤A:=by rw [←hA];exact hb2.size
   have eG:Below wr.heap.size wr W5:=by rw [←tG];exact hb2.alloc hb2.size _
   have hrow:Row W5 A 85 #[.int .i64 kd,.string (ag tx),.int .i64 0,.int .i64 (sz:Int),.int .i64 er]:=by rw [←tG,←hA];exact Row.new _ _ _
   have aaL:ah C0 W W5:=J_.o.rf (ah.of_below eG (aa _)) Yp.o;have Yq:iB C0 W C W5:=Yp.o.later eG.size;have hj5:J k C W5:=HJ.o _ _ _ _ Hj.o (Same.of_below eG (fun b hb=>hb.elim (fun h=>cJ h J_.o.size) (fun h=>(Yp.o b h).2)))
   have hCA:¬C A:=fun e=>by have:=(Yp.o A e).2;omega
   have aaM:Row W5 bt 9 #[.string s]:=Hbx.o.below eG Hbx.o.lt;have adJ:bt<A:=cJ Hbx.o.lt hzr;obtain ⟨fn,tmps,assign,body,hy,hR⟩:=HY.o k _ C W5 D1.o hj5 (fun b hb=>(Yq b hb).2);simp only [sQ] at hy;rw [hy];have HR:=hide hR;have aaN:=hide aaL;have aaO:=hide Yq;have qF:=hide hrow;have acC:=hide aaM;have Hz5:=hide wZ;clear hR aaL Yq hrow aaM wZ eG hj5 tG hb2 hA
   gi_wp2_with fail
   refine HR.o.mono ?_;rintro e W6 ⟨C',ki,hg6,Yr⟩;have HK:=hide (aaN.o.rf ki aaO.o);have HG:=hide (aaO.o.trans hg6 aaN.o.size);have HCb:=hide (show¬C' bt from fun e=>(hg6 _ e).1.elim hCb (fun h=>by have:=Hz5.o;omega));have PD:=qF.o.keep ki hCA;have aaP:=acC.o.keep ki hCb;have hc3:W6.cell? ⟨A,3,none⟩=some (.int .i64 (sz:Int)):=PD.cell 3;have hc4:W6.cell? ⟨A,4,none⟩=some (.int .i64 er):=PD.cell 4;have adK:W6.cell? ⟨bt,0,none⟩=some (.string s):=aaP.cell 0;clear ki hg6 PD aaP hy
   rcases Yr with ⟨rfl,Yr⟩|⟨rfl,Yr⟩
   ·have Hj6:=hide Yr;clear Yr;by_cases her:er=0
    ·subst her;obtain ⟨s1,s2⟩:=Hsz.o rfl;have hsz1:1≤sz:=s1;have XS:sz≤l.length-a:=s2;have SKa:=hide (fun W:World=>SK.o (a+sz) W (by omega));have Uz:=D2.o;rw [if_pos rfl] at Uz;have HD2:=hide Uz
     have hw:((a+sz:Nat):Int)=(a:Int)+(sz:Int):=by omega
     rw [hw] at SKa;have hle:=x9 (l:=l) (a:=a+sz) (by omega);have hge:=x_ l (a+sz)
     obtain ⟨a2,ha2⟩:∃a2,iE l (a+sz)=a2:=⟨_,rfl⟩
     rw [ha2] at SKa hle hge;have HD3:=hide (show (jd l).drop (k+1)=fN l a2 by rw [←ha2];exact HD2.o);clear ha2 hw Uz
     gi_wp2_with fail
     refine (callsIn_wide.2 (SKa.o _)).mono ?_;rintro e w7 ⟨rfl,sI⟩;have HK7:=hide (HK.o.rf (ah.of_below sI (aa _)) HG.o);have HG7:=hide (HG.o.later sI.size);have HJ7:=hide (HJ.o _ _ _ _ Hj6.o (Same.of_below sI (fun b hb=>hb.elim (fun h=>cJ h HK.o.size) (fun h=>(HG.o b h).2))));clear sI
     gi_wp2
     go_roundw
     case rel=>exact ⟨a2,k+1,C',rfl,hle,by have:=D3.o;omega,HD3.o,HJ7.o,HCb.o,HK7.o,HG7.o⟩
     case measure=>simp [intOf];omega
    ·have e1:(er==0)=false:=aP.2 her
     have e2:(er !=0)=true:=by rw [bne,e1];rfl
     have Uz:=D2.o;rw [if_neg her] at Uz;have hkl:=A0 Uz (by have:=D3.o;omega);have HJE:=hide (show J (jd l).length C' W6 by rw [←hkl];exact Hj6.o);clear Uz hkl her
     gi_wp2
     refine bodyPost_ret (results_none rfl _ _ _) rfl ?_;exact ⟨⟨_,rfl⟩,C',HK.o,HG.o,.inl HJE.o⟩
   ·have Hj6:=hide Yr;clear Yr
    gi_wp2
    refine bodyPost_ret (results_none rfl _ _ _) rfl ?_;exact ⟨⟨_,rfl⟩,C',HK.o,HG.o,.inr ⟨k+1,by have:=D3.o;omega,Hj6.o⟩⟩
  ·have hi':¬(a:Int)<(s.size:Int):=by have:=Hz.o;omega
   rw [qL (by omega)] at hdr;have hkl:=A0 hdr hk;have HJE:=hide (show J (jd l).length C wr by rw [←hkl];exact hj);have J_:=hide dL;have Yp:=hide hgr;clear hdr hj dL hgr Uy hgl hkl hk
   gi_wp2
   go_end0;exact ⟨⟨_,rfl⟩,J_.o,C,Yp.o,.inl HJE.o⟩
end
end Go.Proofs.YtddoehnkgcbboaaGreatDoor
