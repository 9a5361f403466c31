/- A part of the proof that the last file tells. -/
import Derived.Test.YtddoehnkgcbboaaGreatDoorAgD
set_option maxHeartbeats 16000000
set_option maxRecDepth 100000
set_option linter.unusedVariables false
set_option linter.unusedSimpArgs false
namespace Go.Proofs.YtddoehnkgcbboaaGreatDoor
open Go.RowKit Go.Shelf
theorem uG {p:UInt8→Bool}:∀{l:List UInt8},l.dropWhile p=[]↔∀x∈l,p x=true
 |[]=>⟨fun _ x hx=>(by cases hx),fun _=>rfl⟩
 |c::t=>by
  rw [List.dropWhile_cons]
  split
  ·rename_i h;rw [uG (l:=t)];refine ⟨fun h2 x hx=>?_,fun h2 x hx=>h2 x (cL _ hx)⟩
   rcases List.mem_cons.1 hx with rfl|h3
   ·exact h
   ·exact h2 x h3
  ·rename_i h;exact ⟨fun h2=>(by cases h2),fun h2=>absurd (h2 c bX) h⟩
theorem LP (l:List UInt8):Lib.trimB l 48=[]↔l.all (·==48)=true:=by
 unfold Lib.trimB Lib.trimLeftB Lib.trimRightB;rw [uG,qY];constructor
 ·intro h
  cases hm:l.reverse.dropWhile (·==48) with
  |nil=>
   rw [uG] at hm;intro x hx;exact hm x (List.mem_reverse.2 hx)
  |cons a t=>
   have h1:=List.head_dropWhile_not (p:=(·==(48:UInt8))) (l:=l.reverse) (by rw [hm];simp);have h2:=h a (by rw [hm];simp);simp only [hm,List.head_cons] at h1;rw [h2] at h1;cases h1
 ·intro h x hx;have h1:=List.mem_reverse.1 hx;have h2:x∈l.reverse:=(List.dropWhile_sublist (p:=(·==(48:UInt8)))).mem h1;exact h x (List.mem_reverse.1 h2)
theorem Pc {p:List UInt8×Int} {t:List UInt8} {k:Int} (h:p=(t,k)):Ending.returned (.tuple #[.string (ag t),.int .i64 k])=.returned (.tuple #[.string (ag p.1),.int .i64 p.2]):=by rw [h]
theorem Hi (l:List UInt8) (w:World) (hl:l.length≤50000):
 Calls Tryz.prog 158 #[.string (ag l)] w fun e w'=>e=.returned (.tuple #[.string (ag (fD l).1),.int .i64 (fD l).2])∧Below w.heap.size w w':=by
 have hz:=aO l
 obtain ⟨n,hn⟩:∃n,bf bg l=n:=⟨_,rfl⟩
 have hnl:n≤l.length:=by rw [←hn];exact fA _ _
 have RD:=hide (fun W:World=>show Calls Tryz.prog 117 #[.string (ag l),.int .i64 0,.func (.func 121) #[] #[]] W fun e w'=>e=.returned (.int .i64 (n:Int))∧Below W.heap.size W w' by
  have:=oW l 0 W (by omega) (by omega);rw [List.drop_zero,hn,Nat.zero_add] at this
  exact this)
 by_cases h0:n=0
 ·subst h0;have HV:=hide (xR hn);generalize ag l=s at*;clear hn hz;have RD:=hide (fun W:World=>show Calls Tryz.prog 117 #[.string s,.int .i64 0,.func (.func 121) #[] #[]] W fun e w'=>e=.returned (.int .i64 0)∧Below W.heap.size W w' from RD.o W);go_enter Tryz.func158,Tryz.ntmps158;go_wp2_with fail;refine (RD.o _).mono ?_;rintro e w1 ⟨rfl,hb⟩;go_wp2
  go_ret2
  exact ⟨Pc HV.o,hb⟩
 have CQ:=hide (fun W:World=>xG l n W (by omega) (by omega));have n0:((n:Int)==0)=false:=aP.2 (by omega)
 obtain ⟨k,hk⟩:∃k,bY l n=k:=⟨_,rfl⟩
 rw [hk] at CQ;by_cases h1:k=l.length;rotate_left
 ·have HV:=hide (xS (l:=l) (by rw [hn,hk];exact h1));have e1:((k:Int)==((ag l).size:Int))=false:=aP.2 (by omega)
  have e2:((k:Int) !=((ag l).size:Int))=true:=by rw [bne,e1];rfl
  generalize ag l=s at*;clear hn hz hk h0 h1;go_enter Tryz.func158,Tryz.ntmps158;go_wp2_with fail;refine (RD.o _).mono ?_;rintro e w1 ⟨rfl,hb⟩;have Hb:=hide hb;clear hb;go_wp2_with fail;refine (CQ.o _).mono ?_;rintro e w2 ⟨rfl,hb⟩;have lK:=hide (Hb.o.trans (hb.mono Hb.o.size));clear hb;go_wp2
  go_ret2
  exact ⟨Pc HV.o,lK.o⟩
 subst h1;obtain ⟨f1,f2,f3⟩:=Eb hk (by omega);have zZ:=tv (l:=l) (by rw [hn];exact h0) (by rw [hn,hk]);rw [hn] at zZ
 obtain ⟨c,hc⟩:∃c,l.getD (n+1) 0=c:=⟨_,rfl⟩
 have Lq:n+1<(ag l).size:=by omega
 have hsc:(ag l)[n+1]'Lq=c:=by
  rw [fu,←hc,List.getD_eq_getElem?_getD,List.getElem?_eq_getElem (by omega)];rfl
 rw [hc] at f2 f3 zZ;have N7:=rh c
 obtain ⟨ds,hds⟩:∃ds,l.drop (n+2)=ds:=⟨_,rfl⟩
 have LQ:ds.length+n+2=l.length:=by rw [←hds,aA];omega
 obtain ⟨dw,hdw⟩:∃dw,l.take n=dw:=⟨_,rfl⟩
 have adu:dw.length=n:=by rw [←hdw,cr];omega
 have x1:(ag l).extract (n+2) (ag l).size=ag ds:=by rw [sM,hds]
 have x2:(ag l).extract 0 n=ag dw:=by rw [sN,hdw]
 have Dt:∀c∈dw,bg c=true:=by
  rw [←hdw,←hn]
  exact fun c hc=>by
   have h1:l.take (bf bg l)=l.takeWhile bg:=(List.prefix_iff_eq_take.1 (List.takeWhile_prefix bg)).symm;rw [h1] at hc;exact qY.1 List.all_takeWhile c hc
 rw [hds] at f3 zZ;rw [hdw] at zZ;generalize bp c=b at*
 obtain ⟨c0,dt,J5⟩:∃c0 dt,ds=c0::dt:=by
  cases ds with
  |nil=>rw [aK] at LQ;omega
  |cons a t=>exact ⟨a,t,rfl⟩
 have hd0:ds.headD 0=c0:=by rw [J5];rfl
 obtain ⟨u,hu⟩:∃u,fE c0=u:=⟨_,rfl⟩
 have U:=hide (sO c0);rw [hu] at U
 have RD2:=hide (fun W:World=>show Calls Tryz.prog 117 #[.string (ag ds),.int .i64 0,.func (.func 121) #[] #[]] W fun e w'=>e=.returned (.int .i64 ((bf bg ds:Nat):Int))∧Below W.heap.size W w' by
  have:=oW ds 0 W (by omega) (by omega);rw [List.drop_zero,Nat.zero_add] at this
  exact this)
 have XS:=aO ds
 have adv:0<ds.length:=by rw [J5];exact Nat.succ_pos _
 have ab':0<(ag ds).size:=by omega
 have hg0:(ag ds)[0]'ab'=c0:=by rw [fu];simp [J5]
 obtain ⟨al,hal⟩:∃al,decide (ds.length=1∧u≠0)=al:=⟨_,rfl⟩
 obtain ⟨sd,SY⟩:∃sd,bf bg ds=sd:=⟨_,rfl⟩
 have adw:sd≤ds.length:=by rw [←SY];exact fA _ _
 rw [SY] at RD2;have Ed:=hide x1;have HX2:=hide x2;have HBO:=hide (fun W:World=>uD W dw);have HW:Hid (gJ dw≤1000):=hide (LO dw);have HV:=hide zZ;have HF3:=hide f3;have HDG:=hide Dt;have HDS:=hide (And.intro hd0 hu);have Hal:=hide hal;have Hsd:=hide SY;have Hk:=hide hk;clear x1 x2 f3 zZ Dt hd0 hu hal SY hk hn h0 hc hds hdw J5;have DB:=hide (fun (W:World) (h:∀c∈ds,bg c=true)=>uE ds W (by omega) h);have SP:=hide (fun (W:World) (k:Nat) (hk:k≤4) (h:∀c∈ds,fE c≠0∨0≤dK c)=>Ci ds k W (by omega) hk h);have BA:=hide uz
 have adx:((n:Int)+1).toNat=n+1:=by omega
 have ady:((n:Int)+2).toNat=n+2:=by omega
 have k1:(0:Int)≤(n:Int)+1:=by omega
 have k2:(n:Int)+1<((ag l).size:Int):=by omega
 have k3:(0:Int)≤(n:Int)+2:=by omega
 have k4:(n:Int)+2≤((ag l).size:Int):=by omega
 have k5:(0:Int)≤(n:Int):=by omega
 have k6:(n:Int)≤((ag l).size:Int):=by omega
 have hw1:IntKind.i64.wrap ((n:Int)+1)=(n:Int)+1:=bI _ (by omega);have hw2:IntKind.i64.wrap ((n:Int)+2)=(n:Int)+2:=bI _ (by omega)
 have e1:((l.length:Int)==((ag l).size:Int))=true:=by rw [hz];exact xy _
 have e2:((l.length:Int) !=((ag l).size:Int))=false:=by rw [bne,e1];rfl
 generalize ag l=s at*;generalize ag ds=t at*;have Hz2:=hide XS;clear XS;have x1:=Ed.o;have x2:=HX2.o;have Hz:=hide hz;clear hz;go_enter Tryz.func158,Tryz.ntmps158;go_wp2_with fail;refine (RD.o _).mono ?_;rintro e w1 ⟨rfl,hb⟩;have Hb:=hide hb;clear hb;go_wp2_with fail;refine (CQ.o _).mono ?_;rintro e w2 ⟨rfl,hb⟩;have lK:=hide (Hb.o.trans (hb.mono Hb.o.size));clear hb Hb;go_upto_region 4 with fail;go_quiet (fail);go_upto_region 5 with fail;have B0:=hide (aX lK.o nq);generalize w2.drewN nq=w3 at B0⊢;clear lK RD CQ;go_cut [7] (fun v7 wx=>v7=.bool al∧wx=w3)
 case first=>
  by_cases hd1:ds.length=1
  ·have q1:((t.size:Int)==1)=true:=by rw [Hz2.o,hd1];rfl
   by_cases hu0:u=0
   ·have HA:=hide (show false=al by rw [←Hal.o,hu0];simp);subst hu0;have U:=hide (fun W:World=>show Calls Tryz.prog 190 #[.int .u8 (c0.toNat:Int)] W fun e w'=>e=.returned (.int .u8 0)∧w'=W from U.o W);clear hd1;go_wp2_with fail;refine (U.o _).mono ?_;rintro e w4 ⟨rfl,rfl⟩;go_wp2_with fail;go_meet;exact ⟨congrArg Value.bool HA.o,rfl⟩
   ·have HA:=hide (show true=al by rw [←Hal.o];exact (decide_eq_true ⟨hd1,hu0⟩).symm);have e1:((u.toNat:Int)==0)=false:=aL (d:=0) hu0
    have e2:((u.toNat:Int) !=0)=true:=by rw [bne,e1];rfl
    clear hd1 hu0;go_wp2_with fail;refine (U.o _).mono ?_;rintro e w4 ⟨rfl,rfl⟩;go_wp2_with fail;go_meet;exact ⟨congrArg Value.bool HA.o,rfl⟩
  ·have HA:=hide (show false=al by rw [←Hal.o];exact (decide_eq_false (fun h=>hd1 h.1)).symm);have q1:((t.size:Int)==1)=false:=aP.2 (by have:=Hz2.o;omega);clear hd1;go_wp2_with fail;go_meet;exact ⟨congrArg Value.bool HA.o,rfl⟩
 case rest=>
 obtain ⟨rfl,rfl⟩:=hcut;go_upto_region 6 with fail
 obtain ⟨bad,hbad⟩:∃bad,decide (b=100∧al=false∧sd<ds.length)=bad:=⟨_,rfl⟩
 have Ee:=hide hbad;clear hbad;go_cut [56] (fun v wx=>v=.bool bad∧Below w.heap.size w wx)
 case first=>
  by_cases hb:b=100
  ·subst hb
   cases al with
   |true=>
    have HA:=hide (show false=bad by rw [←Ee.o];simp);go_wp2_with fail;go_meet;exact ⟨congrArg Value.bool HA.o,B0.o⟩
   |false=>
    have HA:=hide (show decide (sd<t.size)=bad by rw [←Ee.o,Hz2.o];simp);go_wp2_with fail;refine (RD2.o _).mono ?_;rintro e w4 ⟨rfl,hb⟩;have lK:=hide (B0.o.trans (hb.mono B0.o.size));clear hb;go_wp2_with fail;go_meet;exact ⟨congrArg Value.bool HA.o,lK.o⟩
  ·have q1:((b.toNat:Int)==100)=false:=aL (d:=100) hb;have HA:=hide (show false=bad by rw [←Ee.o];simp [hb]);clear hb;go_wp2_with fail;go_meet;exact ⟨congrArg Value.bool HA.o,B0.o⟩
 case rest=>
 obtain ⟨rfl,hb⟩:=hcut;have B1:=hide hb;clear hb B0
 cases bad with
 |true=>
  have nE:=hide (show fD l=([],3) by
   have h:=of_decide_eq_true Ee.o;rw [HV.o];unfold qK
   rw [if_pos ⟨h.1,by rw [HDS.o.1,HDS.o.2];have:=Hal.o;rw [h.2.1] at this;exact of_decide_eq_false this,by rw [Hsd.o];exact h.2.2⟩])
  go_wp2
  go_ret2
  exact ⟨Pc nE.o,B1.o⟩
 |false=>
 have nE:=hide (show fD l=if gJ dw<1∨128<gJ dw then ([],8) else if b=100∧al=true then (List.replicate (gJ dw) u,0) else xQ (gJ dw) u (tu b ds) by
  have h:=of_decide_eq_false Ee.o;rw [HV.o];unfold qK;rw [HDS.o.1,HDS.o.2];have ha:=Hal.o
  have h2:(ds.length=1∧u≠0)↔al=true:=by rw [←ha];exact decide_eq_true_iff.symm
  rw [if_neg (fun k=>h ⟨k.1,by rw [h2] at k;exact Bool.eq_false_iff.2 k.2.1,by rw [←Hsd.o];exact k.2.2⟩)]
  simp only [h2])
 obtain ⟨W1,cap,hcv,hb2,htx,hsw⟩:=HBO.o wc;clear HBO;have B2:=hide (B1.o.trans (hb2.mono B1.o.size))
 obtain ⟨g,hg⟩:∃g,wc.heap.size=g:=⟨_,rfl⟩
 rw [hg] at hcv htx;have HT:=ae (gV W1 g dw) htx;have Hg:=hide hg;clear hg htx hb2 B1 hsw;go_wp2_with fail
 go_loopw [8,62] (fun v8 v62 wr=>∃i W:Nat,v62=.int .i64 (i:Int)∧v8=.int .i64 (W:Int)∧i≤dw.length∧W≤1000∧(dw.drop i).foldl tz W=gJ dw∧gV wr g dw∧Below w.heap.size w wr) (fun _ v _=>dw.length-(intOf v).toNat)
 case atStart=>exact ⟨0,0,rfl,rfl,bj _,bj _,rfl,HT.o,B2.o⟩
 case round=>
  obtain ⟨i,W,rfl,rfl,hi,hW,hfo,htx,hb⟩:=hrel;have Hb:=hide hb;have Cg:=hide htx;have Hfo:=hide hfo;clear hfo hb;by_cases hlt:i<dw.length
  ·have hi':(i:Int)<(dw.length:Int):=by omega
   have hi0:(0:Int)≤(i:Int):=by omega
   have hwi:IntKind.i64.wrap ((i:Int)+1)=(i:Int)+1:=bI _ (by omega);have hdr:dw.drop i=dw[i]::dw.drop (i+1):=cn hlt;have Dt:=HDG.o _ (cI hlt)
   obtain ⟨c,hc⟩:∃c,dw[i]=c:=⟨_,rfl⟩
   have hcell:=htx i hlt;rw [hc] at hdr Dt hcell;have hb2:48≤c.toNat∧c.toNat≤57:=of_decide_eq_true Dt
   obtain ⟨d,hd⟩:∃d,c.toNat=d+48:=⟨c.toNat-48,by omega⟩
   have hd9:d≤9:=by omega
   rw [hd] at hcell;have hcell:wr.cell? ⟨g,i,none⟩=some (.int .u8 ((d:Int)+48)):=hcell
   have hw1:IntKind.u8.wrap (d:Int)=(d:Int):=by rw [IntKind.wrap_u8];omega
   have hw2:IntKind.i64.wrap (d:Int)=(d:Int):=bI _ (by omega)
   obtain ⟨W2,hW2⟩:∃W2,tz W c=W2:=⟨_,rfl⟩
   have aca:min (10*W+d) 1000=W2:=by rw [←hW2];unfold tz;rw [hd,Nat.add_sub_cancel]
   have hmn:min (10*(W:Int)+(d:Int)) 1000=(W2:Int):=by omega
   have acb:=hide (show (dw.drop (i+1)).foldl tz W2=gJ dw by rw [←Hfo.o,hdr,List.foldl_cons,hW2])
   have acd:W2≤1000:=by omega
   clear hdr hc Dt hb2 hd htx hW2 aca;go_wp2;go_roundw
   case rel=>exact ⟨i+1,W2,by go_num,rfl,by omega,acd,acb.o,Cg.o,Hb.o⟩
   case measure=>simp [intOf];omega
  ·have hi':¬(i:Int)<(dw.length:Int):=by omega
   have HW3:=hide (show W=gJ dw by rw [←Hfo.o,dc (by omega)];rfl);have hv3:=nE.o;rw [←HW3.o] at hv3;have S':=hide hv3;clear htx hv3;by_cases hw1:W<1
   ·have q1:(W:Int)<1:=by omega
    have Ws:=hide (show fD l=([],8) by rw [S'.o,if_pos (.inl hw1)]);go_wp2
    go_ret2
    exact ⟨(by rw [Ws.o];rfl),Hb.o⟩
   by_cases hw2:128<W
   ·have q1:¬(W:Int)<1:=by omega
    have q2:(128:Int)<(W:Int):=by omega
    have Ws:=hide (show fD l=([],8) by rw [S'.o,if_pos (.inr hw2)]);go_wp2
    go_ret2
    exact ⟨(by rw [Ws.o];rfl),Hb.o⟩
   have q1:¬(W:Int)<1:=by omega
   have q2:¬(128:Int)<(W:Int):=by omega
   have hv4:=S'.o;rw [if_neg (by omega)] at hv4;have Ws:=hide hv4;clear hv4;have Rp:=hide (fun (c:UInt8) (W':World)=>mg c (W:Int) W' (by omega));clear S' nE hW hw1 hw2;by_cases hfull:b=100∧al=true
   ·have XT:=hide (show fD l=(List.replicate W u,0) by rw [Ws.o,if_pos hfull]);obtain ⟨rfl,rfl⟩:=hfull;clear Ws;go_wp2_with fail;refine (U.o _).mono ?_;rintro e w5 ⟨rfl,rfl⟩;go_wp2_with fail;refine (Rp.o _ _).mono ?_;rintro e w6 ⟨rfl,hb⟩;have lK:=hide (Hb.o.trans (hb.mono Hb.o.size));clear hb;go_wp2
    go_ret2
    exact ⟨(by rw [XT.o];rfl),lK.o⟩
   have XT:=hide (show fD l=xQ W u (tu b ds) by rw [Ws.o,if_neg hfull]);clear Ws;have ho:=Pb b ds (by omega)
   obtain ⟨o,hoe⟩:∃o,tu b ds=o:=⟨_,rfl⟩
   rw [hoe] at XT ho;have Hoe:=hide hoe;clear hoe;have aas:=hide hfull;clear hfull;go_upto_block 2 with fail;go_cut [11] (fun v wx=>v=.string (ag o)∧Below w.heap.size w wx)
   case first=>
    by_cases hb1:b=100
    ·have aat:al=false:=Bool.eq_false_iff.2 fun h=>aas.o ⟨hb1,h⟩
     have hsl:∀c∈ds,bg c=true:=J4 (by
      have h:=of_decide_eq_false Ee.o;rw [Hsd.o]
      rcases Nat.lt_or_ge sd ds.length with h2|h2
      ·exact absurd ⟨hb1,aat,h2⟩ h
      ·omega)
     have DB2:=hide (fun W=>DB.o W hsl);have HO:=hide (show cO ds 0=o by rw [←Hoe.o];unfold tu;rw [if_pos hb1]);subst hb1 aat;rw [HO.o] at DB2;clear hsl;go_wp2_with fail;refine (DB2.o _).mono ?_;rintro e w5 ⟨rfl,hb⟩;have lK:=hide (Hb.o.trans (hb.mono Hb.o.size));clear hb;go_wp2_with fail;go_meet;exact ⟨rfl,lK.o⟩
    ·have q3:((b.toNat:Int)==100)=false:=aL (d:=100) hb1;have HO:=hide (show gT ((fJ b).getD 0) ds=o by rw [←Hoe.o];unfold tu;rw [if_neg hb1]);have SP2:=hide (fun W=>SP.o W ((fJ b).getD 0) (by rcases oZ b with k|k|k|k<;>rw [k]<;>omega) (fun c hc=>LM (HF3.o c hc) hb1));rw [HO.o] at SP2;have L:=hide (fun (W:World) (r:Nat) (h:sV W r)=>show (Instr.lookup 161 (.map (some r)) (.int .u8 b.toNat) false).run Tryz.prog W=.ok (.int .i64 _) W from qa W r h b false);generalize (((fJ b).getD 0:Nat):Int)=kk at*;clear hb1;go_wp2_with fail;refine (BA.o _).mono ?_;rintro e w5 ⟨rfl,hB,hb⟩;have L1:=L.o _ _ hB;have lK:=hide (Hb.o.trans (hb.mono Hb.o.size));clear hb hB;go_wp2_with fail;refine (SP2.o _).mono ?_;rintro e w6 ⟨rfl,hb⟩;have vK:=hide (lK.o.trans (hb.mono lK.o.size));clear hb;go_wp2_with fail;go_meet;exact ⟨rfl,vK.o⟩
   case rest=>
   obtain ⟨rfl,hb⟩:=hcut;have B3:=hide hb;clear hb DB SP BA Hb;have hso:=aO o;by_cases hfit:o.length<W
   ·obtain ⟨cc,hcc⟩:∃cc:UInt8,(if u≠0 then u else 48)=cc:=⟨_,rfl⟩
    have HV6:=hide (show fD l=(List.replicate (W-o.length) cc++o,0) by rw [XT.o];unfold xQ;rw [if_pos hfit,hcc])
    obtain ⟨m,hm⟩:∃m,W-o.length=m:=⟨_,rfl⟩
    rw [hm] at HV6;have y:∀W',(Op.stringOp .add (ag (List.replicate m cc)) (ag o)).run Tryz.prog W'=.ok (.string (ag (List.replicate m cc++o))) W':=fun W'=>wK _ _ (by rw [List.length_replicate];omega) W';have Rp2:=hide (fun (W':World)=>mg cc (m:Int) W' (by omega));rw [show ((m:Int)).toNat=m from rfl] at Rp2
    have hmm:(W:Int)-((ag o).size:Int)=(m:Int):=by omega
    have zS:((ag o).size:Int)<(W:Int):=by omega
    generalize ag o=so at*;clear hm hso hfit;by_cases hu0:u=0
    ·have XU:cc=48:=by rw [←hcc,hu0];rfl
     subst hu0 XU;have U:=hide (fun W:World=>show Calls Tryz.prog 190 #[.int .u8 (c0.toNat:Int)] W fun e w'=>e=.returned (.int .u8 0)∧w'=W from U.o W);have Rp2:=hide (fun W':World=>show Calls Tryz.prog 191 #[.int .u8 48,.int .i64 (m:Int)] W' fun e w'=>e=.returned (.string (ag (List.replicate m 48)))∧Below W'.heap.size W' w' from Rp2.o W');clear hcc;go_wp2_with fail;refine (U.o _).mono ?_;rintro e w5 ⟨rfl,rfl⟩;go_wp2_with fail;refine (Rp2.o _).mono ?_;rintro e w6 ⟨rfl,hb⟩;have lK:=hide (B3.o.trans (hb.mono B3.o.size));clear hb;go_wp2
     go_ret2
     exact ⟨(by rw [HV6.o];rfl),lK.o⟩
    ·have XU:cc=u:=by rw [←hcc,if_pos hu0]
     subst XU;have e1:((cc.toNat:Int)==0)=false:=aL (d:=0) hu0
     have e2:((cc.toNat:Int) !=0)=true:=by rw [bne,e1];rfl
     clear hcc hu0;go_wp2_with fail;refine (U.o _).mono ?_;rintro e w5 ⟨rfl,rfl⟩;go_wp2_with fail;refine (Rp2.o _).mono ?_;rintro e w6 ⟨rfl,hb⟩;have lK:=hide (B3.o.trans (hb.mono B3.o.size));clear hb;go_wp2
     go_ret2
     exact ⟨(by rw [HV6.o];rfl),lK.o⟩
   ·obtain ⟨m,hm⟩:∃m,o.length-W=m:=⟨_,rfl⟩
    have hV6:=XT.o;unfold xQ at hV6;rw [if_neg hfit,hm] at hV6
    have x3:(ag o).extract 0 ((ag o).size-W)=ag (o.take m):=by rw [show (ag o).size-W=m by omega];exact sN o m
    have x4:(ag o).extract ((ag o).size-W) (ag o).size=ag (o.drop m):=by rw [show (ag o).size-W=m by omega];exact sM o m
    have zS:¬((ag o).size:Int)<(W:Int):=by omega
    have hm0:(0:Int)≤((ag o).size:Int)-(W:Int):=by omega
    have TS:((ag o).size:Int)-(W:Int)≤((ag o).size:Int):=by omega
    have XV:((ag o).size:Int)≤400000:=by omega
    have hm2:(((ag o).size:Int)-(W:Int)).toNat=(ag o).size-W:=by omega
    have TR:=hide (fun W':World=>(Tryz.strings_Trim_one (ag (o.take m)) 48 (by decide) W' (by rw [aO,cr];omega)).mono (R':=fun e w'=>e=.returned (.string ⟨(Lib.trimB (o.take m) 48).toArray⟩)∧Below W'.heap.size W' w') (by
     rintro e w' ⟨rfl,rfl|rfl⟩
     ·exact ⟨rfl,af _ _⟩
     ·exact ⟨rfl,(af _ _).drew⟩))
    have htn:=LP (o.take m);generalize ag o=so at*;generalize ag (o.take m)=sp at*
    cases htr:Lib.trimB (o.take m) 48 with
    |nil=>
     have HV7:=hide (show fD l=(o.drop m,0) by rw [hV6,if_pos (htn.1 htr)]);rw [htr] at TR;clear htr htn hV6 hm hso hfit XT;go_wp2_with fail;refine (TR.o _).mono ?_;rintro e w6 ⟨rfl,hb⟩;have lK:=hide (B3.o.trans (hb.mono B3.o.size));clear hb;go_wp2
     go_ret2
     exact ⟨(by rw [HV7.o];rfl),lK.o⟩
    |cons x y=>
     have HV7:=hide (show fD l=([],8) by rw [hV6,if_neg (fun h=>by rw [htn.2 h] at htr;cases htr)]);rw [htr] at TR;clear htr htn hV6 hm hso hfit XT;go_wp2_with fail;refine (TR.o _).mono ?_;rintro e w6 ⟨rfl,hb⟩;have lK:=hide (B3.o.trans (hb.mono B3.o.size));clear hb;go_wp2
     go_ret2
     exact ⟨(by rw [HV7.o];rfl),lK.o⟩
theorem LR (W:World) (l:List UInt8):∃W1 cap,(convert 9 75 (.string (ag l))).run Tryz.prog W=.ok (.slice (some ⟨W.heap.size,0,none⟩) l.length cap) W1∧Below W.heap.size W W1∧xO W1 W.heap.size l:=by
 have h:=run_bytes_of_string (P:=Tryz.prog) W 9 75 5 (ag l) Tryz.underlying9 Tryz.underlying75 Tryz.underlying5;rw [aO] at h;have e:(World.alloc W.drew (.cells (bytesRow (ag l) (grownCap W l.length 0 5)) 5 ((bytesRow (ag l) (grownCap W l.length 0 5)).size,(bytesRow (ag l) (grownCap W l.length 0 5)).size+1))).heap[W.heap.size]? =some _:=World.alloc_heap_new W.drew _;refine ⟨_,_,h,(af _ _).drew.alloc (aa _) _,?_,?_,fun i hi=>?_⟩
 ·rw [aF];exact Nat.lt_succ_self _
 ·intro cs t h2;rw [e] at h2;simp only [Option.some.injEq,Obj.cells.injEq,Prod.mk.injEq] at h2;exact absurd h2.2.2.2 (Nat.succ_ne_zero _)
 ·rw [World.cell?,e];exact bytesRow_at (ag l) _ i (by show i<l.toArray.size;simpa using hi)
def fM (c:UInt8):List UInt8:=if c=34∨c=92 then [92,c] else if c.toNat<32∨126<c.toNat then [92,120,ny (c.toNat / 16),ny (c.toNat % 16)] else [c]
theorem nG (l:List UInt8):nz l=34::(l.flatMap fM++[34]):=rfl
theorem Pd (c:UInt8):(fM c).length≤4:=by
 unfold fM
 split
 ·show 2≤4;omega
 ·split
  ·show 4≤4;omega
  ·show 1≤4;omega
theorem tA:∀l:List UInt8,(l.flatMap fM).length≤4*l.length
 |[]=>aa _
 |c::t=>by
  rw [List.flatMap_cons,aw,aj];have:=tA t;have:=Pd c;omega
theorem wX (n:Nat) (h:n<16) (h2:n<(⟨#[48,49,50,51,52,53,54,55,56,57,97,98,99,100,101,102]⟩:ByteArray).size):(⟨#[48,49,50,51,52,53,54,55,56,57,97,98,99,100,101,102]⟩:ByteArray)[n]'h2=ny n:=by
 have h3:∀k:Fin 16,(⟨#[48,49,50,51,52,53,54,55,56,57,97,98,99,100,101,102]⟩:ByteArray)[k.val]'(by have:=k.isLt;show k.val<16;omega)=ny k.val:=by decide+kernel
 exact h3 ⟨n,h⟩
theorem aau (c:UInt8):bits .and .u8 (c.toNat:Int) 15=((c.toNat % 16:Nat):Int):=by
 have h:=u8_and_nat c.toNat 15 c.toNat_lt (by decide);rw [Nat.and_two_pow_sub_one_eq_mod c.toNat 4] at h;exact h
theorem J6 {P E X:List UInt8} {a b:UInt8} (h:E=[a,b]):P++[a]++[b]++X++[34]=P++(E++X)++[34]:=by rw [h];simp
theorem Ef {P E X:List UInt8} {x y a b:UInt8} (h:E=[x,y,a,b]):P++[x,y]++[a]++[b]++X++[34]=P++(E++X)++[34]:=by rw [h];simp
theorem uH (c:UInt8) (t:List UInt8):(c::t).flatMap fM=fM c++t.flatMap fM:=List.flatMap_cons
theorem Eg (l:List UInt8) (w:World) (hl:l.length≤100000):
 Calls Tryz.prog 241 #[.string (ag l)] w fun e w'=>e=.returned (.string (ag (nz l)))∧Below w.heap.size w w':=by
 obtain ⟨RL,Uh⟩:∃R,nz l=R:=⟨_,rfl⟩
 have aar:RL.length≤400010:=by rw [←Uh,nG,aj,aw,List.length_singleton];have:=tA l;omega
 have HR:=hide (show [34]++l.flatMap fM++[34]=RL by rw [←Uh,nG];rfl);rw [Uh];clear Uh;go_enter Tryz.func241,Tryz.ntmps241;go_upto_region 2 with fail
 obtain ⟨W1,hW1⟩:∃W1,w.alloc (.cells #[.pointer none,.slice none 0 0] 77)=W1:=⟨_,rfl⟩
 rw [hW1]
 obtain ⟨b,hb⟩:∃b,w.heap.size=b:=⟨_,rfl⟩
 have hs1:W1.heap.size=b+1:=by rw [←hW1,←hb];simp
 have hk1:W1.heap[b]? =some (.cells #[.pointer none,.slice none 0 0] 77 (0,0)):=by rw [←hW1,←hb];exact World.alloc_heap_new _ _
 have HX:=ae (BX W1 b (b+1) []) (BX.fresh hk1 (by omega) (by omega));have HB:=hide (show Below w.heap.size w W1 by rw [←hW1];exact (af _ _).alloc (aa _) _);have Hb:=hide (show w.heap.size≤b by omega);rw [hb];have WB:=hide (fun (P:List UInt8) (c:UInt8) (W:World) (h:BX W b (b+1) P) (hp:P.length≤500000)=>xP b (b+1) P c W h (by omega));clear hk1 hs1 hW1 hb
 have Wt:=fun (P:List UInt8) (W:World) (h:BX W b (b+1) P) (hp:P.length≤500000)=>(show Calls Tryz.prog 114 #[.pointer (some ⟨b,0,none⟩),.int .u8 34] W fun e w'=>e=.returned .nilIface∧BX w' b (b+1) (P++[34])∧nB b (b+1) W w' from WB.o P 34 W h hp)
 have XW:=hide Wt
 have w92:=fun (P:List UInt8) (W:World) (h:BX W b (b+1) P) (hp:P.length≤500000)=>(show Calls Tryz.prog 114 #[.pointer (some ⟨b,0,none⟩),.int .u8 92] W fun e w'=>e=.returned .nilIface∧BX w' b (b+1) (P++[92])∧nB b (b+1) W w' from WB.o P 92 W h hp)
 have W92:=hide w92;clear Wt w92;go_wp2_with fail;refine (XW.o [] _ HX.o (by simp)).mono ?_;rintro e w1 ⟨rfl,hx,cu⟩;have Ed:=hide hx;have dX:=hide (HB.o.trans (cu.1.mono Hb.o));clear hx cu HX;obtain ⟨W2,cap,hcv,hb2,htx⟩:=LR w1 l;have HX2:=hide (Ed.o.below hb2);have iM:=hide (dX.o.trans (hb2.mono dX.o.size))
 obtain ⟨g,hg⟩:∃g,w1.heap.size=g:=⟨_,rfl⟩
 have Pe:=hide (show g≠b by have:=Ed.o.2.1;omega);rw [hg] at hcv htx;have HT:=hide htx;have hz:=aO l;generalize ag l=s at*;clear htx hb2 hg;go_wp2_with fail
 go_loopw [10] (fun v wr=>∃(i:Nat) (P:List UInt8),v=.int .i64 (i:Int)∧i≤l.length∧P++(l.drop i).flatMap fM++[34]=RL∧BX wr b (b+1) P∧xO wr g l∧Below w.heap.size w wr) (fun v _=>l.length-(intOf v).toNat)
 case atStart=>exact ⟨0,[34],rfl,by omega,HR.o,HX2.o,HT.o,iM.o⟩
 case round=>
  obtain ⟨i,P,rfl,hi,hP,hx,htx,hb⟩:=hrel;have HX:=hide hx;have lK:=hide hb;have Cg:=hide htx;have HP:=hide hP;have J3:=hide (show P.length≤400010 by have:=congrArg List.length hP;rw [aw,aw] at this;omega);clear hP hx hb;by_cases hlt:i<l.length
  ·have hi':(i:Int)<(l.length:Int):=by omega
   have hi0:(0:Int)≤(i:Int):=by omega
   have hwi:IntKind.i64.wrap ((i:Int)+1)=(i:Int)+1:=bI _ (by omega);have hdr:l.drop i=l[i]::l.drop (i+1):=cn hlt
   obtain ⟨c,hc⟩:∃c,l[i]=c:=⟨_,rfl⟩
   have hcell:wr.cell? ⟨g,i,none⟩=some (.int .u8 (l[i].toNat:Int)):=htx.2.2 i hlt;rw [hc] at hdr hcell;have HS:=hide (show P++(fM c++(l.drop (i+1)).flatMap fM)++[34]=RL by rw [←HP.o,hdr,uH]);clear hdr hc htx HP;by_cases h1:c=34
   ·subst h1;go_wp2_with fail;refine (W92.o P _ HX.o (by have:=J3.o;omega)).mono ?_;rintro e w1 ⟨rfl,hx,cu⟩;have Hh:=hide hx;have uF:=hide (cu.o_ Cg.o Pe.o);have vK:=hide (lK.o.trans (cu.1.mono Hb.o));clear hx cu;go_wp2_with fail;refine (XW.o _ _ Hh.o (by have:=J3.o;simp;omega)).mono ?_;rintro e w2 ⟨rfl,hx,cu⟩;have XX:=hide hx;have Hl:=hide (cu.o_ uF.o Pe.o);have Ui:=hide (vK.o.trans (cu.1.mono Hb.o));clear hx cu;go_wp2;go_roundw
    case rel=>exact ⟨i+1,_,by go_num,by omega,(J6 rfl).trans HS.o,XX.o,Hl.o,Ui.o⟩
    case measure=>simp [intOf];omega
   have e34:((c.toNat:Int)==34)=false:=aL (d:=34) h1;by_cases h2:c=92
   ·subst h2;go_wp2_with fail;refine (W92.o P _ HX.o (by have:=J3.o;omega)).mono ?_;rintro e w1 ⟨rfl,hx,cu⟩;have Hh:=hide hx;have uF:=hide (cu.o_ Cg.o Pe.o);have vK:=hide (lK.o.trans (cu.1.mono Hb.o));clear hx cu;go_wp2_with fail;refine (W92.o _ _ Hh.o (by have:=J3.o;simp;omega)).mono ?_;rintro e w2 ⟨rfl,hx,cu⟩;have XX:=hide hx;have Hl:=hide (cu.o_ uF.o Pe.o);have Ui:=hide (vK.o.trans (cu.1.mono Hb.o));clear hx cu;go_wp2;go_roundw
    case rel=>exact ⟨i+1,_,by go_num,by omega,(J6 rfl).trans HS.o,XX.o,Hl.o,Ui.o⟩
    case measure=>simp [intOf];omega
   have e92:((c.toNat:Int)==92)=false:=aL (d:=92) h2;by_cases h3:c.toNat<32∨126<c.toNat
   ·have Pf:fM c=[92,120,ny (c.toNat / 16),ny (c.toNat % 16)]:=by
     unfold fM;rw [if_neg (by rintro (h|h);exact h1 h;exact h2 h),if_pos h3]
    have aav:=hide (fun (W:World) (h:BX W b (b+1) P)=>(show Calls Tryz.prog 115 #[.pointer (some ⟨b,0,none⟩),.string ⟨#[92,120]⟩] W fun e w'=>(∃v,e=.returned v)∧BX w' b (b+1) (P++[92,120])∧nB b (b+1) W w' from tq b (b+1) P [92,120] W h (by have:=J3.o;simp;omega)));have Ta:=aau c;have hc256:=c.toNat_lt
    have hm0:((c.toNat:Int) % 16).toNat=c.toNat % 16:=by omega
    have TS:(((c.toNat % 16:Nat)):Int)<16:=by omega
    have aaw:=hide Pf;clear h1 h2 Pf;by_cases hlo:c.toNat<32
    ·have q2:(c.toNat:Int)<32:=by omega
     clear h3 hlo;go_wp2_with fail;refine (aav.o _ HX.o).mono ?_;rintro e w1 ⟨⟨vv,rfl⟩,hx,cu⟩;have Hh:=hide hx;have uF:=hide (cu.o_ Cg.o Pe.o);have vK:=hide (lK.o.trans (cu.1.mono Hb.o));clear hx cu;go_wp2_with fail;rw [wX (c.toNat / 16) (by omega)];refine (WB.o _ _ _ Hh.o (by have:=J3.o;simp;omega)).mono ?_;rintro e w2 ⟨rfl,hx,cu⟩;have XX:=hide hx;have Hl:=hide (cu.o_ uF.o Pe.o);have Ui:=hide (vK.o.trans (cu.1.mono Hb.o));clear hx cu;go_wp2_with fail;rw [wX (c.toNat % 16) (by omega)];refine (WB.o _ _ _ XX.o (by have:=J3.o;simp;omega)).mono ?_;rintro e w3 ⟨rfl,hx,cu⟩;have HX5:=hide hx;have XY:=hide (cu.o_ Hl.o Pe.o);have Hb5:=hide (Ui.o.trans (cu.1.mono Hb.o));clear hx cu;go_wp2;go_roundw
     case rel=>exact ⟨i+1,_,by go_num,by omega,(Ef aaw.o).trans HS.o,HX5.o,XY.o,Hb5.o⟩
     case measure=>simp [intOf];omega
    ·have q2:¬(c.toNat:Int)<32:=by omega
     have q3:(126:Int)<(c.toNat:Int):=by omega
     clear h3 hlo;go_wp2_with fail;refine (aav.o _ HX.o).mono ?_;rintro e w1 ⟨⟨vv,rfl⟩,hx,cu⟩;have Hh:=hide hx;have uF:=hide (cu.o_ Cg.o Pe.o);have vK:=hide (lK.o.trans (cu.1.mono Hb.o));clear hx cu;go_wp2_with fail;rw [wX (c.toNat / 16) (by omega)];refine (WB.o _ _ _ Hh.o (by have:=J3.o;simp;omega)).mono ?_;rintro e w2 ⟨rfl,hx,cu⟩;have XX:=hide hx;have Hl:=hide (cu.o_ uF.o Pe.o);have Ui:=hide (vK.o.trans (cu.1.mono Hb.o));clear hx cu;go_wp2_with fail;rw [wX (c.toNat % 16) (by omega)];refine (WB.o _ _ _ XX.o (by have:=J3.o;simp;omega)).mono ?_;rintro e w3 ⟨rfl,hx,cu⟩;have HX5:=hide hx;have XY:=hide (cu.o_ Hl.o Pe.o);have Hb5:=hide (Ui.o.trans (cu.1.mono Hb.o));clear hx cu;go_wp2;go_roundw
     case rel=>exact ⟨i+1,_,by go_num,by omega,(Ef aaw.o).trans HS.o,HX5.o,XY.o,Hb5.o⟩
     case measure=>simp [intOf];omega
   ·have Pf:fM c=[c]:=by unfold fM;rw [if_neg (by rintro (h|h);exact h1 h;exact h2 h),if_neg h3]
    have q1:¬(c.toNat:Int)<32:=by omega
    have q2:¬(126:Int)<(c.toNat:Int):=by omega
    have ur:=hide (show (P++[c])++(l.drop (i+1)).flatMap fM++[34]=RL by rw [←HS.o,Pf,cT P]);clear h1 h2 h3 Pf;go_wp2_with fail;refine (WB.o P c _ HX.o (by have:=J3.o;omega)).mono ?_;rintro e w1 ⟨rfl,hx,cu⟩;have Hh:=hide hx;have uF:=hide (cu.o_ Cg.o Pe.o);have vK:=hide (lK.o.trans (cu.1.mono Hb.o));clear hx cu;go_wp2;go_roundw
    case rel=>exact ⟨i+1,_,by go_num,by omega,ur.o,Hh.o,uF.o,vK.o⟩
    case measure=>simp [intOf];omega
  ·have hi':¬(i:Int)<(l.length:Int):=by omega
   have HS:=hide (show P++[34]=RL by rw [←HP.o,dc (by omega)];simp);clear htx;go_wp2_with fail;refine (XW.o P _ HX.o (by have:=J3.o;omega)).mono ?_;rintro e w1 ⟨rfl,hx,cu⟩;have vK:=hide (lK.o.trans (cu.1.mono Hb.o));rw [HS.o] at hx;have S:=hide (J2 b (b+1) RL w1 hx);clear hx cu;go_wp2_with fail;refine S.o.mono ?_;rintro e wz ⟨rfl,hb3⟩;go_wp2;go_ret;exact ⟨rfl,vK.o.trans (hb3.mono Hb.o)⟩
def lZ:List UInt8→Option (UInt8×Nat)
 |[]=>none
 |d::r=>if d=34∨d=92 then some (d,2) else if d=120 then (match r with
  |x::y::_=>if 0≤dK x∧0≤dK y then some (UInt8.ofNat (16*dK x+dK y).toNat,4) else none
  |_=>none) else none
def Pg (c:UInt8):Bool:=decide (c.toNat<32∨126<c.toNat∨c=34)
def gm:List UInt8→Option (UInt8×Nat)
 |[]=>none
 |c::t=>if Pg c=true then none else if c=92 then lZ t else some (c,1)
theorem Ph (k:Nat) {c:UInt8} (t:List UInt8) (h:Pg c=true):sK (k+1) (c::t)=none:=by
 show (if c.toNat<32∨126<c.toNat∨c=34 then none else _)=none;rw [if_pos (of_decide_eq_true h)]
theorem Uj (k:Nat) {c:UInt8} (t:List UInt8) (h:Pg c=false) (h2:c≠92):sK (k+1) (c::t)=(sK k t).map (c::·):=by
 show (if c.toNat<32∨126<c.toNat∨c=34 then none else if c≠92 then _ else _)=_;rw [if_neg (of_decide_eq_false h),if_pos h2]
theorem Pj (k:Nat) (t:List UInt8):sK (k+1) (92::t)=(lZ t).bind fun p=>(sK k (t.drop (p.2-1))).map (p.1::·):=by
 show (if (92:UInt8).toNat<32∨126<(92:UInt8).toNat∨(92:UInt8)=34 then none else if (92:UInt8)≠92 then _ else _)=_;rw [if_neg (by decide),if_neg (by decide)]
 cases t with
 |nil=>rfl
 |cons d r=>
  simp only [lZ];by_cases h1:d=34∨d=92
  ·rw [if_pos h1,if_pos h1];rfl
  ·rw [if_neg h1,if_neg h1];by_cases h2:d=120
   ·rw [if_pos h2,if_pos h2]
    match r with
    |[]=>rfl
    |[_]=>rfl
    |x::y::q=>
     simp only;by_cases h3:0≤dK x∧0≤dK y
     ·rw [if_pos h3,if_pos h3];rfl
     ·rw [if_neg h3,if_neg h3];rfl
   ·rw [if_neg h2,if_neg h2];rfl
theorem AP {t:List UInt8} {p:UInt8×Nat} (h:lZ t=some p):2≤p.2∧p.2≤t.length+1:=by
 cases t with
 |nil=>cases h
 |cons d r=>
  simp only [lZ] at h;by_cases h1:d=34∨d=92
  ·rw [if_pos h1] at h;cases h;exact ⟨aa _,by show 2≤r.length+1+1;omega⟩
  ·rw [if_neg h1] at h;by_cases h2:d=120
   ·rw [if_pos h2] at h
    match r,h with
    |[],h=>cases h
    |[_],h=>cases h
    |x::y::q,h=>
     simp only at h;by_cases h3:0≤dK x∧0≤dK y
     ·rw [if_pos h3] at h;cases h;exact ⟨by show 2≤4;omega,by show 4≤q.length+1+1+1+1;omega⟩
     ·rw [if_neg h3] at h;cases h
   ·rw [if_neg h2] at h;cases h
theorem qf (k:Nat) (c:UInt8) (t:List UInt8):sK (k+1) (c::t)=(gm (c::t)).bind fun p=>(sK k ((c::t).drop p.2)).map (p.1::·):=by
 simp only [gm]
 cases h1:Pg c with
 |true=>rw [Ph k t h1];rfl
 |false=>
  rw [if_neg (by decide)];by_cases h2:c=92
  ·subst h2;rw [if_pos rfl,Pj]
   cases hs:lZ t with
   |none=>rfl
   |some p=>
    have h3:=(AP hs).1;simp only [Option.bind_some];rw [show (92::t).drop p.2=t.drop (p.2-1) by rw [show p.2=(p.2-1)+1 by omega];rfl]
  ·rw [if_neg h2,Uj k t h1 h2];rfl
theorem kR {l:List UInt8} {p:UInt8×Nat} (h:gm l=some p):1≤p.2∧p.2≤l.length:=by
 cases l with
 |nil=>cases h
 |cons c t=>
  simp only [gm] at h
  cases h1:Pg c with
  |true=>rw [h1,if_pos rfl] at h;cases h
  |false=>
   rw [h1,if_neg (by decide)] at h;by_cases h2:c=92
   ·rw [if_pos h2] at h;have:=AP h;rw [aj];omega
   ·rw [if_neg h2] at h;cases h;exact ⟨aa _,by show 1≤t.length+1;omega⟩
theorem uI:∀(n m:Nat) (l:List UInt8),l.length<n→l.length<m→sK n l=sK m l
 |0,m,l,h,_=>absurd h (by omega)
 |n+1,0,l,_,h=>absurd h (by omega)
 |n+1,m+1,[],_,_=>rfl
 |n+1,m+1,c::t,hn,hm=>by
  rw [qf,qf]
  cases hs:gm (c::t) with
  |none=>rfl
  |some p=>
   obtain ⟨h1,h2⟩:=kR hs;simp only [Option.bind_some];rw [aj] at hn hm h2;rw [uI n m ((c::t).drop p.2) (by rw [aA,aj];omega) (by rw [aA,aj];omega)]
def rD (l:List UInt8):Option (List UInt8):=sK (l.length+1) l
theorem Eh:rD []=some []:=rfl
theorem uJ {l:List UInt8} {c:UInt8} {n:Nat} (h:gm l=some (c,n)):rD l=(rD (l.drop n)).map (c::·):=by
 cases l with
 |nil=>cases h
 |cons d t=>
  obtain ⟨h1,h2⟩:=kR h;unfold rD;rw [qf,h];simp only [Option.bind_some];rw [aj] at h2⊢;rw [uI (t.length+1) (((d::t).drop n).length+1) _ (by rw [aA,aj];omega) (by omega)]
theorem AQ {l:List UInt8} (h:gm l=none) (hl:l≠[]):rD l=none:=by
 cases l with
 |nil=>exact absurd rfl hl
 |cons d t=>unfold rD;rw [qf,h];rfl
def pc (m:List UInt8) (i:Nat) (O:List UInt8):Prop:=i≤m.length∧O.length≤i∧rD m=(rD (m.drop i)).map (O++·)
theorem pc.zero (m:List UInt8):pc m 0 []:=⟨bj _,aa _,by simp⟩
theorem pc.step {m:List UInt8} {i:Nat} {O:List UInt8} (h:pc m i O) {c:UInt8} {n:Nat} (hs:gm (m.drop i)=some (c,n)):pc m (i+n) (O++[c]):=by
 obtain ⟨h1,h2,h3⟩:=h;have h4:=kR hs;simp only [aA] at h4;refine ⟨by omega,by simp;omega,?_⟩;rw [h3,uJ hs,dB]
 cases rD (List.drop (i+n) m)<;>simp
theorem pc.stop {m:List UInt8} {i:Nat} {O:List UInt8} (h:pc m i O) (hi:i<m.length) (hs:gm (m.drop i)=none):rD m=none:=by
 rw [h.2.2,AQ hs (by intro e;have:=congrArg List.length e;rw [aA] at this;simp at this;omega)];rfl
theorem pc.done {m O:List UInt8} (h:pc m m.length O):rD m=some O:=by
 rw [h.2.2,dc (aa _),Eh];simp
def uK (m:List UInt8):List UInt8×Int:=match rD m with|none=>([],3)|some o=>if 64<o.length then ([],9) else (o,0)
theorem tB {l:List UInt8} (h:l.length<2∨l.head? ≠some 34∨l.getLast? ≠some 34):iZ l=([],3):=by unfold iZ;rw [if_pos h]
theorem xU {l:List UInt8} (h:¬(l.length<2∨l.head? ≠some 34∨l.getLast? ≠some 34)):iZ l=uK ((l.drop 1).take (l.length-2)):=by
 unfold iZ uK;rw [if_neg h];have h2:¬l.length<2:=fun h3=>h (.inl h3);rw [uI l.length (((l.drop 1).take (l.length-2)).length+1) _ (by rw [cr,aA];omega) (by omega)];rfl
theorem drop_one {m:List UInt8} {i:Nat} (h:i<m.length):m.drop i=m[i]::m.drop (i+1):=cn h
theorem aax {l:List UInt8} (h:0<l.length):l.head? =some l[0]:=by
 cases l with
 |nil=>cases h
 |cons a t=>rfl
theorem uL {c:UInt8} {t:List UInt8} (h:c.toNat<32∨126<c.toNat∨c=34):gm (c::t)=none:=by
 simp only [gm];rw [if_pos];exact decide_eq_true h
theorem Ei {c:UInt8} {t:List UInt8} (h1:32≤c.toNat) (h2:c.toNat≤126) (h3:c≠34) (h4:c≠92):gm (c::t)=some (c,1):=by
 simp only [gm];rw [if_neg,if_neg h4];intro h
 rcases of_decide_eq_true h with h|h|h
 ·omega
 ·omega
 ·exact h3 h
theorem gz {t:List UInt8}:gm (92::t)=lZ t:=by
 simp only [gm];rw [if_neg (by decide),if_pos trivial]
theorem Uk {x y:Int} (h1:0≤x) (h2:x≤15) (h3:0≤y) (h4:y≤15):((UInt8.ofNat (16*x+y).toNat).toNat:Int)=16*x+y:=by rw [UInt8.toNat_ofNat'];omega
theorem XZ {w:World} {B:Nat} {u:Value} {l:List UInt8} (h:w.ownsRow B 5 1 u l.length (Lib.byteCells l)):∃A cap,u=.slice A l.length cap:=by
 obtain ⟨_,h2⟩:=h
 rcases h2 with ⟨rfl,h0⟩|⟨g,cap,cs,rfl,_⟩
 ·exact ⟨none,0,by rw [h0]⟩
 ·exact ⟨_,cap,rfl⟩
theorem Aa (l:List UInt8) (w:World) (hl:l.length≤1000000):
 Calls Tryz.prog 162 #[.string (ag l)] w fun e w'=>e=.returned (.tuple #[.string (ag (iZ l).1),.int .i64 (iZ l).2])∧Below w.heap.size w w':=by
 have hz:=aO l;have hg:∀(i:Nat) (h:i<(ag l).size) (h2:i<l.length),(ag l)[i]'h=l[i]:=fun i h h2=>fu l i h;by_cases h0:l.length<2
 ·have HV:=hide (tB (l:=l) (.inl h0))
  have q1:((ag l).size:Int)<2:=by omega
  generalize ag l=s at*;clear hz hg h0;go_enter Tryz.func162,Tryz.ntmps162;go_wp2
  go_ret2
  exact ⟨(by rw [HV.o];rfl),af _ _⟩
 have q1:¬((ag l).size:Int)<2:=by omega
 have hs0:0<(ag l).size:=by omega
 have hl0:0<l.length:=by omega
 obtain ⟨a,ha⟩:∃a,l[0]'hl0=a:=⟨_,rfl⟩
 have hsa:(ag l)[0]'hs0=a:=by rw [hg 0 hs0 hl0,ha]
 have Wu:l.head? =some a:=by rw [aax hl0,ha]
 by_cases h1:a=34;rotate_left
 ·have HV:=hide (tB (l:=l) (.inr (.inl (by rw [Wu];intro e;exact h1 (au e)))));have e1:((a.toNat:Int)==34)=false:=aL (d:=34) h1
  have e2:((a.toNat:Int) !=34)=true:=by rw [bne,e1];rfl
  generalize ag l=s at*;clear hz hg h0 h1 ha Wu;go_enter Tryz.func162,Tryz.ntmps162;go_wp2
  go_ret2
  exact ⟨(by rw [HV.o];rfl),af _ _⟩
 subst h1
 have hs1:(ag l).size-1<(ag l).size:=by omega
 have Tb:l.length-1<l.length:=by omega
 obtain ⟨z,hzz⟩:∃z,l[l.length-1]'Tb=z:=⟨_,rfl⟩
 have hsz:(ag l)[(ag l).size-1]'hs1=z:=by rw [hg _ hs1 (by omega)];simp only [hz];exact hzz
 have Gs:l.getLast? =some z:=by rw [List.getLast?_eq_getElem?,List.getElem?_eq_getElem Tb,hzz]
 have k1:(0:Int)≤((ag l).size:Int)-1:=by omega
 have k2:((ag l).size:Int)-1<((ag l).size:Int):=by omega
 have k3:(((ag l).size:Int)-1).toNat=(ag l).size-1:=by omega
 have k4:(1:Int)≤((ag l).size:Int)-1:=by omega
 have k5:((ag l).size:Int)-1≤((ag l).size:Int):=by omega
 have k6:((ag l).size:Int)≤1000000:=by omega
 by_cases h2:z=34;rotate_left
 ·have HV:=hide (tB (l:=l) (.inr (.inr (by rw [Gs];intro e;exact h2 (au e)))));have e1:((z.toNat:Int)==34)=false:=aL (d:=34) h2
  have e2:((z.toNat:Int) !=34)=true:=by rw [bne,e1];rfl
  generalize ag l=s at*;clear hz hg h0 h2 hzz Gs ha Wu;go_enter Tryz.func162,Tryz.ntmps162;go_wp2
  go_ret2
  exact ⟨(by rw [HV.o];rfl),af _ _⟩
 subst h2
 have hmid:=xU (l:=l) (by
  rintro (h|h|h)
  ·exact h0 h
  ·rw [Wu] at h;exact h rfl
  ·rw [Gs] at h;exact h rfl)
 obtain ⟨m,hm⟩:∃m,(l.drop 1).take (l.length-2)=m:=⟨_,rfl⟩
 rw [hm] at hmid
 have x1:(ag l).extract 1 ((ag l).size-1)=ag m:=by rw [B_,hz,←hm,show l.length-1-1=l.length-2 by omega]
 have zU:m.length≤1000000:=by rw [←hm,cr];omega
 have HV:=hide hmid;clear hzz ha Wu Gs hm hmid;generalize ag l=s at*;have Wv:=aO m;have hg2:∀(i:Nat) (h:i<(ag m).size) (h2:i<m.length),(ag m)[i]'h=m[i]:=fun i h h2=>fu m i h;generalize ag m=t at*;have Hmz:=hide Wv;have Hg2:=hide hg2;have HX:=hide xA;have HRg:=hide ry;clear hg2 Wv hz hg;go_enter Tryz.func162,Tryz.ntmps162;go_wp2_with fail
 go_loopw [5,6] (fun u v wr=>∃(i:Nat) (O:List UInt8),v=.int .i64 (i:Int)∧pc m i O∧wr.ownsRow w.heap.size 5 1 u O.length (Lib.byteCells O)∧Below w.heap.size w wr) (fun _ v _=>m.length-(intOf v).toNat)
 case atStart=>exact ⟨0,[],rfl,pc.zero m,World.ownsRow_nil _ _ _ _,af _ _⟩
 case round=>
  obtain ⟨i,O,rfl,hrd,hown,hbr⟩:=hrel;have LS:=hide hrd;have Ab:=hide hown;have J7:=hide hbr;have Hz:=hide hbr.size;have hle:=hrd.1;have hol:=hrd.2.1;clear hrd hown hbr;by_cases hi:i<m.length
  ·have hit:i<t.size:=by have:=Hmz.o;omega
   have hi':(i:Int)<(t.size:Int):=by omega
   have hi0:(0:Int)≤(i:Int):=by omega
   have hw1:IntKind.i64.wrap ((i:Int)+1)=(i:Int)+1:=bI _ (by omega)
   obtain ⟨c,hc⟩:∃c,m[i]'hi=c:=⟨_,rfl⟩
   have hsc:t[i]'hit=c:=by rw [Hg2.o i hit hi,hc]
   have d0:=drop_one hi;rw [hc] at d0;by_cases c1:c.toNat<32
   ·have p1:(c.toNat:Int)<32:=by omega
    have Ac:=hide (show iZ l=([],3) by rw [HV.o];unfold uK;rw [LS.o.stop hi (by rw [d0];exact uL (.inl c1))]);clear c1 d0 hc;go_wp2
    go_ret2
    exact ⟨(by rw [Ac.o];rfl),J7.o⟩
   have p1:¬(c.toNat:Int)<32:=by omega
   by_cases c2:126<c.toNat
   ·have p2:(126:Int)<(c.toNat:Int):=by omega
    have Ac:=hide (show iZ l=([],3) by rw [HV.o];unfold uK;rw [LS.o.stop hi (by rw [d0];exact uL (.inr (.inl c2)))]);clear c1 c2 d0 hc;go_wp2
    go_ret2
    exact ⟨(by rw [Ac.o];rfl),J7.o⟩
   have p2:¬(126:Int)<(c.toNat:Int):=by omega
   by_cases c3:c=34
   ·subst c3;have Ac:=hide (show iZ l=([],3) by rw [HV.o];unfold uK;rw [LS.o.stop hi (by rw [d0];exact uL (.inr (.inr rfl)))]);clear c1 c2 d0 hc;go_wp2
    go_ret2
    exact ⟨(by rw [Ac.o];rfl),J7.o⟩
   have p3:((c.toNat:Int)==34)=false:=aL (d:=34) c3;by_cases c4:c=92;rotate_left
   ·have p4:((c.toNat:Int)==92)=false:=aL (d:=92) c4
    have p5:((c.toNat:Int) !=92)=true:=by rw [bne,p4];rfl
    have Ej:=hide (LS.o.step (c:=c) (n:=1) (by rw [d0];exact Ei (by omega) (by omega) c3 c4));clear c1 c2 c3 c4 d0 hc;go_wp2_with (at_builtin;have mG:=Ab.o.alloc (.cells #[.int .u8 (c.toNat:Int)] 5);refine ib _ rfl _ _ 75 rfl w.heap.size 5 jy Tryz.underlying75 rfl (by decide) u5 O.length (Lib.byteCells O) rfl mG ⟨wr.heap.size,0,none⟩ 1 1 [.int .u8 (c.toNat:Int)] rfl rfl (mD _ _ rfl) (by intro u hu;simp only [List.mem_cons,List.not_mem_nil,or_false] at hu;rcases hu with rfl;rfl) (by unfold maxLen;omega) (by omega) (by rw [aF];exact Nat.le_succ_of_le Hz.o) ?_;intro v' w4 lh iw _ _);have X6:=hide lh;have Ul:=hide iw;have HO9:=hide mG;clear lh iw mG;go_roundw
    case rel=>exact ⟨i+1,O++[c],by go_num,Ej.o,by rw [aw,←gW];exact X6.o,(J7.o.alloc Hz.o _).grown Ul.o (by rw [aF];exact Nat.le_succ_of_le Hz.o) (fun j hj=>(HO9.o.lt j hj).1)⟩
    case measure=>simp [intOf];omega
   subst c4;rw [d0.trans rfl] at d0
   have d0:m.drop i=92::m.drop (i+1):=drop_one hi|>.trans (by rw [hc])
   clear c1 c2 c3 p1 p2 p3;by_cases z1:i+1<m.length;rotate_left
   ·have k1':¬(i:Int)+1<(t.size:Int):=by have:=Hmz.o;omega
    have k3':¬(i:Int)+3<(t.size:Int):=by omega
    have Ac:=hide (show iZ l=([],3) by rw [HV.o];unfold uK;rw [LS.o.stop hi (by rw [d0,gz,dc (by omega)];rfl)]);clear d0 hc;go_wp2
    go_ret2
    exact ⟨(by rw [Ac.o];rfl),J7.o⟩
   have z1t:i+1<t.size:=by have:=Hmz.o;omega
   have y1:(i:Int)+1<(t.size:Int):=by omega
   have y0:(0:Int)≤(i:Int)+1:=by omega
   have s1:((i:Int)+1).toNat=i+1:=by omega
   obtain ⟨d,hd⟩:∃d,m[i+1]'z1=d:=⟨_,rfl⟩
   have SY:t[i+1]'z1t=d:=by rw [Hg2.o (i+1) z1t z1,hd]
   have d1:=drop_one z1;rw [hd] at d1;by_cases c5:d=34
   ·subst c5;have Ej:=hide (LS.o.step (c:=34) (n:=2) (by rw [d0,gz,d1];rfl));clear d0 hc d1 hd;go_wp2_with (at_builtin;have mG:=Ab.o.alloc (.cells #[.int .u8 34] 5);refine ib _ rfl _ _ 75 rfl w.heap.size 5 jy Tryz.underlying75 rfl (by decide) u5 O.length (Lib.byteCells O) rfl mG ⟨wr.heap.size,0,none⟩ 1 1 [.int .u8 34] rfl rfl (mD _ _ rfl) (by intro u hu;simp only [List.mem_cons,List.not_mem_nil,or_false] at hu;rcases hu with rfl;rfl) (by unfold maxLen;omega) (by omega) (by rw [aF];exact Nat.le_succ_of_le Hz.o) ?_;intro v' w4 lh iw _ _);have X6:=hide lh;have Ul:=hide iw;have HO9:=hide mG;clear lh iw mG;go_roundw
    case rel=>exact ⟨i+2,O++[34],by go_num,Ej.o,by rw [aw,←gW];exact X6.o,(J7.o.alloc Hz.o _).grown Ul.o (by rw [aF];exact Nat.le_succ_of_le Hz.o) (fun j hj=>(HO9.o.lt j hj).1)⟩
    case measure=>simp [intOf];omega
   have p5:((d.toNat:Int)==34)=false:=aL (d:=34) c5;by_cases c6:d=92
   ·subst c6;have Ej:=hide (LS.o.step (c:=92) (n:=2) (by rw [d0,gz,d1];rfl));clear d0 hc d1 hd;go_wp2_with (at_builtin;have mG:=Ab.o.alloc (.cells #[.int .u8 92] 5);refine ib _ rfl _ _ 75 rfl w.heap.size 5 jy Tryz.underlying75 rfl (by decide) u5 O.length (Lib.byteCells O) rfl mG ⟨wr.heap.size,0,none⟩ 1 1 [.int .u8 92] rfl rfl (mD _ _ rfl) (by intro u hu;simp only [List.mem_cons,List.not_mem_nil,or_false] at hu;rcases hu with rfl;rfl) (by unfold maxLen;omega) (by omega) (by rw [aF];exact Nat.le_succ_of_le Hz.o) ?_;intro v' w4 lh iw _ _);have X6:=hide lh;have Ul:=hide iw;have HO9:=hide mG;clear lh iw mG;go_roundw
    case rel=>exact ⟨i+2,O++[92],by go_num,Ej.o,by rw [aw,←gW];exact X6.o,(J7.o.alloc Hz.o _).grown Ul.o (by rw [aF];exact Nat.le_succ_of_le Hz.o) (fun j hj=>(HO9.o.lt j hj).1)⟩
    case measure=>simp [intOf];omega
   have p6:((d.toNat:Int)==92)=false:=aL (d:=92) c6
   have Tc:¬(d=34∨d=92):=by rintro (h|h);exact c5 h;exact c6 h
   by_cases z3:i+3<m.length;rotate_left
   ·have k3':¬(i:Int)+3<(t.size:Int):=by have:=Hmz.o;omega
    have Ac:=hide (show iZ l=([],3) by
     rw [HV.o];unfold uK
     rw [LS.o.stop hi (by
      rw [d0,gz,d1];simp only [lZ];rw [if_neg Tc]
      split
      ·split
       ·next x y q e=>
        have:=congrArg List.length e;rw [aA] at this;simp at this;omega
       ·rfl
      ·rfl)])
    clear d0 hc d1 hd c5 c6 Tc;go_wp2
    go_ret2
    exact ⟨(by rw [Ac.o];rfl),J7.o⟩
   have y3:(i:Int)+3<(t.size:Int):=by have:=Hmz.o;omega
   have z2:i+2<m.length:=by omega
   have z2t:i+2<t.size:=by omega
   have z3t:i+3<t.size:=by omega
   have y2:(i:Int)+2<(t.size:Int):=by omega
   have y02:(0:Int)≤(i:Int)+2:=by omega
   have y03:(0:Int)≤(i:Int)+3:=by omega
   have s2:((i:Int)+2).toNat=i+2:=by omega
   have s3:((i:Int)+3).toNat=i+3:=by omega
   obtain ⟨x,hx⟩:∃x,m[i+2]'z2=x:=⟨_,rfl⟩
   obtain ⟨y,hy⟩:∃y,m[i+3]'z3=y:=⟨_,rfl⟩
   have hsx:t[i+2]'z2t=x:=by rw [Hg2.o (i+2) z2t z2,hx]
   have hsy:t[i+3]'z3t=y:=by rw [Hg2.o (i+3) z3t z3,hy]
   have d2:=drop_one z2;have d3:=drop_one z3;rw [hx] at d2;rw [hy] at d3
   have d4:m.drop i=92::d::x::y::m.drop (i+4):=by rw [d0,d1,d2,d3]
   clear hx hy hd hc d0 d1 d2 d3;by_cases c7:d=120;rotate_left
   ·have p7:((d.toNat:Int)==120)=false:=aL (d:=120) c7;have Ac:=hide (show iZ l=([],3) by rw [HV.o];unfold uK;rw [LS.o.stop hi (by rw [d4,gz];simp only [lZ];rw [if_neg Tc,if_neg c7])]);clear d4 c5 c6 Tc c7;go_wp2
    go_ret2
    exact ⟨(by rw [Ac.o];rfl),J7.o⟩
   subst c7;have I2:=hide (HX.o x);have I3:=hide (HX.o y);have g2:=HRg.o x;have g3:=HRg.o y;by_cases h2:0≤dK x;rotate_left
   ·have Ac:=hide (show iZ l=([],3) by rw [HV.o];unfold uK;rw [LS.o.stop hi (by rw [d4,gz];simp only [lZ];rw [if_neg Tc,if_pos trivial,if_neg (fun h=>h2 h.1)])]);clear d4 c5 c6 Tc;generalize dK x=hxx at*;go_wp2_with fail;refine (I2.o _).mono ?_;rintro e w1 ⟨rfl,rfl⟩;go_wp2
    go_ret2
    exact ⟨(by rw [Ac.o];rfl),J7.o⟩
   by_cases h3:0≤dK y;rotate_left
   ·have Ac:=hide (show iZ l=([],3) by rw [HV.o];unfold uK;rw [LS.o.stop hi (by rw [d4,gz];simp only [lZ];rw [if_neg Tc,if_pos trivial,if_neg (fun h=>h3 h.2)])]);clear d4 c5 c6 Tc;generalize dK x=hxx at*;generalize dK y=hyy at*;go_wp2_with fail;refine (I2.o _).mono ?_;rintro e w1 ⟨rfl,rfl⟩;go_wp2_with fail;refine (I3.o _).mono ?_;rintro e w1 ⟨rfl,rfl⟩;go_wp2
    go_ret2
    exact ⟨(by rw [Ac.o];rfl),J7.o⟩
   have HN:=hide (Uk h2 g2.2 h3 g3.2);have Ej:=hide (LS.o.step (c:=UInt8.ofNat (16*dK x+dK y).toNat) (n:=4) (by rw [d4,gz];simp only [lZ];rw [if_neg Tc,if_pos trivial,if_pos ⟨h2,h3⟩]));clear d4 c5 c6 Tc
   obtain ⟨cc,hcc⟩:∃cc,UInt8.ofNat (16*dK x+dK y).toNat=cc:=⟨_,rfl⟩
   rw [hcc] at HN Ej;clear hcc;generalize dK x=x1 at*;generalize dK y=y1' at*;obtain ⟨iu,hi1,hi2,Td,hi4⟩:=lY jy;have HI1:=hide hi1;have HI2:=hide hi2;have HI3:=hide Td;have HI4:=hide hi4;clear hi1 hi2 Td hi4
   have t1:O.length+1≤maxLen:=by unfold maxLen;omega
   have t2:(O.length+1)*1≤140737488355328:=by omega
   have t3:w.heap.size≤wr.heap.size+1:=Nat.le_succ_of_le Hz.o
   have t4:∀u∈[Value.int .u8 (16*x1+y1')],u.oneCell'=true:=by intro u hu;simp only [List.mem_cons,List.not_mem_nil,or_false] at hu;rcases hu with rfl;rfl
   have t6:(wr.alloc (.cells #[.int .u8 (16*x1+y1')] 5)).drew.heap.size=wr.heap.size+1:=aF _ _
   have t5:w.heap.size≤(wr.alloc (.cells #[.int .u8 (16*x1+y1')] 5)).drew.heap.size:=by rw [t6];exact t3
   have s12:IntKind.i64.wrap ((i:Int)+2)=(i:Int)+2:=bI _ (by omega);have s13:IntKind.i64.wrap ((i:Int)+3)=(i:Int)+3:=bI _ (by omega);have s14:IntKind.i64.wrap (16*x1)=16*x1:=bI _ (by omega);have s15:IntKind.i64.wrap (16*x1+y1')=16*x1+y1':=bI _ (by omega)
   have s16:IntKind.u8.wrap (16*x1+y1')=16*x1+y1':=by rw [IntKind.wrap_u8];omega
   have T1:=hide t1;have T2:=hide t2;have T4:=hide t4;have T5:=hide t5;have T6:=hide t6;clear t1 t2 t3 t4 t5 t6;go_wp2_with fail;refine (I2.o _).mono ?_;rintro e w1 ⟨rfl,rfl⟩;go_wp2_with fail;refine (I3.o _).mono ?_;rintro e w3 ⟨rfl,rfl⟩;go_wp2_with fail
   go_region_held3 (fun _=>True) (exact trivial) (first|(go_at_call 196;((with_reducible refine (I2.o _).mono ?_);rintro e w' ⟨rfl,rfl⟩))|(go_at_call 196;((with_reducible refine (I3.o _).mono ?_);rintro e w' ⟨rfl,rfl⟩))|(refine step_append_lies _ rfl _ _ 75 rfl w.heap.size 5 iu _ 1 1 Tryz.underlying75 HI1.o HI2.o HI3.o HI4.o rfl Nat.one_pos u5 O.length (Lib.byteCells O) rfl ((Ab.o.alloc _).drew) ⟨w3.heap.size,0,none⟩ 1 1 [.int .u8 (16*x1+y1')] rfl rfl (World.news_of_block (cs:=#[.int .u8 (16*x1+y1')]) (t:=5) (fr:=(0,0)) (heap_alloc_new w3 _)) T4.o Nat.one_pos T1.o T2.o T5.o (w3.heap.size+1) T6.o ?_;intro g4 Ho w4 lh iw adz adA))
   all_goals
    go_wp2;have X6:=hide lh;have Ul:=hide iw;clear lh iw;go_roundw
    case rel=>exact ⟨i+4,O++[cc],by go_num,Ej.o,by rw [aw,←gW,HN.o];exact X6.o,((J7.o.alloc Hz.o _).drew).grown Ul.o (by simp;have:=Hz.o;omega) (fun j hj=>(Ab.o.lt j hj).1)⟩
    case measure=>simp [intOf];omega
  ·obtain rfl:i=m.length:=Nat.le_antisymm hle (Nat.le_of_not_lt hi)
   have hi':¬(m.length:Int)<(t.size:Int):=by have:=Hmz.o;omega
   have HR:=hide (show iZ l=if 64<O.length then ([],9) else (O,0) by rw [HV.o];unfold uK;rw [LS.o.done]);obtain ⟨A,cap,rfl⟩:=XZ Ab.o;have hcv:∀h:O.length≤64,(convert 75 9 (.slice A O.length cap)).run Tryz.prog wr=.ok (.string (ag O)) wr:=fun _=>xK (src:=75) (dst:=9) Tryz.underlying75 Tryz.underlying5 Tryz.underlying9 Ab.o;clear hi;by_cases hbig:64<O.length
   ·have b1:(64:Int)<(O.length:Int):=by omega
    have Ac:=hide (show iZ l=([],9) by rw [HR.o,if_pos hbig]);clear hcv hbig;go_wp2
    go_ret2
    exact ⟨(by rw [Ac.o];rfl),J7.o⟩
   ·have b1:¬(64:Int)<(O.length:Int):=by omega
    have Ac:=hide (show iZ l=(O,0) by rw [HR.o,if_neg hbig]);have hcv:=hcv (by omega);clear hbig;go_wp2
    go_ret2
    exact ⟨(by rw [Ac.o];rfl),J7.o⟩
end Go.Proofs.YtddoehnkgcbboaaGreatDoor
