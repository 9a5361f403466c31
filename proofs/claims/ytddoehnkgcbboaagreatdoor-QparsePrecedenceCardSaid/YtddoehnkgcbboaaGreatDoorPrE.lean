/- Packed by program: a part of the proof; the last file says what is proved. -/
import Derived.Test.YtddoehnkgcbboaaGreatDoorPrD
import Derived.Test.YtddoehnkgcbboaaGreatDoorPrC
import Derived.Deep.DeepCutAuto
import Derived.Deep.CutBlock
import Derived.Deep.RegionHeld3
import Derived.Deep.AppendLies
set_option maxHeartbeats 16000000
set_option maxRecDepth 100000
set_option linter.unusedVariables false
set_option linter.unusedSimpArgs false
namespace Go.Proofs.YtddoehnkgcbboaaGreatDoor
open Go.RowKit Go.Shelf
theorem qp {p:UInt8→Bool}:∀{l:List UInt8},l.dropWhile p=[]↔∀x∈l,p x=true
 |[]=>⟨fun _ x hx=>(by cases hx),fun _=>rfl⟩
 |c::t=>by
  rw [List.dropWhile_cons]
  split
  ·rename_i h
   rw [qp (l:=t)]
   refine ⟨fun h2 x hx=>?_,fun h2 x hx=>h2 x (List.mem_cons_of_mem _ hx)⟩
   rcases List.mem_cons.1 hx with rfl|h3
   ·exact h
   ·exact h2 x h3
  ·rename_i h
   exact ⟨fun h2=>(by cases h2),fun h2=>absurd (h2 c List.mem_cons_self) h⟩
theorem Ib (l:List UInt8):Lib.trimB l 48=[]↔l.all (·==48)=true:=by
 unfold Lib.trimB Lib.trimLeftB Lib.trimRightB
 rw [qp,List.all_eq_true]
 constructor
 ·intro h
  cases hm:l.reverse.dropWhile (·==48) with
  |nil=>
   rw [qp] at hm
   intro x hx
   exact hm x (List.mem_reverse.2 hx)
  |cons a t=>
   have h1:=List.head_dropWhile_not (p:=(·==(48:UInt8))) (l:=l.reverse) (by rw [hm];simp)
   have h2:=h a (by rw [hm];simp)
   simp only [hm,List.head_cons] at h1
   rw [h2] at h1
   cases h1
 ·intro h x hx
  have h1:=List.mem_reverse.1 hx
  have h2:x∈l.reverse:=(List.dropWhile_sublist (p:=(·==(48:UInt8)))).mem h1
  exact h x (List.mem_reverse.1 h2)
theorem KU {p:List UInt8×Int} {t:List UInt8} {k:Int} (h:p=(t,k)):Ending.returned (.tuple #[.string (ae t),.int .i64 k])=.returned (.tuple #[.string (ae p.1),.int .i64 p.2]):=by rw [h]
theorem D7 (l:List UInt8) (w:World) (hl:l.length≤50000):
 Calls Tryz.prog 158 #[.string (ae l)] w fun e w'=>e=.returned (.tuple #[.string (ae (dB l).1),.int .i64 (dB l).2])∧Below w.heap.size w w':=by
 have hz:=aD l
 obtain ⟨n,hn⟩:∃n,aQ aZ l=n:=⟨_,rfl⟩
 have hnl:n≤l.length:=by rw [←hn];exact dz _ _
 have RD:=aa (fun W:World=>show Calls Tryz.prog 117 #[.string (ae l),.int .i64 0,.func (.func 121) #[] #[]] W fun e w'=>e=.returned (.int .i64 (n:Int))∧Below W.heap.size W w' by
  have:=l6 l 0 W (by omega) (by omega)
  rw [List.drop_zero,hn,Nat.zero_add] at this
  exact this)
 by_cases h0:n=0
 ·subst h0
  have HV:=aa (tE hn)
  generalize ae l=s at*
  clear hn hz
  have RD:=aa (fun W:World=>show Calls Tryz.prog 117 #[.string s,.int .i64 0,.func (.func 121) #[] #[]] W fun e w'=>e=.returned (.int .i64 0)∧Below W.heap.size W w' from RD.out W)
  go_enter Tryz.func158,Tryz.ntmps158
  go_wp2_with fail
  refine (RD.out _).mono ?_
  rintro e w1 ⟨rfl,hb⟩
  go_wp2
  go_ret2
  exact ⟨KU HV.out,hb⟩
 have CQ:=aa (fun W:World=>tj l n W (by omega) (by omega))
 have n0:((n:Int)==0)=false:=beq_eq_false_iff_ne.2 (by omega)
 obtain ⟨k,hk⟩:∃k,bN l n=k:=⟨_,rfl⟩
 rw [hk] at CQ
 by_cases h1:k=l.length
 rotate_left
 ·have HV:=aa (tF (l:=l) (by rw [hn,hk];exact h1))
  have e1:((k:Int)==((ae l).size:Int))=false:=beq_eq_false_iff_ne.2 (by omega)
  have e2:((k:Int) !=((ae l).size:Int))=true:=by rw [bne,e1];rfl
  generalize ae l=s at*
  clear hn hz hk h0 h1
  go_enter Tryz.func158,Tryz.ntmps158
  go_wp2_with fail
  refine (RD.out _).mono ?_
  rintro e w1 ⟨rfl,hb⟩
  have Hb:=aa hb
  clear hb
  go_wp2_with fail
  refine (CQ.out _).mono ?_
  rintro e w2 ⟨rfl,hb⟩
  have jX:=aa (Hb.out.trans (hb.mono Hb.out.size))
  clear hb
  go_wp2
  go_ret2
  exact ⟨KU HV.out,jX.out⟩
 subst h1
 obtain ⟨f1,f2,f3⟩:=AP hk (by omega)
 have Dk:=tG (l:=l) (by rw [hn];exact h0) (by rw [hn,hk])
 rw [hn] at Dk
 obtain ⟨c,hc⟩:∃c,l.getD (n+1) 0=c:=⟨_,rfl⟩
 have G_:n+1<(ae l).size:=by omega
 have hsc:(ae l)[n+1]'G_=c:=by
  rw [df,←hc,List.getD_eq_getElem?_getD,List.getElem?_eq_getElem (by omega)];rfl
 rw [hc] at f2 f3 Dk
 have JU:=nQ c
 obtain ⟨ds,NR⟩:∃ds,l.drop (n+2)=ds:=⟨_,rfl⟩
 have Ic:ds.length+n+2=l.length:=by rw [←NR,List.length_drop];omega
 obtain ⟨dw,We⟩:∃dw,l.take n=dw:=⟨_,rfl⟩
 have abC:dw.length=n:=by rw [←We,List.length_take];omega
 have x1:(ae l).extract (n+2) (ae l).size=ae ds:=by rw [oK,NR]
 have x2:(ae l).extract 0 n=ae dw:=by rw [oL,We]
 have DZ:∀c∈dw,aZ c=true:=by
  rw [←We,←hn]
  exact fun c hc=>by
   have h1:l.take (aQ aZ l)=l.takeWhile aZ:=(List.prefix_iff_eq_take.1 (List.takeWhile_prefix aZ)).symm
   rw [h1] at hc
   exact List.all_eq_true.1 List.all_takeWhile c hc
 rw [NR] at f3 Dk
 rw [We] at Dk
 generalize aU c=b at*
 obtain ⟨c0,dt,FZ⟩:∃c0 dt,ds=c0::dt:=by
  cases ds with
  |nil=>rw [List.length_nil] at Ic;omega
  |cons a t=>exact ⟨a,t,rfl⟩
 have QJ:ds.headD 0=c0:=by rw [FZ];rfl
 obtain ⟨u,hu⟩:∃u,dn c0=u:=⟨_,rfl⟩
 have U:=aa (oM c0)
 rw [hu] at U
 have RD2:=aa (fun W:World=>show Calls Tryz.prog 117 #[.string (ae ds),.int .i64 0,.func (.func 121) #[] #[]] W fun e w'=>e=.returned (.int .i64 ((aQ aZ ds:Nat):Int))∧Below W.heap.size W w' by
  have:=l6 ds 0 W (by omega) (by omega)
  rw [List.drop_zero,Nat.zero_add] at this
  exact this)
 have Ss:=aD ds
 have abD:0<ds.length:=by rw [FZ];exact Nat.succ_pos _
 have aak:0<(ae ds).size:=by omega
 have hg0:(ae ds)[0]'aak=c0:=by rw [df];simp [FZ]
 obtain ⟨al,mQ⟩:∃al,decide (ds.length=1∧u≠0)=al:=⟨_,rfl⟩
 obtain ⟨sd,NL⟩:∃sd,aQ aZ ds=sd:=⟨_,rfl⟩
 have abE:sd≤ds.length:=by rw [←NL];exact dz _ _
 rw [NL] at RD2
 have F0:=aa x1
 have Wf:=aa x2
 have HBO:=aa (fun W:World=>ql W dw)
 have HW:Hid (eh dw≤1000):=aa (Ia dw)
 have HV:=aa Dk
 have HF3:=aa f3
 have HDG:=aa DZ
 have Zb:=aa (And.intro QJ hu)
 have Wh:=aa mQ
 have Hsd:=aa NL
 have Hk:=aa hk
 clear x1 x2 f3 Dk DZ QJ hu mQ NL hk hn h0 hc NR We FZ
 have DB:=aa (fun (W:World) (h:∀c∈ds,aZ c=true)=>qm ds W (by omega) h)
 have SP:=aa (fun (W:World) (k:Nat) (hk:k≤4) (h:∀c∈ds,dn c≠0∨0≤cv c)=>yy ds k W (by omega) hk h)
 have BA:=aa qg
 have abF:((n:Int)+1).toNat=n+1:=by omega
 have abG:((n:Int)+2).toNat=n+2:=by omega
 have k1:(0:Int)≤(n:Int)+1:=by omega
 have k2:(n:Int)+1<((ae l).size:Int):=by omega
 have k3:(0:Int)≤(n:Int)+2:=by omega
 have k4:(n:Int)+2≤((ae l).size:Int):=by omega
 have k5:(0:Int)≤(n:Int):=by omega
 have k6:(n:Int)≤((ae l).size:Int):=by omega
 have hw1:IntKind.i64.wrap ((n:Int)+1)=(n:Int)+1:=IntWalk.i64_in _ (by omega)
 have hw2:IntKind.i64.wrap ((n:Int)+2)=(n:Int)+2:=IntWalk.i64_in _ (by omega)
 have e1:((l.length:Int)==((ae l).size:Int))=true:=by rw [hz];exact beq_self_eq_true _
 have e2:((l.length:Int) !=((ae l).size:Int))=false:=by rw [bne,e1];rfl
 generalize ae l=s at*
 generalize ae ds=t at*
 have Hz2:=aa Ss
 clear Ss
 have x1:=F0.out
 have x2:=Wf.out
 have Hz:=aa hz
 clear hz
 go_enter Tryz.func158,Tryz.ntmps158
 go_wp2_with fail
 refine (RD.out _).mono ?_
 rintro e w1 ⟨rfl,hb⟩
 have Hb:=aa hb
 clear hb
 go_wp2_with fail
 refine (CQ.out _).mono ?_
 rintro e w2 ⟨rfl,hb⟩
 have jX:=aa (Hb.out.trans (hb.mono Hb.out.size))
 clear hb Hb
 go_upto_region 4 with fail
 go_quiet (fail)
 go_upto_region 5 with fail
 have B0:=aa (aq jX.out nq)
 generalize w2.drewN nq=w3 at B0⊢
 clear jX RD CQ
 go_cut [7] (fun v7 wx=>v7=.bool al∧wx=w3)
 case first=>
  by_cases DF:ds.length=1
  ·have q1:((t.size:Int)==1)=true:=by rw [Hz2.out,DF];rfl
   by_cases F3:u=0
   ·have HA:=aa (show false=al by rw [←Wh.out,F3];simp)
    subst F3
    have U:=aa (fun W:World=>show Calls Tryz.prog 190 #[.int .u8 (c0.toNat:Int)] W fun e w'=>e=.returned (.int .u8 0)∧w'=W from U.out W)
    clear DF
    go_wp2_with fail
    refine (U.out _).mono ?_
    rintro e w4 ⟨rfl,rfl⟩
    go_wp2_with fail
    go_meet
    exact ⟨congrArg Value.bool HA.out,rfl⟩
   ·have HA:=aa (show true=al by rw [←Wh.out];exact (decide_eq_true ⟨DF,F3⟩).symm)
    have e1:((u.toNat:Int)==0)=false:=az (d:=0) F3
    have e2:((u.toNat:Int) !=0)=true:=by rw [bne,e1];rfl
    clear DF F3
    go_wp2_with fail
    refine (U.out _).mono ?_
    rintro e w4 ⟨rfl,rfl⟩
    go_wp2_with fail
    go_meet
    exact ⟨congrArg Value.bool HA.out,rfl⟩
  ·have HA:=aa (show false=al by rw [←Wh.out];exact (decide_eq_false (fun h=>DF h.1)).symm)
   have q1:((t.size:Int)==1)=false:=beq_eq_false_iff_ne.2 (by have:=Hz2.out;omega)
   clear DF
   go_wp2_with fail
   go_meet
   exact ⟨congrArg Value.bool HA.out,rfl⟩
 case rest=>
 obtain ⟨rfl,rfl⟩:=hcut
 go_upto_region 6 with fail
 obtain ⟨bad,Wi⟩:∃bad,decide (b=100∧al=false∧sd<ds.length)=bad:=⟨_,rfl⟩
 have Ie:=aa Wi
 clear Wi
 go_cut [56] (fun v wx=>v=.bool bad∧Below w.heap.size w wx)
 case first=>
  by_cases hb:b=100
  ·subst hb
   cases al with
   |true=>
    have HA:=aa (show false=bad by rw [←Ie.out];simp)
    go_wp2_with fail
    go_meet
    exact ⟨congrArg Value.bool HA.out,B0.out⟩
   |false=>
    have HA:=aa (show decide (sd<t.size)=bad by rw [←Ie.out,Hz2.out];simp)
    go_wp2_with fail
    refine (RD2.out _).mono ?_
    rintro e w4 ⟨rfl,hb⟩
    have jX:=aa (B0.out.trans (hb.mono B0.out.size))
    clear hb
    go_wp2_with fail
    go_meet
    exact ⟨congrArg Value.bool HA.out,jX.out⟩
  ·have q1:((b.toNat:Int)==100)=false:=az (d:=100) hb
   have HA:=aa (show false=bad by rw [←Ie.out];simp [hb])
   clear hb
   go_wp2_with fail
   go_meet
   exact ⟨congrArg Value.bool HA.out,B0.out⟩
 case rest=>
 obtain ⟨rfl,hb⟩:=hcut
 have B1:=aa hb
 clear hb B0
 cases bad with
 |true=>
  have mX:=aa (show dB l=([],3) by
   have h:=of_decide_eq_true Ie.out
   rw [HV.out]
   unfold pj
   rw [if_pos ⟨h.1,by rw [Zb.out.1,Zb.out.2];have:=Wh.out;rw [h.2.1] at this;exact of_decide_eq_false this,by rw [Hsd.out];exact h.2.2⟩])
  go_wp2
  go_ret2
  exact ⟨KU mX.out,B1.out⟩
 |false=>
 have mX:=aa (show dB l=if eh dw<1∨128<eh dw then ([],8) else if b=100∧al=true then (List.replicate (eh dw) u,0) else vG (eh dw) u (r_ b ds) by
  have h:=of_decide_eq_false Ie.out
  rw [HV.out]
  unfold pj
  rw [Zb.out.1,Zb.out.2]
  have ha:=Wh.out
  have h2:(ds.length=1∧u≠0)↔al=true:=by rw [←ha];exact decide_eq_true_iff.symm
  rw [if_neg (fun k=>h ⟨k.1,by rw [h2] at k;exact Bool.eq_false_iff.2 k.2.1,by rw [←Hsd.out];exact k.2.2⟩)]
  simp only [h2])
 obtain ⟨W1,cap,hcv,hb2,fT,hsw⟩:=HBO.out wc
 clear HBO
 have B2:=aa (B1.out.trans (hb2.mono B1.out.size))
 obtain ⟨g,hg⟩:∃g,wc.heap.size=g:=⟨_,rfl⟩
 rw [hg] at hcv fT
 have HT:=aa (show eF W1 g dw from fT)
 have Hg:=aa hg
 clear hg fT hb2 B1 hsw
 go_wp2_with fail
 go_loopw [8,62] (fun v8 v62 wr=>∃i W:Nat,v62=.int .i64 (i:Int)∧v8=.int .i64 (W:Int)∧i≤dw.length∧W≤1000∧(dw.drop i).foldl pk W=eh dw∧eF wr g dw∧Below w.heap.size w wr) (fun _ v _=>dw.length-(intOf v).toNat)
 case atStart=>exact ⟨0,0,rfl,rfl,Nat.zero_le _,Nat.zero_le _,rfl,HT.out,B2.out⟩
 case round=>
  obtain ⟨i,W,rfl,rfl,hi,hW,hfo,fT,hb⟩:=hrel
  have Hb:=aa hb
  have yw:=aa fT
  have Hfo:=aa hfo
  clear hfo hb
  by_cases hlt:i<dw.length
  ·have hi':(i:Int)<(dw.length:Int):=by omega
   have lU:(0:Int)≤(i:Int):=by omega
   have UW:IntKind.i64.wrap ((i:Int)+1)=(i:Int)+1:=IntWalk.i64_in _ (by omega)
   have hdr:dw.drop i=dw[i]::dw.drop (i+1):=List.drop_eq_getElem_cons hlt
   have DZ:=HDG.out _ (List.getElem_mem hlt)
   obtain ⟨c,hc⟩:∃c,dw[i]=c:=⟨_,rfl⟩
   have hcell:=fT i hlt
   rw [hc] at hdr DZ hcell
   have hb2:48≤c.toNat∧c.toNat≤57:=of_decide_eq_true DZ
   obtain ⟨d,hd⟩:∃d,c.toNat=d+48:=⟨c.toNat-48,by omega⟩
   have hd9:d≤9:=by omega
   rw [hd] at hcell
   have hcell:wr.cell? ⟨g,i,none⟩=some (.int .u8 ((d:Int)+48)):=hcell
   have hw1:IntKind.u8.wrap (d:Int)=(d:Int):=by rw [IntKind.wrap_u8];omega
   have hw2:IntKind.i64.wrap (d:Int)=(d:Int):=IntWalk.i64_in _ (by omega)
   obtain ⟨W2,hW2⟩:∃W2,pk W c=W2:=⟨_,rfl⟩
   have aal:min (10*W+d) 1000=W2:=by rw [←hW2];unfold pk;rw [hd,Nat.add_sub_cancel]
   have hmn:min (10*(W:Int)+(d:Int)) 1000=(W2:Int):=by omega
   have aam:=aa (show (dw.drop (i+1)).foldl pk W2=eh dw by rw [←Hfo.out,hdr,List.foldl_cons,hW2])
   have aan:W2≤1000:=by omega
   clear hdr hc DZ hb2 hd fT hW2 aal
   go_wp2
   go_roundw
   case rel=>exact ⟨i+1,W2,by go_num,rfl,by omega,aan,aam.out,yw.out,Hb.out⟩
   case measure=>simp [intOf];omega
  ·have hi':¬(i:Int)<(dw.length:Int):=by omega
   have U0:=aa (show W=eh dw by rw [←Hfo.out,List.drop_eq_nil_of_le (by omega)];rfl)
   have hv3:=mX.out
   rw [←U0.out] at hv3
   have Dl:=aa hv3
   clear fT hv3
   by_cases hw1:W<1
   ·have q1:(W:Int)<1:=by omega
    have QK:=aa (show dB l=([],8) by rw [Dl.out,if_pos (.inl hw1)])
    go_wp2
    go_ret2
    exact ⟨(by rw [QK.out];rfl),Hb.out⟩
   by_cases hw2:128<W
   ·have q1:¬(W:Int)<1:=by omega
    have q2:(128:Int)<(W:Int):=by omega
    have QK:=aa (show dB l=([],8) by rw [Dl.out,if_pos (.inr hw2)])
    go_wp2
    go_ret2
    exact ⟨(by rw [QK.out];rfl),Hb.out⟩
   have q1:¬(W:Int)<1:=by omega
   have q2:¬(128:Int)<(W:Int):=by omega
   have hv4:=Dl.out
   rw [if_neg (by omega)] at hv4
   have QK:=aa hv4
   clear hv4
   have Rp:=aa (fun (c:UInt8) (W':World)=>jZ c (W:Int) W' (by omega))
   clear Dl mX hW hw1 hw2
   by_cases hfull:b=100∧al=true
   ·have Su:=aa (show dB l=(List.replicate W u,0) by rw [QK.out,if_pos hfull])
    obtain ⟨rfl,rfl⟩:=hfull
    clear QK
    go_wp2_with fail
    refine (U.out _).mono ?_
    rintro e w5 ⟨rfl,rfl⟩
    go_wp2_with fail
    refine (Rp.out _ _).mono ?_
    rintro e w6 ⟨rfl,hb⟩
    have jX:=aa (Hb.out.trans (hb.mono Hb.out.size))
    clear hb
    go_wp2
    go_ret2
    exact ⟨(by rw [Su.out];rfl),jX.out⟩
   have Su:=aa (show dB l=vG W u (r_ b ds) by rw [QK.out,if_neg hfull])
   clear QK
   have ho:=KT b ds (by omega)
   obtain ⟨o,hoe⟩:∃o,r_ b ds=o:=⟨_,rfl⟩
   rw [hoe] at Su ho
   have Hoe:=aa hoe
   clear hoe
   have Wj:=aa hfull
   clear hfull
   go_upto_block 2 with fail
   go_cut [11] (fun v wx=>v=.string (ae o)∧Below w.heap.size w wx)
   case first=>
    by_cases hb1:b=100
    ·have Wk:al=false:=Bool.eq_false_iff.2 fun h=>Wj.out ⟨hb1,h⟩
     have pn:∀c∈ds,aZ c=true:=FY (by
      have h:=of_decide_eq_false Ie.out
      rw [Hsd.out]
      rcases Nat.lt_or_ge sd ds.length with h2|h2
      ·exact absurd ⟨hb1,Wk,h2⟩ h
      ·omega)
     have DB2:=aa (fun W=>DB.out W pn)
     have HO:=aa (show bP ds 0=o by rw [←Hoe.out];unfold r_;rw [if_pos hb1])
     subst hb1 Wk
     rw [HO.out] at DB2
     clear pn
     go_wp2_with fail
     refine (DB2.out _).mono ?_
     rintro e w5 ⟨rfl,hb⟩
     have jX:=aa (Hb.out.trans (hb.mono Hb.out.size))
     clear hb
     go_wp2_with fail
     go_meet
     exact ⟨rfl,jX.out⟩
    ·have q3:((b.toNat:Int)==100)=false:=az (d:=100) hb1
     have HO:=aa (show eD ((dH b).getD 0) ds=o by rw [←Hoe.out];unfold r_;rw [if_neg hb1])
     have SP2:=aa (fun W=>SP.out W ((dH b).getD 0) (by rcases l7 b with k|k|k|k<;>rw [k]<;>omega) (fun c hc=>H_ (HF3.out c hc) hb1))
     rw [HO.out] at SP2
     have L:=aa (fun (W:World) (r:Nat) (h:oV W r)=>show (Instr.lookup 161 (.map (some r)) (.int .u8 b.toNat) false).run Tryz.prog W=.ok (.int .i64 _) W from mR W r h b false)
     generalize (((dH b).getD 0:Nat):Int)=kk at*
     clear hb1
     go_wp2_with fail
     refine (BA.out _).mono ?_
     rintro e w5 ⟨rfl,hB,hb⟩
     have L1:=L.out _ _ hB
     have jX:=aa (Hb.out.trans (hb.mono Hb.out.size))
     clear hb hB
     go_wp2_with fail
     refine (SP2.out _).mono ?_
     rintro e w6 ⟨rfl,hb⟩
     have AO:=aa (jX.out.trans (hb.mono jX.out.size))
     clear hb
     go_wp2_with fail
     go_meet
     exact ⟨rfl,AO.out⟩
   case rest=>
   obtain ⟨rfl,hb⟩:=hcut
   have B3:=aa hb
   clear hb DB SP BA Hb
   have hso:=aD o
   by_cases KW:o.length<W
   ·obtain ⟨cc,hcc⟩:∃cc:UInt8,(if u≠0 then u else 48)=cc:=⟨_,rfl⟩
    have HV6:=aa (show dB l=(List.replicate (W-o.length) cc++o,0) by rw [Su.out];unfold vG;rw [if_pos KW,hcc])
    obtain ⟨m,hm⟩:∃m,W-o.length=m:=⟨_,rfl⟩
    rw [hm] at HV6
    have y:∀W',(Op.stringOp .add (ae (List.replicate m cc)) (ae o)).run Tryz.prog W'=.ok (.string (ae (List.replicate m cc++o))) W':=fun W'=>nx _ _ (by rw [List.length_replicate];omega) W'
    have Wl:=aa (fun (W':World)=>jZ cc (m:Int) W' (by omega))
    rw [show ((m:Int)).toNat=m from rfl] at Wl
    have hmm:(W:Int)-((ae o).size:Int)=(m:Int):=by omega
    have hlt2:((ae o).size:Int)<(W:Int):=by omega
    generalize ae o=so at*
    clear hm hso KW
    by_cases F3:u=0
    ·have Sv:cc=48:=by rw [←hcc,F3];rfl
     subst F3 Sv
     have U:=aa (fun W:World=>show Calls Tryz.prog 190 #[.int .u8 (c0.toNat:Int)] W fun e w'=>e=.returned (.int .u8 0)∧w'=W from U.out W)
     have Wl:=aa (fun W':World=>show Calls Tryz.prog 191 #[.int .u8 48,.int .i64 (m:Int)] W' fun e w'=>e=.returned (.string (ae (List.replicate m 48)))∧Below W'.heap.size W' w' from Wl.out W')
     clear hcc
     go_wp2_with fail
     refine (U.out _).mono ?_
     rintro e w5 ⟨rfl,rfl⟩
     go_wp2_with fail
     refine (Wl.out _).mono ?_
     rintro e w6 ⟨rfl,hb⟩
     have jX:=aa (B3.out.trans (hb.mono B3.out.size))
     clear hb
     go_wp2
     go_ret2
     exact ⟨(by rw [HV6.out];rfl),jX.out⟩
    ·have Sv:cc=u:=by rw [←hcc,if_pos F3]
     subst Sv
     have e1:((cc.toNat:Int)==0)=false:=az (d:=0) F3
     have e2:((cc.toNat:Int) !=0)=true:=by rw [bne,e1];rfl
     clear hcc F3
     go_wp2_with fail
     refine (U.out _).mono ?_
     rintro e w5 ⟨rfl,rfl⟩
     go_wp2_with fail
     refine (Wl.out _).mono ?_
     rintro e w6 ⟨rfl,hb⟩
     have jX:=aa (B3.out.trans (hb.mono B3.out.size))
     clear hb
     go_wp2
     go_ret2
     exact ⟨(by rw [HV6.out];rfl),jX.out⟩
   ·obtain ⟨m,hm⟩:∃m,o.length-W=m:=⟨_,rfl⟩
    have U1:=Su.out
    unfold vG at U1
    rw [if_neg KW,hm] at U1
    have x3:(ae o).extract 0 ((ae o).size-W)=ae (o.take m):=by rw [show (ae o).size-W=m by omega];exact oL o m
    have x4:(ae o).extract ((ae o).size-W) (ae o).size=ae (o.drop m):=by rw [show (ae o).size-W=m by omega];exact oK o m
    have hlt2:¬((ae o).size:Int)<(W:Int):=by omega
    have hm0:(0:Int)≤((ae o).size:Int)-(W:Int):=by omega
    have hm1:((ae o).size:Int)-(W:Int)≤((ae o).size:Int):=by omega
    have Wm:((ae o).size:Int)≤400000:=by omega
    have rq:(((ae o).size:Int)-(W:Int)).toNat=(ae o).size-W:=by omega
    have TR:=aa (fun W':World=>(Tryz.strings_Trim_one (ae (o.take m)) 48 (by decide) W' (by rw [aD,List.length_take];omega)).mono (R':=fun e w'=>e=.returned (.string ⟨(Lib.trimB (o.take m) 48).toArray⟩)∧Below W'.heap.size W' w') (by
     rintro e w' ⟨rfl,rfl|rfl⟩
     ·exact ⟨rfl,Below.refl _ _⟩
     ·exact ⟨rfl,(Below.refl _ _).drew⟩))
    have htn:=Ib (o.take m)
    generalize ae o=so at*
    generalize ae (o.take m)=sp at*
    cases Sw:Lib.trimB (o.take m) 48 with
    |nil=>
     have HV7:=aa (show dB l=(o.drop m,0) by rw [U1,if_pos (htn.1 Sw)])
     rw [Sw] at TR
     clear Sw htn U1 hm hso KW Su
     go_wp2_with fail
     refine (TR.out _).mono ?_
     rintro e w6 ⟨rfl,hb⟩
     have jX:=aa (B3.out.trans (hb.mono B3.out.size))
     clear hb
     go_wp2
     go_ret2
     exact ⟨(by rw [HV7.out];rfl),jX.out⟩
    |cons x y=>
     have HV7:=aa (show dB l=([],8) by rw [U1,if_neg (fun h=>by rw [htn.2 h] at Sw;cases Sw)])
     rw [Sw] at TR
     clear Sw htn U1 hm hso KW Su
     go_wp2_with fail
     refine (TR.out _).mono ?_
     rintro e w6 ⟨rfl,hb⟩
     have jX:=aa (B3.out.trans (hb.mono B3.out.size))
     clear hb
     go_wp2
     go_ret2
     exact ⟨(by rw [HV7.out];rfl),jX.out⟩
theorem Ig (W:World) (l:List UInt8):∃W1 cap,(convert 9 75 (.string (ae l))).run Tryz.prog W=.ok (.slice (some ⟨W.heap.size,0,none⟩) l.length cap) W1∧Below W.heap.size W W1∧tC W1 W.heap.size l:=by
 have h:=run_bytes_of_string (P:=Tryz.prog) W 9 75 5 (ae l) Tryz.underlying9 Tryz.underlying75 Tryz.underlying5
 rw [aD] at h
 have e:(World.alloc W.drew (.cells (bytesRow (ae l) (grownCap W l.length 0 5)) 5 ((bytesRow (ae l) (grownCap W l.length 0 5)).size,(bytesRow (ae l) (grownCap W l.length 0 5)).size+1))).heap[W.heap.size]? =some _:=World.alloc_heap_new W.drew _
 refine ⟨_,_,h,(Below.refl _ _).drew.alloc (Nat.le_refl _) _,?_,?_,fun i hi=>?_⟩
 ·rw [World.size_alloc];exact Nat.lt_succ_self _
 ·intro cs t h2
  rw [e] at h2
  simp only [Option.some.injEq,Obj.cells.injEq,Prod.mk.injEq] at h2
  exact absurd h2.2.2.2 (Nat.succ_ne_zero _)
 ·rw [World.cell?,e]
  exact bytesRow_at (ae l) _ i (by show i<l.toArray.size;simpa using hi)
def dS (c:UInt8):List UInt8:=if c=34∨c=92 then [92,c] else if c.toNat<32∨126<c.toNat then [92,120,kZ (c.toNat / 16),kZ (c.toNat % 16)] else [c]
theorem mY (l:List UInt8):oI l=34::(l.flatMap dS++[34]):=rfl
theorem KX (c:UInt8):(dS c).length≤4:=by
 unfold dS
 split
 ·show 2≤4;omega
 ·split
  ·show 4≤4;omega
  ·show 1≤4;omega
theorem po:∀l:List UInt8,(l.flatMap dS).length≤4*l.length
 |[]=>Nat.le_refl _
 |c::t=>by
  rw [List.flatMap_cons,List.length_append,List.length_cons]
  have:=po t
  have:=KX c
  omega
theorem sI (n:Nat) (h:n<16) (h2:n<(⟨#[48,49,50,51,52,53,54,55,56,57,97,98,99,100,101,102]⟩:ByteArray).size):(⟨#[48,49,50,51,52,53,54,55,56,57,97,98,99,100,101,102]⟩:ByteArray)[n]'h2=kZ n:=by
 have h3:∀k:Fin 16,(⟨#[48,49,50,51,52,53,54,55,56,57,97,98,99,100,101,102]⟩:ByteArray)[k.val]'(by have:=k.isLt;show k.val<16;omega)=kZ k.val:=by decide+kernel
 exact h3 ⟨n,h⟩
theorem Wn (c:UInt8):bits .and .u8 (c.toNat:Int) 15=((c.toNat % 16:Nat):Int):=by
 have h:=u8_and_nat c.toNat 15 c.toNat_lt (by decide)
 rw [Nat.and_two_pow_sub_one_eq_mod c.toNat 4] at h
 exact h
theorem F4 {P E X:List UInt8} {a b:UInt8} (h:E=[a,b]):P++[a]++[b]++X++[34]=P++(E++X)++[34]:=by rw [h];simp
theorem AR {P E X:List UInt8} {x y a b:UInt8} (h:E=[x,y,a,b]):P++[x,y]++[a]++[b]++X++[34]=P++(E++X)++[34]:=by rw [h];simp
theorem qq (c:UInt8) (t:List UInt8):(c::t).flatMap dS=dS c++t.flatMap dS:=List.flatMap_cons
theorem AU (l:List UInt8) (w:World) (hl:l.length≤100000):
 Calls Tryz.prog 241 #[.string (ae l)] w fun e w'=>e=.returned (.string (ae (oI l)))∧Below w.heap.size w w':=by
 obtain ⟨RL,OD⟩:∃R,oI l=R:=⟨_,rfl⟩
 have Wc:RL.length≤400010:=by rw [←OD,mY,List.length_cons,List.length_append,List.length_singleton];have:=po l;omega
 have HR:=aa (show [34]++l.flatMap dS++[34]=RL by rw [←OD,mY];rfl)
 rw [OD]
 clear OD
 go_enter Tryz.func241,Tryz.ntmps241
 go_upto_region 2 with fail
 obtain ⟨W1,hW1⟩:∃W1,w.alloc (.cells #[.pointer none,.slice none 0 0] 77)=W1:=⟨_,rfl⟩
 rw [hW1]
 obtain ⟨b,hb⟩:∃b,w.heap.size=b:=⟨_,rfl⟩
 have hs1:W1.heap.size=b+1:=by rw [←hW1,←hb];simp
 have fo:W1.heap[b]? =some (.cells #[.pointer none,.slice none 0 0] 77 (0,0)):=by rw [←hW1,←hb];exact World.alloc_heap_new _ _
 have HX:=aa (show BX W1 b (b+1) [] from BX.fresh fo (by omega) (by omega))
 have HB:=aa (show Below w.heap.size w W1 by rw [←hW1];exact (Below.refl _ _).alloc (Nat.le_refl _) _)
 have Hb:=aa (show w.heap.size≤b by omega)
 rw [hb]
 have WB:=aa (fun (P:List UInt8) (c:UInt8) (W:World) (h:BX W b (b+1) P) (hp:P.length≤500000)=>tD b (b+1) P c W h (by omega))
 clear fo hs1 hW1 hb
 have w34:=fun (P:List UInt8) (W:World) (h:BX W b (b+1) P) (hp:P.length≤500000)=>(show Calls Tryz.prog 114 #[.pointer (some ⟨b,0,none⟩),.int .u8 34] W fun e w'=>e=.returned .nilIface∧BX w' b (b+1) (P++[34])∧la b (b+1) W w' from WB.out P 34 W h hp)
 have nY:=aa w34
 have w92:=fun (P:List UInt8) (W:World) (h:BX W b (b+1) P) (hp:P.length≤500000)=>(show Calls Tryz.prog 114 #[.pointer (some ⟨b,0,none⟩),.int .u8 92] W fun e w'=>e=.returned .nilIface∧BX w' b (b+1) (P++[92])∧la b (b+1) W w' from WB.out P 92 W h hp)
 have W92:=aa w92
 clear w34 w92
 go_wp2_with fail
 refine (nY.out [] _ HX.out (by simp)).mono ?_
 rintro e w1 ⟨rfl,hx,bu⟩
 have F0:=aa hx
 have fu:=aa (HB.out.trans (bu.1.mono Hb.out))
 clear hx bu HX
 obtain ⟨W2,cap,hcv,hb2,fT⟩:=Ig w1 l
 have Wf:=aa (F0.out.below hb2)
 have iz:=aa (fu.out.trans (hb2.mono fu.out.size))
 obtain ⟨g,hg⟩:∃g,w1.heap.size=g:=⟨_,rfl⟩
 have KY:=aa (show g≠b by have:=F0.out.2.1;omega)
 rw [hg] at hcv fT
 have HT:=aa fT
 have hz:=aD l
 generalize ae l=s at*
 clear fT hb2 hg
 go_wp2_with fail
 go_loopw [10] (fun v wr=>∃(i:Nat) (P:List UInt8),v=.int .i64 (i:Int)∧i≤l.length∧P++(l.drop i).flatMap dS++[34]=RL∧BX wr b (b+1) P∧tC wr g l∧Below w.heap.size w wr) (fun v _=>l.length-(intOf v).toNat)
 case atStart=>exact ⟨0,[34],rfl,by omega,HR.out,Wf.out,HT.out,iz.out⟩
 case round=>
  obtain ⟨i,P,rfl,hi,hP,hx,fT,hb⟩:=hrel
  have HX:=aa hx
  have jX:=aa hb
  have yw:=aa fT
  have HP:=aa hP
  have FX:=aa (show P.length≤400010 by have:=congrArg List.length hP;rw [List.length_append,List.length_append] at this;omega)
  clear hP hx hb
  by_cases hlt:i<l.length
  ·have hi':(i:Int)<(l.length:Int):=by omega
   have lU:(0:Int)≤(i:Int):=by omega
   have UW:IntKind.i64.wrap ((i:Int)+1)=(i:Int)+1:=IntWalk.i64_in _ (by omega)
   have hdr:l.drop i=l[i]::l.drop (i+1):=List.drop_eq_getElem_cons hlt
   obtain ⟨c,hc⟩:∃c,l[i]=c:=⟨_,rfl⟩
   have hcell:wr.cell? ⟨g,i,none⟩=some (.int .u8 (l[i].toNat:Int)):=fT.2.2 i hlt
   rw [hc] at hdr hcell
   have HS:=aa (show P++(dS c++(l.drop (i+1)).flatMap dS)++[34]=RL by rw [←HP.out,hdr,qq])
   clear hdr hc fT HP
   by_cases h1:c=34
   ·subst h1
    go_wp2_with fail
    refine (W92.out P _ HX.out (by have:=FX.out;omega)).mono ?_
    rintro e w1 ⟨rfl,hx,bu⟩
    have D5:=aa hx
    have qo:=aa (bu.l8 yw.out KY.out)
    have AO:=aa (jX.out.trans (bu.1.mono Hb.out))
    clear hx bu
    go_wp2_with fail
    refine (nY.out _ _ D5.out (by have:=FX.out;simp;omega)).mono ?_
    rintro e w2 ⟨rfl,hx,bu⟩
    have Sx:=aa hx
    have D8:=aa (bu.l8 qo.out KY.out)
    have OE:=aa (AO.out.trans (bu.1.mono Hb.out))
    clear hx bu
    go_wp2
    go_roundw
    case rel=>exact ⟨i+1,_,by go_num,by omega,(F4 rfl).trans HS.out,Sx.out,D8.out,OE.out⟩
    case measure=>simp [intOf];omega
   have e34:((c.toNat:Int)==34)=false:=az (d:=34) h1
   by_cases h2:c=92
   ·subst h2
    go_wp2_with fail
    refine (W92.out P _ HX.out (by have:=FX.out;omega)).mono ?_
    rintro e w1 ⟨rfl,hx,bu⟩
    have D5:=aa hx
    have qo:=aa (bu.l8 yw.out KY.out)
    have AO:=aa (jX.out.trans (bu.1.mono Hb.out))
    clear hx bu
    go_wp2_with fail
    refine (W92.out _ _ D5.out (by have:=FX.out;simp;omega)).mono ?_
    rintro e w2 ⟨rfl,hx,bu⟩
    have Sx:=aa hx
    have D8:=aa (bu.l8 qo.out KY.out)
    have OE:=aa (AO.out.trans (bu.1.mono Hb.out))
    clear hx bu
    go_wp2
    go_roundw
    case rel=>exact ⟨i+1,_,by go_num,by omega,(F4 rfl).trans HS.out,Sx.out,D8.out,OE.out⟩
    case measure=>simp [intOf];omega
   have e92:((c.toNat:Int)==92)=false:=az (d:=92) h2
   by_cases h3:c.toNat<32∨126<c.toNat
   ·have KZ:dS c=[92,120,kZ (c.toNat / 16),kZ (c.toNat % 16)]:=by
     unfold dS;rw [if_neg (by rintro (h|h);exact h1 h;exact h2 h),if_pos h3]
    have Wo:=aa (fun (W:World) (h:BX W b (b+1) P)=>(show Calls Tryz.prog 115 #[.pointer (some ⟨b,0,none⟩),.string ⟨#[92,120]⟩] W fun e w'=>(∃v,e=.returned v)∧BX w' b (b+1) (P++[92,120])∧la b (b+1) W w' from pg b (b+1) P [92,120] W h (by have:=FX.out;simp;omega)))
    have Sy:=Wn c
    have abj:=c.toNat_lt
    have hm0:((c.toNat:Int) % 16).toNat=c.toNat % 16:=by omega
    have hm1:(((c.toNat % 16:Nat)):Int)<16:=by omega
    have Wp:=aa KZ
    clear h1 h2 KZ
    by_cases hlo:c.toNat<32
    ·have q2:(c.toNat:Int)<32:=by omega
     clear h3 hlo
     go_wp2_with fail
     refine (Wo.out _ HX.out).mono ?_
     rintro e w1 ⟨⟨vv,rfl⟩,hx,bu⟩
     have D5:=aa hx
     have qo:=aa (bu.l8 yw.out KY.out)
     have AO:=aa (jX.out.trans (bu.1.mono Hb.out))
     clear hx bu
     go_wp2_with fail
     rw [sI (c.toNat / 16) (by omega)]
     refine (WB.out _ _ _ D5.out (by have:=FX.out;simp;omega)).mono ?_
     rintro e w2 ⟨rfl,hx,bu⟩
     have Sx:=aa hx
     have D8:=aa (bu.l8 qo.out KY.out)
     have OE:=aa (AO.out.trans (bu.1.mono Hb.out))
     clear hx bu
     go_wp2_with fail
     rw [sI (c.toNat % 16) (by omega)]
     refine (WB.out _ _ _ Sx.out (by have:=FX.out;simp;omega)).mono ?_
     rintro e w3 ⟨rfl,hx,bu⟩
     have HX5:=aa hx
     have Sz:=aa (bu.l8 D8.out KY.out)
     have Hb5:=aa (OE.out.trans (bu.1.mono Hb.out))
     clear hx bu
     go_wp2
     go_roundw
     case rel=>exact ⟨i+1,_,by go_num,by omega,(AR Wp.out).trans HS.out,HX5.out,Sz.out,Hb5.out⟩
     case measure=>simp [intOf];omega
    ·have q2:¬(c.toNat:Int)<32:=by omega
     have q3:(126:Int)<(c.toNat:Int):=by omega
     clear h3 hlo
     go_wp2_with fail
     refine (Wo.out _ HX.out).mono ?_
     rintro e w1 ⟨⟨vv,rfl⟩,hx,bu⟩
     have D5:=aa hx
     have qo:=aa (bu.l8 yw.out KY.out)
     have AO:=aa (jX.out.trans (bu.1.mono Hb.out))
     clear hx bu
     go_wp2_with fail
     rw [sI (c.toNat / 16) (by omega)]
     refine (WB.out _ _ _ D5.out (by have:=FX.out;simp;omega)).mono ?_
     rintro e w2 ⟨rfl,hx,bu⟩
     have Sx:=aa hx
     have D8:=aa (bu.l8 qo.out KY.out)
     have OE:=aa (AO.out.trans (bu.1.mono Hb.out))
     clear hx bu
     go_wp2_with fail
     rw [sI (c.toNat % 16) (by omega)]
     refine (WB.out _ _ _ Sx.out (by have:=FX.out;simp;omega)).mono ?_
     rintro e w3 ⟨rfl,hx,bu⟩
     have HX5:=aa hx
     have Sz:=aa (bu.l8 D8.out KY.out)
     have Hb5:=aa (OE.out.trans (bu.1.mono Hb.out))
     clear hx bu
     go_wp2
     go_roundw
     case rel=>exact ⟨i+1,_,by go_num,by omega,(AR Wp.out).trans HS.out,HX5.out,Sz.out,Hb5.out⟩
     case measure=>simp [intOf];omega
   ·have KZ:dS c=[c]:=by unfold dS;rw [if_neg (by rintro (h|h);exact h1 h;exact h2 h),if_neg h3]
    have q1:¬(c.toNat:Int)<32:=by omega
    have q2:¬(126:Int)<(c.toNat:Int):=by omega
    have qb:=aa (show (P++[c])++(l.drop (i+1)).flatMap dS++[34]=RL by rw [←HS.out,KZ,List.append_assoc P])
    clear h1 h2 h3 KZ
    go_wp2_with fail
    refine (WB.out P c _ HX.out (by have:=FX.out;omega)).mono ?_
    rintro e w1 ⟨rfl,hx,bu⟩
    have D5:=aa hx
    have qo:=aa (bu.l8 yw.out KY.out)
    have AO:=aa (jX.out.trans (bu.1.mono Hb.out))
    clear hx bu
    go_wp2
    go_roundw
    case rel=>exact ⟨i+1,_,by go_num,by omega,qb.out,D5.out,qo.out,AO.out⟩
    case measure=>simp [intOf];omega
  ·have hi':¬(i:Int)<(l.length:Int):=by omega
   have HS:=aa (show P++[34]=RL by rw [←HP.out,List.drop_eq_nil_of_le (by omega)];simp)
   clear fT
   go_wp2_with fail
   refine (nY.out P _ HX.out (by have:=FX.out;omega)).mono ?_
   rintro e w1 ⟨rfl,hx,bu⟩
   have AO:=aa (jX.out.trans (bu.1.mono Hb.out))
   rw [HS.out] at hx
   have S:=aa (FW b (b+1) RL w1 hx)
   clear hx bu
   go_wp2_with fail
   refine S.out.mono ?_
   rintro e wz ⟨rfl,hb3⟩
   go_wp2
   go_ret
   exact ⟨rfl,AO.out.trans (hb3.mono Hb.out)⟩
def jL:List UInt8→Option (UInt8×Nat)
 |[]=>none
 |d::r=>if d=34∨d=92 then some (d,2) else if d=120 then (match r with
  |x::y::_=>if 0≤cv x∧0≤cv y then some (UInt8.ofNat (16*cv x+cv y).toNat,4) else none
  |_=>none) else none
def K2 (c:UInt8):Bool:=decide (c.toNat<32∨126<c.toNat∨c=34)
def dT:List UInt8→Option (UInt8×Nat)
 |[]=>none
 |c::t=>if K2 c=true then none else if c=92 then jL t else some (c,1)
theorem K4 (k:Nat) {c:UInt8} (t:List UInt8) (h:K2 c=true):oH (k+1) (c::t)=none:=by
 show (if c.toNat<32∨126<c.toNat∨c=34 then none else _)=none
 rw [if_pos (of_decide_eq_true h)]
theorem OG (k:Nat) {c:UInt8} (t:List UInt8) (h:K2 c=false) (h2:c≠92):oH (k+1) (c::t)=(oH k t).map (c::·):=by
 show (if c.toNat<32∨126<c.toNat∨c=34 then none else if c≠92 then _ else _)=_
 rw [if_neg (of_decide_eq_false h),if_pos h2]
theorem K5 (k:Nat) (t:List UInt8):oH (k+1) (92::t)=(jL t).bind fun p=>(oH k (t.drop (p.2-1))).map (p.1::·):=by
 show (if (92:UInt8).toNat<32∨126<(92:UInt8).toNat∨(92:UInt8)=34 then none else if (92:UInt8)≠92 then _ else _)=_
 rw [if_neg (by decide),if_neg (by decide)]
 cases t with
 |nil=>rfl
 |cons d r=>
  simp only [jL]
  by_cases h1:d=34∨d=92
  ·rw [if_pos h1,if_pos h1];rfl
  ·rw [if_neg h1,if_neg h1]
   by_cases h2:d=120
   ·rw [if_pos h2,if_pos h2]
    match r with
    |[]=>rfl
    |[_]=>rfl
    |x::y::q=>
     simp only
     by_cases h3:0≤cv x∧0≤cv y
     ·rw [if_pos h3,if_pos h3];rfl
     ·rw [if_neg h3,if_neg h3];rfl
   ·rw [if_neg h2,if_neg h2];rfl
theorem wH {t:List UInt8} {p:UInt8×Nat} (h:jL t=some p):2≤p.2∧p.2≤t.length+1:=by
 cases t with
 |nil=>cases h
 |cons d r=>
  simp only [jL] at h
  by_cases h1:d=34∨d=92
  ·rw [if_pos h1] at h;cases h;exact ⟨Nat.le_refl _,by show 2≤r.length+1+1;omega⟩
  ·rw [if_neg h1] at h
   by_cases h2:d=120
   ·rw [if_pos h2] at h
    match r,h with
    |[],h=>cases h
    |[_],h=>cases h
    |x::y::q,h=>
     simp only at h
     by_cases h3:0≤cv x∧0≤cv y
     ·rw [if_pos h3] at h;cases h;exact ⟨by show 2≤4;omega,by show 4≤q.length+1+1+1+1;omega⟩
     ·rw [if_neg h3] at h;cases h
   ·rw [if_neg h2] at h;cases h
theorem mZ (k:Nat) (c:UInt8) (t:List UInt8):oH (k+1) (c::t)=(dT (c::t)).bind fun p=>(oH k ((c::t).drop p.2)).map (p.1::·):=by
 simp only [dT]
 cases h1:K2 c with
 |true=>rw [K4 k t h1];rfl
 |false=>
  rw [if_neg (by decide)]
  by_cases h2:c=92
  ·subst h2
   rw [if_pos rfl,K5]
   cases hs:jL t with
   |none=>rfl
   |some p=>
    have h3:=(wH hs).1
    simp only [Option.bind_some]
    rw [show (92::t).drop p.2=t.drop (p.2-1) by rw [show p.2=(p.2-1)+1 by omega];rfl]
  ·rw [if_neg h2,OG k t h1 h2];rfl
theorem jd {l:List UInt8} {p:UInt8×Nat} (h:dT l=some p):1≤p.2∧p.2≤l.length:=by
 cases l with
 |nil=>cases h
 |cons c t=>
  simp only [dT] at h
  cases h1:K2 c with
  |true=>rw [h1,if_pos rfl] at h;cases h
  |false=>
   rw [h1,if_neg (by decide)] at h
   by_cases h2:c=92
   ·rw [if_pos h2] at h
    have:=wH h
    rw [List.length_cons];omega
   ·rw [if_neg h2] at h;cases h;exact ⟨Nat.le_refl _,by show 1≤t.length+1;omega⟩
theorem qs:∀(n m:Nat) (l:List UInt8),l.length<n→l.length<m→oH n l=oH m l
 |0,m,l,h,_=>absurd h (by omega)
 |n+1,0,l,_,h=>absurd h (by omega)
 |n+1,m+1,[],_,_=>rfl
 |n+1,m+1,c::t,hn,hm=>by
  rw [mZ,mZ]
  cases hs:dT (c::t) with
  |none=>rfl
  |some p=>
   obtain ⟨h1,h2⟩:=jd hs
   simp only [Option.bind_some]
   rw [List.length_cons] at hn hm h2
   rw [qs n m ((c::t).drop p.2) (by rw [List.length_drop,List.length_cons];omega) (by rw [List.length_drop,List.length_cons];omega)]
def nZ (l:List UInt8):Option (List UInt8):=oH (l.length+1) l
theorem AV:nZ []=some []:=rfl
theorem qu {l:List UInt8} {c:UInt8} {n:Nat} (h:dT l=some (c,n)):nZ l=(nZ (l.drop n)).map (c::·):=by
 cases l with
 |nil=>cases h
 |cons d t=>
  obtain ⟨h1,h2⟩:=jd h
  unfold nZ
  rw [mZ,h]
  simp only [Option.bind_some]
  rw [List.length_cons] at h2⊢
  rw [qs (t.length+1) (((d::t).drop n).length+1) _ (by rw [List.length_drop,List.length_cons];omega) (by omega)]
theorem wI {l:List UInt8} (h:dT l=none) (hl:l≠[]):nZ l=none:=by
 cases l with
 |nil=>exact absurd rfl hl
 |cons d t=>unfold nZ;rw [mZ,h];rfl
def l9 (m:List UInt8) (i:Nat) (O:List UInt8):Prop:=i≤m.length∧O.length≤i∧nZ m=(nZ (m.drop i)).map (O++·)
theorem l9.zero (m:List UInt8):l9 m 0 []:=⟨Nat.zero_le _,Nat.le_refl _,by simp⟩
theorem l9.step {m:List UInt8} {i:Nat} {O:List UInt8} (h:l9 m i O) {c:UInt8} {n:Nat} (hs:dT (m.drop i)=some (c,n)):l9 m (i+n) (O++[c]):=by
 obtain ⟨h1,h2,h3⟩:=h
 have h4:=jd hs
 simp only [List.length_drop] at h4
 refine ⟨by omega,by simp;omega,?_⟩
 rw [h3,qu hs,List.drop_drop]
 cases nZ (List.drop (i+n) m)<;>simp
theorem l9.stop {m:List UInt8} {i:Nat} {O:List UInt8} (h:l9 m i O) (hi:i<m.length) (hs:dT (m.drop i)=none):nZ m=none:=by
 rw [h.2.2,wI hs (by intro e;have:=congrArg List.length e;rw [List.length_drop] at this;simp at this;omega)];rfl
theorem l9.done {m O:List UInt8} (h:l9 m m.length O):nZ m=some O:=by
 rw [h.2.2,List.drop_eq_nil_of_le (Nat.le_refl _),AV];simp
def qx (m:List UInt8):List UInt8×Int:=match nZ m with|none=>([],3)|some o=>if 64<o.length then ([],9) else (o,0)
theorem pq {l:List UInt8} (h:l.length<2∨l.head? ≠some 34∨l.getLast? ≠some 34):fR l=([],3):=by unfold fR;rw [if_pos h]
theorem tH {l:List UInt8} (h:¬(l.length<2∨l.head? ≠some 34∨l.getLast? ≠some 34)):fR l=qx ((l.drop 1).take (l.length-2)):=by
 unfold fR qx
 rw [if_neg h]
 have h2:¬l.length<2:=fun h3=>h (.inl h3)
 rw [qs l.length (((l.drop 1).take (l.length-2)).length+1) _ (by rw [List.length_take,List.length_drop];omega) (by omega)]
 rfl
theorem drop_one {m:List UInt8} {i:Nat} (h:i<m.length):m.drop i=m[i]::m.drop (i+1):=List.drop_eq_getElem_cons h
theorem Wr {l:List UInt8} (h:0<l.length):l.head? =some l[0]:=by
 cases l with
 |nil=>cases h
 |cons a t=>rfl
theorem qy {c:UInt8} {t:List UInt8} (h:c.toNat<32∨126<c.toNat∨c=34):dT (c::t)=none:=by
 simp only [dT];rw [if_pos];exact decide_eq_true h
theorem AX {c:UInt8} {t:List UInt8} (h1:32≤c.toNat) (h2:c.toNat≤126) (h3:c≠34) (h4:c≠92):dT (c::t)=some (c,1):=by
 simp only [dT];rw [if_neg,if_neg h4]
 intro h
 rcases of_decide_eq_true h with h|h|h
 ·omega
 ·omega
 ·exact h3 h
theorem dX {t:List UInt8}:dT (92::t)=jL t:=by
 simp only [dT];rw [if_neg (by decide),if_pos trivial]
theorem OH {x y:Int} (h1:0≤x) (h2:x≤15) (h3:0≤y) (h4:y≤15):((UInt8.ofNat (16*x+y).toNat).toNat:Int)=16*x+y:=by rw [UInt8.toNat_ofNat'];omega
theorem SA {w:World} {B:Nat} {u:Value} {l:List UInt8} (h:w.ownsRow B 5 1 u l.length (Lib.byteCells l)):∃A cap,u=.slice A l.length cap:=by
 obtain ⟨_,h2⟩:=h
 rcases h2 with ⟨rfl,h0⟩|⟨g,cap,cs,rfl,_⟩
 ·exact ⟨none,0,by rw [h0]⟩
 ·exact ⟨_,cap,rfl⟩
theorem vH (l:List UInt8) (w:World) (hl:l.length≤1000000):
 Calls Tryz.prog 162 #[.string (ae l)] w fun e w'=>e=.returned (.tuple #[.string (ae (fR l).1),.int .i64 (fR l).2])∧Below w.heap.size w w':=by
 have hz:=aD l
 have hg:∀(i:Nat) (h:i<(ae l).size) (h2:i<l.length),(ae l)[i]'h=l[i]:=fun i h h2=>df l i h
 by_cases h0:l.length<2
 ·have HV:=aa (pq (l:=l) (.inl h0))
  have q1:((ae l).size:Int)<2:=by omega
  generalize ae l=s at*
  clear hz hg h0
  go_enter Tryz.func162,Tryz.ntmps162
  go_wp2
  go_ret2
  exact ⟨(by rw [HV.out];rfl),Below.refl _ _⟩
 have q1:¬((ae l).size:Int)<2:=by omega
 have hs0:0<(ae l).size:=by omega
 have hl0:0<l.length:=by omega
 obtain ⟨a,ha⟩:∃a,l[0]'hl0=a:=⟨_,rfl⟩
 have hsa:(ae l)[0]'hs0=a:=by rw [hg 0 hs0 hl0,ha]
 have QL:l.head? =some a:=by rw [Wr hl0,ha]
 by_cases h1:a=34
 rotate_left
 ·have HV:=aa (pq (l:=l) (.inr (.inl (by rw [QL];intro e;exact h1 (Option.some.inj e)))))
  have e1:((a.toNat:Int)==34)=false:=az (d:=34) h1
  have e2:((a.toNat:Int) !=34)=true:=by rw [bne,e1];rfl
  generalize ae l=s at*
  clear hz hg h0 h1 ha QL
  go_enter Tryz.func162,Tryz.ntmps162
  go_wp2
  go_ret2
  exact ⟨(by rw [HV.out];rfl),Below.refl _ _⟩
 subst h1
 have hs1:(ae l).size-1<(ae l).size:=by omega
 have U2:l.length-1<l.length:=by omega
 obtain ⟨z,hzz⟩:∃z,l[l.length-1]'U2=z:=⟨_,rfl⟩
 have hsz:(ae l)[(ae l).size-1]'hs1=z:=by rw [hg _ hs1 (by omega)];simp only [hz];exact hzz
 have Dm:l.getLast? =some z:=by rw [List.getLast?_eq_getElem?,List.getElem?_eq_getElem U2,hzz]
 have k1:(0:Int)≤((ae l).size:Int)-1:=by omega
 have k2:((ae l).size:Int)-1<((ae l).size:Int):=by omega
 have k3:(((ae l).size:Int)-1).toNat=(ae l).size-1:=by omega
 have k4:(1:Int)≤((ae l).size:Int)-1:=by omega
 have k5:((ae l).size:Int)-1≤((ae l).size:Int):=by omega
 have k6:((ae l).size:Int)≤1000000:=by omega
 by_cases h2:z=34
 rotate_left
 ·have HV:=aa (pq (l:=l) (.inr (.inr (by rw [Dm];intro e;exact h2 (Option.some.inj e)))))
  have e1:((z.toNat:Int)==34)=false:=az (d:=34) h2
  have e2:((z.toNat:Int) !=34)=true:=by rw [bne,e1];rfl
  generalize ae l=s at*
  clear hz hg h0 h2 hzz Dm ha QL
  go_enter Tryz.func162,Tryz.ntmps162
  go_wp2
  go_ret2
  exact ⟨(by rw [HV.out];rfl),Below.refl _ _⟩
 subst h2
 have SB:=tH (l:=l) (by
  rintro (h|h|h)
  ·exact h0 h
  ·rw [QL] at h;exact h rfl
  ·rw [Dm] at h;exact h rfl)
 obtain ⟨m,hm⟩:∃m,(l.drop 1).take (l.length-2)=m:=⟨_,rfl⟩
 rw [hm] at SB
 have x1:(ae l).extract 1 ((ae l).size-1)=ae m:=by rw [yl,hz,←hm,show l.length-1-1=l.length-2 by omega]
 have FK:m.length≤1000000:=by rw [←hm,List.length_take];omega
 have HV:=aa SB
 clear hzz ha QL Dm hm SB
 generalize ae l=s at*
 have QM:=aD m
 have hg2:∀(i:Nat) (h:i<(ae m).size) (h2:i<m.length),(ae m)[i]'h=m[i]:=fun i h h2=>df m i h
 generalize ae m=t at*
 have U3:=aa QM
 have Zc:=aa hg2
 have HX:=aa s7
 have HRg:=aa nT
 clear hg2 QM hz hg
 go_enter Tryz.func162,Tryz.ntmps162
 go_wp2_with fail
 go_loopw [5,6] (fun u v wr=>∃(i:Nat) (O:List UInt8),v=.int .i64 (i:Int)∧l9 m i O∧wr.ownsRow w.heap.size 5 1 u O.length (Lib.byteCells O)∧Below w.heap.size w wr) (fun _ v _=>m.length-(intOf v).toNat)
 case atStart=>exact ⟨0,[],rfl,l9.zero m,World.ownsRow_nil _ _ _ _,Below.refl _ _⟩
 case round=>
  obtain ⟨i,O,rfl,Zd,hown,hbr⟩:=hrel
  have Ih:=aa Zd
  have vI:=aa hown
  have F5:=aa hbr
  have Hz:=aa hbr.size
  have hle:=Zd.1
  have hol:=Zd.2.1
  clear Zd hown hbr
  by_cases hi:i<m.length
  ·have hit:i<t.size:=by have:=U3.out;omega
   have hi':(i:Int)<(t.size:Int):=by omega
   have lU:(0:Int)≤(i:Int):=by omega
   have hw1:IntKind.i64.wrap ((i:Int)+1)=(i:Int)+1:=IntWalk.i64_in _ (by omega)
   obtain ⟨c,hc⟩:∃c,m[i]'hi=c:=⟨_,rfl⟩
   have hsc:t[i]'hit=c:=by rw [Zc.out i hit hi,hc]
   have d0:=drop_one hi
   rw [hc] at d0
   by_cases c1:c.toNat<32
   ·have p1:(c.toNat:Int)<32:=by omega
    have vJ:=aa (show fR l=([],3) by rw [HV.out];unfold qx;rw [Ih.out.stop hi (by rw [d0];exact qy (.inl c1))])
    clear c1 d0 hc
    go_wp2
    go_ret2
    exact ⟨(by rw [vJ.out];rfl),F5.out⟩
   have p1:¬(c.toNat:Int)<32:=by omega
   by_cases c2:126<c.toNat
   ·have p2:(126:Int)<(c.toNat:Int):=by omega
    have vJ:=aa (show fR l=([],3) by rw [HV.out];unfold qx;rw [Ih.out.stop hi (by rw [d0];exact qy (.inr (.inl c2)))])
    clear c1 c2 d0 hc
    go_wp2
    go_ret2
    exact ⟨(by rw [vJ.out];rfl),F5.out⟩
   have p2:¬(126:Int)<(c.toNat:Int):=by omega
   by_cases c3:c=34
   ·subst c3
    have vJ:=aa (show fR l=([],3) by rw [HV.out];unfold qx;rw [Ih.out.stop hi (by rw [d0];exact qy (.inr (.inr rfl)))])
    clear c1 c2 d0 hc
    go_wp2
    go_ret2
    exact ⟨(by rw [vJ.out];rfl),F5.out⟩
   have p3:((c.toNat:Int)==34)=false:=az (d:=34) c3
   by_cases c4:c=92
   rotate_left
   ·have p4:((c.toNat:Int)==92)=false:=az (d:=92) c4
    have p5:((c.toNat:Int) !=92)=true:=by rw [bne,p4];rfl
    have AY:=aa (Ih.out.step (c:=c) (n:=1) (by rw [d0];exact AX (by omega) (by omega) c3 c4))
    clear c1 c2 c3 c4 d0 hc
    go_wp2_with (at_builtin;have kx:=vI.out.alloc (.cells #[.int .u8 (c.toNat:Int)] 5);refine eM _ rfl _ _ 75 rfl w.heap.size 5 gK Tryz.underlying75 rfl (by decide) u5 O.length (Lib.byteCells O) rfl kx ⟨wr.heap.size,0,none⟩ 1 1 [.int .u8 (c.toNat:Int)] rfl rfl (kr _ _ rfl) (by intro u hu;simp only [List.mem_cons,List.not_mem_nil,or_false] at hu;rcases hu with rfl;rfl) (by unfold maxLen;omega) (by omega) (by rw [World.size_alloc];exact Nat.le_succ_of_le Hz.out) ?_;intro v' w4 jk fp _ _)
    have SD:=aa jk
    have OI:=aa fp
    have Ws:=aa kx
    clear jk fp kx
    go_roundw
    case rel=>exact ⟨i+1,O++[c],by go_num,AY.out,by rw [List.length_append,←eG];exact SD.out,(F5.out.alloc Hz.out _).grown OI.out (by rw [World.size_alloc];exact Nat.le_succ_of_le Hz.out) (fun j hj=>(Ws.out.lt j hj).1)⟩
    case measure=>simp [intOf];omega
   subst c4
   rw [d0.trans rfl] at d0
   have d0:m.drop i=92::m.drop (i+1):=drop_one hi|>.trans (by rw [hc])
   clear c1 c2 c3 p1 p2 p3
   by_cases z1:i+1<m.length
   rotate_left
   ·have k1':¬(i:Int)+1<(t.size:Int):=by have:=U3.out;omega
    have k3':¬(i:Int)+3<(t.size:Int):=by omega
    have vJ:=aa (show fR l=([],3) by rw [HV.out];unfold qx;rw [Ih.out.stop hi (by rw [d0,dX,List.drop_eq_nil_of_le (by omega)];rfl)])
    clear d0 hc
    go_wp2
    go_ret2
    exact ⟨(by rw [vJ.out];rfl),F5.out⟩
   have z1t:i+1<t.size:=by have:=U3.out;omega
   have y1:(i:Int)+1<(t.size:Int):=by omega
   have y0:(0:Int)≤(i:Int)+1:=by omega
   have s1:((i:Int)+1).toNat=i+1:=by omega
   obtain ⟨d,hd⟩:∃d,m[i+1]'z1=d:=⟨_,rfl⟩
   have NL:t[i+1]'z1t=d:=by rw [Zc.out (i+1) z1t z1,hd]
   have d1:=drop_one z1
   rw [hd] at d1
   by_cases c5:d=34
   ·subst c5
    have AY:=aa (Ih.out.step (c:=34) (n:=2) (by rw [d0,dX,d1];rfl))
    clear d0 hc d1 hd
    go_wp2_with (at_builtin;have kx:=vI.out.alloc (.cells #[.int .u8 34] 5);refine eM _ rfl _ _ 75 rfl w.heap.size 5 gK Tryz.underlying75 rfl (by decide) u5 O.length (Lib.byteCells O) rfl kx ⟨wr.heap.size,0,none⟩ 1 1 [.int .u8 34] rfl rfl (kr _ _ rfl) (by intro u hu;simp only [List.mem_cons,List.not_mem_nil,or_false] at hu;rcases hu with rfl;rfl) (by unfold maxLen;omega) (by omega) (by rw [World.size_alloc];exact Nat.le_succ_of_le Hz.out) ?_;intro v' w4 jk fp _ _)
    have SD:=aa jk
    have OI:=aa fp
    have Ws:=aa kx
    clear jk fp kx
    go_roundw
    case rel=>exact ⟨i+2,O++[34],by go_num,AY.out,by rw [List.length_append,←eG];exact SD.out,(F5.out.alloc Hz.out _).grown OI.out (by rw [World.size_alloc];exact Nat.le_succ_of_le Hz.out) (fun j hj=>(Ws.out.lt j hj).1)⟩
    case measure=>simp [intOf];omega
   have p5:((d.toNat:Int)==34)=false:=az (d:=34) c5
   by_cases c6:d=92
   ·subst c6
    have AY:=aa (Ih.out.step (c:=92) (n:=2) (by rw [d0,dX,d1];rfl))
    clear d0 hc d1 hd
    go_wp2_with (at_builtin;have kx:=vI.out.alloc (.cells #[.int .u8 92] 5);refine eM _ rfl _ _ 75 rfl w.heap.size 5 gK Tryz.underlying75 rfl (by decide) u5 O.length (Lib.byteCells O) rfl kx ⟨wr.heap.size,0,none⟩ 1 1 [.int .u8 92] rfl rfl (kr _ _ rfl) (by intro u hu;simp only [List.mem_cons,List.not_mem_nil,or_false] at hu;rcases hu with rfl;rfl) (by unfold maxLen;omega) (by omega) (by rw [World.size_alloc];exact Nat.le_succ_of_le Hz.out) ?_;intro v' w4 jk fp _ _)
    have SD:=aa jk
    have OI:=aa fp
    have Ws:=aa kx
    clear jk fp kx
    go_roundw
    case rel=>exact ⟨i+2,O++[92],by go_num,AY.out,by rw [List.length_append,←eG];exact SD.out,(F5.out.alloc Hz.out _).grown OI.out (by rw [World.size_alloc];exact Nat.le_succ_of_le Hz.out) (fun j hj=>(Ws.out.lt j hj).1)⟩
    case measure=>simp [intOf];omega
   have p6:((d.toNat:Int)==92)=false:=az (d:=92) c6
   have NS:¬(d=34∨d=92):=by rintro (h|h);exact c5 h;exact c6 h
   by_cases z3:i+3<m.length
   rotate_left
   ·have k3':¬(i:Int)+3<(t.size:Int):=by have:=U3.out;omega
    have vJ:=aa (show fR l=([],3) by
     rw [HV.out];unfold qx
     rw [Ih.out.stop hi (by
      rw [d0,dX,d1]
      simp only [jL]
      rw [if_neg NS]
      split
      ·split
       ·next x y q e=>
        have:=congrArg List.length e
        rw [List.length_drop] at this
        simp at this;omega
       ·rfl
      ·rfl)])
    clear d0 hc d1 hd c5 c6 NS
    go_wp2
    go_ret2
    exact ⟨(by rw [vJ.out];rfl),F5.out⟩
   have y3:(i:Int)+3<(t.size:Int):=by have:=U3.out;omega
   have z2:i+2<m.length:=by omega
   have z2t:i+2<t.size:=by omega
   have z3t:i+3<t.size:=by omega
   have y2:(i:Int)+2<(t.size:Int):=by omega
   have y02:(0:Int)≤(i:Int)+2:=by omega
   have y03:(0:Int)≤(i:Int)+3:=by omega
   have s2:((i:Int)+2).toNat=i+2:=by omega
   have s3:((i:Int)+3).toNat=i+3:=by omega
   obtain ⟨x,hx⟩:∃x,m[i+2]'z2=x:=⟨_,rfl⟩
   obtain ⟨y,hy⟩:∃y,m[i+3]'z3=y:=⟨_,rfl⟩
   have hsx:t[i+2]'z2t=x:=by rw [Zc.out (i+2) z2t z2,hx]
   have hsy:t[i+3]'z3t=y:=by rw [Zc.out (i+3) z3t z3,hy]
   have d2:=drop_one z2
   have d3:=drop_one z3
   rw [hx] at d2
   rw [hy] at d3
   have d4:m.drop i=92::d::x::y::m.drop (i+4):=by rw [d0,d1,d2,d3]
   clear hx hy hd hc d0 d1 d2 d3
   by_cases c7:d=120
   rotate_left
   ·have p7:((d.toNat:Int)==120)=false:=az (d:=120) c7
    have vJ:=aa (show fR l=([],3) by rw [HV.out];unfold qx;rw [Ih.out.stop hi (by rw [d4,dX];simp only [jL];rw [if_neg NS,if_neg c7])])
    clear d4 c5 c6 NS c7
    go_wp2
    go_ret2
    exact ⟨(by rw [vJ.out];rfl),F5.out⟩
   subst c7
   have I2:=aa (HX.out x)
   have I3:=aa (HX.out y)
   have g2:=HRg.out x
   have g3:=HRg.out y
   by_cases h2:0≤cv x
   rotate_left
   ·have vJ:=aa (show fR l=([],3) by rw [HV.out];unfold qx;rw [Ih.out.stop hi (by rw [d4,dX];simp only [jL];rw [if_neg NS,if_pos trivial,if_neg (fun h=>h2 h.1)])])
    clear d4 c5 c6 NS
    generalize cv x=hxx at*
    go_wp2_with fail
    refine (I2.out _).mono ?_
    rintro e w1 ⟨rfl,rfl⟩
    go_wp2
    go_ret2
    exact ⟨(by rw [vJ.out];rfl),F5.out⟩
   by_cases h3:0≤cv y
   rotate_left
   ·have vJ:=aa (show fR l=([],3) by rw [HV.out];unfold qx;rw [Ih.out.stop hi (by rw [d4,dX];simp only [jL];rw [if_neg NS,if_pos trivial,if_neg (fun h=>h3 h.2)])])
    clear d4 c5 c6 NS
    generalize cv x=hxx at*
    generalize cv y=hyy at*
    go_wp2_with fail
    refine (I2.out _).mono ?_
    rintro e w1 ⟨rfl,rfl⟩
    go_wp2_with fail
    refine (I3.out _).mono ?_
    rintro e w1 ⟨rfl,rfl⟩
    go_wp2
    go_ret2
    exact ⟨(by rw [vJ.out];rfl),F5.out⟩
   have HN:=aa (OH h2 g2.2 h3 g3.2)
   have AY:=aa (Ih.out.step (c:=UInt8.ofNat (16*cv x+cv y).toNat) (n:=4) (by rw [d4,dX];simp only [jL];rw [if_neg NS,if_pos trivial,if_pos ⟨h2,h3⟩]))
   clear d4 c5 c6 NS
   obtain ⟨cc,hcc⟩:∃cc,UInt8.ofNat (16*cv x+cv y).toNat=cc:=⟨_,rfl⟩
   rw [hcc] at HN AY
   clear hcc
   generalize cv x=x1 at*
   generalize cv y=OJ at*
   obtain ⟨iu,DI,UX,NT,hi4⟩:=jK gK
   have Ze:=aa DI
   have Zf:=aa UX
   have U4:=aa NT
   have Zg:=aa hi4
   clear DI UX NT hi4
   have t1:O.length+1≤maxLen:=by unfold maxLen;omega
   have t2:(O.length+1)*1≤140737488355328:=by omega
   have t3:w.heap.size≤wr.heap.size+1:=Nat.le_succ_of_le Hz.out
   have t4:∀u∈[Value.int .u8 (16*x1+OJ)],u.oneCell'=true:=by intro u hu;simp only [List.mem_cons,List.not_mem_nil,or_false] at hu;rcases hu with rfl;rfl
   have t6:(wr.alloc (.cells #[.int .u8 (16*x1+OJ)] 5)).drew.heap.size=wr.heap.size+1:=World.size_alloc _ _
   have t5:w.heap.size≤(wr.alloc (.cells #[.int .u8 (16*x1+OJ)] 5)).drew.heap.size:=by rw [t6];exact t3
   have s12:IntKind.i64.wrap ((i:Int)+2)=(i:Int)+2:=IntWalk.i64_in _ (by omega)
   have s13:IntKind.i64.wrap ((i:Int)+3)=(i:Int)+3:=IntWalk.i64_in _ (by omega)
   have s14:IntKind.i64.wrap (16*x1)=16*x1:=IntWalk.i64_in _ (by omega)
   have s15:IntKind.i64.wrap (16*x1+OJ)=16*x1+OJ:=IntWalk.i64_in _ (by omega)
   have s16:IntKind.u8.wrap (16*x1+OJ)=16*x1+OJ:=by rw [IntKind.wrap_u8];omega
   have T1:=aa t1
   have T2:=aa t2
   have T4:=aa t4
   have T5:=aa t5
   have T6:=aa t6
   clear t1 t2 t3 t4 t5 t6
   go_wp2_with fail
   refine (I2.out _).mono ?_
   rintro e w1 ⟨rfl,rfl⟩
   go_wp2_with fail
   refine (I3.out _).mono ?_
   rintro e w3 ⟨rfl,rfl⟩
   go_wp2_with fail
   go_region_held3 (fun _=>True) (exact trivial) (first|(go_at_call 196;((with_reducible refine (I2.out _).mono ?_);rintro e w' ⟨rfl,rfl⟩))|(go_at_call 196;((with_reducible refine (I3.out _).mono ?_);rintro e w' ⟨rfl,rfl⟩))|(refine step_append_lies _ rfl _ _ 75 rfl w.heap.size 5 iu _ 1 1 Tryz.underlying75 Ze.out Zf.out U4.out Zg.out rfl Nat.one_pos u5 O.length (Lib.byteCells O) rfl ((vI.out.alloc _).drew) ⟨w3.heap.size,0,none⟩ 1 1 [.int .u8 (16*x1+OJ)] rfl rfl (World.news_of_block (cs:=#[.int .u8 (16*x1+OJ)]) (t:=5) (fr:=(0,0)) (heap_alloc_new w3 _)) T4.out Nat.one_pos T1.out T2.out T5.out (w3.heap.size+1) T6.out ?_;intro g4 D9 w4 jk fp abH abI))
   all_goals
    go_wp2
    have SD:=aa jk
    have OI:=aa fp
    clear jk fp
    go_roundw
    case rel=>exact ⟨i+4,O++[cc],by go_num,AY.out,by rw [List.length_append,←eG,HN.out];exact SD.out,((F5.out.alloc Hz.out _).drew).grown OI.out (by simp;have:=Hz.out;omega) (fun j hj=>(vI.out.lt j hj).1)⟩
    case measure=>simp [intOf];omega
  ·obtain rfl:i=m.length:=Nat.le_antisymm hle (Nat.le_of_not_lt hi)
   have hi':¬(m.length:Int)<(t.size:Int):=by have:=U3.out;omega
   have HR:=aa (show fR l=if 64<O.length then ([],9) else (O,0) by rw [HV.out];unfold qx;rw [Ih.out.done])
   obtain ⟨A,cap,rfl⟩:=SA vI.out
   have hcv:∀h:O.length≤64,(convert 75 9 (.slice A O.length cap)).run Tryz.prog wr=.ok (.string (ae O)) wr:=fun _=>tv (src:=75) (dst:=9) Tryz.underlying75 Tryz.underlying5 Tryz.underlying9 vI.out
   clear hi
   by_cases hbig:64<O.length
   ·have b1:(64:Int)<(O.length:Int):=by omega
    have vJ:=aa (show fR l=([],9) by rw [HR.out,if_pos hbig])
    clear hcv hbig
    go_wp2
    go_ret2
    exact ⟨(by rw [vJ.out];rfl),F5.out⟩
   ·have b1:¬(64:Int)<(O.length:Int):=by omega
    have vJ:=aa (show fR l=(O,0) by rw [HR.out,if_neg hbig])
    have hcv:=hcv (by omega)
    clear hbig
    go_wp2
    go_ret2
    exact ⟨(by rw [vJ.out];rfl),F5.out⟩
end Go.Proofs.YtddoehnkgcbboaaGreatDoor
