/- Packed by program: a part of the proof; the last file says what is proved. -/
import Derived.Test.YtddoehnkgcbboaaGreatDoorPrG
import Derived.Test.YtddoehnkgcbboaaGreatDoorPrA
set_option maxHeartbeats 16000000
set_option maxRecDepth 100000
set_option linter.unusedVariables false
set_option linter.unusedSimpArgs false
namespace Go.Proofs.YtddoehnkgcbboaaGreatDoor
open Go.RowKit Go.Shelf
theorem Ta (l:List UInt8):br l=ae l:=rfl
theorem A8 (l:List UInt8) (w:World) (hl:l.length≤50000) (hG:Gl w):
 Calls Tryz.prog 122 #[.string (ae l)] w fun e w'=>e=.returned (oO (dE l))∧Below w.heap.size w w':=by
 have hz:=aD l
 have hg:∀(i:Nat) (h:i<(ae l).size) (h2:i<l.length),(ae l)[i]'h=l[i]:=fun i h h2=>df l i h
 obtain ⟨n,hn⟩:∃n,aQ aZ l=n:=⟨_,rfl⟩
 have hnl:n≤l.length:=by rw [←hn];exact dz _ _
 have RD:=aa (fun W:World=>show Calls Tryz.prog 117 #[.string (ae l),.int .i64 0,.func (.func 121) #[] #[]] W fun e w'=>e=.returned (.int .i64 (n:Int))∧Below W.heap.size W w' by
  have:=l6 l 0 W (by omega) (by omega)
  rw [List.drop_zero,hn,Nat.zero_add] at this
  exact this)
 have RD1:=aa (fun W:World=>show Calls Tryz.prog 117 #[.string (ae l),.int .i64 ((n:Int)+1),.func (.func 121) #[] #[]] W fun e w'=>e=.returned (.int .i64 ((n+1+aQ aZ (l.drop (n+1)):Nat):Int))∧Below W.heap.size W w' by
  have:=l6 l (n+1) W (by omega) (by omega)
  rwa [show ((n+1:Nat):Int)=(n:Int)+1 by omega] at this)
 have CQ:=aa (fun W:World=>tj l n W (by omega) (by omega))
 obtain ⟨C,hC⟩:∃C,bN l n=C:=⟨_,rfl⟩
 have hCl:C≤l.length:=by rw [←hC];exact wO _ _
 obtain ⟨e1,Zp⟩:∃e1,jB l n=e1:=⟨_,rfl⟩
 have aaH:n≤e1∧e1≤l.length:=by rw [←Zp];exact Ga hnl
 obtain ⟨e2,yK⟩:∃e2,fC l e1=e2:=⟨_,rfl⟩
 have abQ:e1≤e2∧e2≤l.length:=by rw [←yK];exact Gb aaH.2
 have EX:=aa (fun W:World=>vB l e1 W (by omega) (by omega))
 obtain ⟨k,hk⟩:∃k,fW (l.drop n)=k:=⟨_,rfl⟩
 have JZ:k≤2∧n+k≤l.length:=by rw [←hk];have:=pz (l.drop n);rw [List.length_drop] at this;omega
 have Dk:=aa (show dE l=tN l n C e2 k by unfold dE;rw [hn,hC,Zp,yK,hk])
 have AL:=aa (fun (m:Nat) (W:World) (h:m≤50000)=>Dz l m W (by omega) (by omega))
 have xs:∀m,(ae l).extract 0 m=ae (l.take m):=oL l
 have xd:(ae l).extract n (ae l).size=ae (l.drop n):=oK l n
 have xm:(ae l).extract n (n+k)=ae ((l.drop n).take k):=by rw [yl,Nat.add_sub_cancel_left]
 rw [hC] at CQ
 rw [yK] at EX
 have HXs:=aa xs
 have HXd:=aa xd
 have HXm:=aa xm
 have He1:=aa Zp
 have Hk:=aa hk
 have U':=aa (show (ae l).size=l.length from hz)
 clear hn hC Zp yK hk xs xd xm
 generalize ae l=s at*
 have Hg:=aa hg
 clear hg hz
 go_enter Tryz.func122,Tryz.ntmps122
 go_upto_region 1 with fail
 obtain ⟨W1,hW1⟩:∃W1,w.alloc (.cells #[.int .i64 0,.string ⟨#[]⟩,.int .i64 0,.int .i64 0,.int .i64 0] 85)=W1:=⟨_,rfl⟩
 rw [hW1]
 have ke:=aa (show Below w.heap.size w W1 by rw [←hW1];exact (Below.refl _ _).alloc (Nat.le_refl _) _)
 have lN:=aa (show ZW W1 w.heap.size by rw [←hW1];exact Row.new _ _ _)
 clear hW1
 obtain ⟨g,F6⟩:∃g,w.heap.size=g:=⟨_,rfl⟩
 rw [F6] at lN
 rw [F6]
 have wE:=aa F6
 clear F6
 go_wp2_with fail
 refine (RD.out _).mono ?_
 rintro e w1 ⟨rfl,hb⟩
 have fu:=aa (ke.out.trans (hb.mono ke.out.size))
 have gJ:=aa (show ZW w1 g from lN.out.below hb lN.out.lt)
 clear hb
 go_wp2_with fail
 refine (CQ.out _).mono ?_
 rintro e w2 ⟨rfl,hb⟩
 have iz:=aa (fu.out.trans (hb.mono fu.out.size))
 have nz:=aa (show ZW w2 g from gJ.out.below hb gJ.out.lt)
 clear hb
 by_cases Va:0<C
 ·have hC':(0:Int)<(C:Int):=by omega
  have hCs:(C:Int)≤(s.size:Int):=by have:=U'.out;omega
  cases mQ:bC l C with
  |false=>
   have A:=aa (fun W:World=>AL.out C W (by omega))
   rw [mQ] at A
   have HV:=aa (show dE l=cn 3 by rw [Dk.out];unfold tN;rw [if_pos Va,mQ];rfl)
   clear mQ Va
   go_wp2_with fail
   refine (A.out _).mono ?_
   rintro e wz ⟨rfl,rfl⟩
   go_wp2_with fail
   refine (cL 3 _).mono ?_
   rintro e w3 ⟨rfl,hb⟩
   have g_:=aa (iz.out.trans (hb.mono iz.out.size))
   have qa:=aa (show ZW w3 g from nz.out.below hb nz.out.lt)
   clear hb
   have r9:=qa.out
   have J0:=r9.cell 0
   have J1:=r9.cell 1
   have J2:=r9.cell 2
   have J3:=r9.cell 3
   have J4:=r9.cell 4
   have J5:=r9.frozen 0
   have J6:=r9.frozen 1
   have J7:=r9.frozen 2
   have J8:=r9.frozen 3
   have J9:=r9.frozen 4
   clear r9
   go_wp2
   refine bodyPost_ret (v:=.agg #[.int .i64 0,.string ⟨#[]⟩,.int .i64 0,.int .i64 0,.int .i64 3]) (ag rfl _ _ g 85 _ _ _ rfl (qa.out.put _ _ _ _ _) Tryz.underlying85 rfl (by kernel_rfl)) rfl ?_
   rw [HV.out]
   exact ⟨rfl,cH g_.out (Nat.le_of_eq wE.out) _ _ _ _ _⟩
  |true=>
   have A:=aa (fun W:World=>AL.out C W (by omega))
   rw [mQ] at A
   obtain ⟨⟨t,er⟩,hu⟩:∃p,dB (l.take C)=p:=⟨_,rfl⟩
   have HV:=aa (show dE l=⟨3,t,C,er⟩ by rw [Dk.out];unfold tN;rw [if_pos Va,mQ,if_pos rfl,hu])
   have BT:=aa (fun W:World=>D7 (l.take C) W (by rw [List.length_take];omega))
   rw [hu] at BT
   have x1:=HXs.out C
   generalize ae (l.take C)=sp at*
   clear mQ Va hu
   go_wp2_with fail
   refine (A.out _).mono ?_
   rintro e wz ⟨rfl,rfl⟩
   go_wp2_with fail
   refine (BT.out _).mono ?_
   rintro e w3 ⟨rfl,hb⟩
   have g_:=aa (iz.out.trans (hb.mono iz.out.size))
   have qa:=aa (show ZW w3 g from nz.out.below hb nz.out.lt)
   clear hb
   have r9:=qa.out
   have J0:=r9.cell 0
   have J1:=r9.cell 1
   have J2:=r9.cell 2
   have J3:=r9.cell 3
   have J4:=r9.cell 4
   have J5:=r9.frozen 0
   have J6:=r9.frozen 1
   have J7:=r9.frozen 2
   have J8:=r9.frozen 3
   have J9:=r9.frozen 4
   clear r9
   go_wp2
   refine bodyPost_ret (v:=.agg #[.int .i64 3,.string (ae t),.int .i64 0,.int .i64 (C:Int),.int .i64 er]) (ag rfl _ _ g 85 _ _ _ rfl (qa.out.put _ _ _ _ _) Tryz.underlying85 rfl (by kernel_rfl)) rfl ?_
   rw [HV.out]
   exact ⟨rfl,cH g_.out (Nat.le_of_eq wE.out) _ _ _ _ _⟩
 have hC':¬(0:Int)<(C:Int):=by omega
 have nG:=aa (show dE l=if n<e2 then (if bC l e2 then ⟨4,(cz (l.take e2)).1,e2,(cz (l.take e2)).2⟩ else cn 3) else if bC l (n+k)=false then cn 3 else if 15<(bI (l.take n)).length then cn 9 else lX (if k=0 then 1 else 2) (bI (l.take n)++(l.drop n).take k) (n+k) by rw [Dk.out];unfold tN;rw [if_neg Va])
 clear Va RD CQ Dk
 have HG2:=aa (show Gl w2 from hG.below iz.out)
 go_upto_region 9 with fail
 obtain ⟨dt,hdt⟩:∃dt,yI l n=dt:=⟨_,rfl⟩
 have Hdt:=aa hdt
 have hqB:=S' l n
 rw [hdt] at hqB
 have HqB:=aa hqB
 clear hdt hqB
 go_cut [56] (fun v wx=>v=.bool dt∧wx=w2)
 case first=>
  have hw1:IntKind.i64.wrap ((n:Int)+1)=(n:Int)+1:=IntWalk.i64_in _ (by omega)
  by_cases d1:l.length≤n+1
  ·have q1:¬(n:Int)+1<(s.size:Int):=by have:=U'.out;omega
   have HE:=aa (show Value.bool false=.bool dt by rw [←Hdt.out,Le d1])
   clear d1
   go_wp2_with fail
   go_meet
   exact ⟨HE.out,rfl⟩
  have q1:(n:Int)+1<(s.size:Int):=by have:=U'.out;omega
  have q0:(0:Int)≤(n:Int):=by omega
  have q2:(0:Int)≤(n:Int)+1:=by omega
  have q3:((n:Int)+1).toNat=n+1:=by omega
  have q4:(n:Int)<(s.size:Int):=by omega
  have hs0:n<s.size:=by omega
  have hs1:n+1<s.size:=by omega
  obtain ⟨c,hc⟩:∃c,l[n]'(by omega)=c:=⟨_,rfl⟩
  obtain ⟨d,hd⟩:∃d,l[n+1]'(by omega)=d:=⟨_,rfl⟩
  have hsc:s[n]'hs0=c:=by rw [Hg.out n hs0 (by omega),hc]
  have NL:s[n+1]'hs1=d:=by rw [Hg.out (n+1) hs1 (by omega),hd]
  by_cases sJ:c=46
  rotate_left
  ·have p1:((c.toNat:Int)==46)=false:=az (d:=46) sJ
   have HE:=aa (show Value.bool false=.bool dt by rw [←Hdt.out,OX (by omega) (by rw [hc];exact sJ)])
   clear d1 hc hd sJ
   go_wp2_with fail
   go_meet
   exact ⟨HE.out,rfl⟩
  subst sJ
  have HE:=aa (show Value.bool (aZ d)=.bool dt by rw [←Hdt.out,Lf (by omega) hc,hd])
  have DG:=aa (gI d)
  clear d1 hc hd
  generalize aZ d=dg at*
  go_wp2_with fail
  refine (DG.out _).mono ?_
  rintro e wz ⟨rfl,rfl⟩
  go_wp2_with fail
  go_meet
  exact ⟨HE.out,rfl⟩
 case rest=>
 obtain ⟨rfl,rfl⟩:=hcut
 go_upto_if 56 with fail
 go_cut [7] (fun v wx=>v=.int .i64 (e1:Int)∧Below w.heap.size w wx∧ZW wx g∧Gl wx)
 case first=>
  have hw1:IntKind.i64.wrap ((n:Int)+1)=(n:Int)+1:=IntWalk.i64_in _ (by omega)
  cases dt with
  |false=>
   have HE:=aa (show Value.int .i64 (n:Int)=.int .i64 (e1:Int) by rw [←He1.out,HqB.out];rfl)
   go_wp2_with fail
   go_meet
   exact ⟨HE.out,iz.out,nz.out,HG2.out⟩
  |true=>
   have Zq:n+1+aQ aZ (l.drop (n+1))=e1:=by rw [←He1.out,HqB.out];rfl
   rw [Zq] at RD1
   clear Zq
   go_wp2_with fail
   refine (RD1.out _).mono ?_
   rintro e w3 ⟨rfl,hb⟩
   have g_:=aa (iz.out.trans (hb.mono iz.out.size))
   have qa:=aa (show ZW w3 g from nz.out.below hb nz.out.lt)
   have HG3:=aa (HG2.out.below hb)
   clear hb
   go_wp2_with fail
   go_meet
   exact ⟨rfl,g_.out,qa.out,HG3.out⟩
 case rest=>
 obtain ⟨rfl,hb,hr,W_⟩:=hcut
 have g_:=aa hb
 have qa:=aa hr
 have HG3:=aa W_
 clear hb hr W_ RD1 He1 iz nz HG2 fu gJ ke lN Hg
 go_wp2_with fail
 refine (EX.out _).mono ?_
 rintro e w4 ⟨rfl,hb⟩
 have qD:=aa (g_.out.trans (hb.mono g_.out.size))
 have Lg:=aa (show ZW w4 g from qa.out.below hb qa.out.lt)
 clear hb
 have OI:=aa (show Gl w4 from hG.below qD.out)
 clear EX
 by_cases hne:n<e2
 ·have Xa:(n:Int)<(e2:Int):=by omega
  have hes:(e2:Int)≤(s.size:Int):=by have:=U'.out;omega
  have A:=aa (fun W:World=>AL.out e2 W (by omega))
  cases mQ:bC l e2 with
  |false=>
   rw [mQ] at A
   have HV:=aa (show dE l=cn 3 by rw [nG.out,if_pos hne,mQ];rfl)
   clear mQ hne
   go_wp2_with fail
   refine (A.out _).mono ?_
   rintro e wz ⟨rfl,rfl⟩
   go_wp2_with fail
   refine (cL 3 _).mono ?_
   rintro e w5 ⟨rfl,hb⟩
   have iA:=aa (qD.out.trans (hb.mono qD.out.size))
   have Il:=aa (show ZW w5 g from Lg.out.below hb Lg.out.lt)
   clear hb
   have r9:=Il.out
   have J0:=r9.cell 0
   have J1:=r9.cell 1
   have J2:=r9.cell 2
   have J3:=r9.cell 3
   have J4:=r9.cell 4
   have J5:=r9.frozen 0
   have J6:=r9.frozen 1
   have J7:=r9.frozen 2
   have J8:=r9.frozen 3
   have J9:=r9.frozen 4
   clear r9
   go_wp2
   refine bodyPost_ret (v:=.agg #[.int .i64 0,.string ⟨#[]⟩,.int .i64 0,.int .i64 0,.int .i64 3]) (ag rfl _ _ g 85 _ _ _ rfl (Il.out.put _ _ _ _ _) Tryz.underlying85 rfl (by kernel_rfl)) rfl ?_
   rw [HV.out]
   exact ⟨rfl,cH iA.out (Nat.le_of_eq wE.out) _ _ _ _ _⟩
  |true=>
   rw [mQ] at A
   have hrq:cz (l.take e2)=((aY 100000 (l.take e2)).1.data.toList,(aY 100000 (l.take e2)).2):=rfl
   have DP:=aa (fun (W:World) (h:Gl W)=>yH (l.take e2) W (by rw [List.length_take];omega) h)
   obtain ⟨⟨t,er⟩,hu⟩:∃p,aY 100000 (l.take e2)=p:=⟨_,rfl⟩
   rw [hu] at hrq DP
   have HV:=aa (show dE l=⟨4,t.data.toList,e2,er⟩ by rw [nG.out,if_pos hne,mQ,if_pos rfl,hrq])
   have x1:=HXs.out e2
   rw [Ta] at DP
   generalize ae (l.take e2)=sp at*
   clear mQ hne hu hrq
   go_wp2_with fail
   refine (A.out _).mono ?_
   rintro e wz ⟨rfl,rfl⟩
   go_wp2_with fail
   refine (DP.out _ OI.out).mono ?_
   rintro e w5 ⟨rfl,hb⟩
   have iA:=aa (qD.out.trans (hb.mono qD.out.size))
   have Il:=aa (show ZW w5 g from Lg.out.below hb Lg.out.lt)
   clear hb
   have r9:=Il.out
   have J0:=r9.cell 0
   have J1:=r9.cell 1
   have J2:=r9.cell 2
   have J3:=r9.cell 3
   have J4:=r9.cell 4
   have J5:=r9.frozen 0
   have J6:=r9.frozen 1
   have J7:=r9.frozen 2
   have J8:=r9.frozen 3
   have J9:=r9.frozen 4
   clear r9
   go_wp2
   refine bodyPost_ret (v:=.agg #[.int .i64 4,.string t,.int .i64 0,.int .i64 (e2:Int),.int .i64 er]) (ag rfl _ _ g 85 _ _ _ rfl (Il.out.put _ _ _ _ _) Tryz.underlying85 rfl (by kernel_rfl)) rfl ?_
   rw [HV.out]
   exact ⟨rfl,cH iA.out (Nat.le_of_eq wE.out) _ _ _ _ _⟩
 have Xa:¬(n:Int)<(e2:Int):=by omega
 have Zq:e2=n:=by omega
 have mX:=aa (show dE l=if bC l (n+k)=false then cn 3 else if 15<(bI (l.take n)).length then cn 9 else lX (if k=0 then 1 else 2) (bI (l.take n)++(l.drop n).take k) (n+k) by rw [nG.out,if_neg hne])
 subst Zq
 clear nG hne Xa
 have hns:(e2:Int)≤(s.size:Int):=by have:=U'.out;omega
 have ST:=aa (fun W:World=>vD (l.take e2) W)
 obtain ⟨T,hT⟩:∃T,bI (l.take e2)=T:=⟨_,rfl⟩
 have Vb:T.length≤50001:=by
  rw [←hT];unfold bI
  split
  ·show 1≤_;omega
  ·have:=(List.dropWhile_sublist (p:=(·==(48:UInt8))) (l:=l.take e2)).length_le
   rw [List.length_take] at this;omega
 rw [hT] at ST mX
 have x1:=HXs.out e2
 generalize ae (l.take e2)=sp at*
 clear hT
 go_wp2_with fail
 refine (ST.out _).mono ?_
 rintro e w5 ⟨rfl,hb⟩
 have iA:=aa (qD.out.trans (hb.mono qD.out.size))
 have Il:=aa (show ZW w5 g from Lg.out.below hb Lg.out.lt)
 clear hb
 have HG5:=aa (show Gl w5 from hG.below iA.out)
 have x2:=HXd.out
 have q0:(0:Int)≤(e2:Int):=by omega
 have HP:=aa (fun (u:List UInt8) (W:World)=>show Calls Tryz.prog 124 #[.string (ae (l.drop e2)),.string (ae u)] W fun e w'=>e=.returned (.bool (Lib.hasPrefix (l.drop e2) u))∧w'=W from Tryz.strings_HasPrefix (ae (l.drop e2)) (ae u) W)
 obtain ⟨D,hD⟩:∃D,l.drop e2=D:=⟨_,rfl⟩
 have Hk2:=aa (show fq cq D=k by rw [←hD];exact Hk.out)
 rw [hD] at HP mX
 have aaI:=aa (show s.extract e2 (e2+k)=ae (D.take k) by rw [←hD];exact HXm.out)
 rw [hD] at x2
 have hDk:(D.take k).length≤2:=by rw [List.length_take];omega
 clear hD Hk HXm HXd
 generalize ae D=sd at*
 go_upto_region 19 with fail
 obtain ⟨W6,kf⟩:∃W6,w5.alloc (.cells (cq.map fun u=>Value.string (ae u)).toArray 9)=W6:=⟨_,rfl⟩
 change Code.wp _ _ _ _ (w5.alloc (.cells (cq.map fun u=>Value.string (ae u)).toArray 9))
 have nH:=aa (show Below w.heap.size w W6 by rw [←kf];exact iA.out.alloc iA.out.size _)
 have Dn:=aa (show ZW W6 g by rw [←kf];exact Il.out.alloc _)
 have HU:=aa (show Row W6 w5.heap.size 9 (cq.map fun u=>Value.string (ae u)).toArray by rw [←kf];exact Row.new _ _ _)
 rw [kf]
 obtain ⟨gu,Tb⟩:∃gu,w5.heap.size=gu:=⟨_,rfl⟩
 rw [Tb] at HU
 rw [Tb]
 clear kf Tb
 go_loop [7,10,90] (fun v7 v10 v90=>∃i:Nat,v90=.int .i64 (i:Int)∧i≤6∧((v10=.int .i64 1∧v7=.int .i64 (e2:Int)∧fq (cq.drop i) D=k)∨(v10=.int .i64 2∧v7=.int .i64 ((e2+k:Nat):Int)∧0<k))) (fun _ _ v=>6-(intOf v).toNat)
 case atStart=>exact ⟨0,rfl,by omega,.inl ⟨rfl,rfl,Hk2.out⟩⟩
 case round=>
  obtain ⟨i,rfl,hi,hst⟩:=hrel
  by_cases hlt:i<6
  ·have hi':(i:Int)<6:=by omega
   have lU:(0:Int)≤(i:Int):=by omega
   have QQ:i<cq.length:=hlt
   obtain ⟨u,hu⟩:∃u,cq[i]'QQ=u:=⟨_,rfl⟩
   have hcell:W6.cell? ⟨gu,i,none⟩=some (.string (ae u)):=by
    have:=HU.out.cell i
    rw [List.getElem?_toArray,List.getElem?_map,List.getElem?_eq_getElem QQ,hu] at this
    exact this
   have QR:cq.drop i=u::cq.drop (i+1):=by rw [←hu];exact List.drop_eq_getElem_cons QQ
   have Tc:u.length≤2∧0<u.length:=by
    have h:=List.getElem_mem QQ
    rw [hu] at h
    exact (show ∀v∈cq,v.length≤2∧0<v.length by decide) u h
   have QS:=aD u
   have P:=aa (HP.out u)
   generalize ae u=us at*
   rcases hst with ⟨rfl,rfl,hf⟩|⟨rfl,rfl,hf⟩
   ·rw [QR] at hf
    cases hp:Lib.hasPrefix D u with
    |true=>
     rw [hp] at P
     have hk:u.length=k:=by rw [←hf];simp only [fq];rw [if_pos hp]
     have hnn:(e2:Int)+(us.size:Int)=((e2+k:Nat):Int):=by omega
     have HN:=aa (show Value.int .i64 ((e2:Int)+(us.size:Int))=.int .i64 ((e2+k:Nat):Int) by rw [hnn])
     have Hk0:=aa (show 0<k by omega)
     have OY:(us.size:Int)≤2:=by omega
     clear hf hp QR hu hk hnn QS Tc
     go_wp2_with fail
     refine (P.out _).mono ?_
     rintro e wz ⟨rfl,rfl⟩
     go_wp2
     go_round
     case rel=>exact ⟨i+1,by go_num,by omega,.inr ⟨rfl,HN.out,Hk0.out⟩⟩
     case measure=>simp [intOf];omega
    |false=>
     rw [hp] at P
     have Hf:=aa (show fq (cq.drop (i+1)) D=k by rw [←hf];conv=>rhs;unfold fq;rw [if_neg (by rw [hp];decide)])
     clear hf hp QR hu QS Tc
     go_wp2_with fail
     refine (P.out _).mono ?_
     rintro e wz ⟨rfl,rfl⟩
     go_wp2
     go_round
     case rel=>exact ⟨i+1,by go_num,by omega,.inl ⟨rfl,rfl,Hf.out⟩⟩
     case measure=>simp [intOf];omega
   ·have Hf:=aa hf
    clear hf QR hu QS Tc
    go_wp2
    go_round
    case rel=>exact ⟨i+1,by go_num,by omega,.inr ⟨rfl,rfl,Hf.out⟩⟩
    case measure=>simp [intOf];omega
  ·have hi':¬(i:Int)<6:=by omega
   obtain rfl:i=6:=by omega
   obtain ⟨kd,yL⟩:∃kd:Int,(if k=0 then 1 else 2)=kd:=⟨_,rfl⟩
   obtain ⟨q,hq⟩:∃q,e2+k=q:=⟨_,rfl⟩
   rw [yL,hq] at mX
   have aaJ:u10=.int .i64 kd∧u7=.int .i64 (q:Int):=by
    rcases hst with ⟨rfl,rfl,hf⟩|⟨rfl,rfl,hf⟩
    ·have hk0:k=0:=by rw [←hf];rfl
     rw [if_pos hk0] at yL
     exact ⟨by rw [yL],by rw [←hq,hk0];rfl⟩
    ·rw [if_neg (by omega)] at yL
     exact ⟨by rw [yL],by rw [hq]⟩
   obtain ⟨rfl,rfl⟩:=aaJ
   have hql:q≤l.length:=by omega
   have hqs:(q:Int)≤(s.size:Int):=by have:=U'.out;omega
   have hqn:(e2:Int)≤(q:Int):=by omega
   have A:=aa (fun W:World=>AL.out q W (by omega))
   have x3:=aaI.out
   rw [hq] at x3
   have y1:∀W:World,(Op.stringOp .add (ae T) (ae (D.take k))).run Tryz.prog W=.ok (.string (ae (T++D.take k))) W:=fun W=>nx T (D.take k) (by omega) W
   have FD:=aa (fun W:World=>fD kd (q:Int) (T++D.take k) W)
   have S_:=aD T
   obtain ⟨R,hR⟩:∃R,T++D.take k=R:=⟨_,rfl⟩
   rw [hR] at y1 FD mX
   clear hst hq yL HP hi hR
   cases mQ:bC l q with
   |false=>
    rw [mQ] at A
    have HV:=aa (show dE l=cn 3 by rw [mX.out,mQ];rfl)
    clear mQ
    go_wp2_with fail
    refine (A.out _).mono ?_
    rintro e wz ⟨rfl,rfl⟩
    go_wp2_with fail
    refine (cL 3 _).mono ?_
    rintro e w7 ⟨rfl,hb⟩
    have wQ:=aa (nH.out.trans (hb.mono nH.out.size))
    have Gc:=aa (show ZW w7 g from Dn.out.below hb Dn.out.lt)
    clear hb
    have r9:=Gc.out
    have J0:=r9.cell 0
    have J1:=r9.cell 1
    have J2:=r9.cell 2
    have J3:=r9.cell 3
    have J4:=r9.cell 4
    have J5:=r9.frozen 0
    have J6:=r9.frozen 1
    have J7:=r9.frozen 2
    have J8:=r9.frozen 3
    have J9:=r9.frozen 4
    clear r9
    go_wp2
    refine bodyPost_ret (v:=.agg #[.int .i64 0,.string ⟨#[]⟩,.int .i64 0,.int .i64 0,.int .i64 3]) (ag rfl _ _ g 85 _ _ _ rfl (Gc.out.put _ _ _ _ _) Tryz.underlying85 rfl (by kernel_rfl)) rfl ?_
    rw [HV.out]
    exact ⟨rfl,cH wQ.out (Nat.le_of_eq wE.out) _ _ _ _ _⟩
   |true=>
    rw [mQ] at A
    by_cases hbig:15<T.length
    ·have HV:=aa (show dE l=cn 9 by rw [mX.out,mQ,if_neg (by decide),if_pos hbig])
     have hb1:(15:Int)<((ae T).size:Int):=by omega
     generalize ae T=ts at*
     clear mQ S_ hbig
     go_wp2_with fail
     refine (A.out _).mono ?_
     rintro e wz ⟨rfl,rfl⟩
     go_wp2_with fail
     refine (cL 9 _).mono ?_
     rintro e w7 ⟨rfl,hb⟩
     have wQ:=aa (nH.out.trans (hb.mono nH.out.size))
     have Gc:=aa (show ZW w7 g from Dn.out.below hb Dn.out.lt)
     clear hb
     have r9:=Gc.out
     have J0:=r9.cell 0
     have J1:=r9.cell 1
     have J2:=r9.cell 2
     have J3:=r9.cell 3
     have J4:=r9.cell 4
     have J5:=r9.frozen 0
     have J6:=r9.frozen 1
     have J7:=r9.frozen 2
     have J8:=r9.frozen 3
     have J9:=r9.frozen 4
     clear r9
     go_wp2
     refine bodyPost_ret (v:=.agg #[.int .i64 0,.string ⟨#[]⟩,.int .i64 0,.int .i64 0,.int .i64 9]) (ag rfl _ _ g 85 _ _ _ rfl (Gc.out.put _ _ _ _ _) Tryz.underlying85 rfl (by kernel_rfl)) rfl ?_
     rw [HV.out]
     exact ⟨rfl,cH wQ.out (Nat.le_of_eq wE.out) _ _ _ _ _⟩
    ·have HV:=aa (show dE l=lX kd R q by rw [mX.out,mQ,if_neg (by decide),if_neg hbig])
     have hb1:¬(15:Int)<((ae T).size:Int):=by omega
     generalize ae T=ts at*
     generalize ae (D.take k)=ds at*
     clear mQ S_ hbig
     go_wp2_with fail
     refine (A.out _).mono ?_
     rintro e wz ⟨rfl,rfl⟩
     go_wp2_with fail
     refine (FD.out _).mono ?_
     rintro e w7 ⟨rfl,hb⟩
     have wQ:=aa (nH.out.trans (hb.mono nH.out.size))
     have Gc:=aa (show ZW w7 g from Dn.out.below hb Dn.out.lt)
     clear hb
     have r9:=Gc.out
     have J0:=r9.cell 0
     have J1:=r9.cell 1
     have J2:=r9.cell 2
     have J3:=r9.cell 3
     have J4:=r9.cell 4
     have J5:=r9.frozen 0
     have J6:=r9.frozen 1
     have J7:=r9.frozen 2
     have J8:=r9.frozen 3
     have J9:=r9.frozen 4
     clear r9
     go_wp2
     refine bodyPost_ret (v:=.agg #[.int .i64 kd,.string (ae R),.int .i64 0,.int .i64 (q:Int),.int .i64 0]) (ag rfl _ _ g 85 _ _ _ rfl (Gc.out.put _ _ _ _ _) Tryz.underlying85 rfl (by kernel_rfl)) rfl ?_
     rw [HV.out]
     exact ⟨rfl,cH wQ.out (Nat.le_of_eq wE.out) _ _ _ _ _⟩
def ek:List (List UInt8)→List UInt8→Option (List UInt8)
 |[],_=>none
 |u::us,t=>if Lib.hasPrefix t u=true then some u else ek us t
def A9 (r:Option (List UInt8)):Wq:=match r with|some u=>lX 6 u u.length|none=>cn 3
def aV (l:List UInt8):Wq:=match l with
 |[]=>cn 3
 |c::_=>if sF c=true∨c=92 then fQ l else if aZ c then dE l else if c=34 then dJ l else A9 (ek eA l)
theorem Im (l:List UInt8) (w:World) (hl:l.length≤50000) (h0:0<l.length) (hG:Gl w):
 Calls Tryz.prog 76 #[.string (ae l)] w fun e w'=>e=.returned (oO (aV l))∧Below w.heap.size w w':=by
 have hz:=aD l
 obtain ⟨c,r,hcr⟩:∃c r,l=c::r:=by
  cases l with
  |nil=>cases h0
  |cons a t=>exact ⟨a,t,rfl⟩
 have hs0:0<(ae l).size:=by omega
 have hsc:(ae l)[0]'hs0=c:=by rw [df];simp [hcr]
 have Dk:=aa (show aV l=if sF c=true∨c=92 then fQ l else if aZ c then dE l else if c=34 then dJ l else A9 (ek eA l) by rw [hcr];rfl)
 have FI:=aa (nR c)
 have DG:=aa (gI c)
 have PA:=aa (fun W:World=>G8 l W hl)
 have NU:=aa (fun (W:World) (h:Gl W)=>A8 l W hl h)
 have QU:=aa (fun W:World=>yz l W hl)
 have HP:=aa (fun (u:List UInt8) (W:World)=>show Calls Tryz.prog 124 #[.string (ae l),.string (ae u)] W fun e w'=>e=.returned (.bool (Lib.hasPrefix l u))∧w'=W from Tryz.strings_HasPrefix (ae l) (ae u) W)
 clear hcr
 generalize ae l=s at*
 have Hz:=aa hz
 have HG:=aa hG
 clear hz hG
 go_enter Tryz.func76,Tryz.ntmps76
 go_upto_region 1 with fail
 obtain ⟨W1,hW1⟩:∃W1,w.alloc (.cells #[.int .i64 0,.string ⟨#[]⟩,.int .i64 0,.int .i64 0,.int .i64 0] 85)=W1:=⟨_,rfl⟩
 rw [hW1]
 have ke:=aa (show Below w.heap.size w W1 by rw [←hW1];exact (Below.refl _ _).alloc (Nat.le_refl _) _)
 have lN:=aa (show ZW W1 w.heap.size by rw [←hW1];exact Row.new _ _ _)
 clear hW1
 obtain ⟨g,F6⟩:∃g,w.heap.size=g:=⟨_,rfl⟩
 rw [F6] at lN
 rw [F6]
 have wE:=aa F6
 clear F6
 have HG0:=aa (show Gl W1 from HG.out.below ke.out)
 clear HG
 cases hf:sF c with
 |true=>
  rw [hf] at FI
  have hv:aV l=fQ l:=by rw [Dk.out,if_pos (.inl hf)]
  obtain ⟨X,hX⟩:∃X,fQ l=X:=⟨_,rfl⟩
  rw [hX] at hv PA
  have HV:=aa hv
  clear hv hX hf
  obtain ⟨kd,tx,sz,er⟩:=X
  have PA:=aa (fun W:World=>show Calls Tryz.prog 120 #[.string s] W fun e w'=>e=.returned (.agg #[.int .i64 kd,.string (ae tx),.int .i64 0,.int .i64 (sz:Int),.int .i64 er])∧Below W.heap.size W w' from PA.out W)
  go_wp2_with fail
  refine (FI.out _).mono ?_
  rintro e wz ⟨rfl,rfl⟩
  go_wp2_with fail
  refine (PA.out _).mono ?_
  rintro e w1 ⟨rfl,hb⟩
  have fu:=aa (ke.out.trans (hb.mono ke.out.size))
  have gJ:=aa (show ZW w1 g from lN.out.below hb lN.out.lt)
  clear hb
  have r9:=gJ.out
  have J0:=r9.cell 0
  have J1:=r9.cell 1
  have J2:=r9.cell 2
  have J3:=r9.cell 3
  have J4:=r9.cell 4
  have J5:=r9.frozen 0
  have J6:=r9.frozen 1
  have J7:=r9.frozen 2
  have J8:=r9.frozen 3
  have J9:=r9.frozen 4
  clear r9
  go_wp2
  refine bodyPost_ret (v:=.agg #[.int .i64 kd,.string (ae tx),.int .i64 0,.int .i64 (sz:Int),.int .i64 er]) (ag rfl _ _ g 85 _ _ _ rfl (gJ.out.put _ _ _ _ _) Tryz.underlying85 rfl (by kernel_rfl)) rfl ?_
  rw [HV.out]
  exact ⟨rfl,cH fu.out (Nat.le_of_eq wE.out) _ _ _ _ _⟩
 |false=>
 rw [hf] at FI
 by_cases G9:c=92
 ·have hv:aV l=fQ l:=by rw [Dk.out,if_pos (.inr G9)]
  obtain ⟨X,hX⟩:∃X,fQ l=X:=⟨_,rfl⟩
  rw [hX] at hv PA
  have HV:=aa hv
  clear hv hX hf
  subst G9
  obtain ⟨kd,tx,sz,er⟩:=X
  have PA:=aa (fun W:World=>show Calls Tryz.prog 120 #[.string s] W fun e w'=>e=.returned (.agg #[.int .i64 kd,.string (ae tx),.int .i64 0,.int .i64 (sz:Int),.int .i64 er])∧Below W.heap.size W w' from PA.out W)
  have FI:=aa (fun W:World=>show Calls Tryz.prog 119 #[.int .u8 92] W fun e w'=>e=.returned (.bool false)∧w'=W from FI.out W)
  go_wp2_with fail
  refine (FI.out _).mono ?_
  rintro e wz ⟨rfl,rfl⟩
  go_wp2_with fail
  refine (PA.out _).mono ?_
  rintro e w1 ⟨rfl,hb⟩
  have fu:=aa (ke.out.trans (hb.mono ke.out.size))
  have gJ:=aa (show ZW w1 g from lN.out.below hb lN.out.lt)
  clear hb
  have r9:=gJ.out
  have J0:=r9.cell 0
  have J1:=r9.cell 1
  have J2:=r9.cell 2
  have J3:=r9.cell 3
  have J4:=r9.cell 4
  have J5:=r9.frozen 0
  have J6:=r9.frozen 1
  have J7:=r9.frozen 2
  have J8:=r9.frozen 3
  have J9:=r9.frozen 4
  clear r9
  go_wp2
  refine bodyPost_ret (v:=.agg #[.int .i64 kd,.string (ae tx),.int .i64 0,.int .i64 (sz:Int),.int .i64 er]) (ag rfl _ _ g 85 _ _ _ rfl (gJ.out.put _ _ _ _ _) Tryz.underlying85 rfl (by kernel_rfl)) rfl ?_
  rw [HV.out]
  exact ⟨rfl,cH fu.out (Nat.le_of_eq wE.out) _ _ _ _ _⟩
 have e92:((c.toNat:Int)==92)=false:=az (d:=92) G9
 have nG:=aa (show aV l=if aZ c then dE l else if c=34 then dJ l else A9 (ek eA l) by rw [Dk.out,if_neg (by rintro (h|h);rw [hf] at h;cases h;exact G9 h)])
 clear Dk hf G9 PA
 cases hd:aZ c with
 |true=>
  rw [hd] at DG
  have hv:aV l=dE l:=by rw [nG.out,hd,if_pos rfl]
  obtain ⟨X,hX⟩:∃X,dE l=X:=⟨_,rfl⟩
  rw [hX] at hv NU
  have HV:=aa hv
  clear hv hX hd
  obtain ⟨kd,tx,sz,er⟩:=X
  have NU:=aa (fun (W:World) (h:Gl W)=>show Calls Tryz.prog 122 #[.string s] W fun e w'=>e=.returned (.agg #[.int .i64 kd,.string (ae tx),.int .i64 0,.int .i64 (sz:Int),.int .i64 er])∧Below W.heap.size W w' from NU.out W h)
  go_wp2_with fail
  refine (FI.out _).mono ?_
  rintro e wz ⟨rfl,rfl⟩
  go_wp2_with fail
  refine (DG.out _).mono ?_
  rintro e wz ⟨rfl,rfl⟩
  go_wp2_with fail
  refine (NU.out _ HG0.out).mono ?_
  rintro e w1 ⟨rfl,hb⟩
  have fu:=aa (ke.out.trans (hb.mono ke.out.size))
  have gJ:=aa (show ZW w1 g from lN.out.below hb lN.out.lt)
  clear hb
  have r9:=gJ.out
  have J0:=r9.cell 0
  have J1:=r9.cell 1
  have J2:=r9.cell 2
  have J3:=r9.cell 3
  have J4:=r9.cell 4
  have J5:=r9.frozen 0
  have J6:=r9.frozen 1
  have J7:=r9.frozen 2
  have J8:=r9.frozen 3
  have J9:=r9.frozen 4
  clear r9
  go_wp2
  refine bodyPost_ret (v:=.agg #[.int .i64 kd,.string (ae tx),.int .i64 0,.int .i64 (sz:Int),.int .i64 er]) (ag rfl _ _ g 85 _ _ _ rfl (gJ.out.put _ _ _ _ _) Tryz.underlying85 rfl (by kernel_rfl)) rfl ?_
  rw [HV.out]
  exact ⟨rfl,cH fu.out (Nat.le_of_eq wE.out) _ _ _ _ _⟩
 |false=>
 rw [hd] at DG
 by_cases rF:c=34
 ·have hv:aV l=dJ l:=by rw [nG.out,hd,if_neg (by decide),if_pos rF]
  obtain ⟨X,hX⟩:∃X,dJ l=X:=⟨_,rfl⟩
  rw [hX] at hv QU
  have HV:=aa hv
  clear hv hX hd
  subst rF
  obtain ⟨kd,tx,sz,er⟩:=X
  have QU:=aa (fun W:World=>show Calls Tryz.prog 123 #[.string s] W fun e w'=>e=.returned (.agg #[.int .i64 kd,.string (ae tx),.int .i64 0,.int .i64 (sz:Int),.int .i64 er])∧Below W.heap.size W w' from QU.out W)
  have FI:=aa (fun W:World=>show Calls Tryz.prog 119 #[.int .u8 34] W fun e w'=>e=.returned (.bool false)∧w'=W from FI.out W)
  have DG:=aa (fun W:World=>show Calls Tryz.prog 121 #[.int .u8 34] W fun e w'=>e=.returned (.bool false)∧w'=W from DG.out W)
  go_wp2_with fail
  refine (FI.out _).mono ?_
  rintro e wz ⟨rfl,rfl⟩
  go_wp2_with fail
  refine (DG.out _).mono ?_
  rintro e wz ⟨rfl,rfl⟩
  go_wp2_with fail
  refine (QU.out _).mono ?_
  rintro e w1 ⟨rfl,hb⟩
  have fu:=aa (ke.out.trans (hb.mono ke.out.size))
  have gJ:=aa (show ZW w1 g from lN.out.below hb lN.out.lt)
  clear hb
  have r9:=gJ.out
  have J0:=r9.cell 0
  have J1:=r9.cell 1
  have J2:=r9.cell 2
  have J3:=r9.cell 3
  have J4:=r9.cell 4
  have J5:=r9.frozen 0
  have J6:=r9.frozen 1
  have J7:=r9.frozen 2
  have J8:=r9.frozen 3
  have J9:=r9.frozen 4
  clear r9
  go_wp2
  refine bodyPost_ret (v:=.agg #[.int .i64 kd,.string (ae tx),.int .i64 0,.int .i64 (sz:Int),.int .i64 er]) (ag rfl _ _ g 85 _ _ _ rfl (gJ.out.put _ _ _ _ _) Tryz.underlying85 rfl (by kernel_rfl)) rfl ?_
  rw [HV.out]
  exact ⟨rfl,cH fu.out (Nat.le_of_eq wE.out) _ _ _ _ _⟩
 have e34:((c.toNat:Int)==34)=false:=az (d:=34) rF
 obtain ⟨R,hR⟩:∃R,ek eA l=R:=⟨_,rfl⟩
 have mX:=aa (show aV l=A9 R by rw [nG.out,hd,if_neg (by decide),if_neg rF,hR])
 have HR:=aa hR
 clear nG hd rF QU NU hR
 go_wp2_with fail
 refine (FI.out _).mono ?_
 rintro e wz ⟨rfl,rfl⟩
 go_wp2_with fail
 refine (DG.out _).mono ?_
 rintro e wz ⟨rfl,rfl⟩
 go_upto_region 10 with fail
 have HG5:=HG0
 obtain ⟨W6,kf⟩:∃W6,wz.alloc (.cells (eA.map fun u=>Value.string (ae u)).toArray 9)=W6:=⟨_,rfl⟩
 change Code.wp _ _ _ _ (wz.alloc (.cells (eA.map fun u=>Value.string (ae u)).toArray 9))
 have nH:=aa (show Below w.heap.size w W6 by rw [←kf];exact ke.out.alloc ke.out.size _)
 have Dn:=aa (show ZW W6 g by rw [←kf];exact lN.out.alloc _)
 have HU:=aa (show Row W6 wz.heap.size 9 (eA.map fun u=>Value.string (ae u)).toArray by rw [←kf];exact Row.new _ _ _)
 rw [kf]
 obtain ⟨gu,Tb⟩:∃gu,wz.heap.size=gu:=⟨_,rfl⟩
 rw [Tb] at HU
 rw [Tb]
 clear kf Tb
 go_loop [31] (fun v=>∃i:Nat,v=.int .i64 (i:Int)∧i≤26∧ek (eA.drop i) l=R) (fun v=>26-(intOf v).toNat)
 case atStart=>exact ⟨0,rfl,by omega,HR.out⟩
 case round=>
  obtain ⟨i,rfl,hi,hf⟩:=hrel
  by_cases hlt:i<26
  ·have hi':(i:Int)<26:=by omega
   have lU:(0:Int)≤(i:Int):=by omega
   have QQ:i<eA.length:=hlt
   obtain ⟨u,hu⟩:∃u,eA[i]'QQ=u:=⟨_,rfl⟩
   have hcell:W6.cell? ⟨gu,i,none⟩=some (.string (ae u)):=by
    have:=HU.out.cell i
    rw [List.getElem?_toArray,List.getElem?_map,List.getElem?_eq_getElem QQ,hu] at this
    exact this
   have QR:eA.drop i=u::eA.drop (i+1):=by rw [←hu];exact List.drop_eq_getElem_cons QQ
   have QS:=aD u
   have P:=aa (HP.out u)
   have FD:=aa (fun W:World=>fD 6 (u.length:Int) u W)
   rw [←QS] at FD
   rw [QR] at hf
   cases hp:Lib.hasPrefix l u with
   |true=>
    rw [hp] at P
    have hR2:some u=R:=by rw [←hf];simp only [ek];rw [if_pos hp]
    have HV:=aa (show aV l=⟨6,u,(ae u).size,0⟩ by rw [mX.out,←hR2,QS];rfl)
    obtain ⟨us,OY⟩:∃us,ae u=us:=⟨_,rfl⟩
    rw [OY] at P FD HV hcell
    have Huu:=aa OY
    clear hf hp QR hu QS hR2 OY
    go_wp2_with fail
    refine (P.out _).mono ?_
    rintro e wz ⟨rfl,rfl⟩
    go_wp2_with fail
    refine (FD.out _).mono ?_
    rintro e w7 ⟨rfl,hb⟩
    have wQ:=aa (nH.out.trans (hb.mono nH.out.size))
    have Gc:=aa (show ZW w7 g from Dn.out.below hb Dn.out.lt)
    clear hb
    have r9:=Gc.out
    have J0:=r9.cell 0
    have J1:=r9.cell 1
    have J2:=r9.cell 2
    have J3:=r9.cell 3
    have J4:=r9.cell 4
    have J5:=r9.frozen 0
    have J6:=r9.frozen 1
    have J7:=r9.frozen 2
    have J8:=r9.frozen 3
    have J9:=r9.frozen 4
    clear r9
    go_wp2
    refine bodyPost_ret (v:=.agg #[.int .i64 6,.string us,.int .i64 0,.int .i64 (us.size:Int),.int .i64 0]) (ag rfl _ _ g 85 _ _ _ rfl (Gc.out.put _ _ _ _ _) Tryz.underlying85 rfl (by kernel_rfl)) rfl ?_
    rw [HV.out]
    exact ⟨by rw [←Huu.out];rfl,cH wQ.out (Nat.le_of_eq wE.out) _ _ _ _ _⟩
   |false=>
    rw [hp] at P
    have Hf:=aa (show ek (eA.drop (i+1)) l=R by rw [←hf];conv=>rhs;unfold ek;rw [if_neg (by rw [hp];decide)])
    generalize ae u=us at*
    clear hf hp QR hu QS
    go_wp2_with fail
    refine (P.out _).mono ?_
    rintro e wz ⟨rfl,rfl⟩
    go_wp2
    go_round
    case rel=>exact ⟨i+1,by go_num,by omega,Hf.out⟩
    case measure=>simp [intOf];omega
  ·have hi':¬(i:Int)<26:=by omega
   obtain rfl:i=26:=by omega
   have HV:=aa (show aV l=cn 3 by rw [mX.out,←hf];rfl)
   clear hf
   go_wp2_with fail
   refine (cL 3 _).mono ?_
   rintro e w7 ⟨rfl,hb⟩
   have wQ:=aa (nH.out.trans (hb.mono nH.out.size))
   have Gc:=aa (show ZW w7 g from Dn.out.below hb Dn.out.lt)
   clear hb
   have r9:=Gc.out
   have J0:=r9.cell 0
   have J1:=r9.cell 1
   have J2:=r9.cell 2
   have J3:=r9.cell 3
   have J4:=r9.cell 4
   have J5:=r9.frozen 0
   have J6:=r9.frozen 1
   have J7:=r9.frozen 2
   have J8:=r9.frozen 3
   have J9:=r9.frozen 4
   clear r9
   go_wp2
   refine bodyPost_ret (v:=.agg #[.int .i64 0,.string ⟨#[]⟩,.int .i64 0,.int .i64 0,.int .i64 3]) (ag rfl _ _ g 85 _ _ _ rfl (Gc.out.put _ _ _ _ _) Tryz.underlying85 rfl (by kernel_rfl)) rfl ?_
   rw [HV.out]
   exact ⟨rfl,cH wQ.out (Nat.le_of_eq wE.out) _ _ _ _ _⟩
theorem wR:∀(n:Nat) (l:List UInt8) (p:List UInt8×Nat),lZ n l=some p→1≤p.2∧p.2≤l.length
 |0,_,_,h=>by cases h
 |n+1,l,p,h=>by
  unfold lZ at h
  cases hs:fk l with
  |none=>rw [hs] at h;cases h
  |some q=>
   obtain ⟨h1,h2⟩:=oT hs
   rw [hs] at h
   simp only [Option.bind_some] at h
   split at h
   ·rename_i hh
    have hlt:q.2<l.length:=by
     rcases Nat.lt_or_ge q.2 l.length with h|h
     ·exact h
     ·rw [List.drop_eq_nil_of_le h] at hh;cases hh
    cases hr:lZ n (l.drop (q.2+1)) with
    |none=>rw [hr] at h;cases h
    |some r=>
     rw [hr] at h
     cases h
     have:=wR n _ r hr
     rw [List.length_drop] at this
     exact ⟨by show 1≤q.2+1+r.2;omega,by show q.2+1+r.2≤l.length;omega⟩
   ·cases h;exact ⟨h1,h2⟩
theorem aR {e:Int} (h:(cn e).err=0):e=0:=h
theorem Eh {l:List UInt8} (h:(fQ l).err=0):1≤(fQ l).size∧(fQ l).size≤l.length:=by
 unfold fQ at h⊢
 cases hp:lZ (l.length+1) l with
 |none=>rw [hp] at h;exact absurd (aR h) (by decide)
 |some p=>exact wR _ _ _ hp
theorem Io {l:List UInt8} {c:UInt8} {r:List UInt8} (hl:l=c::r) (hd:aZ c=true) (h:(dE l).err=0):1≤(dE l).size∧(dE l).size≤l.length:=by
 unfold dE tN at h⊢
 have yi:1≤aQ aZ l:=by rw [hl,eu hd];omega
 have hnl:=dz aZ l
 have hC:=wO l (aQ aZ l)
 have h1:=Ga hnl
 have h2:=Gb h1.2
 have h3:=pz (l.drop (aQ aZ l))
 rw [List.length_drop] at h3
 generalize aQ aZ l=n at*
 generalize bN l n=C at*
 generalize fC l (jB l n)=e2 at*
 generalize fW (l.drop n)=k at*
 generalize jB l n=e1 at*
 by_cases c1:0<C
 ·rw [if_pos c1] at h⊢
  by_cases c2:bC l C=true
  ·rw [if_pos c2];exact ⟨c1,hC⟩
  ·rw [if_neg c2] at h;exact absurd (aR h) (by decide)
 ·rw [if_neg c1] at h⊢
  by_cases c3:n<e2
  ·rw [if_pos c3] at h⊢
   by_cases c2:bC l e2=true
   ·rw [if_pos c2];exact ⟨by show 1≤e2;omega,h2.2⟩
   ·rw [if_neg c2] at h;exact absurd (aR h) (by decide)
  ·rw [if_neg c3] at h⊢
   by_cases c4:bC l (n+k)=false
   ·rw [if_pos c4] at h;exact absurd (aR h) (by decide)
   ·rw [if_neg c4] at h⊢
    by_cases c5:15<(bI (l.take n)).length
    ·rw [if_pos c5] at h;exact absurd (aR h) (by decide)
    ·rw [if_neg c5]
     exact ⟨by show 1≤n+k;omega,by show n+k≤l.length;omega⟩
theorem yM {l:List UInt8} (h:(dJ l).err=0):1≤(dJ l).size∧(dJ l).size≤l.length:=by
 rw [jl] at h⊢
 unfold iQ at h⊢
 generalize 1+bz (l.drop 1)=E at*
 by_cases c1:l.length≤E
 ·rw [if_pos c1] at h;exact absurd (aR h) (by decide)
 ·rw [if_neg c1];exact ⟨by show 1≤E+1;omega,by show E+1≤l.length;omega⟩
theorem ma:∀{us:List (List UInt8)} {t u:List UInt8},ek us t=some u→u∈us∧Lib.hasPrefix t u=true
 |[],_,_,h=>by cases h
 |v::us,t,u,h=>by
  unfold ek at h
  split at h
  ·rename_i hp;cases h;exact ⟨List.mem_cons_self,hp⟩
  ·have:=ma h
   exact ⟨List.mem_cons_of_mem _ this.1,this.2⟩
theorem Ip {l:List UInt8} (h:(A9 (ek eA l)).err=0):1≤(A9 (ek eA l)).size∧(A9 (ek eA l)).size≤l.length:=by
 cases hs:ek eA l with
 |none=>rw [hs] at h;exact absurd (aR h) (by decide)
 |some u=>
  obtain ⟨h1,h2⟩:=ma hs
  refine ⟨(show ∀v∈eA,1≤v.length by decide) u h1,?_⟩
  exact (List.isPrefixOf_iff_prefix.1 h2).length_le
theorem gL (c:UInt8) (r:List UInt8):aV (c::r)=if sF c=true∨c=92 then fQ (c::r) else if aZ c then dE (c::r) else if c=34 then dJ (c::r) else A9 (ek eA (c::r)):=rfl
theorem n_ {l:List UInt8} (hl:0<l.length) (h:(aV l).err=0):1≤(aV l).size∧(aV l).size≤l.length:=by
 cases l with
 |nil=>cases hl
 |cons c r=>
  rw [gL] at h⊢
  by_cases c1:sF c=true∨c=92
  ·rw [if_pos c1] at h⊢;exact Eh h
  ·rw [if_neg c1] at h⊢
   by_cases c2:aZ c=true
   ·rw [if_pos c2] at h⊢;exact Io rfl c2 h
   ·rw [if_neg c2] at h⊢
    by_cases c3:c=34
    ·rw [if_pos c3] at h⊢;exact yM h
    ·rw [if_neg c3] at h⊢;exact Ip h
def lI (l:List UInt8) (aJ:Nat):Nat:=aJ+iK (l.drop aJ)
def iB (l:List UInt8):Nat→Nat→List (Nat×Wq)
 |0,_=>[]
 |k+1,a=>if a<l.length then (a,aV (l.drop a))::(if (aV (l.drop a)).err=0 then iB l k (lI l (a+(aV (l.drop a)).size)) else []) else []
theorem tP:∀(k:Nat) (l:List UInt8),lY k l≤l.length
 |0,_=>Nat.zero_le _
 |_+1,[]=>Nat.zero_le _
 |k+1,c::t=>by
  simp only [lY]
  rw [List.length_cons]
  split
  ·have:=tP k t;omega
  ·split
   ·have h1:=tP k (t.drop (aQ (· !=10) t))
    have h2:=dz (· !=10) t
    rw [List.length_drop] at h1
    omega
   ·omega
theorem tQ {l:List UInt8} {a:Nat} (h:a≤l.length):lI l a≤l.length:=by
 unfold lI iK
 have:=tP (l.drop a).length (l.drop a)
 rw [List.length_drop] at this
 rw [List.length_drop]
 omega
theorem tR (l:List UInt8) (a:Nat):a≤lI l a:=Nat.le_add_right _ _
theorem mf (l:List UInt8):∀(n m a:Nat),l.length≤a+n→l.length≤a+m→iB l n a=iB l m a
 |0,0,_,_,_=>rfl
 |0,m+1,a,h,_=>by unfold iB;rw [if_neg (by omega)]
 |n+1,0,a,_,h=>by unfold iB;rw [if_neg (by omega)]
 |n+1,m+1,a,hn,hm=>by
  unfold iB
  by_cases c1:a<l.length
  ·rw [if_pos c1,if_pos c1]
   by_cases c2:(aV (l.drop a)).err=0
   ·rw [if_pos c2,if_pos c2]
    have h1:=(n_ (by rw [List.length_drop];omega) c2).1
    have h2:=tR l (a+(aV (l.drop a)).size)
    rw [mf l n m _ (by omega) (by omega)]
   ·rw [if_neg c2,if_neg c2]
  ·rw [if_neg c1,if_neg c1]
def eO (l:List UInt8) (a:Nat):List (Nat×Wq):=iB l l.length a
theorem vL {l:List UInt8} {a:Nat} (h:l.length≤a):eO l a=[]:=by
 unfold eO
 rw [mf l l.length 0 a (by omega) (by omega)]
 rfl
theorem tS {l:List UInt8} {a:Nat} (h:a<l.length):eO l a=(a,aV (l.drop a))::(if (aV (l.drop a)).err=0 then eO l (lI l (a+(aV (l.drop a)).size)) else []):=by
 unfold eO
 rw [mf l l.length (l.length+1) a (by omega) (by omega)]
 conv=>lhs;unfold iB
 rw [if_pos h]
def iC (l:List UInt8):List (Nat×Wq):=eO l (lI l 0)
structure Lx where
 kind:Int
 text:List UInt8
 aJ:Nat
def oa:List (Nat×Wq)→List Lx→List Lx×Nat×Int
 |[],out=>(out,0,0)
 |(a,x)::r,out=>if x.err=0 then (if out.length=512 then ([],a,9) else oa r (out++[⟨x.kind,x.text,a⟩])) else ([],a,x.err)
def eo (l:List UInt8):List Lx×Nat×Int:=if 16384<l.length then ([],0,9) else oa (iC l) []
section
attribute [local go_sem] Oper.semAt_some
theorem Gl.kept {C:Nat→Prop} {W W':World} (h:Gl W) (hk:af C W W') (h1:¬C 3) (h2:¬C 2):Gl W':=
 h.keep fun b hb he=>hk.block b hb (by rcases he with rfl|rfl;exact h1;exact h2)
def Td (bt b:Nat):Prop:=b=bt∨b=3∨b=2
theorem drop_cons {α:Type} {xs:List α} {k:Nat} {x:α} {r:List α} (h:xs.drop k=x::r):xs[k]? =some x∧xs.drop (k+1)=r∧k<xs.length:=by
 have h1:(xs.drop k)[0]? =some x:=by rw [h];rfl
 rw [List.getElem?_drop,Nat.add_zero] at h1
 refine ⟨h1,?_,(List.getElem?_eq_some_iff.1 h1).1⟩
 have h2:(xs.drop k).drop 1=r:=by rw [h];rfl
 rw [List.drop_drop] at h2
 exact h2
theorem wS {α:Type} {xs:List α} {k:Nat} (h:xs.drop k=[]) (hk:k≤xs.length):k=xs.length:=by
 rw [List.drop_eq_nil_iff] at h;omega
theorem Ei (l:List UInt8) (hl:l.length≤20000) (bt:Nat) (w:World) (hb:Row w bt 9 #[.string (ae l)]) (hG:Gl w):
 Iter Tryz.prog 74 #[.pointer (some ⟨bt,0,none⟩)] (fun x:Nat×Wq=>#[.int .i64 (x.1:Int),oO x.2]) (iC l) (Td bt) w:=by
 intro lp J Jx C0 W hR Vc hC hRl hJ Te hY h0
 have Zr:Row W bt 9 #[.string (ae l)]:=(hR.block bt (.inl rfl)).trans hb
 have Zs:Gl W:=hG.keep fun b _ he=>hR.block b (.inr he)
 have hbt:bt<W.heap.size:=Zr.lt
 have hcell:W.cell? ⟨bt,0,none⟩=some (.string (ae l)):=Zr.cell 0
 have QV:¬C0 bt:=Vc bt (.inl rfl)
 have yi:¬C0 3:=Vc _ (.inr (.inl rfl))
 have vM:¬C0 2:=Vc _ (.inr (.inr rfl))
 have HY:=aa hY
 have HGW:=aa Zs
 have HN:=aa (And.intro QV (And.intro yi vM))
 have hz:=aD l
 have hx:∀i,(ae l).extract i (ae l).size=ae (l.drop i):=oK l
 have SK:=aa (fun (a:Nat) (W:World) (h:a≤100000)=>show Calls Tryz.prog 75 #[.string (ae l),.int .i64 (a:Int)] W fun e w'=>e=.returned (.int .i64 ((lI l a:Nat):Int))∧Below W.heap.size W w' from wj l a W (by omega) h)
 have SK0:=aa (fun (W:World)=>show Calls Tryz.prog 75 #[.string (ae l),.int .i64 0] W fun e w'=>e=.returned (.int .i64 ((lI l 0:Nat):Int))∧Below W.heap.size W w' from wj l 0 W (by omega) (by omega))
 have RD:=aa (fun (a:Nat) (W:World) (h:a<l.length) (hg:Gl W)=>Im (l.drop a) W (by rw [List.length_drop];omega) (by rw [List.length_drop];omega) hg)
 have Hx:=aa hx
 have HbW:=aa Zr
 have HC:=aa hC
 have HJ:=aa hJ
 have H0:=aa h0
 obtain ⟨a0,ha0⟩:∃a0,lI l 0=a0:=⟨_,rfl⟩
 have hWq:iC l=eO l a0:=by rw [←ha0];rfl
 have HWq:=aa hWq
 have Ha:=aa (show a0≤l.length by rw [←ha0];exact tQ (Nat.zero_le _))
 rw [ha0] at SK0
 clear hY hG hb hR Vc hRl hx Zs QV yi vM Zr hC hJ Te h0 ha0 hWq
 generalize ae l=s at*
 have Hz:=aa hz
 clear hz
 refine callsIn_of_wp Tryz.func74 rfl trivial ?_
 simp only [Tryz.ntmps74,List.size_toArray,List.length_cons,List.length_nil,Nat.reduceAdd,Nat.reduceSub,Array.replicate_succ,Array.replicate_zero,List.push_toArray,List.append_toArray,List.nil_append,List.cons_append]
 gi_wp2_with fail
 refine (callsIn_wide.2 (SK0.out _)).mono ?_
 rintro e w1 ⟨rfl,hb1⟩
 have Lh:=aa (show af C0 W w1 from af.of_below hb1 (Nat.le_refl _))
 have HJ1:=aa (show J 0 C0 w1 from HJ.out _ _ _ _ H0.out (jW.of_below hb1 (fun b hb=>hb.elim id (HC.out b))))
 have HG1:=aa (show Grew C0 W C0 w1 from HC.out.aab.later hb1.size)
 have Ha0:=aa (show a0≤l.length from Ha.out)
 clear hb1 hcell
 gi_wp2_with fail
 gi_loopw [3] (fun v wr=>∃(a k:Nat) (C:Nat→Prop),v=.int .i64 (a:Int)∧a≤l.length∧k≤(iC l).length∧(iC l).drop k=eO l a∧J k C wr∧¬C bt∧af C0 W wr∧Grew C0 W C wr) (fun v _=>l.length-(intOf v).toNat)
 case atStart=>exact ⟨a0,0,C0,rfl,Ha0.out,Nat.zero_le _,HWq.out,HJ1.out,HN.out.1,Lh.out,HG1.out⟩
 case round=>
  obtain ⟨a,k,C,rfl,ha,hk,hdr,hj,hCb,bS,hgr⟩:=hrel
  have Zt:Row wr bt 9 #[.string s]:=HbW.out.keep bS HN.out.1
  have hcb:wr.cell? ⟨bt,0,none⟩=some (.string s):=Zt.cell 0
  have Aa:Gl wr:=HGW.out.kept bS HN.out.2.1 HN.out.2.2
  by_cases hlt:a<l.length
  ·have hi':(a:Int)<(s.size:Int):=by have:=Hz.out;omega
   have lU:(0:Int)≤(a:Int):=by omega
   have UX:(a:Int)≤(s.size:Int):=by omega
   have x1:=Hx.out a
   have Zu:=aa (RD.out a wr hlt Aa)
   rw [tS hlt] at hdr
   have hsz:=fun h=>n_ (l:=l.drop a) (by rw [List.length_drop];omega) h
   rw [List.length_drop] at hsz
   obtain ⟨X,hX⟩:∃X,aV (l.drop a)=X:=⟨_,rfl⟩
   rw [hX] at hdr hsz Zu
   obtain ⟨d1,d2,d3⟩:=drop_cons hdr
   have D1:=aa d1
   have D2:=aa d2
   have D3:=aa d3
   have Hbx:=aa Zt
   have Hsz:=aa hsz
   have Hj:=aa hj
   have F9:=aa bS
   have Tf:=aa hgr
   obtain ⟨kd,tx,sz,er⟩:=X
   have Zu:=aa (show Calls Tryz.prog 76 #[.string (ae (l.drop a))] wr fun e w'=>e=.returned (.agg #[.int .i64 kd,.string (ae tx),.int .i64 0,.int .i64 (sz:Int),.int .i64 er])∧Below wr.heap.size wr w' from Zu.out)
   generalize ae (l.drop a)=sp at*
   clear hX hdr d1 d2 d3 Zt hsz hj bS hgr Aa
   gi_wp2_with fail
   refine (callsIn_wide.2 Zu.out).mono ?_
   rintro e w2 ⟨rfl,hb2⟩
   gi_wp2_with fail
   obtain ⟨A,hA⟩:∃A,w2.heap.size=A:=⟨_,rfl⟩
   rw [hA]
   obtain ⟨W5,pA⟩:∃W5,w2.alloc (.cells #[.int .i64 kd,.string (ae tx),.int .i64 0,.int .i64 (sz:Int),.int .i64 er] 85)=W5:=⟨_,rfl⟩
   rw [pA]
   have mg:W5.heap.size=A+1:=by rw [←pA,World.size_alloc,hA]
   have hzr:wr.heap.size≤A:=by rw [←hA];exact hb2.size
   have hb5:Below wr.heap.size wr W5:=by rw [←pA];exact hb2.alloc hb2.size _
   have hrow:Row W5 A 85 #[.int .i64 kd,.string (ae tx),.int .i64 0,.int .i64 (sz:Int),.int .i64 er]:=by rw [←pA,←hA];exact Row.new _ _ _
   have Xb:af C0 W W5:=F9.out.nP (af.of_below hb5 (Nat.le_refl _)) Tf.out
   have Tg:Grew C0 W C W5:=Tf.out.later hb5.size
   have hj5:J k C W5:=HJ.out _ _ _ _ Hj.out (jW.of_below hb5 (fun b hb=>hb.elim (fun h=>Nat.lt_of_lt_of_le h F9.out.size) (fun h=>(Tf.out b h).2)))
   have hCA:¬C A:=fun e=>by have:=(Tf.out A e).2;omega
   have Xc:Row W5 bt 9 #[.string s]:=Hbx.out.below hb5 Hbx.out.lt
   have abR:bt<A:=Nat.lt_of_lt_of_le Hbx.out.lt hzr
   obtain ⟨fn,tmps,assign,body,hy,hR⟩:=HY.out k _ C W5 D1.out hj5 (fun b hb=>(Tg b hb).2)
   simp only [oO] at hy
   rw [hy]
   have HR:=aa hR
   have Xd:=aa Xb
   have Xe:=aa Tg
   have ny:=aa hrow
   have aaK:=aa Xc
   have Hz5:=aa mg
   clear hR Xb Tg hrow Xc mg hb5 hj5 pA hb2 hA
   gi_wp2_with fail
   refine HR.out.mono ?_
   rintro e W6 ⟨C',lW,hg6,Th⟩
   have HK:=aa (Xd.out.nP lW Xe.out)
   have HG:=aa (Xe.out.trans hg6 Xd.out.size)
   have HCb:=aa (show¬C' bt from fun e=>(hg6 _ e).1.elim hCb (fun h=>by have:=Hz5.out;omega))
   have Li:=ny.out.keep lW hCA
   have Xf:=aaK.out.keep lW hCb
   have hc3:W6.cell? ⟨A,3,none⟩=some (.int .i64 (sz:Int)):=Li.cell 3
   have hc4:W6.cell? ⟨A,4,none⟩=some (.int .i64 er):=Li.cell 4
   have abS:W6.cell? ⟨bt,0,none⟩=some (.string s):=Xf.cell 0
   clear lW hg6 Li Xf hy
   rcases Th with ⟨rfl,Th⟩|⟨rfl,Th⟩
   ·have Zv:=aa Th
    clear Th
    by_cases vN:er=0
    ·subst vN
     obtain ⟨s1,s2⟩:=Hsz.out rfl
     have abT:1≤sz:=s1
     have Ss:sz≤l.length-a:=s2
     have SKa:=aa (fun W:World=>SK.out (a+sz) W (by omega))
     have OZ:=D2.out
     rw [if_pos rfl] at OZ
     have HD2:=aa OZ
     have hw:((a+sz:Nat):Int)=(a:Int)+(sz:Int):=by omega
     rw [hw] at SKa
     have hle:=tQ (l:=l) (a:=a+sz) (by omega)
     have hge:=tR l (a+sz)
     obtain ⟨a2,ha2⟩:∃a2,lI l (a+sz)=a2:=⟨_,rfl⟩
     rw [ha2] at SKa hle hge
     have HD3:=aa (show (iC l).drop (k+1)=eO l a2 by rw [←ha2];exact HD2.out)
     clear ha2 hw OZ
     gi_wp2_with fail
     refine (callsIn_wide.2 (SKa.out _)).mono ?_
     rintro e w7 ⟨rfl,kz⟩
     have HK7:=aa (HK.out.nP (af.of_below kz (Nat.le_refl _)) HG.out)
     have HG7:=aa (HG.out.later kz.size)
     have HJ7:=aa (HJ.out _ _ _ _ Zv.out (jW.of_below kz (fun b hb=>hb.elim (fun h=>Nat.lt_of_lt_of_le h HK.out.size) (fun h=>(HG.out b h).2))))
     clear kz
     gi_wp2
     go_roundw
     case rel=>exact ⟨a2,k+1,C',rfl,hle,by have:=D3.out;omega,HD3.out,HJ7.out,HCb.out,HK7.out,HG7.out⟩
     case measure=>simp [intOf];omega
    ·have e1:(er==0)=false:=beq_eq_false_iff_ne.2 vN
     have e2:(er !=0)=true:=by rw [bne,e1];rfl
     have OZ:=D2.out
     rw [if_neg vN] at OZ
     have JZ:=wS OZ (by have:=D3.out;omega)
     have HJE:=aa (show J (iC l).length C' W6 by rw [←JZ];exact Zv.out)
     clear OZ JZ vN
     gi_wp2
     refine bodyPost_ret (results_none rfl _ _ _) rfl ?_
     exact ⟨⟨_,rfl⟩,C',HK.out,HG.out,.inl HJE.out⟩
   ·have Zv:=aa Th
    clear Th
    gi_wp2
    refine bodyPost_ret (results_none rfl _ _ _) rfl ?_
    exact ⟨⟨_,rfl⟩,C',HK.out,HG.out,.inr ⟨k+1,by have:=D3.out;omega,Zv.out⟩⟩
  ·have hi':¬(a:Int)<(s.size:Int):=by have:=Hz.out;omega
   rw [vL (by omega)] at hdr
   have JZ:=wS hdr hk
   have HJE:=aa (show J (iC l).length C wr by rw [←JZ];exact hj)
   have F9:=aa bS
   have Tf:=aa hgr
   clear hdr hj bS hgr Zt Aa JZ hk
   gi_wp2
   go_end0
   exact ⟨⟨_,rfl⟩,F9.out,C,Tf.out,.inl HJE.out⟩
end
end Go.Proofs.YtddoehnkgcbboaaGreatDoor
