/- Packed by program: a part of the proof; the last file says what is proved. -/
import Derived.Test.YtddoehnkgcbboaaGreatDoorPrX
import Derived.Test.YtddoehnkgcbboaaGreatDoorPrK
import Derived.Test.YtddoehnkgcbboaaGreatDoorPrV
set_option maxHeartbeats 16000000
set_option maxRecDepth 100000
set_option linter.unusedVariables false
set_option linter.unusedSimpArgs false
namespace Go.Proofs.YtddoehnkgcbboaaGreatDoor
open Go.RowKit Go.Shelf Go.Maps
theorem Qu (B b:Nat) (kd a0 xa xb xc xd:Int) (nm vl:List UInt8) (ks:List Nd) (A:Option Addr) (cap:Nat) (bn:Int) (Z5:YE kd) (h0:0≤bn) (za:bn≤13) (Uv:ks.length≤400) (cI:ks.length≤cap) (M4:∀i (hi:i<ks.length),JB ks[i]) (o:Option St) (M:Nat) (w:World) (h:cC w B b o M) (hk:sw B w ks A) (gF:∀i (hi:i<ks.length),sY ks[i]) (iq:im kd xa xb xc xd nm vl) (hn:ks.length≤1000000) (hM:M+2000+2000*aC ks≤1099511627776):
 Calls Tryz.prog 45 #[.pointer (some ⟨b,0,none⟩),.agg (aw kd a0 nm vl xa xb xc xd (.slice A ks.length cap)).toArray,.int .i64 bn] w (ie B b w (o.bind (xj aM aT (.mk kd a0 nm vl xa xb xc xd ks) (aG aM aT ks) bn)) (M+2000+2000*aC ks)):=by
 have Z6:=aa Z5
 clear Z5
 have HL:=aa (show pG aM (.mk kd a0 nm vl xa xb xc xd ks)=EU kd vl from Mo _)
 have hk2:=aa hk
 have sD:=aa gF
 have lT:=aa iq
 have Od:=aa hM
 have vM:=aa hn
 have hc2:=aa cI
 have hf2:=aa M4
 have Mt:=aa Uv
 clear cI M4 Uv
 obtain ⟨rs,Oa⟩:∃z_,(o.bind (xj aM aT (.mk kd a0 nm vl xa xb xc xd ks) (aG aM aT ks) bn))=z_:=⟨_,rfl⟩
 rw [Oa]
 have VH:=aa Oa
 clear Oa
 have hlt:=h.lt.1
 have hge:=h.lt.2
 have Ad:=aa hk
 obtain ⟨w1,hw1⟩:∃w1,w1=w.alloc (.cells (aw kd a0 nm vl xa xb xc xd (.slice A ks.length cap)).toArray 25):=⟨_,rfl⟩
 have hb1:Below w.heap.size w w1:=by rw [hw1];exact (Below.refl _ w).alloc (Nat.le_refl _) _
 have P1:=aa (h.keep hb1)
 have T1:=aa (aI.of_below (b:=b) hb1 (show B≤w.heap.size by omega))
 have gG:=aa (show Row w1 w.heap.size 25 (aw kd a0 nm vl xa xb xc xd (.slice A ks.length cap)).toArray from by rw [hw1];exact Row.new _ _ _)
 have dC:=aa hw1.symm
 have Ae:=aa gF
 have Ke:=aa iq
 clear h hk hw1 hb1 gF iq
 unfold aw at dC gG⊢
 go_enter Tryz.func45,Tryz.ntmps45
 go_upto_region 1 with fail
 rw [dC.out]
 have hne:w.heap.size≠b:=by omega
 obtain ⟨fc,iX,ir,iY,iI,iJ,iZ,i_,gv⟩:=aj gG.out
 obtain ⟨lv,hlv⟩:∃z_,EU kd vl=z_:=⟨_,rfl⟩
 have LV:=aa (show Calls Tryz.prog 44 #[.agg #[.int .i64 kd,.int .i64 a0,.string (ae nm),.string (ae vl),.int .i64 xa,.int .i64 xb,.int .i64 xc,.int .i64 xd,.slice A ks.length cap]] w1 fun e w'=>e=.returned (.int .i64 (EU kd vl))∧Below w1.heap.size w1 w' from qO kd a0 xa xb xc xd nm vl (.slice A ks.length cap) w1 lT.out.kd (by have:=lT.out.vl;omega) P1.out.gl)
 rw [hlv] at LV HL
 clear hlv
 go_wp2_with fail
 refine LV.out.mono ?_
 rintro e w2 ⟨rfl,hb2⟩
 clear fc iX ir iY iI iJ iZ i_ gv
 have t2:=aI.of_below (b:=b) hb2 (Nat.le_trans P1.out.lt.2 (Nat.le_of_lt P1.out.lt.1))
 have P2:=aa (P1.out.keep hb2)
 have T2:=aa (T1.out.trans t2)
 have ko:=aa (t2.row gG.out (by decide) (by omega))
 clear t2 hb2 LV
 by_cases a1:10≤lv
 ·have d1:decide (10≤lv)=true:=by simpa using a1
  by_cases a2:10≤bn
  ·have d2:decide (10≤bn)=true:=by simpa using a2
   by_cases a3:bn≤lv
   ·skip
    have HD:=aa (show decide (10≤pG aM (.mk kd a0 nm vl xa xb xc xd ks))=decide (10≤bn)∧bn≤pG aM (.mk kd a0 nm vl xa xb xc xd ks) from by rw [HL.out];exact ⟨by simp only [decide_eq_decide];omega,by omega⟩)
    obtain ⟨fc,iX,ir,iY,iI,iJ,iZ,i_,gv⟩:=aj ko.out
    have C3:=aa (pU B b kd a0 xa xb xc xd nm vl ks A cap Z6.out lT.out.kd Mt.out hc2.out hf2.out o M w2 P2.out (hk2.out.keep T2.out.below T2.out.size) sD.out lT.out vM.out (by have:=Od.out;first|omega|(simp only [List.length_cons,List.length_nil];omega)))
    obtain ⟨o3,q3⟩:∃z_,o.bind (eJ aM aT (.mk kd a0 nm vl xa xb xc xd ks) (aG aM aT ks))=z_:=⟨_,rfl⟩
    rw [q3] at C3
    have Q3:=aa q3
    clear q3
    unfold aw at C3
    go_wp2_with fail
    refine (C3.out).mono ?_
    rintro e w3 ⟨rfl,p3,t3⟩
    have P3:=aa p3
    have T3:=aa (T2.out.trans t3)
    have nv:=aa (t3.row ko.out (by decide) (by omega))
    clear p3 t3 C3
    clear fc iX ir iY iI iJ iZ i_ gv
    have HP:=aa (show cC w3 B b rs (M+2000+2000*aC ks) from by
     have hp:=P3.out
     rw [←Q3.out,←vd o (.mk kd a0 nm vl xa xb xc xd ks) _ bn HD.out.1 HD.out.2,VH.out] at hp
     exact hp.mono (by first|omega|(simp only [List.length_cons,List.length_nil];omega)))
    have HT:=T3
    go_wp2
    go_end0
    exact ⟨rfl,HP.out,HT.out⟩
   ·skip
    have HD:=aa (show decide (10≤pG aM (.mk kd a0 nm vl xa xb xc xd ks))=decide (10≤bn)∧pG aM (.mk kd a0 nm vl xa xb xc xd ks)<bn from by rw [HL.out];exact ⟨by simp only [decide_eq_decide];omega,by omega⟩)
    have C3:=aa (dM B b [40] o M w2 P2.out (by first|omega|(simp only [List.length_cons,List.length_nil];omega)))
    obtain ⟨o3,q3⟩:∃z_,o.map (dD · [40])=z_:=⟨_,rfl⟩
    rw [q3] at C3
    have Q3:=aa q3
    clear q3
    go_wp2_with fail
    refine (C3.out).mono ?_
    rintro e w3 ⟨rfl,p3,t3⟩
    have P3:=aa p3
    have T3:=aa (T2.out.trans t3)
    have nv:=aa (t3.row ko.out (by decide) (by omega))
    clear p3 t3 C3
    obtain ⟨fc,iX,ir,iY,iI,iJ,iZ,i_,gv⟩:=aj nv.out
    have C4:=aa (pU B b kd a0 xa xb xc xd nm vl ks A cap Z6.out lT.out.kd Mt.out hc2.out hf2.out o3 (M+([40]:List UInt8).length+1) w3 P3.out (hk2.out.keep T3.out.below T3.out.size) sD.out lT.out vM.out (by have:=Od.out;first|omega|(simp only [List.length_cons,List.length_nil];omega)))
    obtain ⟨o4,q4⟩:∃z_,o3.bind (eJ aM aT (.mk kd a0 nm vl xa xb xc xd ks) (aG aM aT ks))=z_:=⟨_,rfl⟩
    rw [q4] at C4
    have Q4:=aa q4
    clear q4
    unfold aw at C4
    go_wp2_with fail
    refine (C4.out).mono ?_
    rintro e w4 ⟨rfl,p4,t4⟩
    have P4:=aa p4
    have T4:=aa (T3.out.trans t4)
    have s5:=aa (t4.row nv.out (by decide) (by omega))
    clear p4 t4 C4
    clear fc iX ir iY iI iJ iZ i_ gv
    have C5:=aa (dM B b [41] o4 ((M+([40]:List UInt8).length+1)+1500+2000*aC ks) w4 P4.out (by first|omega|(simp only [List.length_cons,List.length_nil];omega)))
    obtain ⟨o5,q5⟩:∃z_,o4.map (dD · [41])=z_:=⟨_,rfl⟩
    rw [q5] at C5
    have Q5:=aa q5
    clear q5
    go_wp2_with fail
    refine (C5.out).mono ?_
    rintro e w5 ⟨rfl,p5,t5⟩
    have P5:=aa p5
    have T5:=aa (T4.out.trans t5)
    have sA:=aa (t5.row s5.out (by decide) (by omega))
    clear p5 t5 C5
    have HP:=aa (show cC w5 B b rs (M+2000+2000*aC ks) from by
     have hp:=P5.out
     rw [←Q5.out,←Q4.out,←Q3.out,←xU o (.mk kd a0 nm vl xa xb xc xd ks) _ bn HD.out.1 HD.out.2,VH.out] at hp
     exact hp.mono (by first|omega|(simp only [List.length_cons,List.length_nil];omega)))
    have HT:=T5
    go_wp2
    go_end0
    exact ⟨rfl,HP.out,HT.out⟩
  ·have d2:decide (10≤bn)=false:=by simpa using a2
   obtain ⟨⟨x,mK⟩,mL,mM,p,t⟩:=P2.out.GQ
   have HP:=aa (show cC (w2.setCell ⟨b,3,none⟩ (.bool true)) B b rs (M+2000+2000*aC ks) from by rw [←VH.out,xT o (.mk kd a0 nm vl xa xb xc xd ks) _ bn (by rw [HL.out];simp only [ne_eq,decide_eq_decide];omega)];exact p.mono (by omega))
   have HT:=aa (T2.out.trans t)
   clear p t
   go_wp2
   go_end0
   exact ⟨rfl,HP.out,HT.out⟩
 ·have d1:decide (10≤lv)=false:=by simpa using a1
  by_cases a2:10≤bn
  ·have d2:decide (10≤bn)=true:=by simpa using a2
   obtain ⟨⟨x,mK⟩,mL,mM,p,t⟩:=P2.out.GQ
   have HP:=aa (show cC (w2.setCell ⟨b,3,none⟩ (.bool true)) B b rs (M+2000+2000*aC ks) from by rw [←VH.out,xT o (.mk kd a0 nm vl xa xb xc xd ks) _ bn (by rw [HL.out];simp only [ne_eq,decide_eq_decide];omega)];exact p.mono (by omega))
   have HT:=aa (T2.out.trans t)
   clear p t
   go_wp2
   go_end0
   exact ⟨rfl,HP.out,HT.out⟩
  ·have d2:decide (10≤bn)=false:=by simpa using a2
   by_cases a3:bn≤lv
   ·skip
    have HD:=aa (show decide (10≤pG aM (.mk kd a0 nm vl xa xb xc xd ks))=decide (10≤bn)∧bn≤pG aM (.mk kd a0 nm vl xa xb xc xd ks) from by rw [HL.out];exact ⟨by simp only [decide_eq_decide];omega,by omega⟩)
    obtain ⟨fc,iX,ir,iY,iI,iJ,iZ,i_,gv⟩:=aj ko.out
    have C3:=aa (pU B b kd a0 xa xb xc xd nm vl ks A cap Z6.out lT.out.kd Mt.out hc2.out hf2.out o M w2 P2.out (hk2.out.keep T2.out.below T2.out.size) sD.out lT.out vM.out (by have:=Od.out;first|omega|(simp only [List.length_cons,List.length_nil];omega)))
    obtain ⟨o3,q3⟩:∃z_,o.bind (eJ aM aT (.mk kd a0 nm vl xa xb xc xd ks) (aG aM aT ks))=z_:=⟨_,rfl⟩
    rw [q3] at C3
    have Q3:=aa q3
    clear q3
    unfold aw at C3
    go_wp2_with fail
    refine (C3.out).mono ?_
    rintro e w3 ⟨rfl,p3,t3⟩
    have P3:=aa p3
    have T3:=aa (T2.out.trans t3)
    have nv:=aa (t3.row ko.out (by decide) (by omega))
    clear p3 t3 C3
    clear fc iX ir iY iI iJ iZ i_ gv
    have HP:=aa (show cC w3 B b rs (M+2000+2000*aC ks) from by
     have hp:=P3.out
     rw [←Q3.out,←vd o (.mk kd a0 nm vl xa xb xc xd ks) _ bn HD.out.1 HD.out.2,VH.out] at hp
     exact hp.mono (by first|omega|(simp only [List.length_cons,List.length_nil];omega)))
    have HT:=T3
    go_wp2
    go_end0
    exact ⟨rfl,HP.out,HT.out⟩
   ·skip
    have HD:=aa (show decide (10≤pG aM (.mk kd a0 nm vl xa xb xc xd ks))=decide (10≤bn)∧pG aM (.mk kd a0 nm vl xa xb xc xd ks)<bn from by rw [HL.out];exact ⟨by simp only [decide_eq_decide];omega,by omega⟩)
    have C3:=aa (dM B b [40] o M w2 P2.out (by first|omega|(simp only [List.length_cons,List.length_nil];omega)))
    obtain ⟨o3,q3⟩:∃z_,o.map (dD · [40])=z_:=⟨_,rfl⟩
    rw [q3] at C3
    have Q3:=aa q3
    clear q3
    go_wp2_with fail
    refine (C3.out).mono ?_
    rintro e w3 ⟨rfl,p3,t3⟩
    have P3:=aa p3
    have T3:=aa (T2.out.trans t3)
    have nv:=aa (t3.row ko.out (by decide) (by omega))
    clear p3 t3 C3
    obtain ⟨fc,iX,ir,iY,iI,iJ,iZ,i_,gv⟩:=aj nv.out
    have C4:=aa (pU B b kd a0 xa xb xc xd nm vl ks A cap Z6.out lT.out.kd Mt.out hc2.out hf2.out o3 (M+([40]:List UInt8).length+1) w3 P3.out (hk2.out.keep T3.out.below T3.out.size) sD.out lT.out vM.out (by have:=Od.out;first|omega|(simp only [List.length_cons,List.length_nil];omega)))
    obtain ⟨o4,q4⟩:∃z_,o3.bind (eJ aM aT (.mk kd a0 nm vl xa xb xc xd ks) (aG aM aT ks))=z_:=⟨_,rfl⟩
    rw [q4] at C4
    have Q4:=aa q4
    clear q4
    unfold aw at C4
    go_wp2_with fail
    refine (C4.out).mono ?_
    rintro e w4 ⟨rfl,p4,t4⟩
    have P4:=aa p4
    have T4:=aa (T3.out.trans t4)
    have s5:=aa (t4.row nv.out (by decide) (by omega))
    clear p4 t4 C4
    clear fc iX ir iY iI iJ iZ i_ gv
    have C5:=aa (dM B b [41] o4 ((M+([40]:List UInt8).length+1)+1500+2000*aC ks) w4 P4.out (by first|omega|(simp only [List.length_cons,List.length_nil];omega)))
    obtain ⟨o5,q5⟩:∃z_,o4.map (dD · [41])=z_:=⟨_,rfl⟩
    rw [q5] at C5
    have Q5:=aa q5
    clear q5
    go_wp2_with fail
    refine (C5.out).mono ?_
    rintro e w5 ⟨rfl,p5,t5⟩
    have P5:=aa p5
    have T5:=aa (T4.out.trans t5)
    have sA:=aa (t5.row s5.out (by decide) (by omega))
    clear p5 t5 C5
    have HP:=aa (show cC w5 B b rs (M+2000+2000*aC ks) from by
     have hp:=P5.out
     rw [←Q5.out,←Q4.out,←Q3.out,←xU o (.mk kd a0 nm vl xa xb xc xd ks) _ bn HD.out.1 HD.out.2,VH.out] at hp
     exact hp.mono (by first|omega|(simp only [List.length_cons,List.length_nil];omega)))
    have HT:=T5
    go_wp2
    go_end0
    exact ⟨rfl,HP.out,HT.out⟩
mutual
def M8:Nd→Prop
 |.mk kd _ nm v a b c d ks=>im kd a b c d nm v∧ks.length≤400∧Fq ks
def Fq:List Nd→Prop
 |[]=>True
 |n::r=>M8 n∧Fq r
end
theorem M8.Uw:∀{x:Nd},M8 x→JB x
 |.mk _ _ _ _ _ _ _ _ _,h=>by rw [M8] at h;exact h.1
theorem Fq.get:∀{ks:List Nd},Fq ks→∀i (h:i<ks.length),M8 ks[i]
 |x::r,h,0,_=>by rw [Fq] at h;exact h.1
 |x::r,h,i+1,hi=>by rw [Fq] at h;exact Fq.get h.2 i (by simpa using hi)
mutual
def oD:Nd→Prop
 |.mk kd _ nm v a b c d ks=>im kd a b c d nm v∧ks.length≤400∧jV ks∧YE kd
def jV:List Nd→Prop
 |[]=>True
 |n::r=>oD n∧jV r
end
theorem oD.Uw:∀{x:Nd},oD x→JB x
 |.mk _ _ _ _ _ _ _ _ _,h=>by rw [oD] at h;exact h.1
theorem jV.get:∀{ks:List Nd},jV ks→∀i (h:i<ks.length),oD ks[i]
 |x::r,h,0,_=>by rw [jV] at h;exact h.1
 |x::r,h,i+1,hi=>by rw [jV] at h;exact jV.get h.2 i (by simpa using hi)
mutual
theorem GR:∀x:Nd,oD x→sY x
 |.mk kd a0 nm vl xa xb xc xd ks,hf=>by
  rw [oD] at hf
  obtain ⟨h1,h2,h3,Z5⟩:=hf
  have IH:=CL ks h3
  intro B b bn cs o M W h aB h0 za hM
  obtain ⟨A,cap,rfl,hk,cI⟩:=aB.Yg
  rw [aS] at hM
  have:=Qu B b kd a0 xa xb xc xd nm vl ks A cap bn Z5 h0 za h2 cI (fun i hi=>(jV.get h3 i hi).Uw) o M W h hk IH h1 (by omega) (by omega)
  rw [cQ,aS]
  exact this.mono fun e w' hx=>⟨hx.1,hx.2.1.mono (by omega),hx.2.2⟩
theorem CL:∀ks:List Nd,jV ks→∀i (hi:i<ks.length),sY ks[i]
 |x::r,hf,0,_=>by rw [jV] at hf;exact GR x hf.1
 |x::r,hf,i+1,hi=>by rw [jV] at hf;exact CL r hf.2 i (by simpa using hi)
end
theorem xV (b B:Nat) (v:Value) (st:St) (bad:Bool) (w:World) (h:dF w B b v st bad):
 Calls Tryz.prog 46 #[.pointer (some ⟨b,0,none⟩)] w fun e w'=>e=.returned (.string (ae st.1))∧Below B w w':=by
 have mixed:Tryz.prog.follows .mixedOrders=true:=by kernel_rfl
 obtain ⟨p,hp,hr⟩:=h.row
 have hown:=h.own
 have Sq:=h.ZH
 obtain ⟨l,Vl⟩:=st
 by_cases h0:l=[]
 ·subst h0
  have hUS:=fun (W:World) (q:Option Addr)=>Lib.run_unsafeString_none (P:=Tryz.prog) W 109 3 9 q
  rcases hown.2 with ⟨rfl,_⟩|⟨g,cap,cur,rfl,hbg,hg,_,_,_,_⟩
  ·have c1:w.drew.cell? ⟨b,1,none⟩=some (.slice none 0 0):=hr.cell 1
   have hSD:(Builtin.unsafeSliceData_ #[75] 109 #[.slice none 0 0]).run Tryz.prog w.drew=.ok (.pointer none) w.drew:=rfl
   clear hr hown h
   go_enter Tryz.func46,Tryz.ntmps46
   go_wp2
   go_region_o
   all_goals (go_wp2;go_ret;exact ⟨rfl,Below.drew (Below.refl B w)⟩)
  ·by_cases hc0:cap=0
   ·subst hc0
    have c1:w.drew.cell? ⟨b,1,none⟩=some (.slice (some ⟨g,0,none⟩) 0 0):=hr.cell 1
    have hSD:(Builtin.unsafeSliceData_ #[75] 109 #[.slice (some ⟨g,0,none⟩) 0 0]).run Tryz.prog w.drew=.ok (.pointer (some ⟨w.drew.heap.size,0,none⟩)) (w.drew.alloc (.view ⟨g,0,none⟩ 5)):=
     Lib.run_unsafeSliceData_zero w.drew _ _ 5 Tryz.underlying109 ⟨g,0,none⟩ 0 (5,cur.size) (by have Ro:w.drew.heap[g]? =some (.cells cur 5 (0,0)):=hg;simp [World.shape?,Ro])
    have c2:(w.drew.alloc (.view ⟨g,0,none⟩ 5)).cell? ⟨b,1,none⟩=some (.slice (some ⟨g,0,none⟩) 0 0):=(hr.drew.alloc _).cell 1
    have c3:(w.alloc (.view ⟨g,0,none⟩ 5)).drew.cell? ⟨b,1,none⟩=some (.slice (some ⟨g,0,none⟩) 0 0):=c2
    have c0:w.cell? ⟨b,1,none⟩=some (.slice (some ⟨g,0,none⟩) 0 0):=c1
    clear hr hown h
    go_enter Tryz.func46,Tryz.ntmps46
    go_wp2
    go_region_o
    all_goals (go_wp2;go_ret;exact ⟨rfl,(Below.drew (Below.refl B w)).alloc Sq _⟩)
   ·have c1:w.drew.cell? ⟨b,1,none⟩=some (.slice (some ⟨g,0,none⟩) 0 cap):=hr.cell 1
    have hSD:(Builtin.unsafeSliceData_ #[75] 109 #[.slice (some ⟨g,0,none⟩) 0 cap]).run Tryz.prog w.drew=.ok (.pointer (some ⟨g,0,none⟩)) w.drew:=Lib.run_unsafeSliceData_row _ _ _ _ _ _ hc0
    clear hr hown h hc0
    go_enter Tryz.func46,Tryz.ntmps46
    go_wp2
    go_region_o
    all_goals (go_wp2;go_ret;exact ⟨rfl,Below.drew (Below.refl B w)⟩)
 ·have hl0:l.length≠0:=by simpa using h0
  obtain ⟨g,cap,cur,rfl,hbg,hg,QO,hcm,hcs,abp⟩:∃g cap cur,v=.slice (some ⟨g,0,none⟩) l.length cap∧B≤g∧w.heap[g]? =some (.cells cur 5 (0,0))∧l.length≤cap∧cap≤maxLen∧cur.size=cap*1∧cur.toList.take (l.length*1)=Lib.byteCells l:=by
   rcases hown.2 with ⟨_,hz⟩|⟨g,cap,cur,hv,r⟩
   ·exact absurd hz hl0
   ·exact ⟨g,cap,cur,hv,r⟩
  have c1:w.drew.cell? ⟨b,1,none⟩=some (.slice (some ⟨g,0,none⟩) l.length cap):=hr.cell 1
  have hSD:(Builtin.unsafeSliceData_ #[75] 109 #[.slice (some ⟨g,0,none⟩) l.length cap]).run Tryz.prog w.drew=.ok (.pointer (some ⟨g,0,none⟩)) w.drew:=Lib.run_unsafeSliceData_row _ _ _ _ _ _ (by omega)
  have hUS:(Builtin.unsafeString_ #[109,3] 9 #[.pointer (some ⟨g,0,none⟩),.int .i64 l.length]).run Tryz.prog w.drew=.ok (.string ⟨l.toArray⟩) (w.drew.freeze ⟨g,0,none⟩ l.length):=by
   refine Lib.run_unsafeString_row w.drew 109 3 9 5 Tryz.underlying109 (by kernel_rfl) g cur.size (by have Ro:w.drew.heap[g]? =some (.cells cur 5 (0,0)):=hg;simp [World.shape?,Ro]) l h0 (by omega) (by unfold maxLen at hcm;omega) ?_
   intro j x hx
   have:=hown.cells (g:=g) rfl j (.int .u8 x.toNat) (by simp [Lib.byteCells,hx])
   exact this
  clear hr hown h
  go_enter Tryz.func46,Tryz.ntmps46
  go_wp2
  go_region_o
  all_goals (go_wp2;go_ret;exact ⟨rfl,Lib.below_freeze (Below.drew (Below.refl B w)) (p:=⟨g,0,none⟩) hbg _⟩)
def kT (o:Option (List UInt8)) (W:World) (e:Ending) (w':World):Prop:=∃s:ByteArray,e=.returned (.tuple #[.string s,.bool o.isSome])∧(∀t,o=some t→s=ae t)∧Below W.heap.size W w'
theorem kT.none_ {W w':World} {o:Option (List UInt8)} (ho:o=none) (h:Below W.heap.size W w') (s:ByteArray):kT o W (.returned (.tuple #[.string s,.bool false])) w':=by
 subst ho;exact ⟨s,rfl,fun t e=>(by cases e),h⟩
theorem Fs {x:Nd} (h:32<iE x):gC aM aT x=none:=if_pos h
theorem xW {x:Nd} (bn:Int) (h:¬32<iE x) (hn:(if 10≤pG aM x then (10:Int) else 0)=bn) (ho:cQ aM aT x bn ([],false)=none):gC aM aT x=none:=by
 unfold gC;rw [if_neg h,hn,ho]
theorem CO {x:Nd} (bn:Int) (st:St) (h:¬32<iE x) (hn:(if 10≤pG aM x then (10:Int) else 0)=bn) (ho:cQ aM aT x bn ([],false)=some st):gC aM aT x=if (eo st.1).2.2=0 then some st.1 else none:=by
 unfold gC;rw [if_neg h,hn,ho]
theorem Ux (W:World) (B:Nat) (hB:B≤W.heap.size) (hg:Gl W) (Z7:3<B∧2<B):
 cC (W.alloc (.cells #[.pointer none,.slice none 0 0,.bool false,.bool false] 79)) B W.heap.size (some ([],false)) 0:=
 ⟨⟨.slice none 0 0,([],false),false,⟨hB,⟨_,.inl rfl,Row.new W _ _⟩,World.ownsRow_nil _ _ _ _⟩,Nat.le_refl _,rfl⟩,hg.below ((Below.refl _ W).alloc (Nat.le_refl _) _),Z7⟩
theorem CP (x:Nd) (hf:oD x) (hc:aS x≤500) (cs:List Value) (w:World) (aB:cG (fun c=>w.heap.size≤c) w x cs) (hg:Gl w):
 Calls Tryz.prog 27 #[.agg cs.toArray] w (kT (gC aM aT x) w):=by
 have hfk:=hf.Uw
 have OP:=aa (GR x hf)
 have Z7:=hg.lt
 have cN:=aa aB
 have HC:=aa hc
 have aa9:=uK x
 obtain ⟨kd,a0,nm,vl,xa,xb,xc,xd,A,len,cap,rfl⟩:=aB.nine
 have kX:=aB.kv
 have HL:=aa (show pG aM x=EU kd vl from by rw [Mo,kX.1,kX.2])
 have VJ:=aa (show dr kd∧vl.length≤1000000 from by rw [←kX.1,←kX.2];exact ⟨hfk.kd,by have:=hfk.vl;omega⟩)
 obtain ⟨w1,hw1⟩:∃w1,w1=w.alloc (.cells (aw kd a0 nm vl xa xb xc xd (.slice A len cap)).toArray 25):=⟨_,rfl⟩
 have hb1:Below w.heap.size w w1:=by rw [hw1];exact (Below.refl _ w).alloc (Nat.le_refl _) _
 have fu:=aa hb1
 have gG:=aa (show Row w1 w.heap.size 25 (aw kd a0 nm vl xa xb xc xd (.slice A len cap)).toArray from by rw [hw1];exact Row.new _ _ _)
 have NK:=aa (fun (W:World) (hb:Below w.heap.size w W)=>show cG (fun c=>w.heap.size≤c) W x [.int .i64 kd,.int .i64 a0,.string (ae nm),.string (ae vl),.int .i64 xa,.int .i64 xb,.int .i64 xc,.int .i64 xd,.slice A len cap] from aB.keeps (ra hb hb.size))
 have Z8:=aa (fun (W:World) (hb:Below w.heap.size w W)=>show Gl W from hg.below hb)
 have HGB:=aa Z7
 have dC:=aa hw1.symm
 have G_:w.heap.size<w1.heap.size:=gG.out.lt
 have LVS:=aa (show Calls Tryz.prog 33 #[.agg #[.int .i64 kd,.int .i64 a0,.string (ae nm),.string (ae vl),.int .i64 xa,.int .i64 xb,.int .i64 xc,.int .i64 xd,.slice A len cap]] w1 fun e w'=>e=.returned (.int .i64 (iE x:Int))∧Below w1.heap.size w1 w' from q_ 500 x _ _ w1 HC.out (by decide) (NK.out w1 hb1))
 clear aB hg kX hfk hf hw1 hb1 Z7
 unfold aw at dC gG⊢
 obtain ⟨Oe,Uy⟩:∃Oe,iE x=Oe:=⟨_,rfl⟩
 rw [Uy] at LVS aa9
 have M9:=aa Uy
 clear Uy
 go_enter Tryz.func27,Tryz.ntmps27
 go_upto_region 1 with fail
 rw [dC.out]
 obtain ⟨n0,n1,n2,n3,n4,n5,n6,n7,n8⟩:=aj gG.out
 go_wp2_with fail
 refine LVS.out.mono ?_
 rintro e w2 ⟨rfl,hb2⟩
 clear n0 n1 n2 n3 n4 n5 n6 n7 n8
 have iz:=aa (fu.out.trans (hb2.mono fu.out.size))
 have ko:=aa (gG.out.below hb2 G_)
 have hz2:=iz.out.size
 clear hb2
 by_cases hd:32<Oe
 ·have hd':(32:Int)<(Oe:Int):=by omega
  have HT:=aa (show kT (gC aM aT x) w (.returned (.tuple #[.string {data:=#[]},.bool false])) w2 from kT.none_ (Fs (by rw [M9.out];exact hd)) iz.out _)
  clear hd
  go_wp2
  go_ret2
  exact HT.out
 ·have hd':¬(32:Int)<(Oe:Int):=by omega
  have HD:=aa hd
  clear hd
  obtain ⟨w3,hw3⟩:∃w3,w3=w2.alloc (.cells #[.pointer none,.slice none 0 0,.bool false,.bool false] 79):=⟨_,rfl⟩
  have P3:=aa (show cC w3 w.heap.size w2.heap.size (some ([],false)) 0 from by rw [hw3];exact Ux w2 _ hz2 (Z8.out w2 iz.out) HGB.out)
  have g_:=aa (show Below w.heap.size w w3 from by rw [hw3];exact iz.out.alloc hz2 _)
  have nv:=aa (show Row w3 w.heap.size 25 #[.int .i64 kd,.int .i64 a0,.string (ae nm),.string (ae vl),.int .i64 xa,.int .i64 xb,.int .i64 xc,.int .i64 xd,.slice A len cap] from by rw [hw3];exact ko.out.alloc _)
  have CB:=aa hw3.symm
  clear hw3
  go_upto_region 4 with fail
  rw [CB.out]
  have LV:=aa (show Calls Tryz.prog 44 #[.agg #[.int .i64 kd,.int .i64 a0,.string (ae nm),.string (ae vl),.int .i64 xa,.int .i64 xb,.int .i64 xc,.int .i64 xd,.slice A len cap]] w3 fun e w'=>e=.returned (.int .i64 (EU kd vl))∧Below w3.heap.size w3 w' from qO kd a0 xa xb xc xd nm vl (.slice A len cap) w3 VJ.out.1 VJ.out.2 (Z8.out w3 g_.out))
  obtain ⟨lv,hlv⟩:∃lv,EU kd vl=lv:=⟨_,rfl⟩
  rw [hlv] at LV HL
  clear hlv
  obtain ⟨n0,n1,n2,n3,n4,n5,n6,n7,n8⟩:=aj nv.out
  go_wp2_with fail
  refine LV.out.mono ?_
  rintro e w4 ⟨rfl,hb4⟩
  clear n0 n1 n2 n3 n4 n5 n6 n7 n8
  have P4:=aa (P3.out.keep hb4)
  have qD:=aa (g_.out.trans (hb4.mono g_.out.size))
  have s5:=aa (nv.out.below hb4 nv.out.lt)
  clear hb4 LV
  by_cases h10:10≤lv
  ·skip
   have Dq:=aa (show Calls Tryz.prog 45 #[.pointer (some ⟨w2.heap.size,0,none⟩),.agg #[.int .i64 kd,.int .i64 a0,.string (ae nm),.string (ae vl),.int .i64 xa,.int .i64 xb,.int .i64 xc,.int .i64 xd,.slice A len cap],.int .i64 10] w4 (ie w.heap.size w2.heap.size w4 ((some (([]:List UInt8),false):Option St).bind (cQ aM aT x 10)) (0+2000*aS x)) from OP.out w.heap.size w2.heap.size 10 _ (some ([],false)) 0 w4 P4.out (NK.out w4 qD.out) (by decide) (by decide) (by have:=HC.out;omega))
   have YG:=aa (show (if 10≤pG aM x then (10:Int) else 0)=10 from by rw [HL.out];exact if_pos h10)
   obtain ⟨o5,q5⟩:∃z_,cQ aM aT x 10 ([],false)=z_:=⟨_,rfl⟩
   rw [show (some (([]:List UInt8),false):Option St).bind (cQ aM aT x 10)=o5 from q5] at Dq
   have Q5:=aa q5
   clear q5
   obtain ⟨n0,n1,n2,n3,n4,n5,n6,n7,n8⟩:=aj s5.out
   go_wp2_with fail
   refine Dq.out.mono ?_
   rintro e w5 ⟨rfl,p5,t5⟩
   clear n0 n1 n2 n3 n4 n5 n6 n7 n8
   have P5:=aa p5
   have iA:=aa (qD.out.trans t5.below)
   clear p5 t5 Dq
   cases o5 with
   |none=>
    obtain ⟨mK,mL,mM,_⟩:=P5.out.bW
    have HT:=aa (show kT (gC aM aT x) w (.returned (.tuple #[.string {data:=#[]},.bool false])) w5 from kT.none_ (xW 10 (by rw [M9.out];exact HD.out) YG.out Q5.out) iA.out _)
    go_wp2
    go_ret2
    exact HT.out
   |some st=>
    obtain ⟨mK,mL,mM,_⟩:=P5.out.cU
    obtain ⟨v,Kf,bad,hp,hl,he⟩:=P5.out.at_
    obtain rfl:st=Kf:=by cases bad<;>simp [jF] at he;exact he
    have SP:=aa (xV w2.heap.size w.heap.size v st bad w5 hp)
    have Co:st.1.length≤1000000:=by have:=HC.out;omega
    clear hp hl he
    go_wp2_with fail
    refine SP.out.mono ?_
    rintro e w6 ⟨rfl,bA⟩
    have nH:=aa (iA.out.trans bA)
    have LX:=aa (sM st.1 Co w6 (Z8.out w6 nH.out))
    obtain ⟨er,vN⟩:∃er,(eo st.1).2.2=er:=⟨_,rfl⟩
    rw [vN] at LX
    have HER:=aa vN
    clear vN bA mK mL mM
    go_wp2_with fail
    refine LX.out.mono ?_
    rintro e w7 ⟨v7,rfl,_,kz⟩
    have wQ:=aa (nH.out.trans (kz.mono nH.out.size))
    have HQ:=aa (CO 10 st (by rw [M9.out];exact HD.out) YG.out Q5.out)
    have HT:=aa (show kT (gC aM aT x) w (.returned (.tuple #[.string (ae st.1),.bool (er==0)])) w7 from by
     rw [HQ.out,HER.out]
     by_cases h0:er=0
     ·rw [if_pos h0];subst h0;exact ⟨_,rfl,fun t e=>by injection e with e;rw [e],wQ.out⟩
     ·rw [if_neg h0,show (er==0)=false from by simpa using h0];exact kT.none_ rfl wQ.out _)
    clear kz
    go_wp2
    go_ret2
    exact HT.out
  ·skip
   have Dq:=aa (show Calls Tryz.prog 45 #[.pointer (some ⟨w2.heap.size,0,none⟩),.agg #[.int .i64 kd,.int .i64 a0,.string (ae nm),.string (ae vl),.int .i64 xa,.int .i64 xb,.int .i64 xc,.int .i64 xd,.slice A len cap],.int .i64 0] w4 (ie w.heap.size w2.heap.size w4 ((some (([]:List UInt8),false):Option St).bind (cQ aM aT x 0)) (0+2000*aS x)) from OP.out w.heap.size w2.heap.size 0 _ (some ([],false)) 0 w4 P4.out (NK.out w4 qD.out) (by decide) (by decide) (by have:=HC.out;omega))
   have YG:=aa (show (if 10≤pG aM x then (10:Int) else 0)=0 from by rw [HL.out];exact if_neg h10)
   obtain ⟨o5,q5⟩:∃z_,cQ aM aT x 0 ([],false)=z_:=⟨_,rfl⟩
   rw [show (some (([]:List UInt8),false):Option St).bind (cQ aM aT x 0)=o5 from q5] at Dq
   have Q5:=aa q5
   clear q5
   obtain ⟨n0,n1,n2,n3,n4,n5,n6,n7,n8⟩:=aj s5.out
   go_wp2_with fail
   refine Dq.out.mono ?_
   rintro e w5 ⟨rfl,p5,t5⟩
   clear n0 n1 n2 n3 n4 n5 n6 n7 n8
   have P5:=aa p5
   have iA:=aa (qD.out.trans t5.below)
   clear p5 t5 Dq
   cases o5 with
   |none=>
    obtain ⟨mK,mL,mM,_⟩:=P5.out.bW
    have HT:=aa (show kT (gC aM aT x) w (.returned (.tuple #[.string {data:=#[]},.bool false])) w5 from kT.none_ (xW 0 (by rw [M9.out];exact HD.out) YG.out Q5.out) iA.out _)
    go_wp2
    go_ret2
    exact HT.out
   |some st=>
    obtain ⟨mK,mL,mM,_⟩:=P5.out.cU
    obtain ⟨v,Kf,bad,hp,hl,he⟩:=P5.out.at_
    obtain rfl:st=Kf:=by cases bad<;>simp [jF] at he;exact he
    have SP:=aa (xV w2.heap.size w.heap.size v st bad w5 hp)
    have Co:st.1.length≤1000000:=by have:=HC.out;omega
    clear hp hl he
    go_wp2_with fail
    refine SP.out.mono ?_
    rintro e w6 ⟨rfl,bA⟩
    have nH:=aa (iA.out.trans bA)
    have LX:=aa (sM st.1 Co w6 (Z8.out w6 nH.out))
    obtain ⟨er,vN⟩:∃er,(eo st.1).2.2=er:=⟨_,rfl⟩
    rw [vN] at LX
    have HER:=aa vN
    clear vN bA mK mL mM
    go_wp2_with fail
    refine LX.out.mono ?_
    rintro e w7 ⟨v7,rfl,_,kz⟩
    have wQ:=aa (nH.out.trans (kz.mono nH.out.size))
    have HQ:=aa (CO 0 st (by rw [M9.out];exact HD.out) YG.out Q5.out)
    have HT:=aa (show kT (gC aM aT x) w (.returned (.tuple #[.string (ae st.1),.bool (er==0)])) w7 from by
     rw [HQ.out,HER.out]
     by_cases h0:er=0
     ·rw [if_pos h0];subst h0;exact ⟨_,rfl,fun t e=>by injection e with e;rw [e],wQ.out⟩
     ·rw [if_neg h0,show (er==0)=false from by simpa using h0];exact kT.none_ rfl wQ.out _)
    clear kz
    go_wp2
    go_ret2
    exact HT.out
theorem xX (x:Nd) (hf:oD x) (hc:aS x≤500) (cs:List Value) (w:World) (aB:cG (fun c=>w.heap.size≤c) w x cs) (hg:Gl w):
 Calls Tryz.prog 13 #[.agg cs.toArray] w fun e w'=>e=.returned (.bool (gC aM aT x).isSome)∧Below w.heap.size w w':=by
 obtain ⟨kd,a0,nm,vl,xa,xb,xc,xd,A,len,cap,rfl⟩:=aB.nine
 obtain ⟨w1,hw1⟩:∃w1,w1=w.alloc (.cells (aw kd a0 nm vl xa xb xc xd (.slice A len cap)).toArray 25):=⟨_,rfl⟩
 have hb1:Below w.heap.size w w1:=by rw [hw1];exact (Below.refl _ w).alloc (Nat.le_refl _) _
 have M_:cG (fun c=>w1.heap.size≤c) w1 x _:=(aB.keeps (ra hb1 hb1.size)).mono (fun b hb=>Nat.le_trans hb1.size hb)
 have gG:=aa (show Row w1 w.heap.size 25 (aw kd a0 nm vl xa xb xc xd (.slice A len cap)).toArray from by rw [hw1];exact Row.new _ _ _)
 have TX:=aa (CP x hf hc _ w1 M_ (hg.below hb1))
 have fu:=aa hb1
 have dC:=aa hw1.symm
 clear aB M_ hw1 hb1 hg hf hc
 unfold aw at dC gG TX⊢
 generalize gC aM aT x=tx at*
 go_enter Tryz.func13,Tryz.ntmps13
 go_upto_region 1 with fail
 rw [dC.out]
 obtain ⟨n0,n1,n2,n3,n4,n5,n6,n7,n8⟩:=aj gG.out
 go_wp2_with fail
 refine TX.out.mono ?_
 rintro e w2 ⟨s,rfl,_,hb2⟩
 have iz:=aa (fu.out.trans (hb2.mono fu.out.size))
 clear hb2
 go_wp2
 go_ret
 exact ⟨rfl,iz.out⟩
theorem Fu (x:Nd) (hf:oD x) (hc:aS x≤500) (cs:List Value) (w:World) (aB:cG (fun c=>w.heap.size≤c) w x cs) (hg:Gl w):
 Calls Tryz.prog 12 #[.agg cs.toArray] w fun e w'=>e=.returned (.string (ae ((gC aM aT x).getD [])))∧Below w.heap.size w w':=by
 obtain ⟨kd,a0,nm,vl,xa,xb,xc,xd,A,len,cap,rfl⟩:=aB.nine
 obtain ⟨w1,hw1⟩:∃w1,w1=w.alloc (.cells (aw kd a0 nm vl xa xb xc xd (.slice A len cap)).toArray 25):=⟨_,rfl⟩
 have hb1:Below w.heap.size w w1:=by rw [hw1];exact (Below.refl _ w).alloc (Nat.le_refl _) _
 have M_:cG (fun c=>w1.heap.size≤c) w1 x _:=(aB.keeps (ra hb1 hb1.size)).mono (fun b hb=>Nat.le_trans hb1.size hb)
 have gG:=aa (show Row w1 w.heap.size 25 (aw kd a0 nm vl xa xb xc xd (.slice A len cap)).toArray from by rw [hw1];exact Row.new _ _ _)
 have TX:=aa (CP x hf hc _ w1 M_ (hg.below hb1))
 have fu:=aa hb1
 have dC:=aa hw1.symm
 clear aB M_ hw1 hb1 hg hf hc
 unfold aw at dC gG TX⊢
 generalize gC aM aT x=tx at*
 go_enter Tryz.func12,Tryz.ntmps12
 go_upto_region 1 with fail
 rw [dC.out]
 obtain ⟨n0,n1,n2,n3,n4,n5,n6,n7,n8⟩:=aj gG.out
 go_wp2_with fail
 refine TX.out.mono ?_
 rintro e w2 ⟨s,rfl,hs,hb2⟩
 have iz:=aa (fu.out.trans (hb2.mono fu.out.size))
 clear hb2
 cases tx with
 |none=>
  clear hs
  go_wp2
  go_ret
  exact ⟨rfl,iz.out⟩
 |some t=>
  obtain rfl:s=ae t:=hs t rfl
  clear hs
  go_wp2
  go_ret
  exact ⟨rfl,iz.out⟩
end Go.Proofs.YtddoehnkgcbboaaGreatDoor
namespace Go.Proofs.YtddoehnkgcbboaaGreatDoor
open Go.RowKit Go.Shelf
def lf (p:Int) (s:List UInt8):Nd:=.mk 1 p s [] 0 0 0 0 []
def aw1:List UInt8:=[97,38,98,61,61,99,124,124,33,100]
def Of:Nd:=.mk 30 6 [] [] 0 0 0 0 [.mk 19 3 [] [] 0 0 0 0 [.mk 9 1 [] [] 0 0 0 0 [lf 0 [97],lf 2 [98]],lf 5 [99]],.mk 28 8 [] [] 0 0 0 0 [lf 9 [100]]]
theorem JO (rd:List UInt8→Int×Int):lu false aw1 true rd=(Of,0,0):=by kernel_rfl
def aw2:List UInt8:=[114,105,115,101,40,114,101,113,41,32,45,62,32,91,49,44,32,53,93,32,119,104,105,108,101,32,98,117,115,121,32,114,105,115,101,40,97,99,107,41]
def Og:Nd:=.mk 45 10 [] [] 1 5 0 0 [.mk 37 0 [] [] 0 0 0 0 [lf 5 [114,101,113]],.mk 37 31 [] [] 0 0 0 0 [lf 36 [97,99,107]],lf 26 [98,117,115,121]]
theorem JP (rd:List UInt8→Int×Int):lu true aw2 true rd=(Og,0,0):=by kernel_rfl
theorem Na (sg:List UInt8→Int) (ng:List UInt8→List UInt8):gC sg ng Of=some [97,32,38,32,98,32,61,61,32,99,32,124,124,32,33,100]:=by kernel_rfl
theorem Nb (sg:List UInt8→Int) (ng:List UInt8→List UInt8):(gC sg ng Og).isSome=true:=by kernel_rfl
theorem Nc (sg:List UInt8→Int) (ng:List UInt8→List UInt8):gC sg ng jy=none:=by kernel_rfl
end Go.Proofs.YtddoehnkgcbboaaGreatDoor
namespace Go.Proofs.YtddoehnkgcbboaaGreatDoor
open Go.RowKit Go.Shelf Go.Maps
theorem cG.low {C:Nat→Prop} {W:World} {n:Nd} {cs:List Value} (h:cG C W n cs):cG (fun c=>W.heap.size≤c) W n cs:=by
 induction h with
 |mk kind aJ name value a b c d ks A cap bF hl _ hr cI ih=>
  refine .mk _ _ _ _ _ _ _ _ _ _ _ bF hl ih (fun hp=>?_) cI
  obtain ⟨b,off,rfl,Xk,hz,hat⟩:=hr hp
  exact ⟨b,off,rfl,Nat.not_le_of_lt hz,hz,hat⟩
theorem cG.top {C:Nat→Prop} {W:World} {kd a0 xa xb xc xd:Int} {nm vl:List UInt8} {ks:List Nd} {cs:List Value} (h:cG C W (.mk kd a0 nm vl xa xb xc xd ks) cs):
 ∃A cap,cs=aw kd a0 nm vl xa xb xc xd (.slice A ks.length cap):=by
 cases h with
 |mk _ _ _ _ _ _ _ _ _ A cap bF hl hk hr cI=>exact ⟨A,cap,rfl⟩
def ve (n:Int):Bool:=decide (-9223372036854775808≤n)&&decide (n≤9223372036854775807)
theorem mN {n:Int} (h:ve n=true):dr n:=by
 unfold ve at h
 rw [Bool.and_eq_true,decide_eq_true_eq,decide_eq_true_eq] at h
 exact h
theorem Fv:aS Of≤500∧aS Og≤500∧aS jy≤500:=by
 have h1:aS Of=8:=by kernel_rfl
 have h2:aS Og=6:=by kernel_rfl
 have h3:aS jy=1:=by kernel_rfl
 omega
def Uz (kd:Int):Bool:=decide (kd=0)||(decide (kd=1)||(decide (kd=28)||(decide (kd=45)||(decide (kd=9)||(decide (kd=19)||(decide (kd=30)||decide (kd=37)))))))
theorem Qv {kd:Int} (h:Uz kd=true):YE kd:=by
 unfold Uz at h
 simp only [Bool.or_eq_true,decide_eq_true_eq] at h
 exact h
mutual
def Nf:Nd→Bool
 |.mk kd _ nm v a b c d ks=>ve kd&&(ve a&&(ve b&&(ve c&&(ve d&&(decide (nm.length≤200)&&(decide (v.length≤200)&&(decide (ks.length≤400)&&(zT ks&&Uz kd))))))))
def zT:List Nd→Bool
 |[]=>true
 |n::r=>Nf n&&zT r
end
mutual
theorem pV:∀x:Nd,Nf x=true→oD x
 |.mk kd a0 nm v a b c d ks,h=>by
  rw [Nf] at h
  simp only [Bool.and_eq_true,decide_eq_true_eq] at h
  obtain ⟨h1,h2,h3,h4,h5,h6,h7,h8,h9,h10⟩:=h
  rw [oD]
  exact ⟨⟨mN h1,mN h2,mN h3,mN h4,mN h5,h6,h7⟩,h8,xY ks h9,Qv h10⟩
theorem xY:∀ks:List Nd,zT ks=true→jV ks
 |[],_=>by rw [jV];trivial
 |x::r,h=>by
  rw [zT,Bool.and_eq_true] at h
  rw [jV]
  exact ⟨pV x h.1,xY r h.2⟩
end
theorem Ng:oD Of:=pV _ (by kernel_rfl)
theorem Nh:oD Og:=pV _ (by kernel_rfl)
theorem Ni:oD jy:=pV _ (by kernel_rfl)
end Go.Proofs.YtddoehnkgcbboaaGreatDoor
namespace Go.Proofs.YtddoehnkgcbboaaGreatDoor
open Go.RowKit Go.Shelf
theorem bQ.zero {p:PS} {f:FuncId} {r:Nat→PR Nd}:bQ p f r 0:=fun k W hF h=>by
 have:=h.le
 omega
theorem GS (p:PS) (mA:sq p):∀F:Nat,bQ p 17 (cV p.L p.en (bX p) F).cond F∧bQ p 50 (cV p.L p.en (bX p) F).ng F∧bQ p 127 (cV p.L p.en (bX p) F).dm F∧bQ p 249 (cV p.L p.en (bX p) F).un F
 |0=>⟨.zero,.zero,.zero,.zero⟩
 |F+1=>by
  obtain ⟨h1,h2,h3,h4⟩:=GS p mA F
  have P:=cE (L:=p.L) (en:=p.en) (rd:=bX p) F
  have pr:=Cs p F _ _ h1 h3 P.cond P.dm
  have ppr:=ot (L:=p.L) (en:=p.en) (rd:=bX p) P.cond P.dm
  have un:=JC p F _ _ mA h4 pr
  have pun:=BI (L:=p.L) (en:=p.en) P.un ppr
  have sm:=Pd p (F+1) _ un pun
  have psm:=bb (L:=p.L) (en:=p.en) (ops:=yU) pun
  have ba:=EM p (F+1) _ sm psm
  have pba:=bb (L:=p.L) (en:=p.en) (ops:=Bx) psm
  have bx:=EN p (F+1) _ ba pba
  have pbx:=bb (L:=p.L) (en:=p.en) (ops:=ED) pba
  have bo:=I6 p (F+1) _ bx pbx
  have pbo:=bb (L:=p.L) (en:=p.en) (ops:=Vi) pbx
  have cm:=uB p (F+1) _ bo pbo
  have pcm:=qL (L:=p.L) (en:=p.en) pbo
  have ng:=zh p F _ _ h2 cm
  have png:=xk (L:=p.L) (en:=p.en) P.ng pcm
  have bt:=Mf p (F+1) _ ng png
  have pbt:=bb (L:=p.L) (en:=p.en) (ops:=uh) png
  have cd:=vT p (F+1) _ bt pbt
  exact ⟨cd,ng,bo,un⟩
theorem pW (p:PS) (mA:sq p) (k:Nat) (W:World) (h:bc p W k):Calls Tryz.prog 17 #[.pointer (some ⟨p.b,0,none⟩)] W (bO p W (nh W.heap.size) (cM p.L p.en (bX p) k)):=
 (GS p mA (p.L.length+1)).1 k W (by omega) h
end Go.Proofs.YtddoehnkgcbboaaGreatDoor
namespace Go.Proofs.YtddoehnkgcbboaaGreatDoor
open Go.RowKit Go.Shelf Go.Maps
def dP (p:PS) (k:Nat):PR (Int×Int):=fY p.L p.en (bX p) k fun a b k6=>.ok (a,b) k6
theorem PR.bind_assoc' {α β γ:Type} (x:PR α) (f:α→Nat→PR β) (g:β→Nat→PR γ):(x.bind f).bind g=x.bind fun a k=>(f a k).bind g:=by cases x<;>rfl
theorem vg (p:PS) {α:Type} (k:Nat) (f:Int→Int→Nat→PR α):fY p.L p.en (bX p) k f=(dP p k).bind fun ab k6=>f ab.1 ab.2 k6:=by
 unfold dP fY
 simp only [PR.bind_assoc']
 rfl
def aa_ (_:World) (ab:Int×Int) (v:Value):Prop:=v=.tuple #[.int .i64 ab.1,.int .i64 ab.2]
theorem xZ (p:PS) (k:Nat) (w:World) (h:bc p w k):
 Calls Tryz.prog 66 #[.pointer (some ⟨p.b,0,none⟩)] w (bO p w aa_ (dP p k)):=by
 have EX:=aa (fun (k:Nat) (wd:List UInt8) (W:World) (h:bc p W k)=>eK p k wd W h)
 have TM:=aa (fun (k:Nat) (W:World) (h:bc p W k)=>Ci p k W h)
 have X1:=aa (EX.out k [91] w h)
 obtain ⟨RR,jC⟩:∃RR,dP p k=RR:=⟨_,rfl⟩
 rw [jC]
 have Ag:=aa (show RR=(ah p.L p.en k fh).bind fun _ k1=>(aP p.L p.en (bX p) k1).bind fun a k2=>(ah p.L p.en k2 au).bind fun _ k3=>(aP p.L p.en (bX p) k3).bind fun b k4=>(ah p.L p.en k4 dU).bind fun _ k5=>.ok (a,b) k5 from jC.symm)
 clear jC h
 go_enter Tryz.func66,Tryz.ntmps66
 cases hD:ah p.L p.en k [91] with
 |err a er=>
  rw [hD] at X1
  have HE:=aa (show RR=.err a er from by rw [Ag.out,show ah p.L p.en k fh=.err a er from hD];rfl)
  clear hD
  go_wp2_with fail
  refine X1.out.mono ?_
  rintro e nE ⟨rfl,bK⟩
  go_wp2
  exact ⟨rfl,by rw [HE.out];exact ⟨rfl,(af.refl (fun c=>c=p.b) w).trans bK⟩⟩
 |ok u1 k1=>
  rw [hD] at X1
  have fB:=aa (show RR=(aP p.L p.en (bX p) k1).bind fun a k2=>(ah p.L p.en k2 au).bind fun _ k3=>(aP p.L p.en (bX p) k3).bind fun b k4=>(ah p.L p.en k4 dU).bind fun _ k5=>.ok (a,b) k5 from by rw [Ag.out,show ah p.L p.en k fh=.ok u1 k1 from hD];rfl)
  clear hD Ag
  go_wp2_with fail
  refine X1.out.mono ?_
  rintro e W1 ⟨⟨v,rfl,rfl⟩,h1,fo⟩
  have Lh:=aa ((af.refl (fun c=>c=p.b) w).trans fo)
  have X2:=aa (TM.out k1 W1 h1)
  clear h1 fo
  cases hD:aP p.L p.en (bX p) k1 with
  |err a er=>
   rw [hD] at X2
   have HE:=aa (show RR=.err a er from by rw [fB.out,show aP p.L p.en (bX p) k1=.err a er from hD];rfl)
   clear hD
   go_wp2_with fail
   refine X2.out.mono ?_
   rintro e nE ⟨rfl,bK⟩
   go_wp2
   exact ⟨rfl,by rw [HE.out];exact ⟨rfl,Lh.out.trans bK⟩⟩
  |ok a k2=>
   rw [hD] at X2
   have fP:=aa (show RR=(ah p.L p.en k2 au).bind fun _ k3=>(aP p.L p.en (bX p) k3).bind fun b k4=>(ah p.L p.en k4 dU).bind fun _ k5=>.ok (a,b) k5 from by rw [fB.out,show aP p.L p.en (bX p) k1=.ok a k2 from hD];rfl)
   clear hD fB
   go_wp2_with fail
   refine X2.out.mono ?_
   rintro e W2 ⟨⟨v,rfl,rfl⟩,h2,hk2⟩
   have Ac:=aa (Lh.out.trans hk2)
   have X3:=aa (EX.out k2 [44] W2 h2)
   clear h2 hk2
   cases hD:ah p.L p.en k2 [44] with
   |err a er=>
    rw [hD] at X3
    have HE:=aa (show RR=.err a er from by rw [fP.out,show ah p.L p.en k2 au=.err a er from hD];rfl)
    clear hD
    go_wp2_with fail
    refine X3.out.mono ?_
    rintro e nE ⟨rfl,bK⟩
    go_wp2
    exact ⟨rfl,by rw [HE.out];exact ⟨rfl,Ac.out.trans bK⟩⟩
   |ok u3 k3=>
    rw [hD] at X3
    have gq:=aa (show RR=(aP p.L p.en (bX p) k3).bind fun b k4=>(ah p.L p.en k4 dU).bind fun _ k5=>.ok (a,b) k5 from by rw [fP.out,show ah p.L p.en k2 au=.ok u3 k3 from hD];rfl)
    clear hD fP
    go_wp2_with fail
    refine X3.out.mono ?_
    rintro e W3 ⟨⟨v,rfl,rfl⟩,h3,hk3⟩
    have Kc:=aa (Ac.out.trans hk3)
    have X4:=aa (TM.out k3 W3 h3)
    clear h3 hk3
    cases hD:aP p.L p.en (bX p) k3 with
    |err a er=>
     rw [hD] at X4
     have HE:=aa (show RR=.err a er from by rw [gq.out,show aP p.L p.en (bX p) k3=.err a er from hD];rfl)
     clear hD
     go_wp2_with fail
     refine X4.out.mono ?_
     rintro e nE ⟨rfl,bK⟩
     go_wp2
     exact ⟨rfl,by rw [HE.out];exact ⟨rfl,Kc.out.trans bK⟩⟩
    |ok b k4=>
     rw [hD] at X4
     have su:=aa (show RR=(ah p.L p.en k4 dU).bind fun _ k5=>.ok (a,b) k5 from by rw [gq.out,show aP p.L p.en (bX p) k3=.ok b k4 from hD];rfl)
     clear hD gq
     go_wp2_with fail
     refine X4.out.mono ?_
     rintro e W4 ⟨⟨v,rfl,rfl⟩,h4,hk4⟩
     have ZS:=aa (Kc.out.trans hk4)
     have X5:=aa (EX.out k4 [93] W4 h4)
     clear h4 hk4
     cases hD:ah p.L p.en k4 [93] with
     |err a er=>
      rw [hD] at X5
      have HE:=aa (show RR=.err a er from by rw [su.out,show ah p.L p.en k4 dU=.err a er from hD];rfl)
      clear hD
      go_wp2_with fail
      refine X5.out.mono ?_
      rintro e nE ⟨rfl,bK⟩
      go_wp2
      exact ⟨rfl,by rw [HE.out];exact ⟨rfl,ZS.out.trans bK⟩⟩
     |ok u5 k5=>
      rw [hD] at X5
      have sW:=aa (show RR=.ok (a,b) k5 from by rw [su.out,show ah p.L p.en k4 dU=.ok u5 k5 from hD];rfl)
      clear hD su
      go_wp2_with fail
      refine X5.out.mono ?_
      rintro e W5 ⟨⟨v,rfl,rfl⟩,h5,hk5⟩
      have uw:=aa (ZS.out.trans hk5)
      go_wp2
      go_ret2
      rw [sW.out]
      exact ⟨⟨_,rfl,rfl⟩,h5,uw.out⟩
def VL (B:Nat) (W:World) (l:List Nd) (v:Value):Prop:=(l=[]∧v=.slice none 0 0)∨∃c gs cs,l=[c]∧v=.slice (some ⟨gs,0,none⟩) 1 1∧B≤gs∧Row W gs 25 cs.toArray∧cG (fun b=>b<B∨b=gs) W c cs
theorem x9 (p:PS) (mA:sq p) (k:Nat) (w:World) (h:bc p w k):
 Calls Tryz.prog 67 #[.pointer (some ⟨p.b,0,none⟩)] w (bO p w (VL w.heap.size) (cF p.L (cM p.L p.en (bX p)) k)):=by
 have AC:=aa (cR p k [119,104,105,108,101] w h)
 have HC:=aa (fun (W:World) (h:bc p W (k+1))=>pW p mA (k+1) W h)
 unfold cF
 have e:oo=[119,104,105,108,101]:=rfl
 rw [e]
 clear h e
 cases hI:bH p.L k [119,104,105,108,101] with
 |false=>
  rw [hI] at AC
  rw [if_neg (by decide)]
  clear hI
  go_enter Tryz.func67,Tryz.ntmps67
  go_wp2_with fail
  refine AC.out.mono ?_
  rintro e w1 ⟨rfl,h1,fo⟩
  go_wp2
  go_ret
  exact ⟨⟨_,rfl,.inl ⟨rfl,rfl⟩⟩,h1,fo⟩
 |true=>
  rw [hI] at AC
  rw [if_pos rfl]
  clear hI
  cases hx:cM p.L p.en (bX p) (k+1) with
  |err a er=>
   rw [hx] at HC
   show Calls _ _ _ _ (bO p w (VL w.heap.size) (.err a er))
   clear hx
   go_enter Tryz.func67,Tryz.ntmps67
   go_wp2_with fail
   refine AC.out.mono ?_
   rintro e w1 ⟨rfl,h1,fo⟩
   have X:=aa (HC.out w1 h1)
   have Lh:=aa fo
   clear h1 fo
   go_wp2_with fail
   refine X.out.mono ?_
   rintro e w2 ⟨rfl,hk2⟩
   go_wp2
   exact ⟨rfl,rfl,Lh.out.trans hk2⟩
  |ok c k'=>
   rw [hx] at HC
   show Calls _ _ _ _ (bO p w (VL w.heap.size) (.ok [c] k'))
   clear hx
   go_enter Tryz.func67,Tryz.ntmps67
   go_wp2_with fail
   refine AC.out.mono ?_
   rintro e w1 ⟨rfl,h1,fo⟩
   have X:=aa (HC.out w1 h1)
   have Lh:=aa fo
   have hz1:=fo.size
   clear h1 fo
   go_wp2_with fail
   refine X.out.mono ?_
   rintro e w2 ⟨⟨v,rfl,cs,rfl,aB⟩,h2,hk2⟩
   have hz2:=hk2.size
   obtain ⟨kd,a0,nm,vl,xa,xb,xc,xd,A,len,cap,rfl⟩:=aB.nine
   have cN:=aa aB
   have Ac:=aa (Lh.out.trans hk2)
   have H2:=aa h2
   clear aB h2 hk2
   unfold aw
   go_wp2
   go_ret
   have hb:Below w2.heap.size w2 (w2.alloc (.cells (aw kd a0 nm vl xa xb xc xd (.slice A len cap)).toArray 25)):=(Below.refl _ _).alloc (Nat.le_refl _) _
   exact ⟨⟨_,rfl,.inr ⟨c,w2.heap.size,_,rfl,rfl,by omega,Row.new w2 _ _,(cN.out.ge hb).mono (fun b hb=>by
    rcases hb with hb|rfl
    ·exact .inl (by omega)
    ·exact .inr (Nat.le_refl _))⟩⟩,H2.out.below hb,Ac.out.trans (af.of_below hb (Nat.le_refl _))⟩
theorem JQ (p:PS) (mA:sq p) (k:Nat) (w:World) (h:bc p w k):
 Calls Tryz.prog 137 #[.pointer (some ⟨p.b,0,none⟩)] w (bO p w (nh w.heap.size) (kh p.L p.en (cM p.L p.en (bX p)) k)):=by
 have aN:p.b<w.heap.size:=h.row.lt
 have hb0:Below w.heap.size w (w.alloc (.cells bJ 25)):=(Below.refl _ _).alloc (Nat.le_refl _) _
 have fO:Row (w.alloc (.cells bJ 25)) w.heap.size 25 bJ:=Row.new _ _ _
 have Rv:=aa (dZ p k _ (h.below hb0))
 have AC:=aa (fun (k:Nat) (wd:List UInt8) (W:World) (h:bc p W k)=>cR p k wd W h)
 have EX:=aa (fun (k:Nat) (wd:List UInt8) (W:World) (h:bc p W k)=>eK p k wd W h)
 have TK:=aa (fun (k:Nat) (W:World) (h:bc p W k)=>mz p k 0 W h)
 obtain ⟨cond,Ki⟩:∃c,cM p.L p.en (bX p)=c:=⟨_,rfl⟩
 have HC:=aa (fun (k':Nat) (W:World) (hk:k+1≤k') (h:bc p W k')=>show Calls Tryz.prog 17 #[.pointer (some ⟨p.b,0,none⟩)] W (bO p W (nh W.heap.size) (cond k')) from by rw [←Ki];exact pW p mA k' W h)
 have H:=aa h
 have H0:=aa (show pT p w (w.alloc (.cells bJ 25)) k from ⟨h.below hb0,af.of_below hb0 (Nat.le_refl _),fO⟩)
 rw [Ki]
 obtain ⟨RR,jC⟩:∃RR,kh p.L p.en cond k=RR:=⟨_,rfl⟩
 rw [jC]
 generalize hpl:dy p.L p.en k=pl at Rv
 have Ag:=aa (show RR=if bH p.L k m_ then (ah p.L p.en (k+1) cj).bind fun _ k1=>if bT p.L k1 0 then (ah p.L p.en (k1+1) ay).bind fun _ k2=>.ok (.mk 42 pl [] [] 0 0 0 0 [.mk 1 (dy p.L p.en k1) (fX p.L k1) [] 0 0 0 0 []]) k2 else fj p.L p.en k1
  else match iO p.L b_ k with
   |some q=>(ah p.L p.en (k+1) cj).bind fun _ k1=>(cond k1).bind fun x k2=>(ah p.L p.en k2 ay).bind fun _ k3=>.ok (.mk q pl [] [] 0 0 0 0 [x]) k3
   |none=>fj p.L p.en k from by rw [←jC,←hpl];rfl)
 clear h hb0 fO jC hpl Ki
 go_enter Tryz.func137,Tryz.ntmps137
 go_wp2_with fail
 refine Rv.out.mono ?_
 rintro e w1 ⟨rfl,hb1⟩
 have H1:=aa (H0.out.below aN hb1)
 clear hb1
 have vt:=aa (AC.out k [111,99,99,117,114,115] w1 H1.out.at_)
 cases hI:bH p.L k [111,99,99,117,114,115] with
 |true=>
  rw [hI] at vt
  have fB:=aa (show RR=(ah p.L p.en (k+1) cj).bind fun _ k1=>if bT p.L k1 0 then (ah p.L p.en (k1+1) ay).bind fun _ k2=>.ok (.mk 42 pl [] [] 0 0 0 0 [.mk 1 (dy p.L p.en k1) (fX p.L k1) [] 0 0 0 0 []]) k2 else fj p.L p.en k1 from by rw [Ag.out,if_pos (show bH p.L k m_=true from hI)])
  clear hI Ag
  go_wp2_with fail
  refine vt.out.mono ?_
  rintro e W2 ⟨rfl,h2,hk2⟩
  have H2:=aa (H1.out.keep aN h2 hk2)
  clear h2 hk2
  have GN:=aa (EX.out (k+1) [40] W2 H2.out.at_)
  cases hD:ah p.L p.en (k+1) [40] with
  |err a er=>
   rw [hD] at GN
   have HE:=aa (show RR=.err a er from by rw [fB.out,show ah p.L p.en (k+1) cj=.err a er from hD];rfl)
   clear hD
   go_wp2_with fail
   refine GN.out.mono ?_
   rintro e nE ⟨rfl,bK⟩
   go_wp2
   exact ⟨rfl,by rw [HE.out];exact ⟨rfl,H2.out.keeps.trans bK⟩⟩
  |ok u1 k1=>
   rw [hD] at GN
   have fP:=aa (show RR=if bT p.L k1 0 then (ah p.L p.en (k1+1) ay).bind fun _ k2=>.ok (.mk 42 pl [] [] 0 0 0 0 [.mk 1 (dy p.L p.en k1) (fX p.L k1) [] 0 0 0 0 []]) k2 else fj p.L p.en k1 from by rw [fB.out,show ah p.L p.en (k+1) cj=.ok u1 k1 from hD];rfl)
   clear hD fB
   go_wp2_with fail
   refine GN.out.mono ?_
   rintro e W3 ⟨⟨v,rfl,rfl⟩,h3,hk3⟩
   have H3:=aa (H2.out.keep aN h3 hk3)
   clear h3 hk3
   have Ry:=aa (TK.out k1 W3 H3.out.at_)
   cases hk:bT p.L k1 0 with
   |false=>
    rw [pI hk] at Ry
    have HE:=aa (show RR=.err (dy p.L p.en k1) 3 from by rw [fP.out,if_neg (by rw [hk];decide)];rfl)
    clear hk
    go_wp2_with fail
    refine Ry.out.mono ?_
    rintro e nE ⟨rfl,bK⟩
    go_wp2
    exact ⟨rfl,by rw [HE.out];exact ⟨rfl,H3.out.keeps.trans bK⟩⟩
   |true=>
    rw [ia hk] at Ry
    have hlt:=dc hk
    have gq:=aa (show RR=(ah p.L p.en (k1+1) ay).bind fun _ k2=>.ok (.mk 42 pl [] [] 0 0 0 0 [.mk 1 ((p.L[k1]'hlt).aJ:Int) (p.L[k1]'hlt).text [] 0 0 0 0 []]) k2 from by rw [fP.out,if_pos hk,Fe hlt,yX hlt])
    generalize p.L[k1]'_=x at gq Ry
    clear hk fP hlt
    go_wp2_with fail
    refine Ry.out.mono ?_
    rintro e W4 ⟨⟨v,rfl,rfl⟩,h4,hk4⟩
    have hp4:=H3.out.keep aN h4 hk4
    have lV:=Row.new W4 66 #[.int .i64 x.kind,.string (ae x.text),.int .i64 (x.aJ:Int)]
    have hb5:Below W4.heap.size W4 (W4.alloc (.cells #[.int .i64 x.kind,.string (ae x.text),.int .i64 (x.aJ:Int)] 66)):=(Below.refl _ W4).alloc (Nat.le_refl _) _
    generalize pA:W4.alloc (.cells #[.int .i64 x.kind,.string (ae x.text),.int .i64 (x.aJ:Int)] 66)=W5 at lV hb5
    have H5:=aa (hp4.below aN hb5)
    have Il:=aa lV
    have VE:=hp4.lt
    have zt:=aa (EX.out (k1+1) [41] W5 H5.out.at_)
    clear h4 hk4 hp4 lV hb5
    cases hD:ah p.L p.en (k1+1) [41] with
    |err a er=>
     rw [hD] at zt
     have HE:=aa (show RR=.err a er from by rw [gq.out,show ah p.L p.en (k1+1) ay=.err a er from hD];rfl)
     clear hD
     go_wp2_with fail
     refine zt.out.mono ?_
     rintro e nE ⟨rfl,bK⟩
     go_wp2
     exact ⟨rfl,by rw [HE.out];exact ⟨rfl,H5.out.keeps.trans bK⟩⟩
    |ok u k2=>
     rw [hD] at zt
     have HE:=aa (show RR=.ok (.mk 42 pl [] [] 0 0 0 0 [.mk 1 (x.aJ:Int) x.text [] 0 0 0 0 []]) k2 from by rw [gq.out,show ah p.L p.en (k1+1) ay=.ok u k2 from hD];rfl)
     clear hD gq
     go_wp2_with fail
     refine zt.out.mono ?_
     rintro e W8 ⟨⟨v,rfl,rfl⟩,h8,Kb⟩
     have H8:=aa (H5.out.keep aN h8 Kb)
     have oB:=Il.out.keep Kb (by show¬W4.heap.size=p.b;omega)
     have g1:W8.cell? ⟨W4.heap.size,1,none⟩=some (.string (ae x.text)):=oB.cell 1
     have g2:W8.cell? ⟨W4.heap.size,2,none⟩=some (.int .i64 (x.aJ:Int)):=oB.cell 2
     clear pA h8 Kb oB
     have hz8:=H8.out.lt
     have Z9:=H8.out.res.alloc (.cells [aw 1 (x.aJ:Int) x.text [] 0 0 0 0 (.slice none 0 0)].flatten.toArray 25)
     have gW:Below W8.heap.size W8 (W8.alloc (.cells [aw 1 (x.aJ:Int) x.text [] 0 0 0 0 (.slice none 0 0)].flatten.toArray 25)):=(Below.refl _ _).alloc (Nat.le_refl _) _
     generalize qV:W8.alloc (.cells [aw 1 (x.aJ:Int) x.text [] 0 0 0 0 (.slice none 0 0)].flatten.toArray 25)=W9 at Z9 gW
     have ab9:W8.alloc (.cells #[.int .i64 1,.int .i64 (x.aJ:Int),.string (ae x.text),.string {data:=#[]},.int .i64 0,.int .i64 0,.int .i64 0,.int .i64 0,.slice none 0 0] 25)=W9:=qV
     have NK:=aa (zg (B:=W8.heap.size) (cG.leaf _ W8 1 (x.aJ:Int) x.text [] 0 0 0 0 none 0) hz8 (Nat.le_refl _) qV.symm 42 pl 0 0 0 0 [] [] 1)
     obtain ⟨e0,e1,e2,e3,e4,e5,e6,e7,e8⟩:=aj Z9
     obtain ⟨Gr,Gs,EO,Gt,Gu,Gv,Gw,Gx,Gy⟩:=aA Z9
     clear qV
     go_wp2_with fail
     refine bodyPost_ret (v:=.agg #[.int .i64 42,.int .i64 pl,.string {data:=#[]},.string {data:=#[]},.int .i64 0,.int .i64 0,.int .i64 0,.int .i64 0,.slice (some ⟨W8.heap.size,0,none⟩) 1 1]) (ag rfl _ _ w.heap.size 25 _ _ _ rfl (av Z9 _ _ _ _ _ _ _ _ _) Tryz.underlying25 rfl (by kernel_rfl)) rfl ?_
     have hbl:=ak (W:=W9) (Nat.le_refl w.heap.size) (.int .i64 42) (.int .i64 pl) (.string {data:=#[]}) (.string {data:=#[]}) (.int .i64 0) (.int .i64 0) (.int .i64 0) (.int .i64 0) (.slice (some ⟨W8.heap.size,0,none⟩) 1 1)
     rw [HE.out]
     exact ⟨⟨_,rfl,NK.out⟩,H.out.above (H8.out.at_.below gW) hbl,(H8.out.keeps.trans (af.of_below gW (Nat.le_refl _))).over hbl⟩
 |false=>
  rw [hI] at vt
  have fB:=aa (show RR=(match iO p.L b_ k with
   |some q=>(ah p.L p.en (k+1) cj).bind fun _ k1=>(cond k1).bind fun x k2=>(ah p.L p.en k2 ay).bind fun _ k3=>.ok (.mk q pl [] [] 0 0 0 0 [x]) k3
   |none=>fj p.L p.en k) from by rw [Ag.out,if_neg (show¬bH p.L k m_=true from by rw [show bH p.L k m_=false from hI];decide)])
  clear hI Ag
  go_wp2_with fail
  refine vt.out.mono ?_
  rintro e vP ⟨rfl,h2,hk2⟩
  have sB:=aa (H1.out.keep aN (show bc p vP k from h2) hk2)
  clear h2 hk2
  have Fl:=aa (fun (W:World) (bm:Nat) (h:bc p W k) (hm:iU W bm b_) (hb:bm≠p.b)=>fZ p k bm b_ W h hm hb (by unfold cD;decide))
  have Qh:=aa (fG vP)
  cases hO:iO p.L b_ k with
  |some q=>
   obtain ⟨⟨o,ho,Gp⟩,hlt⟩:=pJ hO
   have zZ:(q==0)=false:=by
    have h1:∀o∈b_,(o.2==0)=false:=by decide
    rw [←Gp];exact h1 o ho
   have nG:=aa (show RR=(ah p.L p.en (k+1) cj).bind fun _ k1=>(cond k1).bind fun x k2=>(ah p.L p.en k2 ay).bind fun _ k3=>.ok (.mk q pl [] [] 0 0 0 0 [x]) k3 from by rw [fB.out,hO])
   have hE:rL p.L p.en b_ k=.returned (.tuple #[.int .i64 q,.int .i64 (dy p.L p.en k)]):=by unfold rL;rw [hO]
   have hN:rM p.L b_ k=k+1:=by unfold rM;rw [hO]
   rw [hE,hN] at Fl
   clear hE hN
   clear hO ho Gp
   go_wp2_with fail
   refine Qh.out.mono ?_
   rintro e NY ⟨rfl,mH,mI⟩
   have uV:=aa (sB.out.below aN mI)
   have Kh:=aa (Fl.out NY _ uV.out.at_ mH (by have:=sB.out.at_.row.lt;omega))
   clear mH mI
   go_wp2_with fail
   refine Kh.out.mono ?_
   rintro e J' ⟨rfl,uW,mJ⟩
   have oC:=aa (uV.out.keep aN uW mJ)
   clear uW mJ
   have GN:=aa (EX.out (k+1) [40] J' oC.out.at_)
   cases hD:ah p.L p.en (k+1) [40] with
   |err a er=>
    rw [hD] at GN
    have HE:=aa (show RR=.err a er from by rw [nG.out,show ah p.L p.en (k+1) cj=.err a er from hD];rfl)
    clear hD
    go_wp2_with fail
    refine GN.out.mono ?_
    rintro e nE ⟨rfl,bK⟩
    go_wp2
    exact ⟨rfl,by rw [HE.out];exact ⟨rfl,oC.out.keeps.trans bK⟩⟩
   |ok u1 k1=>
    rw [hD] at GN
    have aa4:=Fh hD
    have mX:=aa (show RR=(cond k1).bind fun x k2=>(ah p.L p.en k2 ay).bind fun _ k3=>.ok (.mk q pl [] [] 0 0 0 0 [x]) k3 from by rw [nG.out,show ah p.L p.en (k+1) cj=.ok u1 k1 from hD];rfl)
    clear hD nG
    go_wp2_with fail
    refine GN.out.mono ?_
    rintro e Rx ⟨⟨v,rfl,rfl⟩,Yt,Cj⟩
    have kp:=aa (oC.out.keep aN Yt Cj)
    clear Yt Cj
    have X:=aa (HC.out k1 Rx (by omega) kp.out.at_)
    cases hx:cond k1 with
    |err a er=>
     rw [hx] at X
     have HE:=aa (show RR=.err a er from by rw [mX.out,hx];rfl)
     clear hx
     go_wp2_with fail
     refine X.out.mono ?_
     rintro e nE ⟨rfl,bK⟩
     go_wp2
     exact ⟨rfl,by rw [HE.out];exact ⟨rfl,kp.out.keeps.trans bK⟩⟩
    |ok x k2=>
     rw [hx] at X
     have Dl:=aa (show RR=(ah p.L p.en k2 ay).bind fun _ k3=>.ok (.mk q pl [] [] 0 0 0 0 [x]) k3 from by rw [mX.out,hx];rfl)
     clear hx mX
     go_wp2_with fail
     refine X.out.mono ?_
     rintro e w3 ⟨⟨v,rfl,cs,rfl,aB⟩,h3,hk3⟩
     have hr3:Row w3 w.heap.size 25 bJ:=kp.out.res.keep hk3 (by show¬w.heap.size=p.b;omega)
     obtain ⟨kd,a0,nm,vl,xa,xb,xc,xd,A,len,cap,rfl⟩:=aB.nine
     generalize jA:w3.alloc (.cells [aw kd a0 nm vl xa xb xc xd (.slice A len cap)].flatten.toArray 25)=W4
     have s4:W4.heap.size=w3.heap.size+1:=by rw [←jA,World.size_alloc]
     generalize pA:W4.alloc (.cells (aw q pl [] [] 0 0 0 0 (.slice (some ⟨w3.heap.size,0,none⟩) 1 1)).toArray 25)=W5
     have kX:=kj.new h3 (kp.out.keeps.trans hk3) hr3 aB kp.out.lt jA.symm pA.symm
     rw [←s4] at kX
     have PD:=aa kX
     have lB:w3.alloc (.cells #[.int .i64 kd,.int .i64 a0,.string (ae nm),.string (ae vl),.int .i64 xa,.int .i64 xb,.int .i64 xc,.int .i64 xd,.slice A len cap] 25)=W4:=jA
     have zr:W4.alloc (.cells #[.int .i64 q,.int .i64 pl,.string {data:=#[]},.string {data:=#[]},.int .i64 0,.int .i64 0,.int .i64 0,.int .i64 0,.slice (some ⟨w3.heap.size,0,none⟩) 1 1] 25)=W5:=pA
     have hg:w.heap.size<W4.heap.size:=by have:=hr3.lt;omega
     clear h3 hk3 hr3 aB kX jA pA s4
     unfold aw
     have uT:=aa PD.out.lf
     have zt:=aa (EX.out k2 [41] W5 uT.out.at_)
     cases hD:ah p.L p.en k2 [41] with
     |err a er=>
      rw [hD] at zt
      have HE:=aa (show RR=.err a er from by rw [Dl.out,show ah p.L p.en k2 ay=.err a er from hD];rfl)
      clear hD
      go_wp2_with fail
      refine zt.out.mono ?_
      rintro e nE ⟨rfl,bK⟩
      go_wp2
      exact ⟨rfl,by rw [HE.out];exact ⟨rfl,uT.out.keeps.trans bK⟩⟩
     |ok u k3=>
      rw [hD] at zt
      have HE:=aa (show RR=.ok (.mk q pl [] [] 0 0 0 0 [x]) k3 from by rw [Dl.out,show ah p.L p.en k2 ay=.ok u k3 from hD];rfl)
      clear hD
      go_wp2_with fail
      refine zt.out.mono ?_
      rintro e W6 ⟨⟨v,rfl,rfl⟩,h6,lW⟩
      have Dp:=aa (uT.out.keep aN hg h6 lW)
      clear h6 lW lB zr
      obtain ⟨vX,bS,hres,hrow,aB⟩:=Dp.out
      obtain ⟨z0,z1,z2,z3,z4,z5,z6,z7,z8⟩:=aj hrow
      obtain ⟨y0,y1,y2,y3,y4,y5,y6,y7,y8⟩:=aj hres
      obtain ⟨zu,zv,zw,zx,zy,zz,zA,zB,zC⟩:=aA hres
      have cN:=aa aB
      clear hrow aB
      go_wp2_with fail
      refine bodyPost_ret (v:=.agg #[.int .i64 q,.int .i64 pl,.string {data:=#[]},.string {data:=#[]},.int .i64 0,.int .i64 0,.int .i64 0,.int .i64 0,.slice (some ⟨w3.heap.size,0,none⟩) 1 1]) (ag rfl _ _ w.heap.size 25 _ _ _ rfl (av hres _ _ _ _ _ _ _ _ _) Tryz.underlying25 rfl (by kernel_rfl)) rfl ?_
      have hbl:=ak (W:=W6) (Nat.le_refl w.heap.size) (.int .i64 q) (.int .i64 pl) (.string {data:=#[]}) (.string {data:=#[]}) (.int .i64 0) (.int .i64 0) (.int .i64 0) (.int .i64 0) (.slice (some ⟨w3.heap.size,0,none⟩) 1 1)
      rw [HE.out]
      exact ⟨⟨_,rfl,_,rfl,(cN.out.keeps (ax (C:=fun b=>b≤w.heap.size∨b=W4.heap.size) (.inl (Nat.le_refl _)) _ _ _ _ _ _ _ _ _)).mono (fun b hb'=>.inl (Nat.le_of_lt hb'))⟩,H.out.above vX hbl,bS.over hbl⟩
  |none=>
   have HE:=aa (show RR=.err (dy p.L p.en k) 3 from by rw [fB.out,hO];rfl)
   have hE:rL p.L p.en b_ k=.returned (.tuple #[.int .i64 0,.int .i64 0]):=by unfold rL;rw [hO]
   have hN:rM p.L b_ k=k:=by unfold rM;rw [hO]
   rw [hE,hN] at Fl
   clear hE hN hO
   go_wp2_with fail
   refine Qh.out.mono ?_
   rintro e NY ⟨rfl,mH,mI⟩
   have uV:=aa (sB.out.below aN mI)
   have Kh:=aa (Fl.out NY _ uV.out.at_ mH (by have:=sB.out.at_.row.lt;omega))
   clear mH mI
   go_wp2_with fail
   refine Kh.out.mono ?_
   rintro e J' ⟨rfl,uW,mJ⟩
   have oC:=aa (uV.out.keep aN uW mJ)
   clear uW mJ
   have FL:=aa (my p k J' oC.out.at_)
   go_wp2_with fail
   refine FL.out.mono ?_
   rintro e Rx ⟨rfl,aa'⟩
   go_wp2
   exact ⟨rfl,by rw [HE.out];exact ⟨rfl,oC.out.keeps.trans (af.of_below aa' (Nat.le_refl _))⟩⟩
end Go.Proofs.YtddoehnkgcbboaaGreatDoor
