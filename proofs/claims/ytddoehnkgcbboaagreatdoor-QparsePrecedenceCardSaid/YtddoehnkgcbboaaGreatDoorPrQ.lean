/- Packed by program: a part of the proof; the last file says what is proved. -/
import Derived.Test.YtddoehnkgcbboaaGreatDoorPrP
import Derived.Test.YtddoehnkgcbboaaGreatDoorPrM
import Derived.Test.YtddoehnkgcbboaaGreatDoorPrL
import Derived.StillTailTactics
import Derived.Lib.ItoaLen
set_option maxHeartbeats 16000000
set_option maxRecDepth 100000
set_option linter.unusedVariables false
set_option linter.unusedSimpArgs false
namespace Go.Proofs.YtddoehnkgcbboaaGreatDoor
open Go.RowKit Go.Shelf Go.Maps
def jF (bad:Bool) (st:St):Option St:=if bad=true then none else some st
structure cC (W:World) (B b:Nat) (o:Option St) (M:Nat):Prop where
 at_:∃v st bad,dF W B b v st bad∧st.1.length≤M∧o=jF bad st
 gl:Gl W
 gB:3<B∧2<B
theorem cC.lt {W:World} {B b:Nat} {o:Option St} {M:Nat} (h:cC W B b o M):b<W.heap.size∧B≤b:=by
 obtain ⟨v,st,bad,h1,_⟩:=h.at_
 exact ⟨h1.lt,h1.ge⟩
theorem cC.keep {W W':World} {B b:Nat} {o:Option St} {M:Nat} (h:cC W B b o M) (hb:Below W.heap.size W W'):cC W' B b o M:=by
 obtain ⟨v,st,bad,h1,h2,h3⟩:=h.at_
 exact ⟨⟨v,st,bad,h1.keep hb,h2,h3⟩,h.gl.below hb,h.gB⟩
theorem cC.alloc {W:World} {B b:Nat} {o:Option St} {M:Nat} (h:cC W B b o M) (x:Obj):cC (W.alloc x) B b o M:=h.keep ((Below.refl _ W).alloc (Nat.le_refl _) x)
theorem cC.mono {W:World} {B b:Nat} {o:Option St} {M M':Nat} (h:cC W B b o M) (hm:M≤M'):cC W B b o M':=by
 obtain ⟨v,st,bad,h1,h2,h3⟩:=h.at_
 exact ⟨⟨v,st,bad,h1,Nat.le_trans h2 hm,h3⟩,h.gl,h.gB⟩
def ie (B b:Nat) (W:World) (o:Option St) (M:Nat) (e:Ending) (w':World):Prop:=e=.returned (.tuple #[])∧cC w' B b o M∧aI B b W w'
theorem aI.row {B b:Nat} {W W':World} (h:aI B b W W') {g:Nat} {t:TypeId} {cs:Array Value} (hr:Row W g t cs) (ht:t≠5) (hg:g≠b):Row W' g t cs:=h.rows g t cs ht hg hr
theorem cC.next {W W':World} {B b:Nat} {o:Option St} {M:Nat} (h:cC W B b o M) (v:Value) (st:St) (bad:Bool) (M':Nat) (hp:aI B b W W') (ha:dF W' B b v st bad) (hl:st.1.length≤M'):cC W' B b (jF bad st) M':=
 ⟨⟨v,st,bad,ha,hl,rfl⟩,h.gl.low h.gB hp.below,h.gB⟩
theorem Mu (bad:Bool) (st:St) (f:St→St):jF bad (f st)=(jF bad st).map f:=by cases bad<;>rfl
theorem EY (B b:Nat) (ws:List (List UInt8)) (g cap:Nat) (o:Option St) (M:Nat) (W:World) (h:cC W B b o M) (hr:Row W g 9 (ws.map fun s=>Value.string (ae s)).toArray) (hM:M+lR ws≤1099511627776) (hn:ws.length≤1000):
 Calls Tryz.prog 73 #[.pointer (some ⟨b,0,none⟩),.slice (some ⟨g,0,none⟩) ws.length cap] W (ie B b W (o.map (gN · ws)) (M+lR ws)):=by
 obtain ⟨v,st,bad,h1,h2,rfl⟩:=h.at_
 refine (I8 b B v st bad ws g cap W h1 hr (by omega) hn).mono ?_
 rintro e w' ⟨rfl,⟨v',ha⟩,hp⟩
 refine ⟨rfl,?_,hp⟩
 rw [←Mu]
 exact h.next v' _ bad _ hp ha (by have:=uA ws st;omega)
theorem dM (B b:Nat) (s:List UInt8) (o:Option St) (M:Nat) (W:World) (h:cC W B b o M) (hM:M+(s.length+1)≤1099511627776):
 Calls Tryz.prog 73 #[.pointer (some ⟨b,0,none⟩),.slice (some ⟨W.heap.size,0,none⟩) 1 1] (W.alloc (.cells #[.string (ae s)] 9)) (ie B b W (o.map (dD · s)) (M+(s.length+1))):=by
 refine (EY B b [s] W.heap.size 1 o M _ (h.alloc _) (Row.new W _ _) hM (by simp)).mono ?_
 rintro e w' ⟨rfl,h1,hp⟩
 exact ⟨rfl,h1,((aI.refl B b W).alloc (Nat.le_trans h.lt.2 (Nat.le_of_lt h.lt.1)) _).trans hp⟩
def dN (used:List UInt8) (c:UInt8):Bool:=decide (0≤Lib.indexByte used c)
def kL (o:Option St) (z:Bool) (used:List UInt8) (c:UInt8):Option St:=if (z||dN used c)=true then o else none
theorem Mv (B b gp gu:Nat) (c:UInt8) (z:Bool) (used:List UInt8) (o:Option St) (M:Nat) (w:World) (h:cC w B b o M) (hp:w.cell? ⟨gp,0,none⟩=some (.pointer (some ⟨b,0,none⟩))) (hu:w.cell? ⟨gu,0,none⟩=some (.string (ae used))):
 Calls Tryz.prog 146 #[.string ⟨#[c]⟩,.bool z,.pointer (some ⟨gp,0,none⟩),.pointer (some ⟨gu,0,none⟩)] w (ie B b w (kL o z used c) M):=by
 obtain ⟨v,st,bad,h1,h2,rfl⟩:=h.at_
 have CT:=aa (fun W:World=>Tryz.strings_Contains_one (ae used) c W)
 have hh:decide (0≤Lib.indexByte (ae used).data.toList c)=dN used c:=rfl
 rw [hh] at CT
 have HZ:=aa (show kL (jF bad st) z used c=jF (bad||(!z&& !dN used c)) st from by unfold kL;cases bad<;>cases z<;>cases dN used c<;>rfl)
 have HE:=aa (fun (x:Bool) (hx:x=(bad||(!z&& !dN used c)))=>show ie B b w (kL (jF bad st) z used c) M (.returned (.tuple #[])) (w.setCell ⟨b,3,none⟩ (.bool x)).drew from by
  rw [HZ.out,←hx]
  exact ⟨rfl,(h.next v st x M ((aI.refl B b w).set h1.ge 3 _) (h1.ux x) h2).keep (Below.refl _ _).drew,((aI.refl B b w).set h1.ge 3 _).drew⟩)
 obtain ⟨⟨d1,d2,d3⟩,e1,e2,e3⟩:=h1.cells
 generalize dN used c=u at*
 generalize ae used=U at*
 clear h h1 h2 hh HZ
 cases bad with
 |true=>
  have Ji:=aa (HE.out true rfl)
  clear HE
  go_enter Tryz.func146,Tryz.ntmps146
  go_wp2_with fail
  go_region
  all_goals (go_end0;exact Ji.out)
 |false=>
  cases z with
  |true=>
   have Ji:=aa (HE.out false rfl)
   clear HE
   go_enter Tryz.func146,Tryz.ntmps146
   go_wp2_with fail
   go_region
   all_goals (go_end0;exact Ji.out)
  |false=>
   have Ji:=aa (HE.out (!u) rfl)
   clear HE
   go_enter Tryz.func146,Tryz.ntmps146
   go_wp2_with fail
   go_region_with ((go_at_call 147;refine (CT.out _).mono ?_;rintro e w' ⟨rfl,rfl⟩))
   all_goals (go_end0;exact Ji.out)
theorem GI (l:List UInt8):(ae l).toList.isEmpty=decide (l=[]):=by
 rw [Lib.toList_data,cy]
 cases l<;>rfl
def nD (o:Option St) (z1 z2 z3 z4 z5 z6:Bool) (used:List UInt8):Option St:=kL (kL (kL (kL (kL (kL o z1 used 110) z2 used 118) z3 used 97) z4 used 97) z5 used 99) z6 used 99
theorem gP (B b:Nat) (kd a0 xa xb xc xd:Int) (nm vl:List UInt8) (s:Value) (used:List UInt8) (o:Option St) (M:Nat) (w:World) (h:cC w B b o M):
 Calls Tryz.prog 106 #[.pointer (some ⟨b,0,none⟩),.agg (aw kd a0 nm vl xa xb xc xd s).toArray,.string (ae used)] w (ie B b w (nD o (decide (nm=[])) (decide (vl=[])) (decide (xa=0)) (decide (xb=0)) (decide (xc=0)) (decide (xd=0)) used) M):=by
 have Zx:∀(fn:Fn) (first cap:Array Value) (w:World),(Instr.makeFunc fn first cap).run Tryz.prog w=.ok (.func fn first cap) w:=fun _ _ _ _=>rfl
 have hlt:=h.lt.1
 have hge:=h.lt.2
 have r1:Row (((w.alloc (.cells #[.pointer (some ⟨b,0,none⟩)] 73)).alloc (.cells (aw kd a0 nm vl xa xb xc xd s).toArray 25)).alloc (.cells #[.string (ae used)] 9)) w.heap.size 73 #[.pointer (some ⟨b,0,none⟩)]:=((Row.new w _ _).alloc _).alloc _
 have r2:=(Row.new (w.alloc (.cells #[.pointer (some ⟨b,0,none⟩)] 73)) 25 (aw kd a0 nm vl xa xb xc xd s).toArray).alloc (.cells #[.string (ae used)] 9)
 have r3:=Row.new ((w.alloc (.cells #[.pointer (some ⟨b,0,none⟩)] 73)).alloc (.cells (aw kd a0 nm vl xa xb xc xd s).toArray 25)) 9 #[.string (ae used)]
 simp only [World.size_alloc] at r2 r3
 have p1:=((h.alloc (.cells #[.pointer (some ⟨b,0,none⟩)] 73)).alloc (.cells (aw kd a0 nm vl xa xb xc xd s).toArray 25)).alloc (.cells #[.string (ae used)] 9)
 have t1:aI B b w (((w.alloc (.cells #[.pointer (some ⟨b,0,none⟩)] 73)).alloc (.cells (aw kd a0 nm vl xa xb xc xd s).toArray 25)).alloc (.cells #[.string (ae used)] 9)):=
  (((aI.refl B b w).alloc (by omega) _).alloc (by simp;omega) _).alloc (by simp;omega) _
 obtain ⟨W1,hW1⟩:∃W1,W1=(((w.alloc (.cells #[.pointer (some ⟨b,0,none⟩)] 73)).alloc (.cells (aw kd a0 nm vl xa xb xc xd s).toArray 25)).alloc (.cells #[.string (ae used)] 9)):=⟨_,rfl⟩
 rw [←hW1] at r1 r2 r3 p1 t1
 have Z:=aa (fun (c:UInt8) (z:Bool) (o:Option St) (W:World) (h:cC W B b o M) (h1:Row W w.heap.size 73 #[.pointer (some ⟨b,0,none⟩)]) (h3:Row W (w.heap.size+1+1) 9 #[.string (ae used)])=>Mv B b w.heap.size (w.heap.size+1+1) c z used o M W h (h1.cell 0) (h3.cell 0))
 have dG:=aa hW1.symm
 have R1:=aa r1
 have R3:=aa r3
 have R2:=aa r2
 have P1:=aa p1
 have T1:=aa t1
 unfold aw at dG
 have c2:W1.cell? ⟨w.heap.size+1,2,none⟩=some (.string (ae nm)):=r2.cell 2
 clear h hW1 r1 r2 r3 p1 t1
 generalize ae used=U at*
 unfold aw
 go_enter Tryz.func106,Tryz.ntmps106
 go_wp2_with fail
 rw [dG.out]
 refine (Z.out _ _ _ _ P1.out R1.out R3.out).mono ?_
 rintro e w2 ⟨rfl,p2,t2⟩
 have Q2:=aa p2
 have T2:=aa (T1.out.trans t2)
 have RA2:=aa (t2.row R1.out (by decide) (by omega))
 have RB2:=aa (t2.row R2.out (by decide) (by omega))
 have RC2:=aa (t2.row R3.out (by decide) (by omega))
 have d2:w2.cell? ⟨w.heap.size+1,3,none⟩=some (.string (ae vl)):=RB2.out.cell 3
 clear p2 t2 c2
 go_wp2_with fail
 refine (Z.out _ _ _ _ Q2.out RA2.out RC2.out).mono ?_
 rintro e w3 ⟨rfl,p3,t3⟩
 have Q3:=aa p3
 have T3:=aa (T2.out.trans t3)
 have RA3:=aa (t3.row RA2.out (by decide) (by omega))
 have RB3:=aa (t3.row RB2.out (by decide) (by omega))
 have RC3:=aa (t3.row RC2.out (by decide) (by omega))
 have d3:w3.cell? ⟨w.heap.size+1,4,none⟩=some (.int .i64 xa):=RB3.out.cell 4
 clear p3 t3 d2
 go_wp2_with fail
 refine (Z.out _ _ _ _ Q3.out RA3.out RC3.out).mono ?_
 rintro e w4 ⟨rfl,p4,t4⟩
 have Q4:=aa p4
 have T4:=aa (T3.out.trans t4)
 have RA4:=aa (t4.row RA3.out (by decide) (by omega))
 have RB4:=aa (t4.row RB3.out (by decide) (by omega))
 have RC4:=aa (t4.row RC3.out (by decide) (by omega))
 have d4:w4.cell? ⟨w.heap.size+1,5,none⟩=some (.int .i64 xb):=RB4.out.cell 5
 clear p4 t4 d3
 go_wp2_with fail
 refine (Z.out _ _ _ _ Q4.out RA4.out RC4.out).mono ?_
 rintro e w5 ⟨rfl,p5,t5⟩
 have Q5:=aa p5
 have T5:=aa (T4.out.trans t5)
 have RA5:=aa (t5.row RA4.out (by decide) (by omega))
 have RB5:=aa (t5.row RB4.out (by decide) (by omega))
 have RC5:=aa (t5.row RC4.out (by decide) (by omega))
 have d5:w5.cell? ⟨w.heap.size+1,6,none⟩=some (.int .i64 xc):=RB5.out.cell 6
 clear p5 t5 d4
 go_wp2_with fail
 refine (Z.out _ _ _ _ Q5.out RA5.out RC5.out).mono ?_
 rintro e w6 ⟨rfl,p6,t6⟩
 have Q6:=aa p6
 have T6:=aa (T5.out.trans t6)
 have RA6:=aa (t6.row RA5.out (by decide) (by omega))
 have RB6:=aa (t6.row RB5.out (by decide) (by omega))
 have RC6:=aa (t6.row RC5.out (by decide) (by omega))
 have d6:w6.cell? ⟨w.heap.size+1,7,none⟩=some (.int .i64 xd):=RB6.out.cell 7
 clear p6 t6 d5
 go_wp2_with fail
 refine (Z.out _ _ _ _ Q6.out RA6.out RC6.out).mono ?_
 rintro e w7 ⟨rfl,p7,t7⟩
 have Q7:=aa p7
 have T7:=aa (T6.out.trans t7)
 clear p7 t7 d6
 have e1:(ae nm).toList.isEmpty=decide (nm=[]):=GI nm
 have e2:(ae vl).toList.isEmpty=decide (vl=[]):=GI vl
 have e3:∀x:Int,(x==0)=decide (x=0):=fun x=>by rw [Bool.eq_iff_iff];simp
 have HP:=aa (show cC w7 B b (nD o (decide (nm=[])) (decide (vl=[])) (decide (xa=0)) (decide (xb=0)) (decide (xc=0)) (decide (xd=0)) used) M from by
  have:=Q7.out
  rw [e1,e2,e3,e3,e3,e3] at this
  exact this)
 clear e1 e2 e3
 go_wp2
 go_end0
 exact ⟨rfl,HP.out,T7.out⟩
def lS (o:Option St) (n:Nat) (least most:Int):Option St:=if least≤(n:Int)∧(n:Int)≤most then o else none
def PnK (B b:Nat) (W:World) (o:Option St) (M:Nat) (e:Ending) (w':World):Prop:=e=.returned (.bool o.isSome)∧cC w' B b o M∧aI B b W w'
theorem kM (B b:Nat) (kd a0 xa xb xc xd:Int) (nm vl:List UInt8) (A:Option Addr) (n cap:Nat) (least most:Int) (o:Option St) (M:Nat) (w:World) (h:cC w B b o M) (hn:n≤1000000):
 Calls Tryz.prog 107 #[.pointer (some ⟨b,0,none⟩),.agg (aw kd a0 nm vl xa xb xc xd (.slice A n cap)).toArray,.int .i64 least,.int .i64 most] w (PnK B b w (lS o n least most) M):=by
 obtain ⟨v,st,bad,h1,h2,rfl⟩:=h.at_
 have HZ:=aa (show lS (jF bad st) n least most=jF (bad|| !decide (least≤(n:Int)∧(n:Int)≤most)) st from by
  unfold lS
  by_cases hc:least≤(n:Int)∧(n:Int)≤most
  ·rw [if_pos hc,decide_eq_true hc];cases bad<;>rfl
  ·rw [if_neg hc,decide_eq_false hc];cases bad<;>rfl)
 have h3:=h1.alloc (.cells (aw kd a0 nm vl xa xb xc xd (.slice A n cap)).toArray 25)
 have mQ:=h.alloc (.cells (aw kd a0 nm vl xa xb xc xd (.slice A n cap)).toArray 25)
 have ZK:=(aI.refl B b w).alloc (Nat.le_trans h.lt.2 (Nat.le_of_lt h.lt.1)) (.cells (aw kd a0 nm vl xa xb xc xd (.slice A n cap)).toArray 25)
 have hr:=Row.new w 25 (aw kd a0 nm vl xa xb xc xd (.slice A n cap)).toArray
 obtain ⟨W1,hW1⟩:∃W1,W1=w.alloc (.cells (aw kd a0 nm vl xa xb xc xd (.slice A n cap)).toArray 25):=⟨_,rfl⟩
 rw [←hW1] at h3 mQ ZK hr
 have HE:=aa (fun (x:Bool) (hx:x=(bad|| !decide (least≤(n:Int)∧(n:Int)≤most)))=>show PnK B b w (lS (jF bad st) n least most) M (.returned (.bool (!x))) (W1.setCell ⟨b,3,none⟩ (.bool x)) from by
  rw [HZ.out,←hx]
  refine ⟨by cases x<;>rfl,mQ.next v st x M ((aI.refl B b W1).set h1.ge 3 _) (h3.ux x) h2,ZK.trans ((aI.refl B b W1).set h1.ge 3 _)⟩)
 obtain ⟨⟨d1,d2,d3⟩,e1,e2,e3⟩:=h3.cells
 have c8:W1.cell? ⟨w.heap.size,8,none⟩=some (.slice A n cap):=hr.cell 8
 have hlt:=h.lt.1
 have dG:=aa hW1.symm
 unfold aw at dG⊢
 clear h h1 h2 h3 mQ ZK hr HZ hW1
 cases bad with
 |true=>
  have Ji:=aa (HE.out true rfl)
  clear HE
  go_enter Tryz.func107,Tryz.ntmps107
  go_upto_region 1 with fail
  rw [dG.out]
  go_wp2
  go_ret
  exact Ji.out
 |false=>
  by_cases q1:(n:Int)<least
  ·have Ji:=aa (HE.out true (by rw [decide_eq_false (by omega)];rfl))
   clear HE
   go_enter Tryz.func107,Tryz.ntmps107
   go_upto_region 1 with fail
   rw [dG.out]
   go_wp2
   go_ret
   exact Ji.out
  ·by_cases q2:most<(n:Int)
   ·have Ji:=aa (HE.out true (by rw [decide_eq_false (by omega)];rfl))
    clear HE
    go_enter Tryz.func107,Tryz.ntmps107
    go_upto_region 1 with fail
    rw [dG.out]
    go_wp2
    go_ret
    exact Ji.out
   ·have Ji:=aa (HE.out false (by rw [decide_eq_true (by omega)];rfl))
    clear HE
    go_enter Tryz.func107,Tryz.ntmps107
    go_upto_region 1 with fail
    rw [dG.out]
    go_wp2
    go_ret
    exact Ji.out
theorem Jj (n:Int) (w:World) (h:dr n) (hg:Gl w):Calls Tryz.prog 180 #[.int .i64 n] w fun e w'=>e=.returned (.string (ae (Lib.itoa n)))∧Below w.heap.size w w':=by
 refine (Tryz.strconv_Itoa n h.1 h.2 w hg.tab).mono ?_
 rintro e w' ⟨rfl,k,os,rfl⟩
 exact ⟨rfl,rB _ _⟩
theorem rR (B b:Nat) (x most:Int) (o:Option St) (M:Nat) (w:World) (h:cC w B b o M) (hx:dr x) (hM:M+22≤1099511627776):
 Calls Tryz.prog 148 #[.pointer (some ⟨b,0,none⟩),.int .i64 x,.int .i64 most] w (ie B b w (o.bind (jD x most)) (M+22)):=by
 obtain ⟨v,st,bad,h1,h2,rfl⟩:=h.at_
 have IT:=aa (fun (W:World) (hg:Gl W)=>Jj x W hx hg)
 have V4:=Lib.itoa_length_le x hx.1 hx.2
 have HE:=aa (fun (y:Bool) (hy:y=(bad||decide (x<0∨most<x)))=>show cC (w.setCell ⟨b,3,none⟩ (.bool y)) B b (if x<0∨most<x then none else jF bad st) M∧aI B b w (w.setCell ⟨b,3,none⟩ (.bool y)) from by
  have e:(if x<0∨most<x then none else jF bad st)=jF y st:=by
   rw [hy]
   by_cases hc:x<0∨most<x
   ·rw [if_pos hc,decide_eq_true hc];cases bad<;>rfl
   ·rw [if_neg hc,decide_eq_false hc];cases bad<;>rfl
  rw [e]
  exact ⟨h.next v st y M ((aI.refl B b w).set h1.ge 3 _) (h1.ux y) h2,(aI.refl B b w).set h1.ge 3 _⟩)
 have HF:=aa (show (if x<0∨most<x then none else jF bad st).map (dD · (Lib.itoa x))=(jF bad st).bind (jD x most) from by
  unfold jD
  by_cases hc:x<0∨most<x
  ·rw [if_pos hc];cases bad<;>simp [jF,hc]
  ·rw [if_neg hc];cases bad<;>simp [jF,hc])
 have HW:=aa (fun (W:World) (o:Option St) (h:cC W B b o M)=>dM B b (Lib.itoa x) o M W h (by omega))
 obtain ⟨⟨d1,d2,d3⟩,e1,e2,e3⟩:=h1.cells
 obtain ⟨o2,ho2⟩:∃o2,(if x<0∨most<x then none else jF bad st)=o2:=⟨_,rfl⟩
 rw [ho2] at HE HF
 have HL:=aa V4
 generalize Lib.itoa x=t at*
 clear h h1 h2 V4 ho2
 have main:∀(y:Bool) (e:Ending) (w3:World),ie B b w (o2.map (dD · t)) (M+(t.length+1)) e w3→ie B b w ((jF bad st).bind (jD x most)) (M+22) e w3:=fun y e w3 ⟨a1,a2,a3⟩=>⟨a1,by rw [←HF.out];exact a2.mono (by have:=HL.out;omega),a3⟩
 have Pt:=aa main
 clear main HF
 have BW:=aa (fun (y:Bool) (hy:y=(bad||decide (x<0∨most<x)))=>And.intro (HE.out y hy).1 (HE.out y hy).2)
 clear HE
 cases bad with
 |true=>
  have HP:=aa (BW.out true rfl)
  clear BW
  go_enter Tryz.func148,Tryz.ntmps148
  go_wp2_with fail
  refine (IT.out _ HP.out.1.gl).mono ?_
  rintro e w2 ⟨rfl,hb2⟩
  have KS:=aa (HP.out.1.keep hb2)
  have Am:=aa (HP.out.2.trans (aI.of_below hb2 (Nat.le_trans HP.out.1.lt.2 (Nat.le_of_lt HP.out.1.lt.1))))
  clear hb2
  go_wp2_with fail
  refine (HW.out _ _ KS.out).mono ?_
  rintro e w3 ⟨rfl,p3,t3⟩
  have H9:=aa (Pt.out true _ w3 ⟨rfl,p3,Am.out.trans t3⟩)
  clear p3 t3
  go_wp2
  go_end0
  exact H9.out
 |false=>
  by_cases q1:x<0
  ·have HP:=aa (BW.out true (by rw [decide_eq_true (.inl q1)];rfl))
   clear BW
   go_enter Tryz.func148,Tryz.ntmps148
   go_wp2_with fail
   refine (IT.out _ HP.out.1.gl).mono ?_
   rintro e w2 ⟨rfl,hb2⟩
   have KS:=aa (HP.out.1.keep hb2)
   have Am:=aa (HP.out.2.trans (aI.of_below hb2 (Nat.le_trans HP.out.1.lt.2 (Nat.le_of_lt HP.out.1.lt.1))))
   clear hb2
   go_wp2_with fail
   refine (HW.out _ _ KS.out).mono ?_
   rintro e w3 ⟨rfl,p3,t3⟩
   have H9:=aa (Pt.out true _ w3 ⟨rfl,p3,Am.out.trans t3⟩)
   clear p3 t3
   go_wp2
   go_end0
   exact H9.out
  ·by_cases q2:most<x
   ·have HP:=aa (BW.out true (by rw [decide_eq_true (.inr q2)];rfl))
    clear BW
    go_enter Tryz.func148,Tryz.ntmps148
    go_wp2_with fail
    refine (IT.out _ HP.out.1.gl).mono ?_
    rintro e w2 ⟨rfl,hb2⟩
    have KS:=aa (HP.out.1.keep hb2)
    have Am:=aa (HP.out.2.trans (aI.of_below hb2 (Nat.le_trans HP.out.1.lt.2 (Nat.le_of_lt HP.out.1.lt.1))))
    clear hb2
    go_wp2_with fail
    refine (HW.out _ _ KS.out).mono ?_
    rintro e w3 ⟨rfl,p3,t3⟩
    have H9:=aa (Pt.out true _ w3 ⟨rfl,p3,Am.out.trans t3⟩)
    clear p3 t3
    go_wp2
    go_end0
    exact H9.out
   ·have HP:=aa (BW.out (decide (x<0)||decide (most<x)) (by simp [q1,q2]))
    have q1':0≤x:=by omega
    have q2':x≤most:=by omega
    clear BW q1 q2
    go_enter Tryz.func148,Tryz.ntmps148
    go_wp2_with fail
    refine (IT.out _ HP.out.1.gl).mono ?_
    rintro e w2 ⟨rfl,hb2⟩
    have KS:=aa (HP.out.1.keep hb2)
    have Am:=aa (HP.out.2.trans (aI.of_below hb2 (Nat.le_trans HP.out.1.lt.2 (Nat.le_of_lt HP.out.1.lt.1))))
    clear hb2
    go_wp2_with fail
    refine (HW.out _ _ KS.out).mono ?_
    rintro e w3 ⟨rfl,p3,t3⟩
    have H9:=aa (Pt.out true _ w3 ⟨rfl,p3,Am.out.trans t3⟩)
    clear p3 t3
    go_wp2
    go_end0
    exact H9.out
theorem Mw (o:Option St) (a c:Int):((((o.map (dD · [91])).bind (jD a 1099511627776)).map (dD · [44,32])).bind (jD c 1099511627776)).map (dD · [93])=o.bind (lz a c):=by
 cases o with
 |none=>rfl
 |some st=>
  show ((((jD a 1099511627776 (dD st [91])).map (dD · [44,32])).bind (jD c 1099511627776)).map (dD · [93]))=lz a c st
  unfold lz
  cases jD a 1099511627776 (dD st [91]) with
  |none=>rfl
  |some s2=>
   show ((jD c 1099511627776 (dD s2 [44,32])).map (dD · [93]))=(jD c 1099511627776 (dD s2 [44,32])).bind fun st=>some (dD st [93])
   cases jD c 1099511627776 (dD s2 [44,32])<;>rfl
theorem B8 (B b:Nat) (x y:Int) (o:Option St) (M:Nat) (w1:World) (P1:Hid (cC w1 B b o M)) (hx:dr x) (hy:dr y) (hM:M+60≤1099511627776):
 Calls Tryz.prog 149 #[.pointer (some ⟨b,0,none⟩),.int .i64 x,.int .i64 y] w1 (ie B b w1 (o.bind (lz x y)) (M+60)):=by
 have T1:=aa (aI.refl B b w1)
 have HX:=aa hx
 have HY:=aa hy
 clear hx hy
 go_enter Tryz.func149,Tryz.ntmps149
 have C2:=aa (dM B b [91] o M w1 P1.out (by first|omega|(simp only [List.length_cons,List.length_nil];omega)))
 obtain ⟨o2,q2⟩:∃z_,o.map (dD · [91])=z_:=⟨_,rfl⟩
 rw [q2] at C2
 have Q2:=aa q2
 clear q2
 go_wp2_with fail
 refine (C2.out).mono ?_
 rintro e w2 ⟨rfl,p2,t2⟩
 have P2:=aa p2
 have T2:=aa (T1.out.trans t2)
 clear p2 t2 C2
 have C3:=aa (rR B b x 1099511627776 o2 (M+([91]:List UInt8).length+1) w2 P2.out HX.out (by first|omega|(simp only [List.length_cons,List.length_nil];omega)))
 obtain ⟨o3,q3⟩:∃z_,o2.bind (jD x 1099511627776)=z_:=⟨_,rfl⟩
 rw [q3] at C3
 have Q3:=aa q3
 clear q3
 go_wp2_with fail
 refine (C3.out).mono ?_
 rintro e w3 ⟨rfl,p3,t3⟩
 have P3:=aa p3
 have T3:=aa (T2.out.trans t3)
 clear p3 t3 C3
 have C4:=aa (dM B b [44,32] o3 ((M+([91]:List UInt8).length+1)+22) w3 P3.out (by first|omega|(simp only [List.length_cons,List.length_nil];omega)))
 obtain ⟨o4,q4⟩:∃z_,o3.map (dD · [44,32])=z_:=⟨_,rfl⟩
 rw [q4] at C4
 have Q4:=aa q4
 clear q4
 go_wp2_with fail
 refine (C4.out).mono ?_
 rintro e w4 ⟨rfl,p4,t4⟩
 have P4:=aa p4
 have T4:=aa (T3.out.trans t4)
 clear p4 t4 C4
 have C5:=aa (rR B b y 1099511627776 o4 (((M+([91]:List UInt8).length+1)+22)+([44,32]:List UInt8).length+1) w4 P4.out HY.out (by first|omega|(simp only [List.length_cons,List.length_nil];omega)))
 obtain ⟨o5,q5⟩:∃z_,o4.bind (jD y 1099511627776)=z_:=⟨_,rfl⟩
 rw [q5] at C5
 have Q5:=aa q5
 clear q5
 go_wp2_with fail
 refine (C5.out).mono ?_
 rintro e w5 ⟨rfl,p5,t5⟩
 have P5:=aa p5
 have T5:=aa (T4.out.trans t5)
 clear p5 t5 C5
 have C6:=aa (dM B b [93] o5 ((((M+([91]:List UInt8).length+1)+22)+([44,32]:List UInt8).length+1)+22) w5 P5.out (by first|omega|(simp only [List.length_cons,List.length_nil];omega)))
 obtain ⟨o6,q6⟩:∃z_,o5.map (dD · [93])=z_:=⟨_,rfl⟩
 rw [q6] at C6
 have Q6:=aa q6
 clear q6
 go_wp2_with fail
 refine (C6.out).mono ?_
 rintro e w6 ⟨rfl,p6,t6⟩
 have P6:=aa p6
 have T6:=aa (T5.out.trans t6)
 clear p6 t6 C6
 have HP:=aa (show cC w6 B b (o.bind (lz x y)) (M+60) from by
  have:=P6.out
  rw [←Q6.out,←Q5.out,←Q4.out,←Q3.out,←Q2.out,Mw] at this
  exact this.mono (by simp only [List.length_cons,List.length_nil];omega))
 go_wp2
 go_end0
 exact ⟨rfl,HP.out,T6.out⟩
end Go.Proofs.YtddoehnkgcbboaaGreatDoor
namespace Go.Proofs.YtddoehnkgcbboaaGreatDoor
open Go.RowKit Go.Shelf
mutual
def kN:Nd→Nd
 |.mk k _ nm v a b c d ks=>.mk k 0 nm v a b c d (lM ks)
def lM:List Nd→List Nd
 |[]=>[]
 |n::r=>kN n::lM r
end
abbrev Tk:=Int×List UInt8
def zm (L:List Lx) (k:Nat) (T:List Tk):Prop:=∀i (h:i<T.length),∃x,L[k+i]? =some x∧x.kind=T[i].1∧x.text=T[i].2
theorem zm.app {L:List Lx} {k:Nat} {a b:List Tk} (h:zm L k (a++b)):zm L k a∧zm L (k+a.length) b:=by
 refine ⟨fun i hi=>?_,fun i hi=>?_⟩
 ·obtain ⟨x,h1,h2,h3⟩:=h i (by rw [List.length_append];omega)
  rw [List.getElem_append_left hi] at h2 h3
  exact ⟨x,h1,h2,h3⟩
 ·obtain ⟨x,h1,h2,h3⟩:=h (a.length+i) (by rw [List.length_append];omega)
  rw [List.getElem_append_right (by omega)] at h2 h3
  simp only [Nat.add_sub_cancel_left] at h2 h3
  rw [←Nat.add_assoc] at h1
  exact ⟨x,h1,h2,h3⟩
theorem zm.cons {L:List Lx} {k:Nat} {t:Tk} {b:List Tk} (h:zm L k (t::b)):(∃x,L[k]? =some x∧x.kind=t.1∧x.text=t.2)∧zm L (k+1) b:=by
 have:=zm.app (a:=[t]) (b:=b) h
 exact ⟨by obtain ⟨x,h1,h2,h3⟩:=this.1 0 (by simp);exact ⟨x,by simpa using h1,by simpa using h2,by simpa using h3⟩,by simpa using this.2⟩
def dO (t:Tk):Bool:=decide (t.1=6)||(decide (t.1=0)&&decide (t.2∈kC))
theorem jS {L:List Lx} {k:Nat} {t:Tk} (h:∃x,L[k]? =some x∧x.kind=t.1∧x.text=t.2) (w:List UInt8):bH L k w=(dO t&&decide (t.2=w)):=by
 obtain ⟨x,h1,h2,h3⟩:=h
 unfold bH
 rw [h1]
 show (LU x&&decide (x.text=w))=_
 unfold LU dO
 rw [h2,h3]
theorem qP {L:List Lx} {k:Nat} {t:Tk} (h:∃x,L[k]? =some x∧x.kind=t.1∧x.text=t.2) (q:Int):bT L k q=(decide (t.1=q)&&(decide (q≠0)|| !decide (t.2∈kC))):=by
 obtain ⟨x,h1,h2,h3⟩:=h
 unfold bT
 rw [h1]
 simp only [h2,h3]
theorem Mx {L:List Lx} {k:Nat} {t:Tk} (h:∃x,L[k]? =some x∧x.kind=t.1∧x.text=t.2):fX L k=t.2:=by
 obtain ⟨x,h1,h2,h3⟩:=h
 unfold fX
 rw [h1]
 exact h3
def N9 (ops:List (List UInt8×Int)) (t:Tk):Option Int:=(ops.find? fun p=>dO t&&decide (t.2=p.1)).map (·.2)
theorem lF {L:List Lx} {k:Nat} {t:Tk} (h:∃x,L[k]? =some x∧x.kind=t.1∧x.text=t.2) (ops:List (List UInt8×Int)):iO L ops k=N9 ops t:=by
 unfold iO N9
 congr 2
 funext p
 exact jS h p.1
def EZ:Nat→List (List UInt8×Int)
 |0=>pF|1=>uh|3=>cP|4=>Vi|5=>ED|6=>Bx|7=>yU|_=>[]
section
variable (L : List Lx) (en : Int) (rd : List UInt8 → Int × Int)
def Rm (F:Nat):Nat→Nat→PR Nd
 |0=>(cV L en rd (F+1)).cond
 |1=>cA L en uh (cV L en rd (F+1)).ng
 |2=>(cV L en rd (F+1)).ng
 |3=>vQ L en (cV L en rd (F+1)).dm
 |4=>(cV L en rd (F+1)).dm
 |5=>cA L en ED (cA L en Bx (cA L en yU (cV L en rd (F+1)).un))
 |6=>cA L en Bx (cA L en yU (cV L en rd (F+1)).un)
 |7=>cA L en yU (cV L en rd (F+1)).un
 |8=>(cV L en rd (F+1)).un
 |_=>gA L en rd (cV L en rd F).cond (cV L en rd F).dm
structure My (k:Nat) (j:Nat):Prop where
 ZL:j≤8→bH L k fh=false
 ops:∀i,j≤i→i≤7→iO L (EZ i) k=none
end
theorem My.up {L:List Lx} {k i j:Nat} (h:My L k i) (N5:i≤j):My L k j:=⟨fun hj=>h.ZL (by omega),fun q h1 h2=>h.ops q (by omega) h2⟩
def Reads (j:Nat) (T:List Tk) (n:Nd):Prop:=∀L en rd F k,zm L k T→L.length≤F+k→My L (k+T.length) j→∃n',kN n'=kN n∧Rm L en rd F j k=.ok n' (k+T.length)
def qQ (j:Nat) (T:List Tk) (n:Nd):Prop:=∀L en rd F k,zm L k T→L.length≤F+k→My L (k+T.length) (j+1)→∃n',kN n'=kN n∧Rm L en rd F j k=rO L en (EZ j) (Rm L en rd F (j+1)) n' (k+T.length)
def xw (j:Nat):Bool:=j==0||j==1||(4≤j&&j≤7)
theorem Mz {L:List Lx} {en:Int} {rd:List UInt8→Int×Int} {F j:Nat} (h:xw j=true):Rm L en rd F j=cA L en (EZ j) (Rm L en rd F (j+1)):=by
 have:j=0∨j=1∨j=4∨j=5∨j=6∨j=7:=by
  unfold xw at h
  simp at h
  omega
 rcases this with rfl|rfl|rfl|rfl|rfl|rfl<;>rfl
theorem MA (L:List Lx) (en:Int) (rd:List UInt8→Int×Int) (F:Nat):∀j,Prog (Rm L en rd F j)
 |0=>(cE (F+1)).cond
 |1=>bb (cE (F+1)).ng
 |2=>(cE (F+1)).ng
 |3=>qL (cE (F+1)).dm
 |4=>(cE (F+1)).dm
 |5=>bb (bb (bb (cE (F+1)).un))
 |6=>bb (bb (cE (F+1)).un)
 |7=>bb (cE (F+1)).un
 |8=>(cE (F+1)).un
 |_+9=>ot (cE F).cond (cE F).dm
theorem Reads.left {j:Nat} {T:List Tk} {n:Nd} (hj:xw j=true) (h:Reads (j+1) T n):qQ j T n:=fun L en rd F k ht hl hf=>by
 obtain ⟨n',h1,h2⟩:=h L en rd F k ht hl hf
 exact ⟨n',h1,by rw [Mz hj];exact Gm h2⟩
theorem qQ.stop {j:Nat} {T:List Tk} {n:Nd} (hj:xw j=true) (h:qQ j T n):Reads j T n:=fun L en rd F k ht hl hf=>by
 obtain ⟨n',h1,h2⟩:=h L en rd F k ht hl (hf.up (Nat.le_succ _))
 refine ⟨n',h1,h2.trans (uq (hf.ops j (Nat.le_refl _) ?_))⟩
 unfold xw at hj
 simp at hj
 omega
theorem qQ.op {j:Nat} {T0 T1:List Tk} {n0 n1:Nd} {t:Tk} {q:Int} (hj:xw j=true) (h0:qQ j T0 n0) (h1:Reads (j+1) T1 n1) (ho:N9 (EZ j) t=some q)
 (hb:dO t=true→t.2≠fh) (hop:∀i,j+1≤i→i≤7→N9 (EZ i) t=none) (aJ:Int):qQ j (T0++t::T1) (.mk q aJ [] [] 0 0 0 0 [n0,n1]):=fun L en rd F k ht hl hf=>by
 obtain ⟨a1,a2⟩:=ht.app
 obtain ⟨b1,b2⟩:=a2.cons
 have TW:My L (k+T0.length) (j+1):=⟨fun _=>by
  rw [jS b1]
  cases hs:dO t with
  |false=>rfl
  |true=>rw [decide_eq_false (hb hs)];rfl,fun i h1 h2=>by rw [lF b1];exact hop i h1 h2⟩
 obtain ⟨Pu,e0,r0⟩:=h0 L en rd F k a1 hl TW
 have hlen:k+(T0++t::T1).length=k+T0.length+1+T1.length:=by rw [List.length_append,List.length_cons];omega
 rw [hlen] at hf⊢
 obtain ⟨Pv,e1,r1⟩:=h1 L en rd F (k+T0.length+1) b2 (by omega) hf
 refine ⟨.mk q (dy L en (k+T0.length)) [] [] 0 0 0 0 [Pu,Pv],?_,?_⟩
 ·simp only [kN,lM,e0,e1]
 ·rw [r0]
  exact ur (MA L en rd F (j+1)) (by rw [lF b1];exact ho) r1
theorem Reads.neg {T:List Tk} {n:Nd} {t:Tk} (ht:dO t=true∧t.2=rK) (h:Reads 2 T n) (aJ:Int):Reads 2 (t::T) (.mk 28 aJ [] [] 0 0 0 0 [n]):=fun L en rd F k hat hl hf=>by
 obtain ⟨b1,b2⟩:=hat.cons
 have hlen:k+(t::T).length=k+1+T.length:=by rw [List.length_cons];omega
 rw [hlen] at hf⊢
 have hk:k<L.length:=by
  obtain ⟨x,hx,_⟩:=b1
  exact (List.getElem?_eq_some_iff.1 hx).1
 obtain ⟨G,rfl⟩:∃G,F=G+1:=⟨F-1,by omega⟩
 obtain ⟨n',e,r⟩:=h L en rd G (k+1) b2 (by omega) hf
 refine ⟨.mk 28 (dy L en k) [] [] 0 0 0 0 [n'],by simp only [kN,lM,e],?_⟩
 show ui L en (cV L en rd (G+1)).ng _ k=_
 unfold ui
 rw [if_pos (by rw [jS b1,ht.1,decide_eq_true ht.2];rfl)]
 have r':(cV L en rd (G+1)).ng (k+1)=.ok n' (k+1+T.length):=r
 rw [r'];rfl
theorem Reads.X8 {T:List Tk} {n:Nd} {t:Tk} (ht:dO t=true→t.2≠rK) (h:Reads 3 (t::T) n):Reads 2 (t::T) n:=fun L en rd F k hat hl hf=>by
 obtain ⟨b1,b2⟩:=hat.cons
 obtain ⟨n',e,r⟩:=h L en rd F k hat hl (hf.up (by decide))
 refine ⟨n',e,?_⟩
 show ui L en (cV L en rd F).ng _ k=_
 unfold ui
 rw [if_neg]
 ·exact r
 ·rw [jS b1]
  cases hs:dO t with
  |false=>exact fun h=>by cases h
  |true=>rw [decide_eq_false (ht hs)];exact fun h=>by cases h
theorem Reads.X9 {T:List Tk} {n:Nd} (h:Reads 4 T n):Reads 3 T n:=fun L en rd F k hat hl hf=>by
 obtain ⟨n',e,r⟩:=h L en rd F k hat hl (hf.up (by decide))
 refine ⟨n',e,?_⟩
 show vQ L en (cV L en rd (F+1)).dm k=_
 have r':(cV L en rd (F+1)).dm k=.ok n' (k+T.length):=r
 unfold vQ
 rw [r']
 show (match iO L cP (k+T.length) with|none=>PR.ok n' (k+T.length)|some q=>_)=_
 rw [show iO L cP (k+T.length)=none from hf.ops 3 (Nat.le_refl _) (by decide)]
theorem Reads.cmp {T0 T1:List Tk} {n0 n1:Nd} {t:Tk} {q:Int} (h0:Reads 4 T0 n0) (h1:Reads 4 T1 n1) (ho:N9 cP t=some q) (hb:dO t=true→t.2≠fh) (hop:∀i,4≤i→i≤7→N9 (EZ i) t=none) (aJ:Int):
 Reads 3 (T0++t::T1) (.mk q aJ [] [] 0 0 0 0 [n0,n1]):=fun L en rd F k ht hl hf=>by
 obtain ⟨a1,a2⟩:=ht.app
 obtain ⟨b1,b2⟩:=a2.cons
 have TW:My L (k+T0.length) 4:=⟨fun _=>by
  rw [jS b1]
  cases hs:dO t with
  |false=>rfl
  |true=>rw [decide_eq_false (hb hs)];rfl,fun i h1 h2=>by rw [lF b1];exact hop i h1 h2⟩
 obtain ⟨Pu,e0,r0⟩:=h0 L en rd F k a1 hl TW
 have hlen:k+(T0++t::T1).length=k+T0.length+1+T1.length:=by rw [List.length_append,List.length_cons];omega
 rw [hlen] at hf⊢
 obtain ⟨Pv,e1,r1⟩:=h1 L en rd F (k+T0.length+1) b2 (by omega) (hf.up (by decide))
 refine ⟨.mk q (dy L en (k+T0.length)) [] [] 0 0 0 0 [Pu,Pv],by simp only [kN,lM,e0,e1],?_⟩
 show vQ L en (cV L en rd (F+1)).dm k=_
 have r0':(cV L en rd (F+1)).dm k=.ok Pu (k+T0.length):=r0
 have r1':(cV L en rd (F+1)).dm (k+T0.length+1)=.ok Pv (k+T0.length+1+T1.length):=r1
 unfold vQ
 rw [r0']
 show (match iO L cP (k+T0.length) with|none=>PR.ok Pu (k+T0.length)|some q=>_)=_
 rw [lF b1,ho]
 show ((cV L en rd (F+1)).dm (k+T0.length+1)).bind _=_
 rw [r1'];rfl
structure B_ (t:Tk):Prop where
 ZL:dO t=true→t.2≠fh
 ops:∀i,i≤7→N9 (EZ i) t=none
theorem B_.Rn {L:List Lx} {k:Nat} {t:Tk} (h:B_ t) (b:∃x,L[k]? =some x∧x.kind=t.1∧x.text=t.2) (j:Nat):My L k j:=⟨fun _=>by
 rw [jS b]
 cases hs:dO t with
 |false=>rfl
 |true=>rw [decide_eq_false (h.ZL hs)];rfl,fun i _ h2=>by rw [lF b];exact h.ops i h2⟩
theorem MB {L:List Lx} {k:Nat} {t:Tk} (b:∃x,L[k]? =some x∧x.kind=t.1∧x.text=t.2):k<L.length:=by
 obtain ⟨x,hx,_⟩:=b
 exact (List.getElem?_eq_some_iff.1 hx).1
theorem eQ {L:List Lx} {k:Nat} {t:Tk} (b:∃x,L[k]? =some x∧x.kind=t.1∧x.text=t.2) {w:List UInt8} (h:dO t=true) (hw:t.2=w):bH L k w=true:=by
 rw [jS b,h,decide_eq_true hw];rfl
theorem fH {L:List Lx} {k:Nat} {t:Tk} (b:∃x,L[k]? =some x∧x.kind=t.1∧x.text=t.2) {w:List UInt8} (h:dO t=true→t.2≠w):bH L k w=false:=by
 rw [jS b]
 cases hs:dO t with
 |false=>rfl
 |true=>rw [decide_eq_false (h hs)];rfl
theorem ig {L:List Lx} {en:Int} {k:Nat} {w:List UInt8} (h:bH L k w=true):ah L en k w=.ok () (k+1):=by unfold ah;rw [if_pos h]
theorem Reads.X_ {T:List Tk} {n:Nd} {t:Tk} (h1:dO t=true→t.2≠kg∧t.2≠qJ) (h:Reads 9 (t::T) n):Reads 8 (t::T) n:=fun L en rd F k hat hl hf=>by
 obtain ⟨b1,b2⟩:=hat.cons
 obtain ⟨n',e,r⟩:=h L en rd F k hat hl (hf.up (by decide))
 refine ⟨n',e,?_⟩
 show Gj L en (cV L en rd F).un (gA L en rd (cV L en rd F).cond (cV L en rd F).dm) k=_
 unfold Gj
 rw [if_neg (by rw [fH b1 (fun hs=>(h1 hs).1)];decide),if_neg (by rw [fH b1 (fun hs=>(h1 hs).2)];decide)]
 have r':gA L en rd (cV L en rd F).cond (cV L en rd F).dm k=.ok n' (k+(t::T).length):=r
 rw [r']
 show (if bH L (k+(t::T).length) fh=true then _ else PR.ok n' (k+(t::T).length))=_
 rw [if_neg (by rw [hf.ZL (by decide)];decide)]
def vV (x:Int) (t:Tk):Prop:=t.1=1∧(dv t.2:Int)=x
theorem uG {L:List Lx} {en:Int} {k:Nat} {t:Tk} {x most:Int} (b:∃x,L[k]? =some x∧x.kind=t.1∧x.text=t.2) (h:vV x t) (hm:x≤most):eC L en k most=.ok x (k+1):=by
 unfold eC
 rw [if_pos (by rw [qP b,h.1];rfl),Mx b,h.2,if_neg (by omega)]
theorem xx {L:List Lx} {en:Int} {k:Nat} {t:Tk} (b:∃x,L[k]? =some x∧x.kind=t.1∧x.text=t.2) (h:dO t=true):iF L en k=none:=by
 unfold iF
 simp only [qP b]
 unfold dO at h
 rw [Bool.or_eq_true,Bool.and_eq_true,decide_eq_true_eq,decide_eq_true_eq,decide_eq_true_eq] at h
 rcases h with h|⟨h,h2⟩
 ·rw [h];rfl
 ·rw [h,decide_eq_true h2];rfl
theorem Px (L:List Lx) (en:Int) (rd:List UInt8→Int×Int) (G:Nat):(cV L en rd (G+1)).cond=Rm L en rd G 0∧(cV L en rd (G+1)).dm=Rm L en rd G 4:=⟨rfl,rfl⟩
theorem Reads.bool {t:Tk} {q:Int} (h:dO t=true) (hq:(t.2=Bv∧q=17)∨(t.2=yT∧q=18)) (aJ:Int):Reads 9 [t] (.mk q aJ [] [] 0 0 0 0 []):=fun L en rd F k hat hl hf=>by
 obtain ⟨b1,_⟩:=hat.cons
 refine ⟨.mk q (dy L en k) [] [] 0 0 0 0 [],rfl,?_⟩
 show gA L en rd _ _ k=_
 unfold gA
 rw [xx b1 h]
 rcases hq with ⟨hw,rfl⟩|⟨hw,rfl⟩
 ·simp only
  rw [if_pos (eQ b1 h hw)];rfl
 ·simp only
  rw [if_neg (by rw [fH b1 (fun _ e=>by rw [hw] at e;exact absurd e (by decide))];decide),if_pos (eQ b1 h hw)];rfl
theorem MC {L:List Lx} {k:Nat} {t:Tk} (b:∃x,L[k]? =some x∧x.kind=t.1∧x.text=t.2) {ops:List (List UInt8×Int)} {q:Int} (h:N9 ops t=some q):iO L ops k=some q:=by rw [lF b];exact h
theorem Reads.call {T:List Tk} {n:Nd} {t lp rp:Tk} {q:Int} (ht:dO t=true) (hq:N9 eB t=some q) (hw:t.2≠Bv∧t.2≠yT∧t.2≠cj∧t.2≠cJ) (hlp:dO lp=true∧lp.2=cj) (Vz:dO rp=true∧rp.2=ay) (hc:B_ rp) (h:Reads 0 T n) (aJ:Int):
 Reads 9 (t::lp::T++[rp]) (.mk q aJ [] [] 0 0 0 0 [n]):=fun L en rd F k hat hl hf=>by
 obtain ⟨b0,a0⟩:=zm.cons (show zm L k (t::(lp::(T++[rp]))) from hat)
 obtain ⟨b1,a1⟩:=a0.cons
 obtain ⟨a2,a3⟩:=a1.app
 obtain ⟨b2,_⟩:=a3.cons
 have hk:=MB b0
 obtain ⟨G,rfl⟩:∃G,F=G+1:=⟨F-1,by omega⟩
 obtain ⟨n',e,r⟩:=h L en rd G (k+1+1) a2 (by omega) (hc.Rn b2 0)
 refine ⟨.mk q (dy L en k) [] [] 0 0 0 0 [n'],by simp only [kN,lM,e],?_⟩
 show gA L en rd (cV L en rd (G+1)).cond _ k=_
 unfold gA
 rw [xx b0 ht]
 simp only
 rw [if_neg (by rw [fH b0 (fun _=>hw.1)];decide),if_neg (by rw [fH b0 (fun _=>hw.2.1)];decide),if_neg (by rw [fH b0 (fun _=>hw.2.2.1)];decide),if_neg (by rw [fH b0 (fun _=>hw.2.2.2)];decide),MC b0 hq]
 simp only
 rw [ig (eQ b1 hlp.1 hlp.2)]
 show ((cV L en rd (G+1)).cond (k+1+1)).bind _=_
 rw [(Px L en rd G).1,r]
 show (ah L en (k+1+1+T.length) ay).bind _=_
 rw [ig (eQ b2 Vz.1 Vz.2)]
 show PR.ok _ _=PR.ok _ _
 congr 1
 simp only [List.length_append,List.length_cons,List.length_nil];omega
mutual
def aS:Nd→Nat
 |.mk _ _ _ _ _ _ _ _ ks=>1+aC ks
def aC:List Nd→Nat
 |[]=>0
 |x::r=>aS x+aC r
end
theorem xy {L:List Lx} {en:Int} {rd:List UInt8→Int×Int} {k:Nat} {t:Tk} {x:Int} (b:∃x,L[k]? =some x∧x.kind=t.1∧x.text=t.2) (h:vV x t) (hm:x≤1099511627776):aP L en rd k=.ok x (k+1):=by
 unfold aP
 rw [if_neg (by rw [qP b,h.1];simp)]
 exact uG b h hm
def B' (j:Nat) (T:List Tk):Prop:=∃t r,T=t::r∧(3≤j→dO t=true→t.2≠rK)∧(9≤j→dO t=true→t.2≠kg∧t.2≠qJ)
theorem B'.down {i j:Nat} {T:List Tk} (h:B' j T) (N5:i≤j):B' i T:=by
 obtain ⟨t,r,rfl,h1,h2⟩:=h
 exact ⟨t,r,rfl,fun h=>h1 (by omega),fun h=>h2 (by omega)⟩
theorem Reads.one {j:Nat} {T:List Tk} {n:Nd} (hj:j<9) (hh:B' (j+1) T) (h:Reads (j+1) T n):Reads j T n:=by
 have:j=0∨j=1∨j=2∨j=3∨j=4∨j=5∨j=6∨j=7∨j=8:=by omega
 rcases this with rfl|rfl|rfl|rfl|rfl|rfl|rfl|rfl|rfl
 ·exact (h.left rfl).stop rfl
 ·exact (h.left rfl).stop rfl
 ·obtain ⟨t,r,rfl,h1,_⟩:=hh
  exact h.X8 (h1 (by decide))
 ·exact h.X9
 ·exact (h.left rfl).stop rfl
 ·exact (h.left rfl).stop rfl
 ·exact (h.left rfl).stop rfl
 ·exact (h.left rfl).stop rfl
 ·obtain ⟨t,r,rfl,_,h2⟩:=hh
  exact h.X_ (h2 (by decide))
theorem Reads.down {T:List Tk} {n:Nd}:∀(d j:Nat),j+d≤9→B' (j+d) T→Reads (j+d) T n→Reads j T n
 |0,j,_,_,h=>h
 |d+1,j,hj,hh,h=>Reads.one (by omega) (hh.down (by omega)) (Reads.down d (j+1) (by omega) (by rw [show j+1+d=j+(d+1) by omega];exact hh) (by rw [show j+1+d=j+(d+1) by omega];exact h))
section
variable {L : List Lx} {en : Int} {rd : List UInt8 → Int × Int}
theorem gQ:Prog (cM L en rd):=(cE (L.length+1)).cond
theorem Ca {cond:Nat→PR Nd} (hc:Prog cond):Prog (kh L en cond):=fun k x k' h=>by
 unfold kh at h
 split at h
 ·obtain ⟨_,k1,h1,h2⟩:=ai h
  have e1:=(aF h1).1
  split at h2
  ·obtain ⟨_,k2,h3,h4⟩:=ai h2
   cases h4
   have e2:=(aF h3).1
   omega
  ·cases h2
 ·split at h
  ·obtain ⟨_,k1,h1,h2⟩:=ai h
   obtain ⟨y,k2,h3,h4⟩:=ai h2
   obtain ⟨_,k3,h5,h6⟩:=ai h4
   cases h6
   have:=(aF h1).1
   have:=hc _ _ _ h3
   have:=(aF h5).1
   omega
  ·cases h
theorem E0 {cond pat:Nat→PR Nd} (hc:Prog cond) (hp:Prog pat):Prog (mo L en cond pat):=fun k x k' h=>by
 unfold mo at h
 split at h
 ·obtain ⟨y,k1,h1,h2⟩:=ai h
  obtain ⟨_,k2,h3,h4⟩:=ai h2
  cases h4
  have:=hp _ _ _ h1
  have:=(aF h3).1
  omega
 ·obtain ⟨y,k1,h1,h2⟩:=ai h
  have a:=Ca hc _ _ _ h1
  split at h2
  ·obtain ⟨z,k2,h3,h4⟩:=ai h2
   cases h4
   have:=hc _ _ _ h3;omega
  ·cases h2;exact a
theorem xz {α:Type} {k k':Nat} {f:Int→Int→Nat→PR α} {x:α} (h:fY L en rd k f=.ok x k'):∃a b,f a b (k+5)=.ok x k':=by
 obtain ⟨_,k1,h1,h2⟩:=ai h
 obtain ⟨a,k2,h3,h4⟩:=ai h2
 obtain ⟨_,k3,h5,h6⟩:=ai h4
 obtain ⟨b,k4,h7,h8⟩:=ai h6
 obtain ⟨_,k5,h9,h10⟩:=ai h8
 have e1:=(aF h1).1
 have e2:=ic h3
 have e3:=(aF h5).1
 have e4:=ic h7
 have e5:=(aF h9).1
 subst e1 e2 e3 e4 e5
 exact ⟨a,b,h10⟩
theorem jT {cond:Nat→PR Nd} (hc:Prog cond):Prog (cF L cond):=fun k x k' h=>by
 unfold cF at h
 split at h
 ·obtain ⟨y,k1,h1,h2⟩:=ai h
  cases h2
  have:=hc _ _ _ h1;omega
 ·cases h;exact Nat.le_refl _
theorem lG {cond pat:Nat→PR Nd} (hc:Prog cond) (hp:Prog pat):Prog (fK L en rd cond pat):=fun k x k' h=>by
 obtain ⟨y,k1,h1,h2⟩:=ai h
 have a:=E0 hc hp _ _ _ h1
 split at h2
 ·obtain ⟨a1,k2,h3,h4⟩:=ai h2
  obtain ⟨_,k3,h5,h6⟩:=ai h4
  obtain ⟨b1,k4,h7,h8⟩:=ai h6
  obtain ⟨_,k5,h9,h10⟩:=ai h8
  obtain ⟨c1,d1,h11⟩:=xz h10
  obtain ⟨l,k7,Ab,za⟩:=ai h11
  obtain ⟨_,k8,h14,Sy⟩:=ai za
  cases Sy
  have:=iV h3
  have:=(aF h5).1
  have:=iV h7
  have:=(aF h9).1
  have:=jT hc _ _ _ Ab
  have:=(aF h14).1
  omega
 ·cases h2;exact a
theorem xA {cond pat:Nat→PR Nd} (hc:Prog cond) (hp:Prog pat):∀(m:Nat) (n:Nd) (k:Nat) (x:Nd) (k':Nat),iR L en rd cond pat m n k=.ok x k'→k≤k'
 |0,n,k,x,k',h=>by cases h;exact Nat.le_refl _
 |m+1,n,k,x,k',h=>by
  unfold iR at h
  split at h
  ·obtain ⟨a1,b1,h1⟩:=xz h
   obtain ⟨l,k2,h2,h3⟩:=ai h1
   obtain ⟨y,k3,h4,h5⟩:=ai h3
   have:=jT hc _ _ _ h2
   have:=lG hc hp _ _ _ h4
   have:=xA hc hp m _ _ _ _ h5
   omega
  ·cases h;exact Nat.le_refl _
theorem qR {cond pat:Nat→PR Nd} (hc:Prog cond) (hp:Prog pat):Prog (Bz L en rd cond pat):=fun k x k' h=>by
 obtain ⟨y,k1,h1,h2⟩:=ai h
 have:=lG hc hp _ _ _ h1
 have:=xA hc hp _ _ _ _ _ h2
 omega
theorem kO:∀F,Prog (nC L en rd F)
 |0=>fun k x k' h=>(by cases h)
 |F+1=>bb (qR gQ (kO F))
theorem E1 {α:Type} {k:Nat} {f g:Int→Int→Nat→PR α} (h:∀a b,f a b (k+5)=g a b (k+5)):fY L en rd k f=fY L en rd k g:=by
 unfold fY
 cases h1:ah L en k fh with
 |err a e=>rfl
 |ok x k1=>
  have e1:=(aF h1).1
  subst e1
  simp only [PR.bind]
  cases h2:aP L en rd (k+1) with
  |err a e=>rfl
  |ok a k2=>
   have e2:=ic h2
   subst e2
   simp only [PR.bind]
   cases h3:ah L en (k+1+1) au with
   |err a e=>rfl
   |ok x k3=>
    have e3:=(aF h3).1
    subst e3
    simp only [PR.bind]
    cases h4:aP L en rd (k+1+1+1) with
    |err a e=>rfl
    |ok b k4=>
     have e4:=ic h4
     subst e4
     simp only [PR.bind]
     cases h5:ah L en (k+1+1+1+1) dU with
     |err a e=>rfl
     |ok x k5=>
      have e5:=(aF h5).1
      subst e5
      exact h a b
theorem xB {cond pat:Nat→PR Nd} (hc:Prog cond) (hp:Prog pat):∀(m m':Nat) (n:Nd) (k:Nat),L.length<m+k→L.length<m'+k→iR L en rd cond pat m n k=iR L en rd cond pat m' n k
 |0,0,n,k,_,_=>rfl
 |0,m'+1,n,k,h,_=>by
  unfold iR
  rw [if_neg (fun hi=>by have:=EI hi;omega)]
 |m+1,0,n,k,_,h=>by
  conv=>lhs;unfold iR
  rw [if_neg (fun hi=>by have:=EI hi;omega)];rfl
 |m+1,m'+1,n,k,h,h'=>by
  unfold iR
  split
  ·refine E1 fun a b=>?_
   cases h1:cF L cond (k+1+5) with
   |err a e=>rfl
   |ok l k2=>
    have e1:=jT hc _ _ _ h1
    simp only [PR.bind]
    cases h2:fK L en rd cond pat k2 with
    |err a e=>rfl
    |ok x k3=>
     have e2:=lG hc hp _ _ _ h2
     exact xB hc hp m m' _ _ (by omega) (by omega)
  ·rfl
end
def ZM (L:List Lx) (en:Int) (rd:List UInt8→Int×Int) (F:Nat):Nat→Nat→PR Nd
 |10=>nC L en rd (F+1)
 |11=>Bz L en rd (cM L en rd) (nC L en rd F)
 |12=>fK L en rd (cM L en rd) (nC L en rd F)
 |_=>mo L en (cM L en rd) (nC L en rd F)
structure Jk (L:List Lx) (k:Nat) (j:Nat):Prop where
 Rn:My L k 0
 alt:j≤10→iO L EF k=none
 arr:j≤11→bH L k om=false
 brc:j≤12→bH L k cJ=false
 iff:bH L k O9=false
theorem Jk.up {L:List Lx} {k i j:Nat} (h:Jk L k i) (N5:i≤j):Jk L k j:=⟨h.Rn,fun hj=>h.alt (by omega),fun hj=>h.arr (by omega),fun hj=>h.brc (by omega),h.iff⟩
def js (j:Nat) (T:List Tk) (n:Nd):Prop:=∀L en rd F k,zm L k T→L.length≤F+k→Jk L (k+T.length) j→∃n',kN n'=kN n∧ZM L en rd F j k=.ok n' (k+T.length)
theorem Reads.cond {T:List Tk} {n:Nd} (h:Reads 0 T n) {L:List Lx} {en:Int} {rd:List UInt8→Int×Int} {k:Nat} (hat:zm L k T) (hf:My L (k+T.length) 0):∃n',kN n'=kN n∧cM L en rd k=.ok n' (k+T.length):=h L en rd L.length k hat (by omega) hf
theorem xC {α:Type} {L:List Lx} {en:Int} {rd:List UInt8→Int×Int} {k:Nat} {lk ta co tb rk:Tk} {a b:Int} {r:List Tk} (hlk:dO lk=true∧lk.2=fh) (N_:dO co=true∧co.2=au) (VB:dO rk=true∧rk.2=dU) (ha:vV a ta) (ha2:a≤1099511627776) (hb:vV b tb) (hb2:b≤1099511627776)
 (hat:zm L k (lk::ta::co::tb::rk::r)) (f:Int→Int→Nat→PR α):fY L en rd k f=f a b (k+5)∧zm L (k+5) r:=by
 obtain ⟨b0,a0⟩:=hat.cons
 obtain ⟨b1,a1⟩:=a0.cons
 obtain ⟨b2,a2⟩:=a1.cons
 obtain ⟨b3,a3⟩:=a2.cons
 obtain ⟨b4,a4⟩:=a3.cons
 refine ⟨?_,a4⟩
 unfold fY
 rw [ig (eQ b0 hlk.1 hlk.2)]
 show (aP L en rd (k+1)).bind _=_
 rw [xy b1 ha ha2]
 show (ah L en (k+1+1) au).bind _=_
 rw [ig (eQ b2 N_.1 N_.2)]
 show (aP L en rd (k+1+1+1)).bind _=_
 rw [xy b3 hb hb2]
 show (ah L en (k+1+1+1+1) dU).bind _=_
 rw [ig (eQ b4 VB.1 VB.2)]
 rfl
def WhT (W:List Tk) (cs:List Nd):Prop:=(W=[]∧cs=[])∨∃wh C c,W=wh::C∧cs=[c]∧(dO wh=true∧wh.2=oo)∧Reads 0 C c
theorem rS {W:List Tk} {cs:List Nd} (h:WhT W cs) {L:List Lx} {en:Int} {rd:List UInt8→Int×Int} {k:Nat} (hat:zm L k W) (hf:My L (k+W.length) 0) (hw:bH L (k+W.length) oo=false):∃cs',lM cs'=lM cs∧cF L (cM L en rd) k=.ok cs' (k+W.length):=by
 rcases h with ⟨rfl,rfl⟩|⟨wh,C,c,rfl,rfl,hwh,hC⟩
 ·refine ⟨[],rfl,?_⟩
  unfold cF
  rw [if_neg (by rw [show bH L k oo=false from hw];decide)];rfl
 ·obtain ⟨b0,a0⟩:=hat.cons
  have hlen:k+(wh::C).length=k+1+C.length:=by rw [List.length_cons];omega
  rw [hlen] at hf⊢
  obtain ⟨c',e,r⟩:=hC.cond (en:=en) (rd:=rd) a0 hf
  refine ⟨[c'],by simp only [lM,e],?_⟩
  unfold cF
  rw [if_pos (eQ b0 hwh.1 hwh.2),r];rfl
theorem js.repeat {T W:List Tk} {n:Nd} {cs:List Nd} {lb ta co tb lk tc td rk rb:Tk} {a b c d:Int} (tT:dO lb=true∧lb.2=cJ) (N_:dO co=true∧co.2=au) (hlk:dO lk=true∧lk.2=fh) (VB:dO rk=true∧rk.2=dU) (Pg:dO rb=true∧rb.2=a_) (cl:B_ lb) (c2:B_ rb)
 (ha:vV a ta) (ha2:a≤32768) (hb:vV b tb) (hb2:b≤32768) (hc:vV c tc) (hc2:c≤1099511627776) (hd:vV d td) (Vg:d≤1099511627776) (h:js 13 T n) (hW:WhT W cs) (aJ:Int):
 js 12 (T++(lb::ta::co::tb::co::lk::tc::co::td::rk::(W++[rb]))) (.mk 47 aJ [] [] a b c d (n::cs)):=fun L en rd F k hat hl hf=>by
 obtain ⟨a0,a1⟩:=hat.app
 obtain ⟨b1,a2⟩:=a1.cons
 obtain ⟨b2,a3⟩:=a2.cons
 obtain ⟨b3,a4⟩:=a3.cons
 obtain ⟨b4,a5⟩:=a4.cons
 obtain ⟨b5,a6⟩:=a5.cons
 obtain ⟨n',e,r⟩:=h L en rd F k a0 hl ⟨cl.Rn b1 0,fun hj=>absurd hj (by decide),fun hj=>absurd hj (by decide),fun hj=>absurd hj (by decide),fH b1 (fun _ e=>by rw [tT.2] at e;exact absurd e (by decide))⟩
 have r':mo L en (cM L en rd) (nC L en rd F) k=.ok n' (k+T.length):=r
 have Ic:=fun f:Int→Int→Nat→PR Nd=>xC (en:=en) (rd:=rd) hlk N_ VB hc hc2 hd Vg a6 f
 have a7:=(Ic (fun _ _ _=>.err 0 0)).2
 obtain ⟨a8,a9⟩:=a7.app
 obtain ⟨b6,_⟩:=a9.cons
 obtain ⟨cs',e2,r2⟩:=rS hW (en:=en) (rd:=rd) a8 (c2.Rn b6 0) (fH b6 (fun _ e=>by rw [Pg.2] at e;exact absurd e (by decide)))
 refine ⟨.mk 47 (dy L en (k+T.length)) [] [] a b c d (n'::cs'),by simp only [kN,lM,e,e2],?_⟩
 show fK L en rd (cM L en rd) (nC L en rd F) k=_
 unfold fK
 rw [r']
 show (if bH L (k+T.length) cJ=true then (eC L en (k+T.length+1) 32768).bind _ else _)=_
 rw [if_pos (eQ b1 tT.1 tT.2),uG b2 ha ha2]
 show (ah L en (k+T.length+1+1) au).bind _=_
 rw [ig (eQ b3 N_.1 N_.2)]
 show (eC L en (k+T.length+1+1+1) 32768).bind _=_
 rw [uG b4 hb hb2]
 show (ah L en (k+T.length+1+1+1+1) au).bind _=_
 rw [ig (eQ b5 N_.1 N_.2)]
 show fY L en rd (k+T.length+1+1+1+1+1) _=_
 rw [(Ic _).1,r2]
 show (ah L en _ a_).bind _=_
 rw [ig (eQ b6 Pg.1 Pg.2)]
 show PR.ok _ _=PR.ok _ _
 congr 1
 simp only [List.length_append,List.length_cons,List.length_nil];omega
def Py (L:List Lx) (en:Int) (rd:List UInt8→Int×Int) (F:Nat) (n:Nd) (k:Nat):PR Nd:=iR L en rd (cM L en rd) (nC L en rd F) (L.length+1) n k
def qT (T:List Tk) (n:Nd):Prop:=∀L en rd F k,zm L k T→L.length≤F+k→Jk L (k+T.length) 12→∃n',kN n'=kN n∧ZM L en rd F 11 k=Py L en rd F n' (k+T.length)
theorem js.seq {T:List Tk} {n:Nd} (h:js 12 T n):qT T n:=fun L en rd F k hat hl hf=>by
 obtain ⟨n',e,r⟩:=h L en rd F k hat hl hf
 have r':fK L en rd (cM L en rd) (nC L en rd F) k=.ok n' (k+T.length):=r
 refine ⟨n',e,?_⟩
 show Bz L en rd (cM L en rd) (nC L en rd F) k=_
 unfold Bz
 rw [r'];rfl
theorem qT.stop {T:List Tk} {n:Nd} (h:qT T n):js 11 T n:=fun L en rd F k hat hl hf=>by
 obtain ⟨n',e,r⟩:=h L en rd F k hat hl (hf.up (by decide))
 refine ⟨n',e,r.trans ?_⟩
 unfold Py iR
 rw [if_neg (by rw [hf.arr (by decide)];decide)]
theorem qT.then {T0 W T1:List Tk} {n0 n1:Nd} {cs:List Nd} {ar lk ta co tb rk t:Tk} {a b:Int} (ZN:dO ar=true∧ar.2=om) (N_:dO co=true∧co.2=au) (hlk:dO lk=true∧lk.2=fh) (VB:dO rk=true∧rk.2=dU) (ca:B_ ar) (ct:B_ t) (htw:dO t=true→t.2≠oo)
 (ha:vV a ta) (ha2:a≤1099511627776) (hb:vV b tb) (hb2:b≤1099511627776) (h0:qT T0 n0) (hW:WhT W cs) (h1:js 12 (t::T1) n1) (aJ:Int):
 qT (T0++(ar::lk::ta::co::tb::rk::(W++t::T1))) (.mk 45 aJ [] [] a b 0 0 (n0::n1::cs)):=fun L en rd F k hat hl hf=>by
 obtain ⟨a0,a1⟩:=hat.app
 obtain ⟨b1,a2⟩:=a1.cons
 obtain ⟨Pu,e0,r0⟩:=h0 L en rd F k a0 hl ⟨ca.Rn b1 0,fun hj=>absurd hj (by decide),fun hj=>absurd hj (by decide),fun _=>fH b1 (fun _ e=>by rw [ZN.2] at e;exact absurd e (by decide)),fH b1 (fun _ e=>by rw [ZN.2] at e;exact absurd e (by decide))⟩
 have Ic:=fun f:Int→Int→Nat→PR Nd=>xC (en:=en) (rd:=rd) hlk N_ VB ha ha2 hb hb2 a2 f
 have a3:=(Ic (fun _ _ _=>.err 0 0)).2
 obtain ⟨a4,a5⟩:=a3.app
 obtain ⟨b2,_⟩:=a5.cons
 obtain ⟨cs',e2,r2⟩:=rS hW (en:=en) (rd:=rd) a4 (ct.Rn b2 0) (fH b2 htw)
 have hk:=MB b1
 have hlen:k+(T0++(ar::lk::ta::co::tb::rk::(W++t::T1))).length=k+T0.length+1+5+W.length+(t::T1).length:=by simp only [List.length_append,List.length_cons];omega
 rw [hlen] at hf⊢
 obtain ⟨Pv,e1,r1⟩:=h1 L en rd F _ a5 (by omega) hf
 have r1':fK L en rd (cM L en rd) (nC L en rd F) (k+T0.length+1+5+W.length)=.ok Pv (k+T0.length+1+5+W.length+(t::T1).length):=r1
 refine ⟨.mk 45 (dy L en (k+T0.length)) [] [] a b 0 0 (Pu::Pv::cs'),by simp only [kN,lM,e0,e1,e2],?_⟩
 rw [r0]
 conv=>lhs;unfold Py iR
 rw [if_pos (eQ b1 ZN.1 ZN.2),(Ic _).1,r2]
 show (fK L en rd (cM L en rd) (nC L en rd F) (k+T0.length+1+5+W.length)).bind _=_
 rw [r1']
 show iR L en rd _ _ L.length _ _=Py L en rd F _ _
 exact xB gQ (kO F) _ _ _ _ (by omega) (by omega)
def qU (T:List Tk) (n:Nd):Prop:=∀L en rd F k,zm L k T→L.length≤F+k→Jk L (k+T.length) 11→∃n',kN n'=kN n∧ZM L en rd F 10 k=rO L en EF (ZM L en rd F 11) n' (k+T.length)
theorem js.alt {T:List Tk} {n:Nd} (h:js 11 T n):qU T n:=fun L en rd F k ht hl hf=>by
 obtain ⟨n',h1,h2⟩:=h L en rd F k ht hl hf
 exact ⟨n',h1,Gm h2⟩
theorem qU.stop {T:List Tk} {n:Nd} (h:qU T n):js 10 T n:=fun L en rd F k ht hl hf=>by
 obtain ⟨n',h1,h2⟩:=h L en rd F k ht hl (hf.up (by decide))
 exact ⟨n',h1,h2.trans (uq (hf.alt (by decide)))⟩
theorem qU.op {T0 T1:List Tk} {n0 n1:Nd} {t:Tk} (h0:qU T0 n0) (h1:js 11 T1 n1) (ho:N9 EF t=some 46) (hc:B_ t) (h2:dO t=true→t.2≠om∧t.2≠cJ∧t.2≠O9) (aJ:Int):qU (T0++t::T1) (.mk 46 aJ [] [] 0 0 0 0 [n0,n1]):=fun L en rd F k ht hl hf=>by
 obtain ⟨a1,a2⟩:=ht.app
 obtain ⟨b1,b2⟩:=a2.cons
 obtain ⟨Pu,e0,r0⟩:=h0 L en rd F k a1 hl ⟨hc.Rn b1 0,fun hj=>absurd hj (by decide),fun _=>fH b1 (fun hs=>(h2 hs).1),fun _=>fH b1 (fun hs=>(h2 hs).2.1),fH b1 (fun hs=>(h2 hs).2.2)⟩
 have hlen:k+(T0++t::T1).length=k+T0.length+1+T1.length:=by rw [List.length_append,List.length_cons];omega
 rw [hlen] at hf⊢
 obtain ⟨Pv,e1,r1⟩:=h1 L en rd F (k+T0.length+1) b2 (by omega) hf
 refine ⟨.mk 46 (dy L en (k+T0.length)) [] [] 0 0 0 0 [Pu,Pv],by simp only [kN,lM,e0,e1],?_⟩
 rw [r0]
 exact ur (qR gQ (kO F)) (by rw [lF b1];exact ho) r1
end Go.Proofs.YtddoehnkgcbboaaGreatDoor
