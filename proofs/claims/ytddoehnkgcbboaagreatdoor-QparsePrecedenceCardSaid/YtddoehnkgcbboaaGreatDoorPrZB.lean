/- QparsePrecedence: for every input the law returns true and its arguments read as before. Conditions: the row's own (a tied card: the listed variables of the library read as laid). -/
import Derived.Test.YtddoehnkgcbboaaGreatDoorPrZA
import Derived.Test.YtddoehnkgcbboaaGreatDoorPrY
import Derived.Test.YtddoehnkgcbboaaGreatDoorPrK
import Derived.Test.YtddoehnkgcbboaaGreatDoorPrL
import Derived.Test.YtddoehnkgcbboaaGreatDoorPrN
import Derived.Test.YtddoehnkgcbboaaGreatDoorPrA
import Derived.Test.YtddoehnkgcbboaaGreatDoorPrT
import Derived.Test.YtddoehnkgcbboaaGreatDoorPrI
import Derived.Test.YtddoehnkgcbboaaGreatDoorRows
import Derived.Test.YtddoehnkgcbboaaGreatDoorCards
import Derived.Test.YtddoehnkgcbboaaGreatDoorTie
import Derived.Lib.QuietBelow
import Derived.MakeChecks
import Derived.WalkKit
import Derived.ProofKit
import Derived.OpenShut
import Derived.ShutString
import Derived.ChangeOld
import Derived.Below
import Derived.LaidMore
import Derived.Lay
import Derived.SevenTiedAt
import Derived.Stop.Joined
set_option maxHeartbeats 16000000
set_option maxRecDepth 100000
set_option linter.unusedVariables false
set_option linter.unusedSimpArgs false
namespace Go.Proofs.YtddoehnkgcbboaaGreatDoor
open Go.RowKit Go.Shelf
theorem nN (l:List UInt8) (hl:l.length≤1000000) (sc:Int) (w:World) (hG:Gl w):
 Calls Tryz.prog 7 #[.string (ae l),.int .i64 sc] w (lH (lu false l (gS sc) (fun t=>dI (ae t) sc)) w):=by
 have PA:=aa (fun W hg=>yg 17 cM (fun args W=>by kernel_rfl) (fun p hn k W h=>pW p hn k W h) (fun _ _ _=>xF) l hl sc W hg)
 rw [CZ]
 have HG:=aa hG
 have R0:=aa (Row.new w 25 bJ)
 have B0:=aa ((Below.refl w.heap.size w).alloc (Nat.le_refl _) (.cells bJ 25))
 generalize mO cM l (gS sc) (fun t=>dI (ae t) sc)=PP at*
 generalize ae l=S at*
 clear hG
 go_enter Tryz.func7,Tryz.ntmps7
 go_wp2_with fail
 refine (PA.out _ (HG.out.below B0.out)).mono ?_
 rintro e w1 ⟨⟨cs,rfl,aB,Oc⟩,hb⟩
 obtain ⟨kd,a0,nm,vl,xa,xb,xc,xd,yA,dW,dp,rfl⟩:=aB.nine
 have hr1:Row w1 w.heap.size 25 bJ:=R0.out.below hb R0.out.lt
 have gJ:=aa hr1
 have fu:=aa (B0.out.trans (hb.mono B0.out.size))
 have cN:=aa aB
 have Qm:=aa Oc
 obtain ⟨e0,e1,e2,e3,e4,e5,e6,e7,e8⟩:=aj hr1
 obtain ⟨f0,f1,f2,f3,f4,f5,f6,f7,f8⟩:=aA hr1
 clear aB hr1 hb Oc
 unfold aw
 go_wp2
 refine bodyPost_ret (ml rfl _ _ w.heap.size 25 _ _ _ _ _ rfl rfl rfl (av gJ.out _ _ _ _ _ _ _ _ _) Tryz.underlying25 rfl (by kernel_rfl)) rfl ⟨⟨_,rfl,?_,Qm.out⟩,fu.out.trans (ak (Nat.le_refl _) _ _ _ _ _ _ _ _ _)⟩
 have hz:w.heap.size<(w.alloc (.cells bJ 25)).heap.size:=by rw [World.size_alloc];omega
 exact (cN.out.keeps (ax (C:=fun b=>b<(w.alloc (.cells bJ 25)).heap.size) (W:=w1) (g:=w.heap.size) hz _ _ _ _ _ _ _ _ _)).mono (fun b hb=>by show b<(w.alloc (.cells bJ 25)).heap.size;have:b<w.heap.size:=hb;omega)
theorem Db (l:List UInt8) (hl:l.length≤1000000) (sc:Int) (w:World) (hG:Gl w):
 Calls Tryz.prog 9 #[.string (ae l),.int .i64 sc] w (lH (lu true l (gS sc) (fun t=>dI (ae t) sc)) w):=by
 have PA:=aa (fun W hg=>yg 25 IW (fun args W=>by kernel_rfl) (fun p hn k W h=>Nt p hn k W h) (fun _ _ _=>MH) l hl sc W hg)
 rw [Fz]
 have HG:=aa hG
 have R0:=aa (Row.new w 25 bJ)
 have B0:=aa ((Below.refl w.heap.size w).alloc (Nat.le_refl _) (.cells bJ 25))
 generalize mO IW l (gS sc) (fun t=>dI (ae t) sc)=PP at*
 generalize ae l=S at*
 clear hG
 go_enter Tryz.func9,Tryz.ntmps9
 go_wp2_with fail
 refine (PA.out _ (HG.out.below B0.out)).mono ?_
 rintro e w1 ⟨⟨cs,rfl,aB,Oc⟩,hb⟩
 obtain ⟨kd,a0,nm,vl,xa,xb,xc,xd,yA,dW,dp,rfl⟩:=aB.nine
 have hr1:Row w1 w.heap.size 25 bJ:=R0.out.below hb R0.out.lt
 have gJ:=aa hr1
 have fu:=aa (B0.out.trans (hb.mono B0.out.size))
 have cN:=aa aB
 have Qm:=aa Oc
 obtain ⟨e0,e1,e2,e3,e4,e5,e6,e7,e8⟩:=aj hr1
 obtain ⟨f0,f1,f2,f3,f4,f5,f6,f7,f8⟩:=aA hr1
 clear aB hr1 hb Oc
 unfold aw
 go_wp2
 refine bodyPost_ret (ml rfl _ _ w.heap.size 25 _ _ _ _ _ rfl rfl rfl (av gJ.out _ _ _ _ _ _ _ _ _) Tryz.underlying25 rfl (by kernel_rfl)) rfl ⟨⟨_,rfl,?_,Qm.out⟩,fu.out.trans (ak (Nat.le_refl _) _ _ _ _ _ _ _ _ _)⟩
 have hz:w.heap.size<(w.alloc (.cells bJ 25)).heap.size:=by rw [World.size_alloc];omega
 exact (cN.out.keeps (ax (C:=fun b=>b<(w.alloc (.cells bJ 25)).heap.size) (W:=w1) (g:=w.heap.size) hz _ _ _ _ _ _ _ _ _)).mono (fun b hb=>by show b<(w.alloc (.cells bJ 25)).heap.size;have:b<w.heap.size:=hb;omega)
end Go.Proofs.YtddoehnkgcbboaaGreatDoor
namespace Go.Proofs.YtddoehnkgcbboaaGreatDoor
open Go.RowKit Go.Shelf Go.Maps
theorem vn:gS 0=true:=by decide
theorem lH.tree {R:Nd×Int×Int} {w w':World} {e:Ending} (h:lH R w e w') {kd a0 xa xb xc xd:Int} {nm vl:List UInt8} {ks:List Nd} (hR:R=(.mk kd a0 nm vl xa xb xc xd ks,0,0)):
 ∃A cap,e=.returned (.tuple #[.agg (aw kd a0 nm vl xa xb xc xd (.slice A ks.length cap)).toArray,.int .i64 0,.int .i64 0])∧cG (fun b=>b<w.heap.size) w' (.mk kd a0 nm vl xa xb xc xd ks) (aw kd a0 nm vl xa xb xc xd (.slice A ks.length cap))∧Below w.heap.size w w':=by
 obtain ⟨⟨cs,rfl,aB,_⟩,hb⟩:=h
 subst hR
 obtain ⟨A,cap,rfl⟩:=aB.top
 exact ⟨A,cap,rfl,aB,hb⟩
theorem Nx (w:World) (hG:Gl w):Calls Tryz.prog 6 #[] w fun e w'=>e=.returned (.bool true)∧Below w.heap.size w w':=by
 have L1:=aa (fun (W:World) (hg:Gl W)=>show Calls Tryz.prog 7 #[.string ⟨#[97,38,98,61,61,99,124,124,33,100]⟩,.int .i64 0] W fun e w'=>∃A cap,e=.returned (.tuple #[.agg (aw 30 6 [] [] 0 0 0 0 (.slice A 2 cap)).toArray,.int .i64 0,.int .i64 0])∧cG (fun b=>b<W.heap.size) w' Of (aw 30 6 [] [] 0 0 0 0 (.slice A 2 cap))∧Below W.heap.size W w' from (nN aw1 (by decide) 0 W hg).mono fun e w' h=>h.tree (by rw [vn];exact JO _))
 have L2:=aa (fun (W:World) (hg:Gl W)=>show Calls Tryz.prog 9 #[.string ⟨#[114,105,115,101,40,114,101,113,41,32,45,62,32,91,49,44,32,53,93,32,119,104,105,108,101,32,98,117,115,121,32,114,105,115,101,40,97,99,107,41]⟩,.int .i64 0] W fun e w'=>∃A cap,e=.returned (.tuple #[.agg (aw 45 10 [] [] 1 5 0 0 (.slice A 3 cap)).toArray,.int .i64 0,.int .i64 0])∧cG (fun b=>b<W.heap.size) w' Og (aw 45 10 [] [] 1 5 0 0 (.slice A 3 cap))∧Below W.heap.size W w' from (Db aw2 (by decide) 0 W hg).mono fun e w' h=>h.tree (by rw [vn];exact JP _))
 have FM:=aa (fun (W:World) (A:Option Addr) (cap:Nat) (hg:Gl W) (h:cG (fun c=>W.heap.size≤c) W Of (aw 30 6 [] [] 0 0 0 0 (.slice A 2 cap)))=>show Calls Tryz.prog 12 #[.agg #[.int .i64 30,.int .i64 6,.string (ae []),.string (ae []),.int .i64 0,.int .i64 0,.int .i64 0,.int .i64 0,.slice A 2 cap]] W fun e w'=>e=.returned (.string ⟨#[97,32,38,32,98,32,61,61,32,99,32,124,124,32,33,100]⟩)∧Below W.heap.size W w' from by
  have:=Fu Of Ng Fv.1 _ W h hg
  rw [Na] at this
  exact this)
 have VM:=aa (fun (W:World) (A:Option Addr) (cap:Nat) (hg:Gl W) (h:cG (fun c=>W.heap.size≤c) W Og (aw 45 10 [] [] 1 5 0 0 (.slice A 3 cap)))=>show Calls Tryz.prog 13 #[.agg #[.int .i64 45,.int .i64 10,.string (ae []),.string (ae []),.int .i64 1,.int .i64 5,.int .i64 0,.int .i64 0,.slice A 3 cap]] W fun e w'=>e=.returned (.bool true)∧Below W.heap.size W w' from by
  have:=xX Og Nh Fv.2.1 _ W h hg
  rw [Nb] at this
  exact this)
 have VZ:=aa (fun (W:World) (hg:Gl W)=>show Calls Tryz.prog 13 #[.agg #[.int .i64 0,.int .i64 0,.string ⟨#[]⟩,.string ⟨#[]⟩,.int .i64 0,.int .i64 0,.int .i64 0,.int .i64 0,.slice none 0 0]] W fun e w'=>e=.returned (.bool false)∧Below W.heap.size W w' from by
  have:=xX jy Ni Fv.2.2 _ W (kV _ W) hg
  rw [Nc] at this
  exact this)
 have HG:=aa hG
 clear hG
 go_enter Tryz.func6,Tryz.ntmps6
 go_wp2_with fail
 refine (L1.out _ HG.out).mono ?_
 rintro e w1 ⟨A1,se,rfl,yi,hb1⟩
 unfold aw
 obtain ⟨W1,hW1⟩:∃W1,w1.alloc (.cells #[.int .i64 30,.int .i64 6,.string (ae []),.string (ae []),.int .i64 0,.int .i64 0,.int .i64 0,.int .i64 0,.slice A1 2 se] 25)=W1:=⟨_,rfl⟩
 have HW1:=aa hW1
 have R1:=aa (show Row W1 w1.heap.size 25 #[.int .i64 30,.int .i64 6,.string (ae []),.string (ae []),.int .i64 0,.int .i64 0,.int .i64 0,.int .i64 0,.slice A1 2 se] from by rw [←hW1];exact Row.new _ _ _)
 have B1:=aa (show Below w.heap.size w W1 from by rw [←hW1];exact hb1.alloc hb1.size _)
 have K1:=aa (show cG (fun b=>w1.heap.size≤b) W1 Of (aw 30 6 [] [] 0 0 0 0 (.slice A1 2 se)) from by rw [←hW1];exact yi.low.keeps (af.of_below ((Below.refl _ w1).alloc (Nat.le_refl _) _) (Nat.le_refl _)))
 clear hb1 yi hW1
 go_upto_region 2 with fail
 rw [HW1.out]
 go_wp2_with fail
 refine (L2.out _ (HG.out.below B1.out)).mono ?_
 rintro e w3 ⟨A2,nA,rfl,vM,hb2⟩
 unfold aw
 obtain ⟨W3,hW3⟩:∃W3,w3.alloc (.cells #[.int .i64 45,.int .i64 10,.string (ae []),.string (ae []),.int .i64 1,.int .i64 5,.int .i64 0,.int .i64 0,.slice A2 3 nA] 25)=W3:=⟨_,rfl⟩
 have U0:=aa hW3
 have EC:Below W1.heap.size W1 W3:=by rw [←hW3];exact hb2.alloc hb2.size _
 have R3:=aa (show Row W3 w3.heap.size 25 #[.int .i64 45,.int .i64 10,.string (ae []),.string (ae []),.int .i64 1,.int .i64 5,.int .i64 0,.int .i64 0,.slice A2 3 nA] from by rw [←hW3];exact Row.new _ _ _)
 have B3:=aa (B1.out.trans (EC.mono B1.out.size))
 have ZF:=aa (R1.out.below EC R1.out.lt)
 have K13:=aa (show cG (fun b=>W3.heap.size≤b) W3 Of (aw 30 6 [] [] 0 0 0 0 (.slice A1 2 se)) from (K1.out.keeps (af.of_below EC (Nat.le_refl _))).low)
 have K3:=aa (show cG (fun b=>W3.heap.size≤b) W3 Og (aw 45 10 [] [] 1 5 0 0 (.slice A2 3 nA)) from by rw [←hW3];exact (vM.low.keeps (af.of_below ((Below.refl _ w3).alloc (Nat.le_refl _) _) (Nat.le_refl _))).low)
 clear hb2 vM hW3 EC
 go_upto_region 3 with fail
 rw [U0.out]
 obtain ⟨n0,n1,n2,n3,n4,n5,n6,n7,n8⟩:=aj ZF.out
 go_wp2_with fail
 refine (FM.out W3 A1 se (HG.out.below B3.out) K13.out).mono ?_
 rintro e w4 ⟨rfl,hb4⟩
 clear n0 n1 n2 n3 n4 n5 n6 n7 n8
 have B4:=aa (B3.out.trans (hb4.mono B3.out.size))
 have R14:=aa (ZF.out.below hb4 ZF.out.lt)
 have R34:=aa (R3.out.below hb4 R3.out.lt)
 have K34:=aa (show cG (fun b=>w4.heap.size≤b) w4 Og (aw 45 10 [] [] 1 5 0 0 (.slice A2 3 nA)) from (K3.out.keeps (af.of_below hb4 (Nat.le_refl _))).low)
 clear hb4
 obtain ⟨n0,n1,n2,n3,n4,n5,n6,n7,n8⟩:=aj R14.out
 obtain ⟨r0,r1,r2,r3,r4,r5,r6,r7,r8⟩:=aj R34.out
 go_wp2_with fail
 refine (VM.out w4 A2 nA (HG.out.below B4.out) K34.out).mono ?_
 rintro e w5 ⟨rfl,hb5⟩
 clear n0 n1 n2 n3 n4 n5 n6 n7 n8 r0 r1 r2 r3 r4 r5 r6 r7 r8
 have B5:=aa (B4.out.trans (hb5.mono B4.out.size))
 clear hb5
 go_wp2_with fail
 refine (VZ.out w5 (HG.out.below B5.out)).mono ?_
 rintro e w6 ⟨rfl,bA⟩
 have B6:=aa (B5.out.trans (bA.mono B5.out.size))
 clear bA
 go_wp2
 go_ret
 exact ⟨rfl,B6.out⟩
end Go.Proofs.YtddoehnkgcbboaaGreatDoor
namespace Go.Proofs.YtddoehnkgcbboaaGreatDoor
open Go.RowKit Go.Shelf
def Du:List (List UInt8):=[[124,124],[38,38],[61,61],[60],[124],[94],[38],[43],[45]]
def Dc:List Int:=[1,2,4,4,5,6,7,8,8]
def VO (x y:Nat):List UInt8:=[97,32]++Du.getD x []++[32,98,32]++Du.getD y []++[32,99]
def VP (x y:Nat) (R:Nd×Int×Int):Bool:=
 if Dc.getD x 0=4∧Dc.getD y 0=4 then decide (R.2.2=3)&&decide (R.2.1=5+((Du.getD x []).length:Int))
 else decide (R.2.2=0)&&decide (R.1.kids.length=2)&&
  (if Dc.getD x 0<Dc.getD y 0 then decide (R.1.aJ=2)&&decide ((R.1.kids.getD 1 jy).kids.length=2)&&decide ((R.1.kids.getD 0 jy).name=[97])
   else decide (R.1.aJ=5+((Du.getD x []).length:Int))&&decide ((R.1.kids.getD 0 jy).kids.length=2)&&decide ((R.1.kids.getD 1 jy).name=[99]))
theorem UI (rd:List UInt8→Int×Int):((List.range 9).all fun x=>(List.range 9).all fun y=>VP x y (lu false (VO x y) true rd))=true:=by kernel_rfl
theorem Y0 (rd:List UInt8→Int×Int) {x y:Nat} (hx:x<9) (hy:y<9):VP x y (lu false (VO x y) true rd)=true:=
 List.all_eq_true.1 (List.all_eq_true.1 (UI rd) x (List.mem_range.2 hx)) y (List.mem_range.2 hy)
structure RS where
 k:Nat
 wh:Int
 code:Int
def vo (s:RS):RS:=⟨s.k+1,s.wh,s.code⟩
def G1 (s:RS) (wh code:Int):RS:=if s.code=0 then ⟨s.k,wh,code⟩ else s
section
variable (L : List Lx) (en : Int) (rd : List UInt8 → Int × Int)
def atS (s:RS):Int:=dy L en s.k
def isS (s:RS) (w:List UInt8):Bool:=decide (s.code=0)&&bH L s.k w
def UJ (k:Nat) (q:Int):Bool:=match L[k]? with|some x=>decide (x.kind=q)|none=>false
def Ny (s:RS) (q:Int):Bool:=decide (s.code=0)&&UJ L s.k q
def JS (s:RS) (w:List UInt8):RS:=if isS L s w then vo s else G1 s (atS L en s) 3
def UK (s:RS) (most:Int):Int×RS:=if Ny L s 1 then (if most<(dv (fX L s.k):Int) then (0,G1 s (atS L en s) 2) else ((dv (fX L s.k):Int),vo s)) else (0,G1 s (atS L en s) 3)
def Dd (s:RS):Int×RS:=if Ny L s 2 then (if (rd (fX L s.k)).2=0 then ((rd (fX L s.k)).1,vo s) else (0,G1 s (atS L en s) (rd (fX L s.k)).2)) else UK L en s 1099511627776
def Nz (s:RS):(Int×Int)×RS:=
 (((Dd L en rd (JS L en s fh)).1,(Dd L en rd (JS L en (Dd L en rd (JS L en s fh)).2 au)).1),JS L en (Dd L en rd (JS L en (Dd L en rd (JS L en s fh)).2 au)).2 dU)
def UL (Oe:RS→Nd×RS) (s:RS):List Nd×RS:=if isS L s oo then ([(Oe (vo s)).1],(Oe (vo s)).2) else ([],s)
def UM (x:Nd) (aJ:Int) (d:Int×Int) (el:RS→Nd×RS) (c:List Nd×RS):Nd×RS:=(.mk 45 aJ [] [] d.1 d.2 0 0 (x::(el c.2).1::c.1),(el c.2).2)
def thenS (x:Nd) (aJ:Int) (Oe el:RS→Nd×RS) (s:RS):Nd×RS:=UM x aJ (Nz L en rd s).1 el (UL L Oe (Nz L en rd s).2)
end
end Go.Proofs.YtddoehnkgcbboaaGreatDoor
namespace Go.Proofs.YtddoehnkgcbboaaGreatDoor
open Go.RowKit Go.Shelf Go.ChangeShapes Go.WideShapes Go.Deep Go.Maps
def InK (kd a0 a b c d:Int) (nm v:List UInt8):Prop:=dr kd∧dr a0∧dr a∧dr b∧dr c∧dr d∧nm.length≤maxLen∧v.length≤maxLen
mutual
def InN:Nd→Prop
 |.mk kd a0 nm v a b c d ks=>InK kd a0 a b c d nm v∧ks.length≤140737488355328∧UO ks
def UO:List Nd→Prop
 |[]=>True
 |x::r=>InN x∧UO r
end
theorem UO.get:∀{ks:List Nd},UO ks→∀i (h:i<ks.length),InN ks[i]
 |x::r,h,0,_=>by rw [UO] at h;exact h.1
 |x::r,h,i+1,hi=>by rw [UO] at h;exact UO.get h.2 i (by simpa using hi)
end Go.Proofs.YtddoehnkgcbboaaGreatDoor
namespace Go.Proofs.YtddoehnkgcbboaaGreatDoor
open Go.RowKit Go.Shelf Go.Maps
structure De (p:PS) (W:World) (s:RS):Prop where
 row:Row W p.b 48 #[.slice p.A p.L.length p.cap,.int .i64 (s.k:Int),.int .i64 p.en,.int .i64 p.sc,.int .i64 s.wh,.int .i64 s.code]
 lx:pC W p.A p.L
 ne:∀a,p.A=some a→a.block≠p.b
 le:s.k≤p.L.length
 small:p.L.length≤512
 gl:Gl W
 gb:3≠p.b∧2≠p.b
 good:∀x∈p.L,LZ x
theorem De.below {p:PS} {W W':World} {s:RS} (h:De p W s) (hb:Below W.heap.size W W'):De p W' s:=
 ⟨h.row.below hb h.row.lt,h.lx.below hb,h.ne,h.le,h.small,h.gl.below hb,h.gb,h.good⟩
theorem De.above {p:PS} {W0 W W':World} {s0 s:RS} (h0:De p W0 s0) (h:De p W s) (hb:Below W0.heap.size W W'):De p W' s:=by
 refine ⟨h.row.below hb h0.row.lt,fun hp=>?_,h.ne,h.le,h.small,h.gl.low h0.gl.lt hb,h.gb,h.good⟩
 obtain ⟨bl,off,hA,hat⟩:=h.lx hp
 obtain ⟨bl0,aaQ,IX,Ty⟩:=h0.lx hp
 have hz:bl<W0.heap.size:=by
  rw [hA] at IX;cases IX
  exact World.block_lt_of_cell? W0 _ (Ty 0 hp).1
 exact ⟨bl,off,hA,fun i hi=>by
  obtain ⟨a,b,c⟩:=hat i hi
  exact ⟨(hb.cell (p:=⟨bl,_,none⟩) hz).trans a,(hb.cell (p:=⟨bl,_,none⟩) hz).trans b,(hb.cell (p:=⟨bl,_,none⟩) hz).trans c⟩⟩
structure UP (p:PS) (W:World) (s:RS):Prop where
 c0:W.cell? ⟨p.b,0,none⟩=some (.slice p.A p.L.length p.cap)
 c1:W.cell? ⟨p.b,1,none⟩=some (.int .i64 (s.k:Int))
 c2:W.cell? ⟨p.b,2,none⟩=some (.int .i64 p.en)
 c3:W.cell? ⟨p.b,3,none⟩=some (.int .i64 p.sc)
 c4:W.cell? ⟨p.b,4,none⟩=some (.int .i64 s.wh)
 c5:W.cell? ⟨p.b,5,none⟩=some (.int .i64 s.code)
 f1:W.frozen? ⟨p.b,1,none⟩=false
 f4:W.frozen? ⟨p.b,4,none⟩=false
 f5:W.frozen? ⟨p.b,5,none⟩=false
theorem De.cells {p:PS} {W:World} {s:RS} (h:De p W s):UP p W s:=⟨h.row.cell 0,h.row.cell 1,h.row.cell 2,h.row.cell 3,h.row.cell 4,h.row.cell 5,h.row.frozen 1,h.row.frozen 4,h.row.frozen 5⟩
theorem De.lex {p:PS} {W:World} {s:RS} (h:De p W s) (hk:s.k<p.L.length):∃bl off,p.A=some ⟨bl,off,none⟩∧bl≠p.b∧bl<W.heap.size∧W.cell? ⟨bl,off+s.k*3,none⟩=some (.int .i64 p.L[s.k].kind)∧W.cell? ⟨bl,off+s.k*3+1,none⟩=some (.string (ae p.L[s.k].text))∧W.cell? ⟨bl,off+s.k*3+2,none⟩=some (.int .i64 (p.L[s.k].aJ:Int)):=by
 obtain ⟨bl,off,hA,hz,hc⟩:=h.lx.at hk
 obtain ⟨c0,c1,c2⟩:=hc W (Below.refl _ _)
 exact ⟨bl,off,hA,h.ne _ hA,hz,c0,c1,c2⟩
theorem De.turn {p:PS} {W:World} {s s':RS} (h:De p W s) (hle:s'.k≤p.L.length) (o:Nat) (v:Value)
 (hr:Row (W.setCell ⟨p.b,o,none⟩ v) p.b 48 #[.slice p.A p.L.length p.cap,.int .i64 (s'.k:Int),.int .i64 p.en,.int .i64 p.sc,.int .i64 s'.wh,.int .i64 s'.code]):De p (W.setCell ⟨p.b,o,none⟩ v) s':=by
 refine ⟨hr,fun hp=>?_,h.ne,hle,h.small,h.gl.keep (fun c _ he=>Below.heap_setCell _ _ _ _ (by rcases he with rfl|rfl;exact h.gb.1;exact h.gb.2)),h.gb,h.good⟩
 obtain ⟨bl,off,hA,hat⟩:=h.lx hp
 have hne:=h.ne _ hA
 have hf:∀o',(W.setCell ⟨p.b,o,none⟩ v).cell? ⟨bl,o',none⟩=W.cell? ⟨bl,o',none⟩:=fun o'=>World.cell?_of_block (Below.heap_setCell _ _ _ _ hne)
 exact ⟨bl,off,hA,fun i hi=>by rw [hf,hf,hf];exact hat i hi⟩
theorem De.next {p:PS} {W:World} {s:RS} (h:De p W s) (hk:s.k<p.L.length):De p (W.setCell ⟨p.b,1,none⟩ (.int .i64 ((s.k:Int)+1))) (vo s):=
 h.turn (s':=vo s) hk 1 _ (h.row.bg 1 _)
theorem NA {W:World} {g:Nat} (h:Row W g 25 bJ):(W.cell? ⟨g,0,none⟩=some (.int .i64 0)∧W.cell? ⟨g,1,none⟩=some (.int .i64 0)∧W.cell? ⟨g,2,none⟩=some (.string {data:=#[]})∧W.cell? ⟨g,3,none⟩=some (.string {data:=#[]})∧W.cell? ⟨g,4,none⟩=some (.int .i64 0)∧W.cell? ⟨g,5,none⟩=some (.int .i64 0)∧W.cell? ⟨g,6,none⟩=some (.int .i64 0)∧W.cell? ⟨g,7,none⟩=some (.int .i64 0)∧W.cell? ⟨g,8,none⟩=some (.slice none 0 0))∧
 (W.frozen? ⟨g,0,none⟩=false∧W.frozen? ⟨g,1,none⟩=false∧W.frozen? ⟨g,2,none⟩=false∧W.frozen? ⟨g,3,none⟩=false∧W.frozen? ⟨g,4,none⟩=false∧W.frozen? ⟨g,5,none⟩=false∧W.frozen? ⟨g,6,none⟩=false∧W.frozen? ⟨g,7,none⟩=false∧W.frozen? ⟨g,8,none⟩=false):=
 ⟨⟨h.cell 0,h.cell 1,h.cell 2,h.cell 3,h.cell 4,h.cell 5,h.cell 6,h.cell 7,h.cell 8⟩,h.frozen 0,h.frozen 1,h.frozen 2,h.frozen 3,h.frozen 4,h.frozen 5,h.frozen 6,h.frozen 7,h.frozen 8⟩
end Go.Proofs.YtddoehnkgcbboaaGreatDoor
namespace Go.Proofs.YtddoehnkgcbboaaGreatDoor.qparsePrecedence
open Go.RowKit Go.Shelf Go.Maps Go.Sort
theorem Y1 {W:World} (h:laidMetH Tryz.prog Rows.qparsePrecedenceRow.laid W) (hS:W.ShapedOpen Tryz.prog):Gl W:=by
 rw [MakeChecks.laidMetH_plain _ _ _ (by kernel_rfl)] at h
 exact V2 (x:=("math/bits.deBruijn32tab",Rows.laid_math_bits_deBruijn32tab)) (y:=("math/bits.deBruijn64tab",Rows.laid_math_bits_deBruijn64tab)) (rest:=Rows.qparsePrecedenceRow.laid.drop 3) h hS
theorem mP {W:World} {g:Nat} (h:Row W g 9 #[.string ⟨#[124,124]⟩,.string ⟨#[38,38]⟩,.string ⟨#[61,61]⟩,.string ⟨#[60]⟩,.string ⟨#[124]⟩,.string ⟨#[94]⟩,.string ⟨#[38]⟩,.string ⟨#[43]⟩,.string ⟨#[45]⟩]) {x:Nat} (hx:x<9):W.cell? ⟨g,x,none⟩=some (.string (ae (Du.getD x []))):=by
 match x,hx with
 |0,_=>exact h.cell 0
 |1,_=>exact h.cell 1
 |2,_=>exact h.cell 2
 |3,_=>exact h.cell 3
 |4,_=>exact h.cell 4
 |5,_=>exact h.cell 5
 |6,_=>exact h.cell 6
 |7,_=>exact h.cell 7
 |8,_=>exact h.cell 8
theorem zY {W:World} {g:Nat} (h:Row W g 3 #[.int .i64 1,.int .i64 2,.int .i64 4,.int .i64 4,.int .i64 5,.int .i64 6,.int .i64 7,.int .i64 8,.int .i64 8]) {x:Nat} (hx:x<9):W.cell? ⟨g,x,none⟩=some (.int .i64 (Dc.getD x 0)):=by
 match x,hx with
 |0,_=>exact h.cell 0
 |1,_=>exact h.cell 1
 |2,_=>exact h.cell 2
 |3,_=>exact h.cell 3
 |4,_=>exact h.cell 4
 |5,_=>exact h.cell 5
 |6,_=>exact h.cell 6
 |7,_=>exact h.cell 7
 |8,_=>exact h.cell 8
theorem NB {x:Nat} (hx:x<9):(Du.getD x []).length≤2:=by
 match x,hx with
 |0,_=>decide
 |1,_=>decide
 |2,_=>decide
 |3,_=>decide
 |4,_=>decide
 |5,_=>decide
 |6,_=>decide
 |7,_=>decide
 |8,_=>decide
theorem Y2 {i:Int} (h:0≤i∧i≤255):∃x:Nat,x<9∧Int.tmod i 9=(x:Int):=by
 refine ⟨(i.toNat % 9),Nat.mod_lt _ (by decide),?_⟩
 rw [Int.tmod_eq_emod_of_nonneg h.1]
 omega
theorem QB {W2 w5:World} (h:Below W2.drew.heap.size W2.drew w5):Below W2.heap.size W2 w5:=⟨h.os,h.tape,h.output,h.size,h.block⟩
theorem NC {W2 w5:World} {o:Obj} (h:Below (W2.drew.alloc o).heap.size (W2.drew.alloc o) w5):Below W2.heap.size W2 w5:=(((Below.refl W2.heap.size W2).drew).alloc (Nat.le_refl _) o).trans (h.mono (by simp [World.size_alloc]))
theorem ND {kd a0 xa xb xc xd pa pe:Int} {nm vl:List UInt8} {ks:List Nd} {N:Nat} (hN:ks.length=N) {w w':World} {e:Ending} (h:lH (.mk kd a0 nm vl xa xb xc xd ks,pa,pe) w e w'):
 ∃A cap,e=.returned (.tuple #[.agg #[.int .i64 kd,.int .i64 a0,.string (ae nm),.string (ae vl),.int .i64 xa,.int .i64 xb,.int .i64 xc,.int .i64 xd,.slice A N cap],.int .i64 pa,.int .i64 pe])∧cG (fun b=>b<w.heap.size) w' (.mk kd a0 nm vl xa xb xc xd ks) (aw kd a0 nm vl xa xb xc xd (.slice A N cap))∧Below w.heap.size w w':=by
 obtain ⟨⟨cs,rfl,aB,hc⟩,hb⟩:=h
 obtain ⟨A,cap,rfl⟩:=aB.top
 subst hN
 exact ⟨A,cap,rfl,aB,hb⟩
theorem NF {x y:Nat} {n:Nd} {pa pe:Int} (h:VP x y (n,pa,pe)=true) (h4:Dc.getD x 0=4∧Dc.getD y 0=4):pe=3∧pa=5+((Du.getD x []).length:Int):=by
 unfold VP at h
 rw [if_pos h4,Bool.and_eq_true,decide_eq_true_eq,decide_eq_true_eq] at h
 exact h
theorem NH {x y:Nat} {kd a0 xa xb xc xd pa pe:Int} {nm vl:List UInt8} {ks:List Nd} (h:VP x y (.mk kd a0 nm vl xa xb xc xd ks,pa,pe)=true) (h4:¬(Dc.getD x 0=4∧Dc.getD y 0=4)):
 pe=0∧ks.length=2∧(Dc.getD x 0<Dc.getD y 0→a0=2∧(ks.getD 1 jy).kids.length=2∧(ks.getD 0 jy).name=[97])∧(¬Dc.getD x 0<Dc.getD y 0→a0=5+((Du.getD x []).length:Int)∧(ks.getD 0 jy).kids.length=2∧(ks.getD 1 jy).name=[99]):=by
 unfold VP at h
 rw [if_neg h4,Bool.and_eq_true,Bool.and_eq_true,decide_eq_true_eq,decide_eq_true_eq] at h
 obtain ⟨⟨h1,h2⟩,h3⟩:=h
 refine ⟨h1,h2,fun hv=>?_,fun hv=>?_⟩
 ·rw [if_pos hv,Bool.and_eq_true,Bool.and_eq_true,decide_eq_true_eq,decide_eq_true_eq,decide_eq_true_eq] at h3
  exact ⟨h3.1.1,h3.1.2,h3.2⟩
 ·rw [if_neg hv,Bool.and_eq_true,Bool.and_eq_true,decide_eq_true_eq,decide_eq_true_eq,decide_eq_true_eq] at h3
  exact ⟨h3.1.1,h3.1.2,h3.2⟩
theorem G2 {C:Nat→Prop} {W:World} {kd a0 xa xb xc xd:Int} {nm vl:List UInt8} {ks:List Nd} {A:Option Addr} {N cap:Nat} (h:cG C W (.mk kd a0 nm vl xa xb xc xd ks) (aw kd a0 nm vl xa xb xc xd (.slice A N cap))) (h2:ks.length=2):
 ∃bk off,A=some ⟨bk,off,none⟩∧bk<W.heap.size∧∀i,i<2→W.cell? ⟨bk,off+i*9+2,none⟩=some (.string (ae (ks.getD i jy).name))∧∃A' c',W.cell? ⟨bk,off+i*9+8,none⟩=some (.slice A' (ks.getD i jy).kids.length c'):=by
 cases h with
 |mk _ _ _ _ _ _ _ _ _ _ _ bF hl hk hr cI=>
  obtain ⟨bk,off,hA,_,hz,_⟩:=hr.nine (i:=0) (by omega)
  refine ⟨bk,off,hA,hz,fun i hi=>?_⟩
  have hi':i<ks.length:=by omega
  obtain ⟨bk',SI,OL,_,_,hat⟩:=hr.nine (i:=i) (by omega)
  rw [hA] at OL
  obtain ⟨rfl,rfl⟩:bk=bk'∧off=SI:=by injection OL with OL;injection OL with e1 e2;exact ⟨e1,e2⟩
  have hg:ks.getD i jy=ks[i]:=by rw [List.getD_eq_getElem?_getD,List.getElem?_eq_getElem hi'];rfl
  rw [hg]
  have aB:=hk i hi' (by omega)
  generalize ks[i]=z at*
  obtain ⟨k1,k2,n1,v1,a1,b1,c1,d1,kk⟩:=z
  obtain ⟨A2,c2,e2⟩:=aB.top
  obtain ⟨_,_,m2,_,_,_,_,_,m8⟩:=qZ e2 hat
  exact ⟨m2,A2,c2,m8⟩
theorem walk (i k:Int) (w:World) (w0:(Lit.int .u8 i).wf=true) (w1:(Lit.int .u8 k).wf=true) (hg:Gl w):
 Calls Tryz.prog 4 #[.int .u8 i,.int .u8 k] w fun e w'=>e=.returned (.bool true)∧Below w.heap.size w w':=by
 have hi:=wa w0
 have hk:=wa w1
 obtain ⟨x,Md,hx⟩:=Y2 hi
 obtain ⟨y,UQ,hy⟩:=Y2 hk
 clear w0 w1
 obtain ⟨W1,hW1⟩:∃W1,w.alloc (.cells #[.string ⟨#[124,124]⟩,.string ⟨#[38,38]⟩,.string ⟨#[61,61]⟩,.string ⟨#[60]⟩,.string ⟨#[124]⟩,.string ⟨#[94]⟩,.string ⟨#[38]⟩,.string ⟨#[43]⟩,.string ⟨#[45]⟩] 9)=W1:=⟨_,rfl⟩
 have hb1:Below w.heap.size w W1:=by rw [←hW1];exact (Below.refl _ _).alloc (Nat.le_refl _) _
 have hz1:w.heap.size<W1.heap.size:=by rw [←hW1,World.size_alloc];omega
 have hr1:Row W1 w.heap.size 9 #[.string ⟨#[124,124]⟩,.string ⟨#[38,38]⟩,.string ⟨#[61,61]⟩,.string ⟨#[60]⟩,.string ⟨#[124]⟩,.string ⟨#[94]⟩,.string ⟨#[38]⟩,.string ⟨#[43]⟩,.string ⟨#[45]⟩]:=by rw [←hW1];exact Row.new _ _ _
 obtain ⟨W2,hW2⟩:∃W2,W1.alloc (.cells #[.int .i64 1,.int .i64 2,.int .i64 4,.int .i64 4,.int .i64 5,.int .i64 6,.int .i64 7,.int .i64 8,.int .i64 8] 3)=W2:=⟨_,rfl⟩
 have iz:=aa (show Below w.heap.size w W2 from by rw [←hW2];exact hb1.alloc hb1.size _)
 have HL:=aa (show Row W2 w.heap.size 9 #[.string ⟨#[124,124]⟩,.string ⟨#[38,38]⟩,.string ⟨#[61,61]⟩,.string ⟨#[60]⟩,.string ⟨#[124]⟩,.string ⟨#[94]⟩,.string ⟨#[38]⟩,.string ⟨#[43]⟩,.string ⟨#[45]⟩] from by rw [←hW2];exact hr1.alloc _)
 have HV:=aa (show Row W2 W1.heap.size 3 #[.int .i64 1,.int .i64 2,.int .i64 4,.int .i64 4,.int .i64 5,.int .i64 6,.int .i64 7,.int .i64 8,.int .i64 8] from by rw [←hW2];exact Row.new _ _ _)
 have HG:=aa (fun (W:World) (hb:Below w.heap.size w W)=>show Gl W from hg.below hb)
 have AW:=aa (fun (W:World) (hb:Below w.heap.size w W)=>show Calls Tryz.prog 6 #[] W fun e w'=>e=.returned (.bool true)∧Below W.heap.size W w' from Nx W (hg.below hb))
 have HW1:=aa hW1
 have HW2:=aa hW2
 have HZ1:=aa hz1
 clear hW1 hW2 hb1 hr1 hz1 hg
 have Rw:=Y0 (fun t=>dI (ae t) 0) Md UQ
 have Nw:=aa Rw
 obtain ⟨PQ,hPQ⟩:∃PQ,lu false (VO x y) true (fun t=>dI (ae t) 0)=PQ:=⟨_,rfl⟩
 rw [hPQ] at Nw
 have RE:=NB Md
 have hly:=NB UQ
 have hT:VO x y=[97,32]++Du.getD x []++[32,98,32]++Du.getD y []++[32,99]:=rfl
 have CN:=aa (fun (W:World) (hg:Gl W)=>show Calls Tryz.prog 7 #[.string (ae (VO x y)),.int .i64 0] W (lH PQ W) from by
  have:=nN (VO x y) (by rw [hT];simp only [List.length_append];show 2+_+3+_+2≤_;omega) 0 W hg
  rw [vn,hPQ] at this
  exact this)
 rw [hT] at CN
 have lx:=mP HL.out Md
 have ly:=mP HL.out UQ
 have hsx:=aD (Du.getD x [])
 obtain ⟨LX,hLX⟩:∃l,Du.getD x []=l:=⟨_,rfl⟩
 obtain ⟨LY,hLY⟩:∃l,Du.getD y []=l:=⟨_,rfl⟩
 rw [hLX] at lx RE CN hsx
 rw [hLY] at ly hly CN
 have a1:∀W,(Op.stringOp .add ⟨#[97,32]⟩ (ae LX)).run Tryz.prog W=.ok (.string (ae ([97,32]++LX))) W:=fun W=>nx [97,32] LX (by show 2+_≤_;omega) W
 have a2:∀W,(Op.stringOp .add (ae ([97,32]++LX)) ⟨#[32,98,32]⟩).run Tryz.prog W=.ok (.string (ae ([97,32]++LX++[32,98,32]))) W:=fun W=>nx _ [32,98,32] (by rw [List.length_append];show 2+_+3≤_;omega) W
 have a3:∀W,(Op.stringOp .add (ae ([97,32]++LX++[32,98,32])) (ae LY)).run Tryz.prog W=.ok (.string (ae ([97,32]++LX++[32,98,32]++LY))) W:=fun W=>nx _ LY (by rw [List.length_append,List.length_append];show 2+_+3+_≤_;omega) W
 have a4:∀W,(Op.stringOp .add (ae ([97,32]++LX++[32,98,32]++LY)) ⟨#[32,99]⟩).run Tryz.prog W=.ok (.string (ae ([97,32]++LX++[32,98,32]++LY++[32,99]))) W:=fun W=>nx _ [32,99] (by rw [List.length_append,List.length_append,List.length_append];show 2+_+3+_+2≤_;omega) W
 have Y3:ae (Du.getD x [])=ae LX:=by rw [hLX]
 have Y4:ae (Du.getD y [])=ae LY:=by rw [hLY]
 generalize ae ([97,32]++LX++[32,98,32]++LY++[32,99])=T5 at*
 generalize ae ([97,32]++LX++[32,98,32]++LY)=T4 at*
 generalize ae ([97,32]++LX++[32,98,32])=T3 at*
 generalize ae ([97,32]++LX)=T2 at*
 generalize ae LX=SX at*
 generalize ae LY=SY at*
 have QC:=aa Y3
 have Y5:=aa Y4
 have HSX:=aa (show ((Du.getD x []).length:Int)=(SX.size:Int) from by rw [hLX];omega)
 have hsz:SX.size≤2:=by omega
 clear Y3 Y4 hT hPQ Rw hLX hLY RE hly hsx
 obtain ⟨⟨kd,a0,nm,vl,xa,xb,xc,xd,ks⟩,pa,pe⟩:=PQ
 obtain ⟨N,hN⟩:∃N,ks.length=N:=⟨_,rfl⟩
 have HN:=aa hN
 clear hN
 have hx0:(0:Int)≤(x:Int):=by omega
 have hx1:(x:Int)<9:=by omega
 have hy0:(0:Int)≤(y:Int):=by omega
 have hy1:(y:Int)<9:=by omega
 have wi:IntKind.i64.wrap i=i:=IntWalk.i64_in _ (by omega)
 have wk:IntKind.i64.wrap k=k:=IntWalk.i64_in _ (by omega)
 go_enter Tryz.func4,Tryz.ntmps4
 go_upto_region 2 with fail
 rw [HW1.out]
 go_upto_region 3 with fail
 rw [HW2.out]
 go_wp2_with fail
 go_region_with fail
 go_wp2_with fail
 have lx3:W2.drew.cell? ⟨w.heap.size,x,none⟩=some (.string SX):=lx
 have ly3:W2.drew.cell? ⟨w.heap.size,y,none⟩=some (.string SY):=ly
 have g_:=aa (iz.out.drew)
 have zf:=aa (HL.out.drew)
 have Dl:=aa (HV.out.drew)
 clear lx ly iz HL HV HW1 HW2
 generalize W2.drew=W3 at*
 have BZ:=aa (fun (o:Obj)=>show Below w.heap.size w (W3.drew.alloc o) from (g_.out.drew).alloc g_.out.size o)
 have acb:=zf.out.lt
 have acd:=Dl.out.lt
 have Wu:¬w.heap.size=W3.heap.size:=by omega
 have aaS:¬W3.heap.size=w.heap.size:=by omega
 go_region_held3 (fun w'=>w'.cell? ⟨w.heap.size,x,none⟩=some (.string SX)∧w'.cell? ⟨w.heap.size,y,none⟩=some (.string SY)) (go_keep) (first|(go_at_call 7;refine (CN.out _ (HG.out _ (BZ.out _))).mono ?_;intro e w5 Da;obtain ⟨A,cap,rfl,aB,hb5⟩:=ND HN.out Da;clear Da;have Oh:=NC hb5;have s0:w5.cell? ⟨w.heap.size,x,none⟩=some (.string SX):=(mP (zf.out.below Oh zf.out.lt) Md).trans (congrArg (fun s=>some (Value.string s)) QC.out);have s1:w5.cell? ⟨w.heap.size,y,none⟩=some (.string SY):=(mP (zf.out.below Oh zf.out.lt) UQ).trans (congrArg (fun s=>some (Value.string s)) Y5.out);have HBB:=aa Oh;have cN:=aa (show cG (fun c=>c<W3.heap.size+1) w5 (.mk kd a0 nm vl xa xb xc xd ks) (aw kd a0 nm vl xa xb xc xd (.slice A N cap)) from aB.mono (fun c hc=>by (rw [World.size_alloc];exact hc)));have hrz:Row w5 W3.heap.size 25 bJ:=(Row.new W3.drew 25 bJ).below hb5 (by simp [World.size_alloc]);obtain ⟨⟨z0,z1,z2,z3,z4,z5,z6,z7,z8⟩,y0,y1,y2,y3,y4,y5,y6,y7,y8⟩:=NA hrz;have HRZ:=aa hrz;clear hrz aB hb5 Oh)|(go_at_call 7;refine (CN.out _ (HG.out _ g_.out.drew)).mono ?_;intro e w5 Da;obtain ⟨A,cap,rfl,aB,hb5⟩:=ND HN.out Da;clear Da;have Oh:=QB hb5;have mg:=Oh.size;have ace:¬w.heap.size=w5.heap.size:=(by omega);have acf:¬w5.heap.size=w.heap.size:=(by omega);have s0:w5.cell? ⟨w.heap.size,x,none⟩=some (.string SX):=(mP (zf.out.below Oh zf.out.lt) Md).trans (congrArg (fun s=>some (Value.string s)) QC.out);have s1:w5.cell? ⟨w.heap.size,y,none⟩=some (.string SY):=(mP (zf.out.below Oh zf.out.lt) UQ).trans (congrArg (fun s=>some (Value.string s)) Y5.out);have HBB:=aa Oh;have cN:=aa (show cG (fun c=>c<W3.heap.size) w5 (.mk kd a0 nm vl xa xb xc xd ks) (aw kd a0 nm vl xa xb xc xd (.slice A N cap)) from aB);clear aB hb5 Oh))
 ·obtain ⟨WF,NI⟩:∃WF,w5.alloc (.cells #[.int .i64 kd,.int .i64 a0,.string (ae nm),.string (ae vl),.int .i64 xa,.int .i64 xb,.int .i64 xc,.int .i64 xd,.slice A N cap] 25)=WF:=⟨_,rfl⟩
  rw [NI]
  have hb5:Below W3.heap.size W3 WF:=by rw [←NI];exact HBB.out.alloc HBB.out.size _
  have RN:=aa (show Row WF w5.heap.size 25 #[.int .i64 kd,.int .i64 a0,.string (ae nm),.string (ae vl),.int .i64 xa,.int .i64 xb,.int .i64 xc,.int .i64 xd,.slice A N cap] from by rw [←NI];exact Row.new _ _ _)
  have VJ:=aa (show cG (fun c=>c<W3.heap.size) WF (.mk kd a0 nm vl xa xb xc xd ks) (aw kd a0 nm vl xa xb xc xd (.slice A N cap)) from by rw [←NI];exact cN.out.keeps (af.of_below ((Below.refl _ _).alloc (Nat.le_refl _) _) (Nat.le_refl _)))
  have BF:=aa (g_.out.trans (hb5.mono g_.out.size))
  have RL:=aa (zf.out.below hb5 zf.out.lt)
  have RV:=aa (Dl.out.below hb5 Dl.out.lt)
  clear NI hb5 s0 s1
  have v0:=zY RV.out Md
  have v1:=zY RV.out UQ
  have t0:WF.cell? ⟨w.heap.size,x,none⟩=some (.string SX):=(mP RL.out Md).trans (congrArg (fun s=>some (Value.string s)) QC.out)
  have M7:=aa (fun h4=>NF Nw.out h4)
  have vr:=aa (fun h4=>NH Nw.out h4)
  rw [HSX.out] at M7 vr
  rw [HN.out] at vr
  generalize Dc.getD x 0=vx at*
  generalize Dc.getD y 0=vy at*
  obtain ⟨n0,n1,n2,n3,n4,n5,n6,n7,n8⟩:=aj RN.out
  have UH:IntKind.i64.wrap (5+(SX.size:Int))=5+(SX.size:Int):=IntWalk.i64_in _ (by omega)
  by_cases h4:vx=4∧vy=4
  ·obtain ⟨Da,Mh⟩:=M7.out h4
   obtain ⟨hvx,hvy⟩:=h4
   subst hvx hvy Da
   have e1:(pa==5+(SX.size:Int))=true:=beq_iff_eq.2 Mh
   clear M7 vr Mh Nw
   go_wp2_with fail
   refine (AW.out WF BF.out).mono ?_
   rintro e w7 ⟨rfl,kz⟩
   have B7:=aa (BF.out.trans (kz.mono BF.out.size))
   clear kz
   go_wp2
   go_ret
   exact ⟨rfl,B7.out⟩
  obtain ⟨Da,vM,G7,hle⟩:=vr.out h4
  subst Da vM
  obtain ⟨bk,off,hA,aN,yL⟩:=G2 VJ.out HN.out
  subst hA
  obtain ⟨Y6,UR,US,Y7⟩:=yL 0 (by decide)
  obtain ⟨m12,A1',Vj,m18⟩:=yL 1 (by decide)
  have Df:WF.cell? ⟨bk,off+2,none⟩=some (.string (ae (ks.getD 0 jy).name)):=Y6
  have Dg:WF.cell? ⟨bk,off+8,none⟩=some (.slice UR (ks.getD 0 jy).kids.length US):=Y7
  have Dh:WF.cell? ⟨bk,off+9+2,none⟩=some (.string (ae (ks.getD 1 jy).name)):=m12
  have QD:WF.cell? ⟨bk,off+9+8,none⟩=some (.slice A1' (ks.getD 1 jy).kids.length Vj):=m18
  clear Y6 Y7 m12 m18 yL M7 vr Nw
  have JT:=aa G7
  have FC:=aa hle
  clear G7 hle
  have e4:(vx==4&&vy==4)=false:=by rw [Bool.eq_false_iff];intro h;rw [Bool.and_eq_true,beq_iff_eq,beq_iff_eq] at h;exact h4 h
  have key:((vx==4)=false)∨((vx==4)=true∧(vy==4)=false):=by
   cases h1:(vx==4) with
   |false=>exact .inl rfl
   |true=>rw [h1,Bool.true_and] at e4;exact .inr ⟨rfl,e4⟩
  clear e4 h4
  rcases key with e1|⟨e1,e2⟩
  ·skip
   go_wp2_with fail
   by_cases hv:vx<vy
   ·obtain ⟨ha,fo,sV⟩:=JT.out hv
    subst ha
    rw [fo] at QD
    rw [sV] at Df
    have UT:WF.cell? ⟨bk,off+2,none⟩=some (.string ⟨#[97]⟩):=Df
    clear Df Dg Dh
    clear fo sV JT FC
    go_quiet (fail)
    go_wp2_with fail
    refine (AW.out _ ?_).mono ?_
    ·exact aq BF.out _
    rintro e w7 ⟨rfl,kz⟩
    have B7:=aa ((aq BF.out _).trans (kz.mono (aq BF.out _).size))
    clear kz
    go_wp2
    go_ret
    exact ⟨rfl,B7.out⟩
   ·obtain ⟨ha,fo,sV⟩:=FC.out (by omega)
    rw [fo] at Dg
    rw [sV] at Dh
    have vq:WF.cell? ⟨bk,off+9+2,none⟩=some (.string ⟨#[99]⟩):=Dh
    clear Dh Df QD
    have e1:(a0==5+(SX.size:Int))=true:=beq_iff_eq.2 ha
    clear ha fo sV JT FC
    go_quiet (fail)
    go_wp2_with fail
    have e9:a0=5+(SX.size:Int):=beq_iff_eq.1 e1
    have CW:=aa (fun (d:Nat) (os:Array Obj)=>Calls.regrown_of (d:=d) (os:=os) (w:=WF.drewN nq) (v:=.bool true) (AW.out (grow (redrawn (WF.drewN nq) d) os) ((aq BF.out nq).trans ((below_regrown (WF.drewN nq) d os).mono (aq BF.out nq).size))))
    have r1:=fun d os=>cell_regrown (w:=WF.drewN nq) (a:=⟨w5.heap.size,1,none⟩) (v:=.int .i64 a0) n1 d os
    have r8:=fun d os=>cell_regrown (w:=WF.drewN nq) (a:=⟨w5.heap.size,8,none⟩) (v:=.slice (some ⟨bk,off,none⟩) 2 cap) n8 d os
    have rt:=fun d os=>cell_regrown (w:=WF.drewN nq) (a:=⟨w.heap.size,x,none⟩) (v:=.string SX) t0 d os
    have rk:=fun d os=>cell_regrown (w:=WF.drewN nq) (a:=⟨bk,off+8,none⟩) (v:=.slice UR 2 US) Dg d os
    have rn:=fun d os=>cell_regrown (w:=WF.drewN nq) (a:=⟨bk,off+9+2,none⟩) (v:=.string ⟨#[99]⟩) vq d os
    have GD:=aa (aq BF.out nq)
    clear n0 n1 n2 n3 n4 n5 n6 n7 n8 t0 Dg vq v0 v1
    generalize WF.drewN nq=WG at*
    refine wp_region_quiet_below (by kernel_rfl) (by kernel_rfl) ?_
    repeat (go_big_quiet_step (exact CW.out _ _))
    refine wpQuiet_nil ?_
    intro _ hw'
    obtain ⟨⟨dq,osq⟩,hw''⟩:=hw'
    subst hw''
    go_wp2
    go_ret
    exact ⟨rfl,GD.out.trans ((below_regrown _ dq osq).mono GD.out.size)⟩
  ·skip
   go_wp2_with fail
   by_cases hv:vx<vy
   ·obtain ⟨ha,fo,sV⟩:=JT.out hv
    subst ha
    rw [fo] at QD
    rw [sV] at Df
    have UT:WF.cell? ⟨bk,off+2,none⟩=some (.string ⟨#[97]⟩):=Df
    clear Df Dg Dh
    clear fo sV JT FC
    go_quiet (fail)
    go_wp2_with fail
    refine (AW.out _ ?_).mono ?_
    ·exact aq BF.out _
    rintro e w7 ⟨rfl,kz⟩
    have B7:=aa ((aq BF.out _).trans (kz.mono (aq BF.out _).size))
    clear kz
    go_wp2
    go_ret
    exact ⟨rfl,B7.out⟩
   ·obtain ⟨ha,fo,sV⟩:=FC.out (by omega)
    rw [fo] at Dg
    rw [sV] at Dh
    have vq:WF.cell? ⟨bk,off+9+2,none⟩=some (.string ⟨#[99]⟩):=Dh
    clear Dh Df QD
    have e1:(a0==5+(SX.size:Int))=true:=beq_iff_eq.2 ha
    clear ha fo sV JT FC
    go_quiet (fail)
    go_wp2_with fail
    have e9:a0=5+(SX.size:Int):=beq_iff_eq.1 e1
    have CW:=aa (fun (d:Nat) (os:Array Obj)=>Calls.regrown_of (d:=d) (os:=os) (w:=WF.drewN nq) (v:=.bool true) (AW.out (grow (redrawn (WF.drewN nq) d) os) ((aq BF.out nq).trans ((below_regrown (WF.drewN nq) d os).mono (aq BF.out nq).size))))
    have r1:=fun d os=>cell_regrown (w:=WF.drewN nq) (a:=⟨w5.heap.size,1,none⟩) (v:=.int .i64 a0) n1 d os
    have r8:=fun d os=>cell_regrown (w:=WF.drewN nq) (a:=⟨w5.heap.size,8,none⟩) (v:=.slice (some ⟨bk,off,none⟩) 2 cap) n8 d os
    have rt:=fun d os=>cell_regrown (w:=WF.drewN nq) (a:=⟨w.heap.size,x,none⟩) (v:=.string SX) t0 d os
    have rk:=fun d os=>cell_regrown (w:=WF.drewN nq) (a:=⟨bk,off+8,none⟩) (v:=.slice UR 2 US) Dg d os
    have rn:=fun d os=>cell_regrown (w:=WF.drewN nq) (a:=⟨bk,off+9+2,none⟩) (v:=.string ⟨#[99]⟩) vq d os
    have GD:=aa (aq BF.out nq)
    clear n0 n1 n2 n3 n4 n5 n6 n7 n8 t0 Dg vq v0 v1
    generalize WF.drewN nq=WG at*
    refine wp_region_quiet_below (by kernel_rfl) (by kernel_rfl) ?_
    repeat (go_big_quiet_step (exact CW.out _ _))
    refine wpQuiet_nil ?_
    intro _ hw'
    obtain ⟨⟨dq,osq⟩,hw''⟩:=hw'
    subst hw''
    go_wp2
    go_ret
    exact ⟨rfl,GD.out.trans ((below_regrown _ dq osq).mono GD.out.size)⟩
 ·obtain ⟨WF,NI⟩:∃WF,iP w5 W3.heap.size (.int .i64 kd) (.int .i64 a0) (.string (ae nm)) (.string (ae vl)) (.int .i64 xa) (.int .i64 xb) (.int .i64 xc) (.int .i64 xd) (.slice A N cap)=WF:=⟨_,rfl⟩
  rw [show (((((((((w5.setCell ⟨W3.heap.size,0,none⟩ (.int .i64 kd)).setCell ⟨W3.heap.size,1,none⟩ (.int .i64 a0)).setCell ⟨W3.heap.size,2,none⟩ (.string (ae nm))).setCell ⟨W3.heap.size,3,none⟩ (.string (ae vl))).setCell ⟨W3.heap.size,4,none⟩ (.int .i64 xa)).setCell ⟨W3.heap.size,5,none⟩ (.int .i64 xb)).setCell ⟨W3.heap.size,6,none⟩ (.int .i64 xc)).setCell ⟨W3.heap.size,7,none⟩ (.int .i64 xd)).setCell ⟨W3.heap.size,8,none⟩ (.slice A N cap))=WF from NI]
  have hb5:Below W3.heap.size W3 WF:=by rw [←NI];exact HBB.out.trans (ak (Nat.le_refl _) _ _ _ _ _ _ _ _ _)
  have RN:=aa (show Row WF W3.heap.size 25 #[.int .i64 kd,.int .i64 a0,.string (ae nm),.string (ae vl),.int .i64 xa,.int .i64 xb,.int .i64 xc,.int .i64 xd,.slice A N cap] from by rw [←NI];exact av HRZ.out _ _ _ _ _ _ _ _ _)
  have VJ:=aa (show cG (fun c=>c<W3.heap.size+1) WF (.mk kd a0 nm vl xa xb xc xd ks) (aw kd a0 nm vl xa xb xc xd (.slice A N cap)) from by rw [←NI];exact cN.out.keeps (ax (C:=fun c=>c<W3.heap.size+1) (Nat.lt_succ_self _) _ _ _ _ _ _ _ _ _))
  have BF:=aa (g_.out.trans (hb5.mono g_.out.size))
  have RL:=aa (zf.out.below hb5 zf.out.lt)
  have RV:=aa (Dl.out.below hb5 Dl.out.lt)
  clear NI hb5 s0 s1 z0 z1 z2 z3 z4 z5 z6 z7 z8 y0 y1 y2 y3 y4 y5 y6 y7 y8
  have v0:=zY RV.out Md
  have v1:=zY RV.out UQ
  have t0:WF.cell? ⟨w.heap.size,x,none⟩=some (.string SX):=(mP RL.out Md).trans (congrArg (fun s=>some (Value.string s)) QC.out)
  have M7:=aa (fun h4=>NF Nw.out h4)
  have vr:=aa (fun h4=>NH Nw.out h4)
  rw [HSX.out] at M7 vr
  rw [HN.out] at vr
  generalize Dc.getD x 0=vx at*
  generalize Dc.getD y 0=vy at*
  obtain ⟨n0,n1,n2,n3,n4,n5,n6,n7,n8⟩:=aj RN.out
  have UH:IntKind.i64.wrap (5+(SX.size:Int))=5+(SX.size:Int):=IntWalk.i64_in _ (by omega)
  by_cases h4:vx=4∧vy=4
  ·obtain ⟨Da,Mh⟩:=M7.out h4
   obtain ⟨hvx,hvy⟩:=h4
   subst hvx hvy Da
   have e1:(pa==5+(SX.size:Int))=true:=beq_iff_eq.2 Mh
   clear M7 vr Mh Nw
   go_wp2_with fail
   refine (AW.out WF BF.out).mono ?_
   rintro e w7 ⟨rfl,kz⟩
   have B7:=aa (BF.out.trans (kz.mono BF.out.size))
   clear kz
   go_wp2
   go_ret
   exact ⟨rfl,B7.out⟩
  obtain ⟨Da,vM,G7,hle⟩:=vr.out h4
  subst Da vM
  obtain ⟨bk,off,hA,aN,yL⟩:=G2 VJ.out HN.out
  subst hA
  obtain ⟨Y6,UR,US,Y7⟩:=yL 0 (by decide)
  obtain ⟨m12,A1',Vj,m18⟩:=yL 1 (by decide)
  have Df:WF.cell? ⟨bk,off+2,none⟩=some (.string (ae (ks.getD 0 jy).name)):=Y6
  have Dg:WF.cell? ⟨bk,off+8,none⟩=some (.slice UR (ks.getD 0 jy).kids.length US):=Y7
  have Dh:WF.cell? ⟨bk,off+9+2,none⟩=some (.string (ae (ks.getD 1 jy).name)):=m12
  have QD:WF.cell? ⟨bk,off+9+8,none⟩=some (.slice A1' (ks.getD 1 jy).kids.length Vj):=m18
  clear Y6 Y7 m12 m18 yL M7 vr Nw
  have JT:=aa G7
  have FC:=aa hle
  clear G7 hle
  have e4:(vx==4&&vy==4)=false:=by rw [Bool.eq_false_iff];intro h;rw [Bool.and_eq_true,beq_iff_eq,beq_iff_eq] at h;exact h4 h
  have key:((vx==4)=false)∨((vx==4)=true∧(vy==4)=false):=by
   cases h1:(vx==4) with
   |false=>exact .inl rfl
   |true=>rw [h1,Bool.true_and] at e4;exact .inr ⟨rfl,e4⟩
  clear e4 h4
  rcases key with e1|⟨e1,e2⟩
  ·skip
   go_wp2_with fail
   by_cases hv:vx<vy
   ·obtain ⟨ha,fo,sV⟩:=JT.out hv
    subst ha
    rw [fo] at QD
    rw [sV] at Df
    have UT:WF.cell? ⟨bk,off+2,none⟩=some (.string ⟨#[97]⟩):=Df
    clear Df Dg Dh
    clear fo sV JT FC
    go_quiet (fail)
    go_wp2_with fail
    refine (AW.out _ ?_).mono ?_
    ·exact aq BF.out _
    rintro e w7 ⟨rfl,kz⟩
    have B7:=aa ((aq BF.out _).trans (kz.mono (aq BF.out _).size))
    clear kz
    go_wp2
    go_ret
    exact ⟨rfl,B7.out⟩
   ·obtain ⟨ha,fo,sV⟩:=FC.out (by omega)
    rw [fo] at Dg
    rw [sV] at Dh
    have vq:WF.cell? ⟨bk,off+9+2,none⟩=some (.string ⟨#[99]⟩):=Dh
    clear Dh Df QD
    have e1:(a0==5+(SX.size:Int))=true:=beq_iff_eq.2 ha
    clear ha fo sV JT FC
    go_quiet (fail)
    go_wp2_with fail
    have e9:a0=5+(SX.size:Int):=beq_iff_eq.1 e1
    have CW:=aa (fun (d:Nat) (os:Array Obj)=>Calls.regrown_of (d:=d) (os:=os) (w:=WF.drewN nq) (v:=.bool true) (AW.out (grow (redrawn (WF.drewN nq) d) os) ((aq BF.out nq).trans ((below_regrown (WF.drewN nq) d os).mono (aq BF.out nq).size))))
    have r1:=fun d os=>cell_regrown (w:=WF.drewN nq) (a:=⟨W3.heap.size,1,none⟩) (v:=.int .i64 a0) n1 d os
    have r8:=fun d os=>cell_regrown (w:=WF.drewN nq) (a:=⟨W3.heap.size,8,none⟩) (v:=.slice (some ⟨bk,off,none⟩) 2 cap) n8 d os
    have rt:=fun d os=>cell_regrown (w:=WF.drewN nq) (a:=⟨w.heap.size,x,none⟩) (v:=.string SX) t0 d os
    have rk:=fun d os=>cell_regrown (w:=WF.drewN nq) (a:=⟨bk,off+8,none⟩) (v:=.slice UR 2 US) Dg d os
    have rn:=fun d os=>cell_regrown (w:=WF.drewN nq) (a:=⟨bk,off+9+2,none⟩) (v:=.string ⟨#[99]⟩) vq d os
    have GD:=aa (aq BF.out nq)
    clear n0 n1 n2 n3 n4 n5 n6 n7 n8 t0 Dg vq v0 v1
    generalize WF.drewN nq=WG at*
    refine wp_region_quiet_below (by kernel_rfl) (by kernel_rfl) ?_
    repeat (go_big_quiet_step (exact CW.out _ _))
    refine wpQuiet_nil ?_
    intro _ hw'
    obtain ⟨⟨dq,osq⟩,hw''⟩:=hw'
    subst hw''
    go_wp2
    go_ret
    exact ⟨rfl,GD.out.trans ((below_regrown _ dq osq).mono GD.out.size)⟩
  ·skip
   go_wp2_with fail
   by_cases hv:vx<vy
   ·obtain ⟨ha,fo,sV⟩:=JT.out hv
    subst ha
    rw [fo] at QD
    rw [sV] at Df
    have UT:WF.cell? ⟨bk,off+2,none⟩=some (.string ⟨#[97]⟩):=Df
    clear Df Dg Dh
    clear fo sV JT FC
    go_quiet (fail)
    go_wp2_with fail
    refine (AW.out _ ?_).mono ?_
    ·exact aq BF.out _
    rintro e w7 ⟨rfl,kz⟩
    have B7:=aa ((aq BF.out _).trans (kz.mono (aq BF.out _).size))
    clear kz
    go_wp2
    go_ret
    exact ⟨rfl,B7.out⟩
   ·obtain ⟨ha,fo,sV⟩:=FC.out (by omega)
    rw [fo] at Dg
    rw [sV] at Dh
    have vq:WF.cell? ⟨bk,off+9+2,none⟩=some (.string ⟨#[99]⟩):=Dh
    clear Dh Df QD
    have e1:(a0==5+(SX.size:Int))=true:=beq_iff_eq.2 ha
    clear ha fo sV JT FC
    go_quiet (fail)
    go_wp2_with fail
    have e9:a0=5+(SX.size:Int):=beq_iff_eq.1 e1
    have CW:=aa (fun (d:Nat) (os:Array Obj)=>Calls.regrown_of (d:=d) (os:=os) (w:=WF.drewN nq) (v:=.bool true) (AW.out (grow (redrawn (WF.drewN nq) d) os) ((aq BF.out nq).trans ((below_regrown (WF.drewN nq) d os).mono (aq BF.out nq).size))))
    have r1:=fun d os=>cell_regrown (w:=WF.drewN nq) (a:=⟨W3.heap.size,1,none⟩) (v:=.int .i64 a0) n1 d os
    have r8:=fun d os=>cell_regrown (w:=WF.drewN nq) (a:=⟨W3.heap.size,8,none⟩) (v:=.slice (some ⟨bk,off,none⟩) 2 cap) n8 d os
    have rt:=fun d os=>cell_regrown (w:=WF.drewN nq) (a:=⟨w.heap.size,x,none⟩) (v:=.string SX) t0 d os
    have rk:=fun d os=>cell_regrown (w:=WF.drewN nq) (a:=⟨bk,off+8,none⟩) (v:=.slice UR 2 US) Dg d os
    have rn:=fun d os=>cell_regrown (w:=WF.drewN nq) (a:=⟨bk,off+9+2,none⟩) (v:=.string ⟨#[99]⟩) vq d os
    have GD:=aa (aq BF.out nq)
    clear n0 n1 n2 n3 n4 n5 n6 n7 n8 t0 Dg vq v0 v1
    generalize WF.drewN nq=WG at*
    refine wp_region_quiet_below (by kernel_rfl) (by kernel_rfl) ?_
    repeat (go_big_quiet_step (exact CW.out _ _))
    refine wpQuiet_nil ?_
    intro _ hw'
    obtain ⟨⟨dq,osq⟩,hw''⟩:=hw'
    subst hw''
    go_wp2
    go_ret
    exact ⟨rfl,GD.out.trans ((below_regrown _ dq osq).mono GD.out.size)⟩
end Go.Proofs.YtddoehnkgcbboaaGreatDoor.qparsePrecedence
namespace Go.Proofs.YtddoehnkgcbboaaGreatDoor.qparsePrecedence
open Go.ChangeShapes Go.WideShapes Go.ChangeAt Go.RowKit
open Go.ChangeMaps (open_string shut_string)
theorem own:ownKnob Tryz.prog.godebug=none:=by kernel_rfl
theorem laidOut:laidOutB Tryz.prog=true:=by kernel_rfl
theorem contract (H:Type) (enc:TypeId×Value→H) (W:World) (base:Nat) (args:Array Value) (ds gs:List (DataW H)) (before:List MemPlace)
 (RU:∀(j:Nat) t v,Tryz.f4.params[j]? =some t→args[j]? =some v→Value.okWide Tryz.prog W .any base t v)
 (hW:DataW.Whole enc Tryz.prog Tryz.f4.params.toList Rows.qparsePrecedenceSpec.vars false W args.toList ds gs before)
 (hL:laidMetH Tryz.prog Rows.qparsePrecedenceRow.laid W) (QH:W.ShapedOpen Tryz.prog):
 Calls Tryz.prog 4 args W fun e W'=>∃v,e=.returned v∧Rows.qparsePrecedenceSpec.post enc Tryz.prog Tryz.f4 false true false false W args v W':=by
 have hval:∀(j:Nat) t v,Tryz.f4.params[j]? =some t→args[j]? =some v→Value.okWide Tryz.prog W .any base t v:=RU
 have hW':=hW
 obtain ⟨p,q,IX,hV,rfl,hfz,aB⟩:=hW
 have hA:DataW.TrodAll enc Tryz.prog W 0 (fun _=>true) true Tryz.f4.params.toList args.toList ds p:=IX
 rw [Tryz.params4] at hA hval
 obtain ⟨v0,vs0,d0,ds0,p0,q0,abx,rfl,rfl,h0,r0⟩:=trodAll_cons hA
 obtain ⟨v1,vs1,d1,ds1,p1,q1,rfl,rfl,rfl,h1,r1⟩:=trodAll_cons r0
 obtain ⟨rfl,rfl,rfl⟩:=trodAll_nil r1
 obtain rfl:args=#[v0,v1]:=by cases args;simp_all
 obtain ⟨rfl,rfl⟩:=trodVars_none hV
 obtain ⟨a0,rfl,rfl,rfl,w0⟩:=open_int Tryz.underlying5 (hval 0 5 v0 rfl rfl) h0
 obtain ⟨a1,rfl,rfl,rfl,w1⟩:=open_int Tryz.underlying5 (hval 1 5 v1 rfl rfl) h1
 clear IX RU
 refine (walk a0 a1 W w0 w1 (Y1 hL QH)).mono fun e W' ⟨he,Ij⟩=>?_
 subst he
 exact ⟨_,rfl,_,_,_,[],_,[],hW',trodAll_mk1 (shut_bool Tryz.underlying4 _),(trodAll_cons_mk (shut_int Tryz.underlying5 w0) (trodAll_cons_mk (shut_int Tryz.underlying5 w1) trodAll_mk0)),rfl,Ij.frame _,fun h=>by cases h⟩
theorem lifted (os:Os) (started:os.Started) (H:Type) (enc:TypeId×Value→H):
 ReturnsInHanded {} Tryz.checked os 4 .any (fun w args=>(Rows.qparsePrecedenceSpec.pre enc Tryz.prog Tryz.f4 Rows.qparsePrecedenceRow.domain false w args∧laidMetH Tryz.prog Rows.qparsePrecedenceRow.laid w)∧sizedMet enc Tryz.prog Tryz.f4 (OpenSpec.ofChange Rows.qparsePrecedenceSpec) false w args)
  (Rows.qparsePrecedenceSpec.post enc Tryz.prog Tryz.f4 false true false false):=by
 refine yq (C:=Tryz.checked) (X:=fun w _=>laidMetH Tryz.prog Rows.qparsePrecedenceRow.laid w) (fun _ _ _ hh h=>h.of_heap hh) own started (by kernel_rfl) Tryz.func4
  (ChangeSpec.witness_shaped (enc:=enc) (C:=Tryz.checked) (os:=os) (X:=fun w _=>laidMetH Tryz.prog Rows.qparsePrecedenceRow.laid w) false (World.laidAll Tryz.prog os Rows.qparsePrecedenceRow.laid) #[.int .u8 0,.int .u8 0] 8 (World.laidAll_os _ _ _)
   (World.shaped_of_ZipB (by kernel_rfl) (by kernel_rfl)) (by kernel_rfl) (by kernel_rfl) (by kernel_rfl)
   (by rw [MakeChecks.laidMetH_plain _ _ _ (by kernel_rfl)];exact laidMet_laidAll _ (by kernel_rfl) (by kernel_rfl))) ?_
 intro W base args ds gs before hval hW hL QH
 exact contract H enc W base args ds gs before hval hW hL QH
theorem over:Rows.qparsePrecedenceRow.holds Tryz.pinned (OpenSpec.ofChange Rows.qparsePrecedenceSpec):=
 OpenClaim.holds_of_wide 4 Tryz.f4 rfl rfl rfl rfl rfl rfl rfl ⟨rfl,rfl,rfl,rfl,rfl⟩ rfl rfl rfl rfl rfl (by kernel_rfl) Tryz.func4 (by kernel_rfl)
  (of_decide_eq_true (by kernel_rfl)) (by unfold Func.isWrapper;first|(rw [if_pos (by decide+kernel)];kernel_rfl)|(rw [if_neg (by decide+kernel)];exact ⟨rfl,rfl⟩))
  (fun os started H enc _=>lifted os started H enc)
theorem proved:Rows.QparsePrecedenceSaid:=over
theorem plain (f:FuncId) (fn:Func) (hf:Tryz.pinned.checked.prog.funcNamed "wavestore/wavestorelaw49.QparsePrecedence"=some f) (hfn:Tryz.pinned.checked.prog.funcs[f]? =some fn):
 true=Tryz.pinned.checked.prog.looks []∧∀(j:Nat) t,fn.params[j]? =some t→Tryz.pinned.checked.prog.wantsStandIn t=false:=by
 obtain rfl:f=4:=Option.some.inj ((show Tryz.prog.funcNamed "wavestore/wavestorelaw49.QparsePrecedence"=some 4 by kernel_rfl).symm.trans hf)|>.symm
 obtain rfl:fn=Tryz.f4:=(Option.some.inj (Tryz.func4.symm.trans hfn)).symm
 refine ⟨by kernel_rfl,fun j t ht=>?_⟩
 rw [Tryz.params4] at ht
 have hm:t∈[5,5]:=by simpa using Array.mem_of_getElem? ht
 have hall:([5,5].all fun u=> !Tryz.prog.wantsStandIn u)=true:=by kernel_rfl
 exact (show Tryz.prog.wantsStandIn t=false by simpa using List.all_eq_true.1 hall t hm)
theorem FE:Rows.QparsePrecedenceCardSaid:=
 Claim7.holds_tied_plain_at .later [] _ _ _ _ proved (fun _ h=>by cases h) (by kernel_rfl) (fun _ h=>by cases h) qparsePrecedence_row_tie rfl ⟨rfl,rfl⟩ (by kernel_rfl) rfl plain (by kernel_rfl)
end Go.Proofs.YtddoehnkgcbboaaGreatDoor.qparsePrecedence
namespace Go.Proofs.YtddoehnkgcbboaaGreatDoor
theorem qparsePrecedence_holds:Rows.QparsePrecedenceCardSaid:=qparsePrecedence.FE
end Go.Proofs.YtddoehnkgcbboaaGreatDoor
