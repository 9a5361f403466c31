/- Packed by program: a part of the proof; the last file says what is proved. -/
import Derived.Test.YtddoehnkgcbboaaGreatDoorPrR
import Derived.Test.YtddoehnkgcbboaaGreatDoorPrS
import Derived.Test.YtddoehnkgcbboaaGreatDoorPrQ
set_option maxHeartbeats 16000000
set_option maxRecDepth 100000
set_option linter.unusedVariables false
set_option linter.unusedSimpArgs false
namespace Go.Proofs.YtddoehnkgcbboaaGreatDoor
open Go.RowKit Go.Shelf
theorem mv.nine {C:Nat→Prop} {W:World} {A:Option Addr} {bF:List (List Value)} (h:mv C W A bF) {i:Nat} (hi:i<bF.length):∃b off,A=some ⟨b,off,none⟩∧¬C b∧b<W.heap.size∧∀j,j<9→W.cell? ⟨b,off+i*9+j,none⟩=(bF[i])[j]? :=by
 obtain ⟨b,off,hA,hb,hz,hat⟩:=h (by omega)
 exact ⟨b,off,hA,hb,hz,hat i hi⟩
theorem qZ {W:World} {b o:Nat} {kd a0 xa xb xc xd:Int} {nm vl:List UInt8} {s:Value} {cs:List Value} (e:cs=aw kd a0 nm vl xa xb xc xd s) (h:∀j,j<9→W.cell? ⟨b,o+j,none⟩=cs[j]?):
 W.cell? ⟨b,o,none⟩=some (.int .i64 kd)∧W.cell? ⟨b,o+1,none⟩=some (.int .i64 a0)∧W.cell? ⟨b,o+2,none⟩=some (.string (ae nm))∧W.cell? ⟨b,o+3,none⟩=some (.string (ae vl))∧W.cell? ⟨b,o+4,none⟩=some (.int .i64 xa)∧W.cell? ⟨b,o+5,none⟩=some (.int .i64 xb)∧W.cell? ⟨b,o+6,none⟩=some (.int .i64 xc)∧W.cell? ⟨b,o+7,none⟩=some (.int .i64 xd)∧W.cell? ⟨b,o+8,none⟩=some s:=by
 subst e
 exact ⟨h 0 (by decide),h 1 (by decide),h 2 (by decide),h 3 (by decide),h 4 (by decide),h 5 (by decide),h 6 (by decide),h 7 (by decide),h 8 (by decide)⟩
theorem q_:∀(m:Nat) (n:Nd) (C:Nat→Prop) (cs:List Value) (W:World),aS n≤m→m≤1000000→cG C W n cs→
 Calls Tryz.prog 33 #[.agg cs.toArray] W fun e w'=>e=.returned (.int .i64 (iE n:Int))∧Below W.heap.size W w'
 |0,n,C,cs,W,h,_,_=>by have:=Cf n;omega
 |m+1,n,C,cs,W,hm,hmm,h=>by
  have IH:=aa (fun (x:Nd) (cx:List Value) (W':World) (hx:aS x≤m) (h:cG C W' x cx)=>q_ m x C cx W' hx (by omega) h)
  cases h with
  |mk kd a0 nm vl xa xb xc xd ks A cap bF hl iG hr cI=>
   clear cI
   rw [aS] at hm
   have JZ:=uJ ks
   have hlv:=mF ks
   have HT:=aa (fun (i:Nat) (hi:i<ks.length)=>show lQ (ks.take (i+1))=max (lQ (ks.take i)) (iE ks[i]) from by
    rw [List.take_succ_eq_append_getElem hi,xH])
   have HB:=aa (fun (i:Nat) (hi:i<ks.length)=>show aS ks[i]≤m∧iE ks[i]≤1000000 from by
    have h1:=jU (List.getElem_mem hi)
    have h2:=uK ks[i]
    omega)
   have HLe:=aa (fun (i:Nat)=>show lQ (ks.take i)≤1000000 from by
    have h1:=mF (ks.take i)
    have h2:aC (ks.take i)≤aC ks:=by
     clear IH HT HB iG hr hl h1
     induction ks generalizing i with
     |nil=>simp
     |cons x r ih=>
      cases i with
      |zero=>simp [aC]
      |succ i=>
       rw [List.take_succ_cons,aC,aC]
       rw [aC] at hm
       have:=ih (by omega) (by simpa using uJ r) (mF r) i
       omega
    omega)
   obtain ⟨W1,hW1⟩:∃W1,W1=W.alloc (.cells (aw kd a0 nm vl xa xb xc xd (.slice A ks.length cap)).toArray 25):=⟨_,rfl⟩
   have hb1:Below W.heap.size W W1:=by rw [hW1];exact (Below.refl _ W).alloc (Nat.le_refl _) _
   have HR:=aa (hr.keeps (af.of_below hb1 (Nat.le_refl _)))
   have HK:=aa (fun (i:Nat) (hi:i<ks.length) (h':i<bF.length)=>(iG i hi h').keeps (af.of_below hb1 (Nat.le_refl _)))
   have HL:=aa hl
   have fu:=aa hb1
   have lW:ks.length≤1000000:=by omega
   have HF:=aa (show iE (.mk kd a0 nm vl xa xb xc xd ks)=lQ (ks.take ks.length)+1 from by rw [iE,List.take_length])
   unfold aw
   unfold aw at hW1
   clear hr iG hl hb1 hm JZ hlv
   obtain ⟨N,hN⟩:∃N,ks.length=N:=⟨_,rfl⟩
   rw [hN] at hW1 HF⊢
   rw [hN] at lW
   have HN:=aa hN
   have dG:=aa hW1.symm
   clear hN hW1
   go_enter Tryz.func33,Tryz.ntmps33
   go_wp2_with fail
   rw [dG.out]
   go_loopw [3,9] (fun t i wr=>∃k:Nat,k≤N∧i=.int .i64 (k:Int)∧t=.int .i64 (lQ (ks.take k):Int)∧Below W1.heap.size W1 wr) (fun _ i _=>N-(intOf i).toNat)
   case atStart=>exact ⟨0,Nat.zero_le _,rfl,rfl,Below.refl _ _⟩
   case round=>
    obtain ⟨k,hk,rfl,rfl,hb⟩:=hrel
    have hle:=HLe.out k
    by_cases hlt:k<N
    ·have vU:k<ks.length:=by rw [HN.out];exact hlt
     have Yf:k<bF.length:=by rw [HL.out];exact vU
     have Ky:(k:Int)<(N:Int):=by omega
     have hk0:(0:Int)≤(k:Int):=by omega
     have hw1:IntKind.i64.wrap ((k:Int)+1)=(k:Int)+1:=IntWalk.i64_in _ (by omega)
     obtain ⟨bk,off,rfl,_,aN,hat⟩:=HR.out.nine Yf
     have ab5:bk<wr.heap.size:=Nat.lt_of_lt_of_le aN hb.size
     have OM:∀j,j<9→wr.cell? ⟨bk,off+k*9+j,none⟩=(bF[k])[j]? :=fun j hj=>(hb.cell (p:=⟨bk,_,none⟩) aN).trans (hat j hj)
     have aB:=(HK.out k vU Yf).keeps (af.of_below hb (Nat.le_refl _))
     obtain ⟨yk,y0,yn,yv,ya,yb,yc,yd,yA,dW,dp,ye⟩:=aB.nine
     obtain ⟨c0,c1,c2,c3,c4,c5,c6,c7,c8⟩:=qZ ye OM
     obtain ⟨hcm,hlm⟩:=HB.out k vU
     have IHk:=aa (fun (o:Obj)=>show Calls Tryz.prog 33 #[.agg #[.int .i64 yk,.int .i64 y0,.string (ae yn),.string (ae yv),.int .i64 ya,.int .i64 yb,.int .i64 yc,.int .i64 yd,.slice yA dW dp]] (wr.alloc o) fun e w'=>e=.returned (.int .i64 (iE ks[k]:Int))∧Below (wr.alloc o).heap.size (wr.alloc o) w' from by
      have:=IH.out ks[k] bF[k] (wr.alloc o) hcm (aB.keeps (af.of_below ((Below.refl _ wr).alloc (Nat.le_refl _) o) (Nat.le_refl _)))
      rw [ye] at this
      exact this)
     have N1:=aa (HT.out k vU)
     have Hb:=aa hb
     have iz:=aa (fun o=>hb.alloc hb.size o)
     obtain ⟨v,hv⟩:∃v,iE ks[k]=v:=⟨_,rfl⟩
     rw [hv] at IHk N1 hlm
     obtain ⟨u,hu⟩:∃u,lQ (ks.take k)=u:=⟨_,rfl⟩
     rw [hu] at N1 hle⊢
     clear hat OM aB ye hb hv hu hcm
     go_wp2_with fail
     refine (IHk.out _).mono ?_
     rintro e w2 ⟨rfl,hb2⟩
     have jX:=aa ((iz.out _).trans (hb2.mono (iz.out _).size))
     clear hb2 c0 c1 c2 c3 c4 c5 c6 c7 c8
     go_wp2
     go_roundw
     case rel=>exact ⟨k+1,by omega,by go_num,by rw [N1.out];exact congrArg (Value.int IntKind.i64) (by omega),jX.out⟩
     case measure=>simp [intOf];omega
    ·obtain rfl:k=N:=by omega
     have Ky:¬(k:Int)<(k:Int):=by omega
     have hw1:IntKind.i64.wrap ((lQ (ks.take k):Int)+1)=(lQ (ks.take k):Int)+1:=IntWalk.i64_in _ (by omega)
     have Hb:=aa (fu.out.trans (hb.mono fu.out.size))
     clear hb
     generalize lQ (ks.take k)=u at*
     go_wp2
     go_ret
     exact ⟨by rw [HF.out];rfl,Hb.out⟩
end Go.Proofs.YtddoehnkgcbboaaGreatDoor
namespace Go.Proofs.YtddoehnkgcbboaaGreatDoor
open Go.RowKit Go.Shelf Go.Maps
def sw (B:Nat) (W:World) (ks:List Nd) (A:Option Addr):Prop:=
 ∃bF:List (List Value),bF.length=ks.length∧(∀i (h:i<ks.length) (h':i<bF.length),cG (fun c=>B≤c) W ks[i] bF[i])∧mv (fun c=>B≤c) W A bF
theorem ra {B:Nat} {W W':World} (h:Below B W W') (hB:W.heap.size≤W'.heap.size):af (fun c=>B≤c) W W':=
 ⟨h.os,h.tape,h.output,hB,fun b _ hn=>h.block b (Nat.lt_of_not_le hn)⟩
theorem cG.Yg {B:Nat} {W:World} {kd a0 xa xb xc xd:Int} {nm vl:List UInt8} {ks:List Nd} {cs:List Value} (h:cG (fun c=>B≤c) W (.mk kd a0 nm vl xa xb xc xd ks) cs):
 ∃A cap,cs=aw kd a0 nm vl xa xb xc xd (.slice A ks.length cap)∧sw B W ks A∧ks.length≤cap:=by
 cases h with
 |mk _ _ _ _ _ _ _ _ _ A cap bF hl hk hr cI=>exact ⟨A,cap,rfl,⟨bF,hl,hk,hr⟩,cI⟩
theorem sw.kid {B:Nat} {w:World} {ks:List Nd} {A:Option Addr} (h:sw B w ks A) {i:Nat} (hi:i<ks.length):∃bk off yk y0 yn yv ya yb yc yd yA dW dp,A=some ⟨bk,off,none⟩∧
 ∀W,Below B w W→w.heap.size≤W.heap.size→(W.cell? ⟨bk,off+i*9,none⟩=some (.int .i64 yk)∧W.cell? ⟨bk,off+i*9+1,none⟩=some (.int .i64 y0)∧W.cell? ⟨bk,off+i*9+2,none⟩=some (.string (ae yn))∧W.cell? ⟨bk,off+i*9+3,none⟩=some (.string (ae yv))∧W.cell? ⟨bk,off+i*9+4,none⟩=some (.int .i64 ya)∧W.cell? ⟨bk,off+i*9+5,none⟩=some (.int .i64 yb)∧W.cell? ⟨bk,off+i*9+6,none⟩=some (.int .i64 yc)∧W.cell? ⟨bk,off+i*9+7,none⟩=some (.int .i64 yd)∧W.cell? ⟨bk,off+i*9+8,none⟩=some (.slice yA dW dp))∧
  cG (fun c=>B≤c) W ks[i] (aw yk y0 yn yv ya yb yc yd (.slice yA dW dp)):=by
 obtain ⟨bF,hl,hk,hr⟩:=h
 have hi':i<bF.length:=by omega
 obtain ⟨bk,off,rfl,hB,hz,hat⟩:=hr.nine hi'
 obtain ⟨yk,y0,yn,yv,ya,yb,yc,yd,yA,dW,dp,ye⟩:=(hk i hi hi').nine
 refine ⟨bk,off,yk,y0,yn,yv,ya,yb,yc,yd,yA,dW,dp,rfl,fun W hb hz'=>⟨?_,?_⟩⟩
 ·exact qZ ye fun j hj=>(hb.cell (p:=⟨bk,_,none⟩) (Nat.lt_of_not_le hB)).trans (hat j hj)
 ·rw [←ye];exact (hk i hi hi').keeps (ra hb hz')
theorem sw.keep {B:Nat} {W W':World} {ks:List Nd} {A:Option Addr} (h:sw B W ks A) (hb:Below B W W') (hz:W.heap.size≤W'.heap.size):sw B W' ks A:=by
 obtain ⟨bF,hl,hk,hr⟩:=h
 exact ⟨bF,hl,fun i h1 h2=>(hk i h1 h2).keeps (ra hb hz),hr.keeps (ra hb hz)⟩
def sY (x:Nd):Prop:=∀(B b:Nat) (bn:Int) (cs:List Value) (o:Option St) (M:Nat) (W:World),cC W B b o M→cG (fun c=>B≤c) W x cs→0≤bn→bn≤13→M+2000*aS x≤1099511627776→
 Calls Tryz.prog 45 #[.pointer (some ⟨b,0,none⟩),.agg cs.toArray,.int .i64 bn] W (ie B b W (o.bind (cQ aM aT x bn)) (M+2000*aS x))
structure im (kd xa xb xc xd:Int) (nm vl:List UInt8):Prop where
 kd:dr kd
 a:dr xa
 b:dr xb
 c:dr xc
 d:dr xd
 nm:nm.length≤200
 vl:vl.length≤200
theorem bh (sg:List UInt8→Int) (ng:List UInt8→List UInt8):∀ks:List Nd,(aG sg ng ks).length=ks.length
 |[]=>rfl
 |x::r=>by rw [aG,List.length_cons,List.length_cons,bh sg ng r]
theorem xN (sg:List UInt8→Int) (ng:List UInt8→List UInt8):∀(ks:List Nd) (i:Nat) (h:i<ks.length),(aG sg ng ks)[i]? =some (cQ sg ng ks[i])
 |x::r,0,_=>by rw [aG];rfl
 |x::r,i+1,h=>by rw [aG,List.getElem?_cons_succ];exact xN sg ng r i (by simpa using h)
theorem nt (ks:List Nd) {i:Nat} (h:i<ks.length) (bn:Int) (st:St):mq (aG aM aT ks) i bn st=cQ aM aT ks[i] bn st:=by
 unfold mq;rw [xN _ _ _ _ h]
theorem mG (o:Option St) (z:Bool) (used:List UInt8) (c:UInt8) (x:Bool):kL (if x=true then o else none) z used c=if (x&&(z||dN used c))=true then o else none:=by
 unfold kL;cases x<;>cases z<;>cases dN used c<;>rfl
theorem GL (o:Option St) (z1 z2 z3 z4 z5 z6:Bool) (used:List UInt8):nD o z1 z2 z3 z4 z5 z6 used=if ((((((z1||dN used 110)&&(z2||dN used 118))&&(z3||dN used 97))&&(z4||dN used 97))&&(z5||dN used 99))&&(z6||dN used 99))=true then o else none:=by
 unfold nD
 rw [show kL o z1 used 110=if (z1||dN used 110)=true then o else none from rfl,mG,mG,mG,mG,mG]
theorem GM {kd a0 xa xb xc xd:Int} {nm vl:List UInt8} {ks:List Nd} (o:Option St) (used:List UInt8) (least most:Int):
 lS (nD o (decide (nm=[])) (decide (vl=[])) (decide (xa=0)) (decide (xb=0)) (decide (xc=0)) (decide (xd=0)) used) ks.length least most=
  if fw (.mk kd a0 nm vl xa xb xc xd ks) (dN used 110) (dN used 118) (dN used 97) (dN used 99)=true∧least≤(ks.length:Int)∧(ks.length:Int)≤most then o else none:=by
 rw [GL]
 unfold lS
 show (if _ then (if fw (.mk kd a0 nm vl xa xb xc xd ks) (dN used 110) (dN used 118) (dN used 97) (dN used 99)=true then o else none) else none)=_
 by_cases h1:least≤(ks.length:Int)∧(ks.length:Int)≤most
 ·by_cases h2:fw (.mk kd a0 nm vl xa xb xc xd ks) (dN used 110) (dN used 118) (dN used 97) (dN used 99)=true
  ·rw [if_pos h1,if_pos h2,if_pos ⟨h2,h1⟩]
  ·rw [if_pos h1,if_neg h2,if_neg (fun h=>h2 h.1)]
 ·rw [if_neg h1,if_neg (fun h=>h1 h.2)]
theorem nu {c:Prop} [Decidable c] {o:Option St} {st:St} (h:some st=if c then o else none):c∧o=some st:=by
 by_cases hc:c
 ·rw [if_pos hc] at h;exact ⟨hc,h.symm⟩
 ·rw [if_neg hc] at h;cases h
theorem sZ {c c':Prop} [Decidable c] [Decidable c'] {o:Option St} {f:St→Option St} (h:none=if c then o else none) (hc:c'→c):o.bind (fun st=>if c' then f st else none)=none:=by
 cases o with
 |none=>rfl
 |some st=>
  show (if c' then f st else none)=none
  by_cases h':c'
  ·rw [if_pos (hc h')] at h;cases h
  ·rw [if_neg h']
theorem PG (st:St) (s:List UInt8) (r:Option St):(r.map (dD · [41]))=r.bind fun st=>some (dD st [41]):=by cases r<;>rfl
theorem E9 (B b:Nat) (kd a0 xa xb xc xd:Int) (nm vl:List UInt8) (ks:List Nd) (A:Option Addr) (cap:Nat) (s:List UInt8) (bn:Int) (hs:s.length≤20) (h0:0≤bn) (za:bn≤13) (o:Option St) (M:Nat) (w:World) (h:cC w B b o M) (hk:sw B w ks A) (gF:∀i (hi:i<ks.length),sY ks[i]) (iq:im kd xa xb xc xd nm vl) (hn:ks.length≤1000000) (hM:M+1500+2000*aC ks≤1099511627776):
 Calls Tryz.prog 109 #[.pointer (some ⟨b,0,none⟩),.agg (aw kd a0 nm vl xa xb xc xd (.slice A ks.length cap)).toArray,.string (ae s),.int .i64 bn] w (ie B b w (o.bind (lK (.mk kd a0 nm vl xa xb xc xd ks) (aG aM aT ks) s bn)) (M+1500+2000*aC ks)):=by
 have hlt:=h.lt.1
 have hge:=h.lt.2
 have Ad:=aa hk
 obtain ⟨w1,hw1⟩:∃w1,w1=w.alloc (.cells (aw kd a0 nm vl xa xb xc xd (.slice A ks.length cap)).toArray 25):=⟨_,rfl⟩
 have hb1:Below w.heap.size w w1:=by rw [hw1];exact (Below.refl _ w).alloc (Nat.le_refl _) _
 have P1:=aa (h.keep hb1)
 have T1:=aa (aI.of_below (b:=b) hb1 (show B≤w.heap.size by omega))
 have gG:=aa (show Row w1 w.heap.size 25 (aw kd a0 nm vl xa xb xc xd (.slice A ks.length cap)).toArray from by rw [hw1];exact Row.new _ _ _)
 have dC:=aa hw1.symm
 have Ae:=aa gF
 have Ke:=aa iq
 clear h hk hw1 hb1 gF iq
 unfold aw at dC gG⊢
 go_enter Tryz.func109,Tryz.ntmps109
 go_upto_region 1 with fail
 rw [dC.out]
 obtain ⟨fc,iX,ir,iY,iI,iJ,iZ,i_,gv⟩:=aj gG.out
 have C2:=aa (gP B b kd a0 xa xb xc xd nm vl (.slice A ks.length cap) [] o M w1 P1.out)
 obtain ⟨o2,q2⟩:∃z_,nD o (decide (nm=[])) (decide (vl=[])) (decide (xa=0)) (decide (xb=0)) (decide (xc=0)) (decide (xd=0)) []=z_:=⟨_,rfl⟩
 rw [q2] at C2
 have Q2:=aa q2
 clear q2
 unfold aw at C2
 go_wp2_with fail
 refine (C2.out).mono ?_
 rintro e w2 ⟨rfl,p2,t2⟩
 have P2:=aa p2
 have T2:=aa (T1.out.trans t2)
 have ko:=aa (t2.row gG.out (by decide) (by omega))
 clear p2 t2 C2
 clear fc iX ir iY iI iJ iZ i_ gv
 obtain ⟨fc,iX,ir,iY,iI,iJ,iZ,i_,gv⟩:=aj ko.out
 have C3:=aa (kM B b kd a0 xa xb xc xd nm vl A ks.length cap 1 1 o2 M w2 P2.out (by omega))
 unfold aw at C3
 obtain ⟨o3,q3⟩:∃z_,lS o2 ks.length 1 1=z_:=⟨_,rfl⟩
 rw [q3] at C3
 have hfk:lS (nD o (decide (nm=[])) (decide (vl=[])) (decide (xa=0)) (decide (xb=0)) (decide (xc=0)) (decide (xd=0)) []) ks.length 1 1=if fw (.mk kd a0 nm vl xa xb xc xd ks) false false false false=true∧1≤(ks.length:Int)∧(ks.length:Int)≤1 then o else none:=GM o [] 1 1
 rw [Q2.out,q3] at hfk
 have pQ:=aa hfk
 clear hfk q3
 cases o3 with
 |none=>
  go_wp2_with fail
  refine (C3.out).mono ?_
  rintro e w3 ⟨rfl,p3,t3⟩
  have P3:=aa p3
  have T3:=aa (T2.out.trans t3)
  have nv:=aa (t3.row ko.out (by decide) (by omega))
  clear p3 t3 C3
  clear fc iX ir iY iI iJ iZ i_ gv
  have HP:=aa (show cC w3 B b (o.bind (lK (.mk kd a0 nm vl xa xb xc xd ks) (aG aM aT ks) s bn)) (M+1500+2000*aC ks) from by
   rw [show o.bind (lK (.mk kd a0 nm vl xa xb xc xd ks) (aG aM aT ks) s bn)=none from sZ pQ.out (fun h=>⟨h.1,by have:=h.2;rw [bh] at this;omega⟩)]
   exact P3.out.mono (by omega))
  go_wp2
  go_end0
  exact ⟨rfl,HP.out,T3.out⟩
 |some st=>
  obtain ⟨⟨hc1,hc2,hc3⟩,ho⟩:=nu pQ.out
  have Ud:=aa (show ks.length=1 by omega)
  have lU:0<ks.length:=by omega
  obtain ⟨bL,bM,zD,zE,zF,zG,zH,zJ,zK,zL,zM,gi,gj,Ue,E_⟩:=Ad.out.kid (i:=0) lU
  subst Ue
  obtain ⟨x0,hx0⟩:∃x,ks[0]'lU=x:=⟨_,rfl⟩
  rw [hx0] at E_
  have K0:=aa (fun (W:World) (hb:Below B w W) (hz:w.heap.size≤W.heap.size)=>show (W.cell? ⟨bL,bM,none⟩=some (.int .i64 zD)∧W.cell? ⟨bL,bM+1,none⟩=some (.int .i64 zE)∧W.cell? ⟨bL,bM+2,none⟩=some (.string (ae zF))∧W.cell? ⟨bL,bM+3,none⟩=some (.string (ae zG))∧W.cell? ⟨bL,bM+4,none⟩=some (.int .i64 zH)∧W.cell? ⟨bL,bM+5,none⟩=some (.int .i64 zJ)∧W.cell? ⟨bL,bM+6,none⟩=some (.int .i64 zK)∧W.cell? ⟨bL,bM+7,none⟩=some (.int .i64 zL)∧W.cell? ⟨bL,bM+8,none⟩=some (.slice zM gi gj))∧cG (fun c=>B≤c) W x0 [Value.int .i64 zD,.int .i64 zE,.string (ae zF),.string (ae zG),.int .i64 zH,.int .i64 zJ,.int .i64 zK,.int .i64 zL,.slice zM gi gj] from E_ W hb hz)
  have Ob:Hid (sY x0):=by rw [←hx0];exact Ae.out 0 lU
  have Uf:aS x0≤aC ks:=by rw [←hx0];exact jU (List.getElem_mem _)
  have Lo:=aa hx0
  clear hx0 E_
  have Jv:=aa (And.intro hc1 ho)
  clear hc1 hc2 hc3 ho
  go_wp2_with fail
  refine (C3.out).mono ?_
  rintro e w3 ⟨rfl,p3,t3⟩
  have P3:=aa p3
  have T3:=aa (T2.out.trans t3)
  have nv:=aa (t3.row ko.out (by decide) (by omega))
  clear p3 t3 C3
  clear fc iX ir iY iI iJ iZ i_ gv
  have CW:=aa (show Calls Tryz.prog 73 #[.pointer (some ⟨b,0,none⟩),.slice (some ⟨w3.heap.size,0,none⟩) 2 2] (w3.alloc (.cells #[.string (ae s),.string {data:=#[40]}] 9)) (ie B b (w3.alloc (.cells #[.string (ae s),.string {data:=#[40]}] 9)) ((some st:Option St).map (gN · [s,[40]])) (M+lR [s,[40]])) from EY B b [s,[40]] w3.heap.size 2 _ _ _ (P3.out.alloc _) (Row.new _ _ _) (by simp only [lR,List.length_cons,List.length_nil];omega) (by simp))
  have Ru:B≤w3.heap.size:=Nat.le_trans P3.out.lt.2 (Nat.le_of_lt P3.out.lt.1)
  have C4:=aa (CW.out.mono fun e w' hx=>show ie B b w3 ((some st:Option St).map (gN · [s,[40]])) (M+40) e w' from ⟨hx.1,hx.2.1.mono (by simp only [lR,List.length_cons,List.length_nil];omega),((aI.refl B b w3).alloc Ru _).trans hx.2.2⟩)
  clear CW Ru
  obtain ⟨o4,q4⟩:∃z_,(some st:Option St).map (gN · [s,[40]])=z_:=⟨_,rfl⟩
  rw [q4] at C4
  have Q4:=aa q4
  clear q4
  go_wp2_with fail
  refine (C4.out).mono ?_
  rintro e w4 ⟨rfl,p4,t4⟩
  have P4:=aa p4
  have T4:=aa (T3.out.trans t4)
  have s5:=aa (t4.row nv.out (by decide) (by omega))
  clear p4 t4 C4
  have gv:w4.cell? ⟨w.heap.size,8,none⟩=some (.slice (some ⟨bL,bM,none⟩) ks.length cap):=s5.out.cell 8
  obtain ⟨⟨d0,d1,d2,d3,d4,d5,d6,d7,d8⟩,aB⟩:=K0.out w4 T4.out.below T4.out.size
  have C5:=aa (show Calls Tryz.prog 45 #[.pointer (some ⟨b,0,none⟩),.agg #[.int .i64 zD,.int .i64 zE,.string (ae zF),.string (ae zG),.int .i64 zH,.int .i64 zJ,.int .i64 zK,.int .i64 zL,.slice zM gi gj],.int .i64 (bn)] w4 (ie B b w4 (o4.bind (cQ aM aT x0 (bn))) ((M+40)+2000*aS x0)) from Ob.out B b (bn) _ o4 _ w4 P4.out aB h0 za (by first|omega|(simp only [List.length_cons,List.length_nil];omega)))
  obtain ⟨o5,q5⟩:∃z_,o4.bind (cQ aM aT x0 (bn))=z_:=⟨_,rfl⟩
  rw [q5] at C5
  have Q5:=aa q5
  clear q5
  clear aB
  go_wp2_with fail
  refine (C5.out).mono ?_
  rintro e w5 ⟨rfl,p5,t5⟩
  have P5:=aa p5
  have T5:=aa (T4.out.trans t5)
  have sA:=aa (t5.row s5.out (by decide) (by omega))
  clear p5 t5 C5
  clear gv d0 d1 d2 d3 d4 d5 d6 d7 d8
  have C6:=aa (dM B b [41] o5 ((M+40)+2000*aS x0) w5 P5.out (by first|omega|(simp only [List.length_cons,List.length_nil];omega)))
  obtain ⟨o6,q6⟩:∃z_,o5.map (dD · [41])=z_:=⟨_,rfl⟩
  rw [q6] at C6
  have Q6:=aa q6
  clear q6
  go_wp2_with fail
  refine (C6.out).mono ?_
  rintro e w6 ⟨rfl,p6,t6⟩
  have P6:=aa p6
  have T6:=aa (T5.out.trans t6)
  have Jw:=aa (t6.row sA.out (by decide) (by omega))
  clear p6 t6 C6
  have HP:=aa (show cC w6 B b (o.bind (lK (.mk kd a0 nm vl xa xb xc xd ks) (aG aM aT ks) s bn)) (M+1500+2000*aC ks) from by
   have hp:=P6.out
   rw [←Q6.out,←Q5.out,←Q4.out,PG st s] at hp
   have e:o.bind (lK (.mk kd a0 nm vl xa xb xc xd ks) (aG aM aT ks) s bn)=(cQ aM aT x0 bn (gN st [s,[40]])).bind fun st=>some (dD st [41]):=by
    rw [Jv.out.2]
    show lK _ _ _ _ st=_
    unfold lK
    rw [if_pos ⟨Jv.out.1,by rw [bh];exact Ud.out⟩,nt ks lU,Lo.out]
   rw [e]
   exact hp.mono (by simp only [List.length_cons,List.length_nil];omega))
  go_wp2
  go_end0
  exact ⟨rfl,HP.out,T6.out⟩
def uQ (B b:Nat) (w:World) (ks:List Nd) (M c:Nat) (fin:Option St) (rest:Nat→Option St→Option St) (i:Value) (wr:World):Prop:=
 ∃(k:Nat) (o:Option St),k≤ks.length∧i=.int .i64 (k:Int)∧cC wr B b o (M+c*k+2000*aC (ks.take k))∧aI B b w wr∧rest k o=fin
theorem uQ.start {B b:Nat} {w:World} {ks:List Nd} {M c:Nat} {fin:Option St} {rest:Nat→Option St→Option St} {o:Option St} (h:cC w B b o M) (e:rest 0 o=fin):uQ B b w ks M c fin rest (.int .i64 (0:Int)) w:=
 ⟨0,o,Nat.zero_le _,rfl,h.mono (by omega),aI.refl _ _ _,e⟩
theorem uQ.step {B b:Nat} {w wr:World} {ks:List Nd} {M c M':Nat} {fin:Option St} {rest:Nat→Option St→Option St} {o:Option St} {k:Nat} (hk:k<ks.length) (h:cC wr B b o M') (hM:M'≤M+c*k+2000*aC (ks.take k)+c+2000*aS ks[k]) (ht:aI B b w wr) (e:rest (k+1) o=fin) {i:Value} (hi:i=.int .i64 ((k:Int)+1)):uQ B b w ks M c fin rest i wr:=by
 refine ⟨k+1,o,hk,?_,h.mono ?_,ht,e⟩
 ·rw [hi];rfl
 ·rw [List.take_succ_eq_append_getElem hk,pO,Nat.mul_succ];omega
theorem xO (ks:List Nd):∀k,aC (ks.take k)≤aC ks:=by
 induction ks with
 |nil=>intro k;simp
 |cons x r ih=>
  intro k
  cases k with
  |zero=>simp [aC]
  |succ k=>rw [List.take_succ_cons,aC,aC];have:=ih k;omega
theorem Jy {ks:List Nd} {k:Nat} (h:k<ks.length):aC (ks.take k)+aS ks[k]≤aC ks:=by
 have:=xO ks (k+1)
 rw [List.take_succ_eq_append_getElem h,pO] at this
 exact this
def jv (ks:List Nd) (k:Nat) (o:Option St):Option St:=o.bind (mr (aG aM aT (ks.drop k)))
theorem Ck {ks:List Nd} {k:Nat} (hk:k<ks.length) (o:Option St):jv ks (k+1) ((o.map (dD · [32,119,104,105,108,101,32])).bind (cQ aM aT ks[k] 0))=jv ks k o:=by
 unfold jv
 rw [List.drop_eq_getElem_cons hk,aG]
 cases o with
 |none=>rfl
 |some st=>rfl
theorem E' (ks:List Nd) (o:Option St):jv ks ks.length o=o:=by
 unfold jv
 rw [List.drop_length,aG]
 cases o<;>rfl
theorem Cl (B b:Nat) (ks:List Nd) (A:Option Addr) (cap:Nat) (o:Option St) (M:Nat) (w:World) (h:cC w B b o M) (hk:sw B w ks A) (gF:∀i (hi:i<ks.length),sY ks[i]) (hn:ks.length≤1000000) (hM:M+10*ks.length+2000*aC ks≤1099511627776):
 Calls Tryz.prog 150 #[.pointer (some ⟨b,0,none⟩),.slice A ks.length cap] w (ie B b w (jv ks 0 o) (M+10*ks.length+2000*aC ks)):=by
 have hlt:=h.lt.1
 have hge:=h.lt.2
 have Ad:=aa hk
 have Ae:=aa gF
 have P0:=aa h
 have HM:=aa hM
 obtain ⟨fin,Ik⟩:∃f,jv ks 0 o=f:=⟨_,rfl⟩
 rw [Ik]
 have HLP:=aa (uQ.start (ks:=ks) (c:=10) h Ik)
 clear h hk gF hM Ik
 obtain ⟨N,hN⟩:∃N,ks.length=N:=⟨_,rfl⟩
 rw [hN] at hn⊢
 have HN:=aa hN
 clear hN
 go_enter Tryz.func150,Tryz.ntmps150
 go_wp2_with fail
 go_loopw [8] (fun i wr=>uQ B b w ks M 10 fin (jv ks) i wr) (fun i _=>N-(intOf i).toNat)
 case atStart=>exact HLP.out
 case round=>
  obtain ⟨k,o1,hk,rfl,hp,ht,he⟩:=hrel
  rw [HN.out] at hk
  have VD:=aa hp
  have ZR:=aa ht
  have HE:=aa he
  clear hp ht he
  by_cases aaZ:k<N
  ·have vU:k<ks.length:=by rw [HN.out];exact aaZ
   have Ky:(k:Int)<(N:Int):=by omega
   have hk0:(0:Int)≤(k:Int):=by omega
   have hw1:IntKind.i64.wrap ((k:Int)+1)=(k:Int)+1:=IntWalk.i64_in _ (by omega)
   obtain ⟨bk,off,yk,y0,yn,yv,ya,yb,yc,yd,yA,dW,dp,rfl,hK⟩:=Ad.out.kid vU
   obtain ⟨⟨c0,c1,c2,c3,c4,c5,c6,c7,c8⟩,_⟩:=hK wr ZR.out.below ZR.out.size
   have K0:=aa hK
   have Ob:=aa (Ae.out k vU)
   have HST:=aa (Ck vU o1)
   have Oc:=Jy vU
   have hmm:=HM.out
   have iz:=aa (fun (W':World) (o':Option St) (M':Nat) (h:cC W' B b o' M') (hM:M'≤M+10*k+2000*aC (ks.take k)+10+2000*aS ks[k]) (ht:aI B b w W') (e:jv ks (k+1) o'=fin)=>uQ.step (c:=10) vU h hM ht e rfl)
   obtain ⟨x,hx⟩:∃x,ks[k]=x:=⟨_,rfl⟩
   rw [hx] at Ob Oc iz HST
   have HX:=aa hx
   clear hK hx
   rw [HN.out] at hmm
   obtain ⟨u,hu⟩:∃u,aC (ks.take k)=u:=⟨_,rfl⟩
   rw [hu] at VD Oc iz
   have aa0:B≤wr.heap.size:=Nat.le_trans hge (Nat.le_of_lt VD.out.lt.1)
   have Wu:wr.heap.size≠b:=Nat.ne_of_gt VD.out.lt.1
   obtain ⟨w1,PH⟩:∃w1,w1=wr.alloc (.cells (aw yk y0 yn yv ya yb yc yd (.slice yA dW dp)).toArray 25):=⟨_,rfl⟩
   have hb1:Below wr.heap.size wr w1:=by rw [PH];exact (Below.refl _ wr).alloc (Nat.le_refl _) _
   have P1:=aa (VD.out.keep hb1)
   have T1:=aa (ZR.out.trans (aI.of_below (b:=b) hb1 aa0))
   have gG:=aa (show Row w1 wr.heap.size 25 (aw yk y0 yn yv ya yb yc yd (.slice yA dW dp)).toArray from by rw [PH];exact Row.new _ _ _)
   have dC:=aa PH.symm
   clear PH hb1 hu
   unfold aw at dC gG
   go_upto_region 3 with fail
   rw [dC.out]
   clear c0 c1 c2 c3 c4 c5 c6 c7 c8
   have C2:=aa (dM B b [32,119,104,105,108,101,32] o1 (M+10*k+2000*u) w1 P1.out (by first|omega|(simp only [List.length_cons,List.length_nil];omega)))
   obtain ⟨o2,q2⟩:∃z_,o1.map (dD · [32,119,104,105,108,101,32])=z_:=⟨_,rfl⟩
   rw [q2] at C2
   have Q2:=aa q2
   clear q2
   go_wp2_with fail
   refine (C2.out).mono ?_
   rintro e w2 ⟨rfl,p2,t2⟩
   have P2:=aa p2
   have T2:=aa (T1.out.trans t2)
   have ko:=aa (t2.row gG.out (by decide) (by omega))
   clear p2 t2 C2
   obtain ⟨fc,iX,ir,iY,iI,iJ,iZ,i_,gv⟩:=aj ko.out
   obtain ⟨_,aB⟩:=K0.out w2 T2.out.below T2.out.size
   have C3:=aa (show Calls Tryz.prog 45 #[.pointer (some ⟨b,0,none⟩),.agg #[.int .i64 yk,.int .i64 y0,.string (ae yn),.string (ae yv),.int .i64 ya,.int .i64 yb,.int .i64 yc,.int .i64 yd,.slice yA dW dp],.int .i64 0] w2 (ie B b w2 (o2.bind (cQ aM aT x 0)) (((M+10*k+2000*u)+([32,119,104,105,108,101,32]:List UInt8).length+1)+2000*aS x)) from Ob.out B b 0 _ o2 _ w2 P2.out (by rw [←HX.out];exact aB) (by decide) (by decide) (by simp only [List.length_cons,List.length_nil];omega))
   obtain ⟨o3,q3⟩:∃z_,o2.bind (cQ aM aT x 0)=z_:=⟨_,rfl⟩
   rw [q3] at C3
   have Q3:=aa q3
   clear q3
   clear aB
   go_wp2_with fail
   refine (C3.out).mono ?_
   rintro e w3 ⟨rfl,p3,t3⟩
   have P3:=aa p3
   have T3:=aa (T2.out.trans t3)
   have nv:=aa (t3.row ko.out (by decide) (by omega))
   clear p3 t3 C3
   clear fc iX ir iY iI iJ iZ i_ gv
   have HL:=aa (iz.out w3 o3 _ P3.out (by simp only [List.length_cons,List.length_nil];omega) T3.out (by rw [←Q3.out,←Q2.out,HST.out];exact HE.out))
   go_wp2
   go_roundw
   case rel=>exact HL.out
   case measure=>simp [intOf];omega
  ·obtain rfl:k=N:=by omega
   have Ky:¬(k:Int)<(k:Int):=by omega
   have WT:=aa (show o1=fin by have:=HE.out;rw [←HN.out,E'] at this;exact this)
   have P9:=aa (show cC wr B b fin (M+10*k+2000*aC ks) from by
    have:=VD.out
    rw [WT.out] at this
    exact this.mono (by have:=xO ks k;omega))
   clear VD
   go_wp2
   go_end0
   exact ⟨rfl,P9.out,ZR.out⟩
theorem Ug (W:World) (k1 k2:Int) (s1 s2:List UInt8) (k:Int) (s:List UInt8) (h1:dr k1) (h2:dr k2) (hne:k1≠k2) (hk:(k,s)∈[(k1,s1),(k2,s2)]):∃W1 W2,
 (Instr.mapUpdate 160 (.map (some W.heap.size)) (.int .i64 k1) (.string (ae s1))).run Tryz.prog (W.alloc (.map #[] 0))=.ok () W1∧
 (Instr.mapUpdate 160 (.map (some W.heap.size)) (.int .i64 k2) (.string (ae s2))).run Tryz.prog W1=.ok () W2∧
 (Instr.lookup 160 (.map (some W.heap.size)) (.int .i64 k) false).run Tryz.prog W2=.ok (.string (ae s)) W2∧Below W.heap.size W W2∧W.heap.size<W2.heap.size:=by
 have m0:sR (W.alloc (.map #[] 0)) W.heap.size []:=sR.made W
 obtain ⟨W1,r1,m1,b1,z1⟩:=mC kI Tryz.underlying160 m0 (fun p hp=>by cases hp) (ki h1) (fun p hp=>by cases hp) (.string (ae s1))
 have Yh:∀p∈([]++[(Value.int .i64 k1,Value.string (ae s1))]:List (Value×Value)),∃y,keyOf Tryz.prog 3 p.1=some y:=fun p hp=>by
  simp only [List.nil_append,List.mem_singleton] at hp;subst hp;exact ⟨_,ki h1⟩
 obtain ⟨W2,r2,m2,b2,z2⟩:=mC kI Tryz.underlying160 m1 Yh (ki h2) (fun p hp e=>by
  simp only [List.nil_append,List.mem_singleton] at hp;subst hp;injection e with _ e;exact hne e) (.string (ae s2))
 have Yi:∀p∈([]++[(Value.int .i64 k1,Value.string (ae s1))]++[(Value.int .i64 k2,Value.string (ae s2))]:List (Value×Value)),∃y,keyOf Tryz.prog 3 p.1=some y:=fun p hp=>by
  simp only [List.nil_append,List.singleton_append,List.mem_cons,List.not_mem_nil,or_false] at hp
  rcases hp with rfl|rfl
  ·exact ⟨_,ki h1⟩
  ·exact ⟨_,ki h2⟩
 have Yj:([]++[(Value.int .i64 k1,Value.string (ae s1))]++[(Value.int .i64 k2,Value.string (ae s2))]:List (Value×Value)).Pairwise fun p q=>p.1≠q.1:=by
  simp only [List.nil_append,List.singleton_append,List.pairwise_cons,List.mem_singleton,List.not_mem_nil]
  exact ⟨fun a ha e=>by subst ha;injection e with _ e;exact hne e,fun a ha=>ha.elim,List.Pairwise.nil⟩
 have hin:(Value.int .i64 k,Value.string (ae s))∈([]++[(Value.int .i64 k1,Value.string (ae s1))]++[(Value.int .i64 k2,Value.string (ae s2))]:List (Value×Value)):=by
  simp only [List.mem_cons,List.not_mem_nil,or_false,Prod.mk.injEq] at hk
  rcases hk with ⟨rfl,rfl⟩|⟨rfl,rfl⟩<;>simp
 have vU:dr k:=by
  simp only [List.mem_cons,List.not_mem_nil,or_false,Prod.mk.injEq] at hk
  rcases hk with ⟨rfl,rfl⟩|⟨rfl,rfl⟩
  ·exact h1
  ·exact h2
 refine ⟨W1,W2,r1,r2,rP kI Tryz.underlying160 m2 Yi Yj (ki vU) hin false,?_,m2.lt⟩
 exact ((Below.refl W.heap.size W).alloc (Nat.le_refl _) _).trans ((b1.trans b2).below (fun b hb=>by rw [hb];exact Nat.le_refl _) (by simp))
theorem val_neg (o:Option St) (n:Nd) (fs:List Pw) (h:n.kind=28∨n.kind=8):o.bind (fF aM aT n fs)=o.bind fun st=>if fw n false false false false∧fs.length=1 then mq fs 0 (pG aM n) (dD st (if n.kind=28 then rK else kg)) else none:=by
 cases o with
 |none=>rfl
 |some st=>
  show fF aM aT n fs st=_
  unfold fF
  rw [if_neg (by omega),if_pos h]
  rfl
theorem Uh (B b:Nat) (a0 xa xb xc xd:Int) (nm vl:List UInt8) (ks:List Nd) (A:Option Addr) (cap:Nat) (o:Option St) (M:Nat) (w:World) (h:cC w B b o M) (hk:sw B w ks A) (gF:∀i (hi:i<ks.length),sY ks[i]) (iq:im 28 xa xb xc xd nm vl) (hn:ks.length≤1000000) (hM:M+1500+2000*aC ks≤1099511627776):
 Calls Tryz.prog 113 #[.pointer (some ⟨b,0,none⟩),.agg (aw 28 a0 nm vl xa xb xc xd (.slice A ks.length cap)).toArray] w (ie B b w (o.bind (fF aM aT (.mk 28 a0 nm vl xa xb xc xd ks) (aG aM aT ks))) (M+1500+2000*aC ks)):=by
 have hlt:=h.lt.1
 have hge:=h.lt.2
 have Ad:=aa hk
 obtain ⟨w1,hw1⟩:∃w1,w1=w.alloc (.cells (aw 28 a0 nm vl xa xb xc xd (.slice A ks.length cap)).toArray 25):=⟨_,rfl⟩
 have hb1:Below w.heap.size w w1:=by rw [hw1];exact (Below.refl _ w).alloc (Nat.le_refl _) _
 have P1:=aa (h.keep hb1)
 have T1:=aa (aI.of_below (b:=b) hb1 (show B≤w.heap.size by omega))
 have gG:=aa (show Row w1 w.heap.size 25 (aw 28 a0 nm vl xa xb xc xd (.slice A ks.length cap)).toArray from by rw [hw1];exact Row.new _ _ _)
 have dC:=aa hw1.symm
 have Ae:=aa gF
 have Ke:=aa iq
 clear h hk hw1 hb1 gF iq
 unfold aw at dC gG⊢
 go_enter Tryz.func113,Tryz.ntmps113
 go_upto_region 1 with fail
 rw [dC.out]
 obtain ⟨fc,iX,ir,iY,iI,iJ,iZ,i_,gv⟩:=aj gG.out
 have C2:=aa (gP B b 28 a0 xa xb xc xd nm vl (.slice A ks.length cap) [] o M w1 P1.out)
 obtain ⟨o2,q2⟩:∃z_,nD o (decide (nm=[])) (decide (vl=[])) (decide (xa=0)) (decide (xb=0)) (decide (xc=0)) (decide (xd=0)) []=z_:=⟨_,rfl⟩
 rw [q2] at C2
 have Q2:=aa q2
 clear q2
 unfold aw at C2
 go_wp2_with fail
 refine (C2.out).mono ?_
 rintro e w2 ⟨rfl,p2,t2⟩
 have P2:=aa p2
 have T2:=aa (T1.out.trans t2)
 have ko:=aa (t2.row gG.out (by decide) (by omega))
 clear p2 t2 C2
 clear fc iX ir iY iI iJ iZ i_ gv
 obtain ⟨fc,iX,ir,iY,iI,iJ,iZ,i_,gv⟩:=aj ko.out
 have C3:=aa (kM B b 28 a0 xa xb xc xd nm vl A ks.length cap 1 1 o2 M w2 P2.out (by omega))
 unfold aw at C3
 obtain ⟨o3,q3⟩:∃z_,lS o2 ks.length 1 1=z_:=⟨_,rfl⟩
 rw [q3] at C3
 have hfk:lS (nD o (decide (nm=[])) (decide (vl=[])) (decide (xa=0)) (decide (xb=0)) (decide (xc=0)) (decide (xd=0)) []) ks.length 1 1=if fw (.mk 28 a0 nm vl xa xb xc xd ks) false false false false=true∧1≤(ks.length:Int)∧(ks.length:Int)≤1 then o else none:=GM o [] 1 1
 rw [Q2.out,q3] at hfk
 have pQ:=aa hfk
 clear hfk q3
 cases o3 with
 |none=>
  go_wp2_with fail
  refine (C3.out).mono ?_
  rintro e w3 ⟨rfl,p3,t3⟩
  have P3:=aa p3
  have T3:=aa (T2.out.trans t3)
  have nv:=aa (t3.row ko.out (by decide) (by omega))
  clear p3 t3 C3
  clear fc iX ir iY iI iJ iZ i_ gv
  have HP:=aa (show cC w3 B b (o.bind (fF aM aT (.mk 28 a0 nm vl xa xb xc xd ks) (aG aM aT ks))) (M+1500+2000*aC ks) from by
   rw [val_neg o (.mk 28 a0 nm vl xa xb xc xd ks) (aG aM aT ks) (by first|exact Or.inl rfl|exact Or.inr rfl),show o.bind _=none from sZ pQ.out (fun h=>⟨h.1,by have:=h.2;rw [bh] at this;omega⟩)]
   exact P3.out.mono (by omega))
  go_wp2
  go_end0
  exact ⟨rfl,HP.out,T3.out⟩
 |some st=>
  obtain ⟨⟨hc1,hc2,hc3⟩,ho⟩:=nu pQ.out
  have Ud:=aa (show ks.length=1 by omega)
  have lU:0<ks.length:=by omega
  obtain ⟨bL,bM,zD,zE,zF,zG,zH,zJ,zK,zL,zM,gi,gj,Ue,E_⟩:=Ad.out.kid (i:=0) lU
  subst Ue
  obtain ⟨x0,hx0⟩:∃x,ks[0]'lU=x:=⟨_,rfl⟩
  rw [hx0] at E_
  have K0:=aa (fun (W:World) (hb:Below B w W) (hz:w.heap.size≤W.heap.size)=>show (W.cell? ⟨bL,bM,none⟩=some (.int .i64 zD)∧W.cell? ⟨bL,bM+1,none⟩=some (.int .i64 zE)∧W.cell? ⟨bL,bM+2,none⟩=some (.string (ae zF))∧W.cell? ⟨bL,bM+3,none⟩=some (.string (ae zG))∧W.cell? ⟨bL,bM+4,none⟩=some (.int .i64 zH)∧W.cell? ⟨bL,bM+5,none⟩=some (.int .i64 zJ)∧W.cell? ⟨bL,bM+6,none⟩=some (.int .i64 zK)∧W.cell? ⟨bL,bM+7,none⟩=some (.int .i64 zL)∧W.cell? ⟨bL,bM+8,none⟩=some (.slice zM gi gj))∧cG (fun c=>B≤c) W x0 [Value.int .i64 zD,.int .i64 zE,.string (ae zF),.string (ae zG),.int .i64 zH,.int .i64 zJ,.int .i64 zK,.int .i64 zL,.slice zM gi gj] from E_ W hb hz)
  have Ob:Hid (sY x0):=by rw [←hx0];exact Ae.out 0 lU
  have Uf:aS x0≤aC ks:=by rw [←hx0];exact jU (List.getElem_mem _)
  have Lo:=aa hx0
  clear hx0 E_
  have Jv:=aa (And.intro hc1 ho)
  clear hc1 hc2 hc3 ho
  go_wp2_with fail
  refine (C3.out).mono ?_
  rintro e w3 ⟨rfl,p3,t3⟩
  have P3:=aa p3
  have T3:=aa (T2.out.trans t3)
  have nv:=aa (t3.row ko.out (by decide) (by omega))
  clear p3 t3 C3
  clear fc iX ir iY iI iJ iZ i_ gv
  obtain ⟨wm,w4,u1',u2',l1',hb4,VE⟩:=Ug w3 28 8 [33] [126] (28:Int) [33] ⟨by decide,by decide⟩ ⟨by decide,by decide⟩ (by decide) (by simp)
  have u1:(Instr.mapUpdate 160 (.map (some w3.heap.size)) (.int .i64 28) (.string {data:=#[33]})).run Tryz.prog (w3.alloc (.map #[] 0))=.ok () wm:=u1'
  have u2:(Instr.mapUpdate 160 (.map (some w3.heap.size)) (.int .i64 8) (.string {data:=#[126]})).run Tryz.prog wm=.ok () w4:=u2'
  have l1:(Instr.lookup 160 (.map (some w3.heap.size)) (.int .i64 28) false).run Tryz.prog w4=.ok (.string {data:=#[33]}) w4:=l1'
  have hmm:=@run_makeMap Tryz.prog
  clear u1' u2' l1'
  have Ru:B≤w3.heap.size:=Nat.le_trans P3.out.lt.2 (Nat.le_of_lt P3.out.lt.1)
  have P4:=aa (P3.out.keep hb4)
  have t4:=aI.of_below (b:=b) hb4 Ru
  have T4:=aa (T3.out.trans t4)
  have s5:=aa (t4.row nv.out (by decide) (by omega))
  clear t4 hb4 VE Ru
  have fc:w4.cell? ⟨w.heap.size,0,none⟩=some (.int .i64 28):=s5.out.cell 0
  have C5:=aa (dM B b [33] (some st) M w4 P4.out (by first|omega|(simp only [List.length_cons,List.length_nil];omega)))
  obtain ⟨o5,q5⟩:∃z_,(some st).map (dD · [33])=z_:=⟨_,rfl⟩
  rw [q5] at C5
  have Q5:=aa q5
  clear q5
  go_wp2_with fail
  refine (C5.out).mono ?_
  rintro e w5 ⟨rfl,p5,t5⟩
  have P5:=aa p5
  have T5:=aa (T4.out.trans t5)
  have sA:=aa (t5.row s5.out (by decide) (by omega))
  clear p5 t5 C5
  clear fc u1 u2 l1 hmm
  go_upto_region 13 with fail
  have S0:=aa (fun (W':World) (ht:aI B b w W') (hr:Row W' w.heap.size 25 #[.int .i64 28,.int .i64 a0,.string (ae nm),.string (ae vl),.int .i64 xa,.int .i64 xb,.int .i64 xc,.int .i64 xd,.slice (some ⟨bL,bM,none⟩) ks.length cap])=>show W'.cell? ⟨w.heap.size,0,none⟩=some (.int .i64 28)∧W'.cell? ⟨w.heap.size,1,none⟩=some (.int .i64 a0)∧W'.cell? ⟨w.heap.size,2,none⟩=some (.string (ae nm))∧W'.cell? ⟨w.heap.size,3,none⟩=some (.string (ae vl))∧W'.cell? ⟨w.heap.size,4,none⟩=some (.int .i64 xa)∧W'.cell? ⟨w.heap.size,5,none⟩=some (.int .i64 xb)∧W'.cell? ⟨w.heap.size,6,none⟩=some (.int .i64 xc)∧W'.cell? ⟨w.heap.size,7,none⟩=some (.int .i64 xd)∧W'.cell? ⟨w.heap.size,8,none⟩=some (.slice (some ⟨bL,bM,none⟩) ks.length cap)∧W'.cell? ⟨bL,bM,none⟩=some (.int .i64 zD)∧W'.cell? ⟨bL,bM+1,none⟩=some (.int .i64 zE)∧W'.cell? ⟨bL,bM+2,none⟩=some (.string (ae zF))∧W'.cell? ⟨bL,bM+3,none⟩=some (.string (ae zG))∧W'.cell? ⟨bL,bM+4,none⟩=some (.int .i64 zH)∧W'.cell? ⟨bL,bM+5,none⟩=some (.int .i64 zJ)∧W'.cell? ⟨bL,bM+6,none⟩=some (.int .i64 zK)∧W'.cell? ⟨bL,bM+7,none⟩=some (.int .i64 zL)∧W'.cell? ⟨bL,bM+8,none⟩=some (.slice zM gi gj) from ⟨hr.cell 0,hr.cell 1,hr.cell 2,hr.cell 3,hr.cell 4,hr.cell 5,hr.cell 6,hr.cell 7,hr.cell 8,(K0.out W' ht.below ht.size).1⟩)
  obtain ⟨b0,b1,b2,b3,b4,b5,b6,b7,b8,d0,d1,d2,d3,d4,d5,d6,d7,d8⟩:=S0.out w5 T5.out sA.out
  have LV:=aa (fun (W':World) (hg:Gl W')=>show Calls Tryz.prog 44 #[.agg #[.int .i64 28,.int .i64 a0,.string (ae nm),.string (ae vl),.int .i64 xa,.int .i64 xb,.int .i64 xc,.int .i64 xd,.slice (some ⟨bL,bM,none⟩) ks.length cap]] W' fun e w'=>e=.returned (.int .i64 2)∧Below W'.heap.size W' w' from (qO 28 a0 xa xb xc xd nm vl (.slice (some ⟨bL,bM,none⟩) ks.length cap) W' ⟨by decide,by decide⟩ (by have:=Ke.out.vl;omega) hg))
  have GLd:=aa (P5.out.gl.below (Below.refl _ _).drew)
  have BLk:B≤w5.heap.size:=Nat.le_trans P5.out.lt.2 (Nat.le_of_lt P5.out.lt.1)
  have ST:=aa (fun (wv:World) (hb5:Below w5.drew.heap.size w5.drew wv)=>show cC wv B b o5 (M+([33]:List UInt8).length+1)∧aI B b w wv∧Row wv w.heap.size 25 #[.int .i64 28,.int .i64 a0,.string (ae nm),.string (ae vl),.int .i64 xa,.int .i64 xb,.int .i64 xc,.int .i64 xd,.slice (some ⟨bL,bM,none⟩) ks.length cap] from by
   have hb:Below w5.heap.size w5 wv:=(Below.refl _ _).drew.trans hb5
   have ht:=aI.of_below (b:=b) hb BLk
   exact ⟨P5.out.keep hb,T5.out.trans ht,ht.row sA.out (by decide) (by omega)⟩)
  have Dq:=aa (fun (wv:World) (hp:cC wv B b o5 (M+([33]:List UInt8).length+1)) (ht:aI B b w wv)=>show Calls Tryz.prog 45 #[.pointer (some ⟨b,0,none⟩),.agg #[.int .i64 zD,.int .i64 zE,.string (ae zF),.string (ae zG),.int .i64 zH,.int .i64 zJ,.int .i64 zK,.int .i64 zL,.slice zM gi gj],.int .i64 2] wv (ie B b wv (o5.bind (cQ aM aT x0 2)) ((M+([33]:List UInt8).length+1)+2000*aS x0)) from Ob.out B b 2 _ o5 _ wv hp (K0.out wv ht.below ht.size).2 (by decide) (by decide) (by simp only [List.length_cons,List.length_nil];omega))
  obtain ⟨o6,q6⟩:∃z_,o5.bind (cQ aM aT x0 2)=z_:=⟨_,rfl⟩
  rw [q6] at Dq
  have Q6:=aa q6
  clear q6
  go_region_held3 (fun W'=>W'.cell? ⟨w.heap.size,0,none⟩=some (.int .i64 28)∧W'.cell? ⟨w.heap.size,1,none⟩=some (.int .i64 a0)∧W'.cell? ⟨w.heap.size,2,none⟩=some (.string (ae nm))∧W'.cell? ⟨w.heap.size,3,none⟩=some (.string (ae vl))∧W'.cell? ⟨w.heap.size,4,none⟩=some (.int .i64 xa)∧W'.cell? ⟨w.heap.size,5,none⟩=some (.int .i64 xb)∧W'.cell? ⟨w.heap.size,6,none⟩=some (.int .i64 xc)∧W'.cell? ⟨w.heap.size,7,none⟩=some (.int .i64 xd)∧W'.cell? ⟨w.heap.size,8,none⟩=some (.slice (some ⟨bL,bM,none⟩) ks.length cap)∧W'.cell? ⟨bL,bM,none⟩=some (.int .i64 zD)∧W'.cell? ⟨bL,bM+1,none⟩=some (.int .i64 zE)∧W'.cell? ⟨bL,bM+2,none⟩=some (.string (ae zF))∧W'.cell? ⟨bL,bM+3,none⟩=some (.string (ae zG))∧W'.cell? ⟨bL,bM+4,none⟩=some (.int .i64 zH)∧W'.cell? ⟨bL,bM+5,none⟩=some (.int .i64 zJ)∧W'.cell? ⟨bL,bM+6,none⟩=some (.int .i64 zK)∧W'.cell? ⟨bL,bM+7,none⟩=some (.int .i64 zL)∧W'.cell? ⟨bL,bM+8,none⟩=some (.slice zM gi gj)) (go_keep) (first|(go_at_call 44;((with_reducible refine (LV.out _ GLd.out).mono ?_);rintro e wv ⟨rfl,hb5⟩;have hs5:=ST.out wv hb5;have PI:=aa hs5;obtain ⟨g0,g1,g2,g3,g4,g5,g6,g7,g8,g9,g10,g11,g12,g13,g14,g15,g16,g17⟩:=S0.out wv hs5.2.1 hs5.2.2;clear hb5 hs5))|(go_at_call 45;(refine (Dq.out _ PI.out.1 PI.out.2.1).mono ?_;rintro e wz ⟨rfl,p6,t6⟩;have lA:=t6.row PI.out.2.2 (by decide) (by omega);obtain ⟨j0,j1,j2,j3,j4,j5,j6,j7,j8,j9,j10,j11,j12,j13,j14,j15,j16,j17⟩:=S0.out wz (PI.out.2.1.trans t6) lA;have Pz:=aa p6;have Tz:=aa (PI.out.2.1.trans t6);clear p6 t6 lA)))
  have HP:=aa (show cC wz B b (o.bind (fF aM aT (.mk 28 a0 nm vl xa xb xc xd ks) (aG aM aT ks))) (M+1500+2000*aC ks) from by
   have hp:=Pz.out
   rw [←Q6.out,←Q5.out] at hp
   have e:(o.bind (fF aM aT (.mk 28 a0 nm vl xa xb xc xd ks) (aG aM aT ks)))=(cQ aM aT x0 2 (dD st rK)):=by
    rw [Jv.out.2,val_neg _ (.mk 28 a0 nm vl xa xb xc xd ks) (aG aM aT ks) (by first|exact Or.inl rfl|exact Or.inr rfl)]
    show (if _ then _ else _)=_
    rw [if_pos ⟨Jv.out.1,by rw [bh];exact Ud.out⟩,nt ks lU,Lo.out]
    rfl
   rw [e]
   exact hp.mono (by simp only [List.length_cons,List.length_nil];omega))
  go_wp2
  go_end0
  exact ⟨rfl,HP.out,Tz.out⟩
theorem uR (sg:List UInt8→Int) (ng:List UInt8→List UInt8):∀(ks:List Nd) (l:Nat),(aG sg ng ks).drop l=aG sg ng (ks.drop l)
 |ks,0=>by rw [List.drop_zero,List.drop_zero]
 |[],l+1=>by rw [List.drop_nil,aG,List.drop_nil]
 |x::r,l+1=>by rw [aG,List.drop_succ_cons,List.drop_succ_cons];exact uR sg ng r l
def Jz (bk MP cap l:Nat):Option Addr:=if cap=l then some ⟨bk,MP,none⟩ else some ⟨bk,MP+l*9,none⟩
theorem sw.drop {B:Nat} {w:World} {ks:List Nd} {bk MP cap:Nat} (h:sw B w ks (some ⟨bk,MP,none⟩)) (l:Nat) (hc:ks.length≤cap):sw B w (ks.drop l) (Jz bk MP cap l):=by
 obtain ⟨bF,hl,hk,hr⟩:=h
 refine ⟨bF.drop l,by rw [List.length_drop,List.length_drop,hl],fun i h1 h2=>?_,fun hp=>?_⟩
 ·rw [List.getElem_drop,List.getElem_drop]
  exact hk _ _ _
 ·rw [List.length_drop] at hp
  obtain ⟨b,off,e,hb,hz,hat⟩:=hr (by omega)
  injection e with e
  injection e with e1 e2
  subst e1 e2
  refine ⟨bk,MP+l*9,by unfold Jz;rw [if_neg (by omega)],hb,hz,fun i h1 j h2=>?_⟩
  rw [List.getElem_drop]
  rw [List.length_drop] at h1
  have:=hat (l+i) (by omega) j h2
  rw [←this]
  congr 2
  rw [Nat.add_mul];omega
theorem PJ (bk MP n cap l:Nat) (hl:l≤n) (hl2:l≤1000) (W:World):(Instr.slice 23 (.slice (some ⟨bk,MP,none⟩) n cap) (some (.int .i64 (l:Int))) none none).run Tryz.prog W=.ok (.slice (Jz bk MP cap l) (n-l) (cap-l)) W:=by
 have hs:(sizeOf 25).run Tryz.prog W=.ok 9 W:=by kernel_rfl
 have hu:(underlying 23).run Tryz.prog W=.ok (.slice 25) W:=by kernel_rfl
 have ha:(⟨bk,MP,none⟩:Addr).add (l*9)=⟨bk,MP+l*9,none⟩:=by unfold Addr.add;split<;>simp_all
 simp [Instr.slice,hu,hs,Instr.sliceBounds,Instr.sliceBound,asIntOf,Result.andThen,Jz,ha]
 split<;>simp_all
theorem xP:∀(ks:List Nd) (h:1<ks.length),aC ks=aS ks[0]+aS ks[1]+aC (ks.drop 2)
 |x::y::r,_=>by rw [aC,aC,Nat.add_assoc];rfl
theorem Cm (ks:List Nd) (o:Option St):jv ks 0 o=o.bind (mr (aG aM aT ks)):=by unfold jv;rw [List.drop_zero]
theorem Cn (B b:Nat) (ks:List Nd) (l:Nat) (A:Option Addr) (cap:Nat) (o:Option St) (M:Nat) (w:World) (h:cC w B b o M) (hk:sw B w (ks.drop l) A) (gF:∀i (hi:i<ks.length),sY ks[i]) (hn:(ks.drop l).length≤1) (hM:M+(10+2000*aC (ks.drop l))≤1099511627776):
 Calls Tryz.prog 150 #[.pointer (some ⟨b,0,none⟩),.slice A (ks.length-l) cap] w (ie B b w (o.bind (mr (aG aM aT (ks.drop l)))) (M+(10+2000*aC (ks.drop l)))):=by
 have h1:=Cl B b (ks.drop l) A cap o M w h hk (fun i hi=>by rw [List.getElem_drop];exact gF _ _) (by omega) (by omega)
 rw [Cm,List.length_drop] at h1
 rw [List.length_drop] at hn
 exact h1.mono fun e w' hx=>⟨hx.1,hx.2.1.mono (by omega),hx.2.2⟩
theorem Fa (o:Option St) (f g h k:St→Option St) (u v:St→St):(((((o.bind f).map u).bind g).bind h).map v).bind k=o.bind fun st=>(f st).bind fun st=>(g (u st)).bind fun st=>(h st).bind fun st=>k (v st):=by
 cases o with
 |none=>rfl
 |some st=>
  show Option.bind (Option.map v (Option.bind (Option.bind (Option.map u (f st)) g) h)) k=Option.bind (f st) _
  cases f st with
  |none=>rfl
  |some st=>
   show Option.bind (Option.map v (Option.bind (g (u st)) h)) k=Option.bind (g (u st)) _
   cases g (u st) with
   |none=>rfl
   |some st=>
    show Option.bind (Option.map v (h st)) k=Option.bind (h st) _
    cases h st<;>rfl
theorem xQ (o:Option St) (n:Nd) (fs:List Pw) (h:n.kind=45):o.bind (vS aM n fs)=o.bind fun st=>if fw n false false true false∧2≤fs.length∧fs.length≤3 then (mq fs 0 11 st).bind fun st=>(lz n.a n.b (dD st [32,45,62,32])).bind fun st=>(mr (fs.drop 2) st).bind fun st=>mq fs 1 12 (dD st [32]) else none:=by
 cases o with
 |none=>rfl
 |some st=>
  show vS aM n fs st=_
  unfold vS
  rw [if_pos h]
  rfl
theorem Ui (B b:Nat) (a0 xa xb xc xd:Int) (nm vl:List UInt8) (ks:List Nd) (A:Option Addr) (cap:Nat) (o:Option St) (M:Nat) (w:World) (h:cC w B b o M) (hk:sw B w ks A) (gF:∀i (hi:i<ks.length),sY ks[i]) (iq:im 45 xa xb xc xd nm vl) (cI:ks.length≤cap) (hn:ks.length≤1000000) (hM:M+1500+2000*aC ks≤1099511627776):
 Calls Tryz.prog 112 #[.pointer (some ⟨b,0,none⟩),.agg (aw 45 a0 nm vl xa xb xc xd (.slice A ks.length cap)).toArray] w (ie B b w (o.bind (vS aM (.mk 45 a0 nm vl xa xb xc xd ks) (aG aM aT ks))) (M+1500+2000*aC ks)):=by
 have hlt:=h.lt.1
 have hge:=h.lt.2
 have Ad:=aa hk
 have aa1:=aa cI
 clear cI
 obtain ⟨w1,hw1⟩:∃w1,w1=w.alloc (.cells (aw 45 a0 nm vl xa xb xc xd (.slice A ks.length cap)).toArray 25):=⟨_,rfl⟩
 have hb1:Below w.heap.size w w1:=by rw [hw1];exact (Below.refl _ w).alloc (Nat.le_refl _) _
 have P1:=aa (h.keep hb1)
 have T1:=aa (aI.of_below (b:=b) hb1 (show B≤w.heap.size by omega))
 have gG:=aa (show Row w1 w.heap.size 25 (aw 45 a0 nm vl xa xb xc xd (.slice A ks.length cap)).toArray from by rw [hw1];exact Row.new _ _ _)
 have dC:=aa hw1.symm
 have Ae:=aa gF
 have Ke:=aa iq
 clear h hk hw1 hb1 gF iq
 unfold aw at dC gG⊢
 go_enter Tryz.func112,Tryz.ntmps112
 go_upto_region 1 with fail
 rw [dC.out]
 obtain ⟨fc,iX,ir,iY,iI,iJ,iZ,i_,gv⟩:=aj gG.out
 have C2:=aa (gP B b 45 a0 xa xb xc xd nm vl (.slice A ks.length cap) [97] o M w1 P1.out)
 obtain ⟨o2,q2⟩:∃z_,nD o (decide (nm=[])) (decide (vl=[])) (decide (xa=0)) (decide (xb=0)) (decide (xc=0)) (decide (xd=0)) [97]=z_:=⟨_,rfl⟩
 rw [q2] at C2
 have Q2:=aa q2
 clear q2
 unfold aw at C2
 go_wp2_with fail
 refine (C2.out).mono ?_
 rintro e w2 ⟨rfl,p2,t2⟩
 have P2:=aa p2
 have T2:=aa (T1.out.trans t2)
 have ko:=aa (t2.row gG.out (by decide) (by omega))
 clear p2 t2 C2
 clear fc iX ir iY iI iJ iZ i_ gv
 obtain ⟨fc,iX,ir,iY,iI,iJ,iZ,i_,gv⟩:=aj ko.out
 have C3:=aa (kM B b 45 a0 xa xb xc xd nm vl A ks.length cap 2 3 o2 M w2 P2.out (by omega))
 unfold aw at C3
 obtain ⟨o3,q3⟩:∃z_,lS o2 ks.length 2 3=z_:=⟨_,rfl⟩
 rw [q3] at C3
 have hfk:lS (nD o (decide (nm=[])) (decide (vl=[])) (decide (xa=0)) (decide (xb=0)) (decide (xc=0)) (decide (xd=0)) [97]) ks.length 2 3=if fw (.mk 45 a0 nm vl xa xb xc xd ks) false false true false=true∧2≤(ks.length:Int)∧(ks.length:Int)≤3 then o else none:=GM o [97] 2 3
 rw [Q2.out,q3] at hfk
 have pQ:=aa hfk
 clear hfk q3
 cases o3 with
 |none=>
  go_wp2_with fail
  refine (C3.out).mono ?_
  rintro e w3 ⟨rfl,p3,t3⟩
  have P3:=aa p3
  have T3:=aa (T2.out.trans t3)
  have nv:=aa (t3.row ko.out (by decide) (by omega))
  clear p3 t3 C3
  clear fc iX ir iY iI iJ iZ i_ gv
  have HP:=aa (show cC w3 B b (o.bind (vS aM (.mk 45 a0 nm vl xa xb xc xd ks) (aG aM aT ks))) (M+1500+2000*aC ks) from by
   rw [xQ o (.mk 45 a0 nm vl xa xb xc xd ks) (aG aM aT ks) rfl,show o.bind _=none from sZ pQ.out (fun h=>⟨h.1,by have:=h.2;rw [bh] at this;omega⟩)]
   exact P3.out.mono (by omega))
  go_wp2
  go_end0
  exact ⟨rfl,HP.out,T3.out⟩
 |some st=>
  obtain ⟨⟨hc1,hc2,hc3⟩,ho⟩:=nu pQ.out
  have Yk:=aa (show 2≤ks.length∧ks.length≤3 by omega)
  have lU:0<ks.length:=by omega
  have DI:1<ks.length:=by omega
  have V0:(1:Int)<(ks.length:Int):=by omega
  have Tv:=xP ks DI
  obtain ⟨bL,bM,zD,zE,zF,zG,zH,zJ,zK,zL,zM,gi,gj,Ue,E_⟩:=Ad.out.kid (i:=0) lU
  subst Ue
  obtain ⟨x0,hx0⟩:∃x,ks[0]'lU=x:=⟨_,rfl⟩
  rw [hx0] at E_
  have K0:=aa (fun (W:World) (hb:Below B w W) (hz:w.heap.size≤W.heap.size)=>show (W.cell? ⟨bL,bM,none⟩=some (.int .i64 zD)∧W.cell? ⟨bL,bM+1,none⟩=some (.int .i64 zE)∧W.cell? ⟨bL,bM+2,none⟩=some (.string (ae zF))∧W.cell? ⟨bL,bM+3,none⟩=some (.string (ae zG))∧W.cell? ⟨bL,bM+4,none⟩=some (.int .i64 zH)∧W.cell? ⟨bL,bM+5,none⟩=some (.int .i64 zJ)∧W.cell? ⟨bL,bM+6,none⟩=some (.int .i64 zK)∧W.cell? ⟨bL,bM+7,none⟩=some (.int .i64 zL)∧W.cell? ⟨bL,bM+8,none⟩=some (.slice zM gi gj))∧cG (fun c=>B≤c) W x0 [Value.int .i64 zD,.int .i64 zE,.string (ae zF),.string (ae zG),.int .i64 zH,.int .i64 zJ,.int .i64 zK,.int .i64 zL,.slice zM gi gj] from E_ W hb hz)
  have Ob:Hid (sY x0):=by rw [←hx0];exact Ae.out 0 lU
  have Uf:aS x0≤aC ks:=by rw [←hx0];exact jU (List.getElem_mem _)
  have Lo:=aa hx0
  clear hx0 E_
  obtain ⟨bk1,of1,PK,PM,PN,PO,PT,PU,PV,PW,PX,pR,pS,Yl,O0⟩:=Ad.out.kid (i:=1) DI
  obtain ⟨rfl,rfl⟩:bL=bk1∧bM=of1:=by injection Yl with e;injection e with e1 e2;exact ⟨e1,e2⟩
  clear Yl
  obtain ⟨x1,hx1⟩:∃x,ks[1]'DI=x:=⟨_,rfl⟩
  rw [hx1] at O0
  have K1:=aa (fun (W:World) (hb:Below B w W) (hz:w.heap.size≤W.heap.size)=>show (W.cell? ⟨bL,bM+9,none⟩=some (.int .i64 PK)∧W.cell? ⟨bL,bM+10,none⟩=some (.int .i64 PM)∧W.cell? ⟨bL,bM+11,none⟩=some (.string (ae PN))∧W.cell? ⟨bL,bM+12,none⟩=some (.string (ae PO))∧W.cell? ⟨bL,bM+13,none⟩=some (.int .i64 PT)∧W.cell? ⟨bL,bM+14,none⟩=some (.int .i64 PU)∧W.cell? ⟨bL,bM+15,none⟩=some (.int .i64 PV)∧W.cell? ⟨bL,bM+16,none⟩=some (.int .i64 PW)∧W.cell? ⟨bL,bM+17,none⟩=some (.slice PX pR pS))∧cG (fun c=>B≤c) W x1 [Value.int .i64 PK,.int .i64 PM,.string (ae PN),.string (ae PO),.int .i64 PT,.int .i64 PU,.int .i64 PV,.int .i64 PW,.slice PX pR pS] from O0 W hb hz)
  have OP1:Hid (sY x1):=by rw [←hx1];exact Ae.out 1 DI
  have aa2:aS x1≤aC ks:=by rw [←hx1];exact jU (List.getElem_mem _)
  have F0:=aa hx1
  clear hx1 O0
  rw [Lo.out,F0.out] at Tv
  have Jv:=aa (And.intro hc1 ho)
  clear hc1 hc2 hc3 ho
  go_wp2_with fail
  refine (C3.out).mono ?_
  rintro e w3 ⟨rfl,p3,t3⟩
  have P3:=aa p3
  have T3:=aa (T2.out.trans t3)
  have nv:=aa (t3.row ko.out (by decide) (by omega))
  clear p3 t3 C3
  clear fc iX ir iY iI iJ iZ i_ gv
  have gv:w3.cell? ⟨w.heap.size,8,none⟩=some (.slice (some ⟨bL,bM,none⟩) ks.length cap):=nv.out.cell 8
  obtain ⟨⟨d0,d1,d2,d3,d4,d5,d6,d7,d8⟩,aB⟩:=K0.out w3 T3.out.below T3.out.size
  have C4:=aa (show Calls Tryz.prog 45 #[.pointer (some ⟨b,0,none⟩),.agg #[.int .i64 zD,.int .i64 zE,.string (ae zF),.string (ae zG),.int .i64 zH,.int .i64 zJ,.int .i64 zK,.int .i64 zL,.slice zM gi gj],.int .i64 (11)] w3 (ie B b w3 ((some st).bind (cQ aM aT x0 (11))) (M+2000*aS x0)) from Ob.out B b (11) _ (some st) _ w3 P3.out aB (by decide) (by decide) (by first|omega|(simp only [List.length_cons,List.length_nil];omega)))
  obtain ⟨o4,q4⟩:∃z_,(some st).bind (cQ aM aT x0 (11))=z_:=⟨_,rfl⟩
  rw [q4] at C4
  have Q4:=aa q4
  clear q4
  clear aB
  go_wp2_with fail
  refine (C4.out).mono ?_
  rintro e w4 ⟨rfl,p4,t4⟩
  have P4:=aa p4
  have T4:=aa (T3.out.trans t4)
  have s5:=aa (t4.row nv.out (by decide) (by omega))
  clear p4 t4 C4
  clear gv d0 d1 d2 d3 d4 d5 d6 d7 d8
  have C5:=aa (dM B b [32,45,62,32] o4 (M+2000*aS x0) w4 P4.out (by first|omega|(simp only [List.length_cons,List.length_nil];omega)))
  obtain ⟨o5,q5⟩:∃z_,o4.map (dD · [32,45,62,32])=z_:=⟨_,rfl⟩
  rw [q5] at C5
  have Q5:=aa q5
  clear q5
  go_wp2_with fail
  refine (C5.out).mono ?_
  rintro e w5 ⟨rfl,p5,t5⟩
  have P5:=aa p5
  have T5:=aa (T4.out.trans t5)
  have sA:=aa (t5.row s5.out (by decide) (by omega))
  clear p5 t5 C5
  have iI:w5.cell? ⟨w.heap.size,4,none⟩=some (.int .i64 xa):=sA.out.cell 4
  have iJ:w5.cell? ⟨w.heap.size,5,none⟩=some (.int .i64 xb):=sA.out.cell 5
  have C6:=aa (B8 B b xa xb o5 ((M+2000*aS x0)+([32,45,62,32]:List UInt8).length+1) w5 P5 Ke.out.a Ke.out.b (by first|omega|(simp only [List.length_cons,List.length_nil];omega)))
  obtain ⟨o6,q6⟩:∃z_,o5.bind (lz xa xb)=z_:=⟨_,rfl⟩
  rw [q6] at C6
  have Q6:=aa q6
  clear q6
  go_wp2_with fail
  refine (C6.out).mono ?_
  rintro e w6 ⟨rfl,p6,t6⟩
  have P6:=aa p6
  have T6:=aa (T5.out.trans t6)
  have Jw:=aa (t6.row sA.out (by decide) (by omega))
  clear p6 t6 C6
  clear iI iJ
  have gv:w6.cell? ⟨w.heap.size,8,none⟩=some (.slice (some ⟨bL,bM,none⟩) ks.length cap):=Jw.out.cell 8
  have pn:(Instr.slice 23 (.slice (some ⟨bL,bM,none⟩) ks.length cap) (some (.int .i64 2)) none none).run Tryz.prog w6=.ok (.slice (Jz bL bM cap 2) (ks.length-2) (cap-2)) w6:=PJ bL bM ks.length cap 2 (by have:=Yk.out;omega) (by decide) w6
  have C7:=aa (Cn B b ks 2 (Jz bL bM cap 2) (cap-2) o6 (((M+2000*aS x0)+([32,45,62,32]:List UInt8).length+1)+60) w6 P6.out ((Ad.out.keep T6.out.below T6.out.size).drop 2 aa1.out) Ae.out (by rw [List.length_drop];have:=Yk.out;omega) (by first|omega|(simp only [List.length_cons,List.length_nil];omega)))
  obtain ⟨o7,q7⟩:∃z_,o6.bind (mr (aG aM aT (ks.drop 2)))=z_:=⟨_,rfl⟩
  rw [q7] at C7
  have Q7:=aa q7
  clear q7
  go_wp2_with fail
  refine (C7.out).mono ?_
  rintro e w7 ⟨rfl,p7,t7⟩
  have P7:=aa p7
  have T7:=aa (T6.out.trans t7)
  have Fb:=aa (t7.row Jw.out (by decide) (by omega))
  clear p7 t7 C7
  clear gv pn
  have C8:=aa (dM B b [32] o7 ((((M+2000*aS x0)+([32,45,62,32]:List UInt8).length+1)+60)+(10+2000*aC (ks.drop 2))) w7 P7.out (by first|omega|(simp only [List.length_cons,List.length_nil];omega)))
  obtain ⟨o8,q8⟩:∃z_,o7.map (dD · [32])=z_:=⟨_,rfl⟩
  rw [q8] at C8
  have Q8:=aa q8
  clear q8
  go_wp2_with fail
  refine (C8.out).mono ?_
  rintro e w8 ⟨rfl,p8,t8⟩
  have P8:=aa p8
  have T8:=aa (T7.out.trans t8)
  have JA:=aa (t8.row Fb.out (by decide) (by omega))
  clear p8 t8 C8
  have gv:w8.cell? ⟨w.heap.size,8,none⟩=some (.slice (some ⟨bL,bM,none⟩) ks.length cap):=JA.out.cell 8
  obtain ⟨⟨d0,d1,d2,d3,d4,d5,d6,d7,d8⟩,aB⟩:=K1.out w8 T8.out.below T8.out.size
  have C9:=aa (show Calls Tryz.prog 45 #[.pointer (some ⟨b,0,none⟩),.agg #[.int .i64 PK,.int .i64 PM,.string (ae PN),.string (ae PO),.int .i64 PT,.int .i64 PU,.int .i64 PV,.int .i64 PW,.slice PX pR pS],.int .i64 (12)] w8 (ie B b w8 (o8.bind (cQ aM aT x1 (12))) ((((((M+2000*aS x0)+([32,45,62,32]:List UInt8).length+1)+60)+(10+2000*aC (ks.drop 2)))+([32]:List UInt8).length+1)+2000*aS x1)) from OP1.out B b (12) _ o8 _ w8 P8.out aB (by decide) (by decide) (by first|omega|(simp only [List.length_cons,List.length_nil];omega)))
  obtain ⟨o9,q9⟩:∃z_,o8.bind (cQ aM aT x1 (12))=z_:=⟨_,rfl⟩
  rw [q9] at C9
  have Q9:=aa q9
  clear q9
  clear aB
  go_wp2_with fail
  refine (C9.out).mono ?_
  rintro e w9 ⟨rfl,p9,t9⟩
  have P9:=aa p9
  have T9:=aa (T8.out.trans t9)
  have PY:=aa (t9.row JA.out (by decide) (by omega))
  clear p9 t9 C9
  clear gv d0 d1 d2 d3 d4 d5 d6 d7 d8
  have HP:=aa (show cC w9 B b (o.bind (vS aM (.mk 45 a0 nm vl xa xb xc xd ks) (aG aM aT ks))) (M+1500+2000*aC ks) from by
   have hp:=P9.out
   rw [←Q9.out,←Q8.out,←Q7.out,←Q6.out,←Q5.out,←Q4.out,Fa] at hp
   rw [Jv.out.2,xQ _ (.mk 45 a0 nm vl xa xb xc xd ks) (aG aM aT ks) rfl,Option.bind_some,if_pos ⟨Jv.out.1,by rw [bh];have:=Yk.out;omega⟩,nt ks lU,Lo.out,uR]
   simp only [nt ks DI,F0.out]
   simp only [Option.bind_some] at hp
   exact hp.mono (by simp only [List.length_cons,List.length_nil];omega))
  go_wp2
  go_end0
  exact ⟨rfl,HP.out,T9.out⟩
def JB (x:Nd):Prop:=im x.kind x.a x.b x.c x.d x.name x.value
theorem cG.kv {C:Nat→Prop} {W:World} {x:Nd} {kd a0 xa xb xc xd:Int} {nm vl:List UInt8} {s:Value} (h:cG C W x (aw kd a0 nm vl xa xb xc xd s)):x.kind=kd∧x.value=vl:=by
 obtain ⟨kd',a0',nm',vl',xa',xb',xc',xd',ks⟩:=x
 obtain ⟨A,cap,e⟩:∃A cap,aw kd a0 nm vl xa xb xc xd s=aw kd' a0' nm' vl' xa' xb' xc' xd' (.slice A ks.length cap):=by
  generalize aw kd a0 nm vl xa xb xc xd s=cs at h
  cases h
  exact ⟨_,_,rfl⟩
 simp only [aw,List.cons.injEq,Value.int.injEq,Value.string.injEq,true_and,and_true] at e
 exact ⟨e.1.symm,(Ge e.2.2.2.1).symm⟩
theorem cC.cU {W:World} {B b:Nat} {st:St} {M:Nat} (h:cC W B b (some st) M):W.cell? ⟨b,3,none⟩=some (.bool false)∧W.frozen? ⟨b,3,none⟩=false∧W.shape? b=some (79,4)∧
 ∀bd:Bool,cC (W.setCell ⟨b,3,none⟩ (.bool bd)) B b (jF bd st) M∧aI B b W (W.setCell ⟨b,3,none⟩ (.bool bd)):=by
 obtain ⟨v,Kf,bad,h1,h2,h3⟩:=h.at_
 cases bad with
 |true=>cases h3
 |false=>
  obtain rfl:st=Kf:=by injection h3
  obtain ⟨⟨_,_,c3⟩,_,_,f3⟩:=h1.cells
  refine ⟨c3,f3,h1.shape,fun bd=>?_⟩
  have ht:aI B b W (W.setCell ⟨b,3,none⟩ (.bool bd)):=(aI.refl B b W).set h1.ge _ _
  exact ⟨h.next v st bd M ht (h1.ux bd) h2,ht⟩
theorem Fc (o:Option St) (f k:St→Option St) (u:St→St):((o.bind f).map u).bind k=o.bind fun st=>(f st).bind fun st=>k (u st):=by
 cases o with
 |none=>rfl
 |some st=>
  show Option.bind (Option.map u (f st)) k=Option.bind (f st) _
  cases f st<;>rfl
end Go.Proofs.YtddoehnkgcbboaaGreatDoor
