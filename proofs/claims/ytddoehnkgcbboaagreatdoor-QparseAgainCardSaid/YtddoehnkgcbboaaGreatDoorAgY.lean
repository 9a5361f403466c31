/- A part of the proof that the last file tells. -/
import Derived.Test.YtddoehnkgcbboaaGreatDoorAgX
set_option maxHeartbeats 16000000
set_option maxRecDepth 100000
set_option linter.unusedVariables false
set_option linter.unusedSimpArgs false
namespace Go.Proofs.YtddoehnkgcbboaaGreatDoor
open Go.RowKit Go.Shelf Go.Maps
theorem RY (x y:Int):IntKind.i64.wrap (IntKind.i64.wrap x+IntKind.i64.wrap y)=IntKind.i64.wrap (x+y):=by
 simp only [IntKind.wrap,IntKind.bits,IntKind.signed];simp;omega
theorem zx (n:Nat):-9223372036854775808≤wrapN n∧wrapN n≤9223372036854775807:=by
 unfold wrapN;simp only [IntKind.wrap,IntKind.bits,IntKind.signed];simp;omega
theorem Jp (ks:List Nd) (i:Nat) (h:i<ks.length):ax (ks.take (i+1))=ax (ks.take i)+aC ks[i]:=by
 induction ks generalizing i with
 |nil=>simp at h
 |cons x r ih=>
  cases i with
  |zero=>simp [ax]
  |succ i=>
   rw [List.take_succ_cons,List.take_succ_cons,ax,ax,ih i (by simpa using h),List.getElem_cons_succ];omega
theorem ue {W wr:World} {g:Nat} {cs:List Value} {t:TypeId} (h:Row W g t cs.toArray) (hb:Below W.heap.size W wr) (j:Nat):wr.cell? ⟨g,j,none⟩=cs[j]? :=by
 rw [(h.below hb h.lt).cell j];simp
theorem F9:∀(m:Nat) (n:Nd) (C:Nat→Prop) (cs:List Value) (W:World),aC n≤m→DA n→cK C W n cs→
 Calls Tryz.prog 26 #[.agg cs.toArray] W fun e w'=>e=.returned (.int .i64 (wrapN (aC n)))∧Below W.heap.size W w'
 |0,n,C,cs,W,h,_,_=>by have:=mX n;omega
 |m+1,n,C,cs,W,hm,hin,h=>by
  have IH:=hide (fun (x:Nd) (cx:List Value) (W':World) (hx:aC x≤m) (hi:DA x) (h:cK C W' x cx)=>F9 m x C cx W' hx hi h)
  cases h with
  |mk kd a0 nm vl xa xb xc xd ks A cap bH hl hks hr hcap=>
   clear hcap;rw [aC] at hm;rw [DA] at hin;have ki:ks.length≤140737488355328:=hin.2.1;have HIN:=hide hin.2.2
   have HT:=hide (fun (i:Nat) (hi:i<ks.length)=>show IntKind.i64.wrap (wrapN (1+ax (ks.take i))+wrapN (aC ks[i]))=wrapN (1+ax (ks.take (i+1))) from by
    unfold wrapN;rw [RY,Jp ks i hi]
    congr 1
    omega)
   have HB:=hide (fun (i:Nat) (hi:i<ks.length)=>show aC ks[i]≤m from by
    have h1:=ez (cI hi)
    omega)
   obtain ⟨W1,hW1⟩:∃W1,W1=W.alloc (.cells (aB kd a0 nm vl xa xb xc xd (.slice A ks.length cap)).toArray 25):=⟨_,rfl⟩
   have hb1:Below W.heap.size W W1:=by rw [hW1];exact (af _ W).alloc (aa _) _
   have n9:=ae (Row W1 W.heap.size 25 (aB kd a0 nm vl xa xb xc xd (.slice A ks.length cap)).toArray) (by rw [hW1];exact Row.new _ _ _);have HR:=hide (hr.keeps (ah.of_below hb1 (aa _)));have HK:=hide (fun (i:Nat) (hi:i<ks.length) (h':i<bH.length)=>(hks i hi h').keeps (ah.of_below hb1 (aa _)));have HL:=hide hl;have dX:=hide hb1;have HF:=ae (wrapN (aC (.mk kd a0 nm vl xa xb xc xd ks))=wrapN (1+ax (ks.take ks.length))) (by rw [aC,List.take_length]);have HC:=hide (fun (wr:World) (hb:Below W1.heap.size W1 wr)=>show wr.cell? ⟨W.heap.size,8,none⟩=some (.slice A ks.length cap) from ue n9.o hb 8);unfold aB;unfold aB at hW1;clear hr hks hl hb1 hm hin
   obtain ⟨N,hN⟩:∃N,ks.length=N:=⟨_,rfl⟩
   rw [hN] at hW1 HF HC⊢;rw [hN] at ki;have HN:=hide hN;have jq:=hide hW1.symm;clear hN hW1;have hv1:wrapN (1+ax (ks.take 0))=1:=rfl;have nJ:=hide hv1;clear hv1;go_enter Tryz.func26,Tryz.ntmps26;go_wp2_with fail;rw [jq.o]
   go_loopw [3,4] (fun t i wr=>∃k:Nat,k≤N∧i=.int .i64 (k:Int)∧t=.int .i64 (wrapN (1+ax (ks.take k)))∧Below W1.heap.size W1 wr) (fun _ i _=>N-(intOf i).toNat)
   case atStart=>exact ⟨0,bj _,rfl,by rw [nJ.o],af _ _⟩
   case round=>
    obtain ⟨k,hk,rfl,rfl,hb⟩:=hrel;have m8:=HC.o wr hb;have hle:=zx (1+ax (ks.take k));by_cases hlt:k<N
    ·have ir:k<ks.length:=by rw [HN.o];exact hlt
     have tW:k<bH.length:=by rw [HL.o];exact ir
     have hk':(k:Int)<(N:Int):=by omega
     have uQ:(0:Int)≤(k:Int):=by omega
     have hw1:IntKind.i64.wrap ((k:Int)+1)=(k:Int)+1:=bI _ (by omega);obtain ⟨bk,off,rfl,_,hbz,hat⟩:=HR.o.nine tW;have abq:bk<wr.heap.size:=cJ hbz hb.size;have hat':∀j,j<9→wr.cell? ⟨bk,off+k*9+j,none⟩=(bH[k])[j]? :=fun j hj=>(hb.cell (p:=⟨bk,_,none⟩) hbz).trans (hat j hj);have hnd:=(HK.o k ir tW).keeps (ah.of_below hb (aa _));obtain ⟨yk,y0,yn,yv,ya,yb,yc,yd,yA,cZ,cv,ye⟩:=hnd.nine;obtain ⟨c0,c1,c2,c3,c4,c5,c6,c7,c8⟩:=iW ye hat'
     have Tw:=ae (Calls Tryz.prog 26 #[.agg #[.int .i64 yk,.int .i64 y0,.string (ag yn),.string (ag yv),.int .i64 ya,.int .i64 yb,.int .i64 yc,.int .i64 yd,.slice yA cZ cv]] wr fun e w'=>e=.returned (.int .i64 (wrapN (aC ks[k])))∧Below wr.heap.size wr w') (by
      have:=IH.o ks[k] bH[k] wr (HB.o k ir) (HIN.o.get k ir) hnd;rw [ye] at this
      exact this)
     have hTk:=HT.o k ir;have Hb:=hide hb;have hlv:=zx (aC ks[k])
     obtain ⟨v,hv⟩:∃v,wrapN (aC ks[k])=v:=⟨_,rfl⟩
     rw [hv] at Tw hTk hlv
     obtain ⟨u,hu⟩:∃u,wrapN (1+ax (ks.take k))=u:=⟨_,rfl⟩
     rw [hu] at hTk hle⊢
     obtain ⟨u2,hu2⟩:∃u2,wrapN (1+ax (ks.take (k+1)))=u2:=⟨_,rfl⟩
     rw [hu2] at hTk;have oz:=hide hu2;clear hat hat' hnd ye hb hv hu hu2;go_wp2_with fail;refine Tw.o.mono ?_;rintro e w2 ⟨rfl,hb2⟩;have lK:=hide (Hb.o.trans (hb2.mono Hb.o.size));clear hb2 c0 c1 c2 c3 c4 c5 c6 c7 c8 m8;go_wp2;go_roundw
     case rel=>exact ⟨k+1,by omega,by go_num,by rw [oz.o],lK.o⟩
     case measure=>simp [intOf];omega
    ·obtain rfl:k=N:=by omega
     have hk':¬(k:Int)<(k:Int):=by omega
     have Hb:=hide (dX.o.trans (hb.mono dX.o.size));clear hb;generalize wrapN (1+ax (ks.take k))=u at*;go_wp2;go_ret;exact ⟨by rw [HF.o];rfl,Hb.o⟩
theorem Jq (most:Int) (ks:List Nd) (i:Nat) (h:i<ks.length):jm most (ks.take (i+1))=(jm most (ks.take i)&&sB most ks[i]):=by
 induction ks generalizing i with
 |nil=>simp at h
 |cons x r ih=>
  cases i with
  |zero=>simp [jm]
  |succ i=>
   rw [List.take_succ_cons,List.take_succ_cons,jm,jm,ih i (by simpa using h),List.getElem_cons_succ,Bool.and_assoc]
theorem BG (most:Int):∀(ks:List Nd) (i:Nat) (h:i<ks.length),sB most ks[i]=false→jm most ks=false
 |x::r,0,_,h=>by rw [jm];rw [show sB most x=false from h];rfl
 |x::r,i+1,hi,h=>by rw [jm,BG most r i (by simpa using hi) (by simpa using h),Bool.and_false]
theorem RZ:∀(m:Nat) (n:Nd) (C:Nat→Prop) (cs:List Value) (W:World),aC n≤m→DA n→cK C W n cs→
 Calls Tryz.prog 11 #[.agg cs.toArray,.int .i64 60] W fun e w'=>e=.returned (.bool (sB 60 n))∧Below W.heap.size W w'
 |0,n,C,cs,W,h,_,_=>by have:=mX n;omega
 |m+1,n,C,cs,W,hm,hin,h=>by
  have IH:=hide (fun (x:Nd) (cx:List Value) (W':World) (hx:aC x≤m) (hi:DA x) (h:cK C W' x cx)=>RZ m x C cx W' hx hi h);have hin':=hin;have h':=h
  cases h with
  |mk kd a0 nm vl xa xb xc xd ks A cap bH hl hks hr hcap=>
   clear hcap;have ND:=hide (fun (W':World) (hb:Below W.heap.size W W')=>F9 _ _ C _ W' (aa _) hin' (h'.keeps (ah.of_below hb (aa _))));rw [aC] at hm;rw [DA] at hin;have ki:ks.length≤140737488355328:=hin.2.1;have HIN:=hide hin.2.2
   have HB:=hide (fun (i:Nat) (hi:i<ks.length)=>show aC ks[i]≤m from by
    have h1:=ez (cI hi)
    omega)
   obtain ⟨W1,hW1⟩:∃W1,W1=W.alloc (.cells (aB kd a0 nm vl xa xb xc xd (.slice A ks.length cap)).toArray 25):=⟨_,rfl⟩
   have hb1:Below W.heap.size W W1:=by rw [hW1];exact (af _ W).alloc (aa _) _
   have n9:=ae (Row W1 W.heap.size 25 (aB kd a0 nm vl xa xb xc xd (.slice A ks.length cap)).toArray) (by rw [hW1];exact Row.new _ _ _);have HR:=hide (hr.keeps (ah.of_below hb1 (aa _)));have HK:=hide (fun (i:Nat) (hi:i<ks.length) (h':i<bH.length)=>(hks i hi h').keeps (ah.of_below hb1 (aa _)));have HL:=hide hl;have dX:=hide hb1
   obtain ⟨R,hR⟩:∃R,sB 60 (.mk kd a0 nm vl xa xb xc xd ks)=R:=⟨_,rfl⟩
   rw [hR];rw [sB] at hR;have Ee:=hide (fun (i:Nat) (h:i<ks.length)=>BG 60 ks i h);have HT:=hide (fun (i:Nat) (h:i<ks.length)=>Jq 60 ks i h);have abE:=ae (jm 60 (ks.take ks.length)=jm 60 ks) (by rw [List.take_length]);have HC:=hide (fun (wr:World) (hb:Below W1.heap.size W1 wr)=>show wr.cell? ⟨W.heap.size,8,none⟩=some (.slice A ks.length cap) from ue n9.o hb 8)
   have ND1:=ae (Calls Tryz.prog 26 #[.agg #[.int .i64 kd,.int .i64 a0,.string (ag nm),.string (ag vl),.int .i64 xa,.int .i64 xb,.int .i64 xc,.int .i64 xd,.slice A ks.length cap]] W1 fun e w'=>e=.returned (.int .i64 (wrapN (1+ax ks)))∧Below W1.heap.size W1 w') (by
    have:=ND.o W1 hb1;rw [aC] at this
    exact this)
   clear ND h' hin';unfold aB;unfold aB at hW1 n9;have UH:=aO nm;have KC:=aO vl;clear hr hks hl hb1 hm hin
   obtain ⟨N,hN⟩:∃N,ks.length=N:=⟨_,rfl⟩
   rw [hN] at hW1 abE HC ND1 n9⊢;rw [hN] at ki;have HN:=hide hN;have jq:=hide hW1.symm;clear hN hW1;have hWl:=zx (1+ax ks)
   obtain ⟨u,hu⟩:∃u,wrapN (1+ax ks)=u:=⟨_,rfl⟩
   rw [hu] at ND1 hWl hR;clear hu
   obtain ⟨snm,abF⟩:∃s,ag nm=s:=⟨_,rfl⟩
   obtain ⟨svl,abG⟩:∃s,ag vl=s:=⟨_,rfl⟩
   rw [abF] at jq n9 UH ND1⊢;rw [abG] at jq n9 KC ND1⊢;rw [←UH,←KC] at hR;have HV:=hide hR.symm;clear abF abG UH KC hR;go_enter Tryz.func11,Tryz.ntmps11;go_upto_region 1 with fail;rw [jq.o];obtain ⟨n0,n1,n2,n3,n4,n5,n6,n7,n8⟩:=ak n9.o;by_cases h1:snm.size≤60;rotate_left
   ·have h1':(60:Int)<(snm.size:Int):=by omega
    have HD:=ae (R=false) (by rw [HV.o,decide_eq_false h1,Bool.false_and]);clear h1;go_wp2;go_ret;exact ⟨aT HD.o,dX.o⟩
   have h1':¬(60:Int)<(snm.size:Int):=by omega
   have H1:=hide h1;by_cases h2:svl.size≤130;rotate_left
   ·have h2':(130:Int)<(svl.size:Int):=by omega
    have HD:=ae (R=false) (by rw [HV.o,decide_eq_false h2,Bool.false_and,Bool.and_false]);clear h2;go_wp2;go_ret;exact ⟨aT HD.o,dX.o⟩
   have h2':¬(130:Int)<(svl.size:Int):=by omega
   have H2:=hide h2;clear h1 h2;go_wp2_with fail;refine ND1.o.mono ?_;rintro e w2 ⟨rfl,hb2⟩;have B2:=hide hb2;clear hb2 n0 n1 n2 n3 n4 n5 n6 n7 n8;by_cases h3:u≤60;rotate_left
   ·have h3':(60:Int)<u:=by omega
    have HD:=ae (R=false) (by rw [HV.o,decide_eq_false h3,Bool.false_and,Bool.and_false,Bool.and_false]);have HE:=hide (dX.o.trans (B2.o.mono dX.o.size));clear h3;go_wp2;go_ret;exact ⟨aT HD.o,HE.o⟩
   have h3':¬(60:Int)<u:=by omega
   have HW:=ae (R=jm 60 ks) (by rw [HV.o,decide_eq_true H1.o,decide_eq_true H2.o,decide_eq_true h3,Bool.true_and,Bool.true_and,Bool.true_and]);clear h3;go_wp2_with fail
   go_loopw [5] (fun i wr=>∃k:Nat,k≤N∧i=.int .i64 (k:Int)∧jm 60 (ks.take k)=true∧Below W1.heap.size W1 wr) (fun i _=>N-(intOf i).toNat)
   case atStart=>exact ⟨0,bj _,rfl,by rw [List.take_zero,jm],B2.o⟩
   case round=>
    obtain ⟨k,hk,rfl,hf,hb⟩:=hrel;have m8:=HC.o wr hb;have V5:=hide hf;clear hf;by_cases hlt:k<N
    ·have ir:k<ks.length:=by rw [HN.o];exact hlt
     have tW:k<bH.length:=by rw [HL.o];exact ir
     have hk':(k:Int)<(N:Int):=by omega
     have uQ:(0:Int)≤(k:Int):=by omega
     have hw1:IntKind.i64.wrap ((k:Int)+1)=(k:Int)+1:=bI _ (by omega);obtain ⟨bk,off,rfl,_,hbz,hat⟩:=HR.o.nine tW;have abq:bk<wr.heap.size:=cJ hbz hb.size;have hat':∀j,j<9→wr.cell? ⟨bk,off+k*9+j,none⟩=(bH[k])[j]? :=fun j hj=>(hb.cell (p:=⟨bk,_,none⟩) hbz).trans (hat j hj);have hnd:=(HK.o k ir tW).keeps (ah.of_below hb (aa _));obtain ⟨yk,y0,yn,yv,ya,yb,yc,yd,yA,cZ,cv,ye⟩:=hnd.nine;obtain ⟨c0,c1,c2,c3,c4,c5,c6,c7,c8⟩:=iW ye hat'
     have Tw:=ae (Calls Tryz.prog 11 #[.agg #[.int .i64 yk,.int .i64 y0,.string (ag yn),.string (ag yv),.int .i64 ya,.int .i64 yb,.int .i64 yc,.int .i64 yd,.slice yA cZ cv],.int .i64 60] wr fun e w'=>e=.returned (.bool (sB 60 ks[k]))∧Below wr.heap.size wr w') (by
      have:=IH.o ks[k] bH[k] wr (HB.o k ir) (HIN.o.get k ir) hnd;rw [ye] at this
      exact this)
     have HBk:=hide (Ee.o k ir);have MI:=hide (HT.o k ir);have Hb:=hide hb
     obtain ⟨v,hv⟩:∃v,sB 60 ks[k]=v:=⟨_,rfl⟩
     rw [hv] at Tw HBk MI;clear hat hat' hnd ye hb hv;go_wp2_with fail;refine Tw.o.mono ?_;rintro e w3 ⟨rfl,hb3⟩;have vK:=hide (Hb.o.trans (hb3.mono Hb.o.size));clear hb3 c0 c1 c2 c3 c4 c5 c6 c7 c8 m8
     cases v with
     |false=>
      have HD:=hide (HW.o.trans (HBk.o rfl));have HE:=hide (dX.o.trans (vK.o.mono dX.o.size));go_wp2;go_ret;exact ⟨aT HD.o,HE.o⟩
     |true=>
      go_wp2;go_roundw
      case rel=>exact ⟨k+1,by omega,by go_num,by rw [MI.o,V5.o];rfl,vK.o⟩
      case measure=>simp [intOf];omega
    ·obtain rfl:k=N:=by omega
     have hk':¬(k:Int)<(k:Int):=by omega
     have Hb:=hide (dX.o.trans (hb.mono dX.o.size));clear hb;have HD:=hide (HW.o.trans (abE.o.symm.trans V5.o));go_wp2;go_ret;exact ⟨aT HD.o,Hb.o⟩
end Go.Proofs.YtddoehnkgcbboaaGreatDoor
namespace Go.Proofs.YtddoehnkgcbboaaGreatDoor
open Go.RowKit Go.Shelf Go.Maps Go.Sort
theorem R_ {k t a b c d k' t' a' b' c' d':Int} {nm v Ou v':List UInt8} {ks ks':List Nd} (h:k=k'∧nm=Ou∧v=v'∧a=a'∧b=b'∧c=c'∧d=d'):
 Dv (.mk k t nm v a b c d ks) (.mk k' t' Ou v' a' b' c' d' ks')=kA ks ks':=by
 obtain ⟨rfl,rfl,rfl,rfl,rfl,rfl,rfl⟩:=h;rw [Dv];simp
theorem Sa {k t a b c d k' t' a' b' c' d':Int} {nm v Ou v':List UInt8} {ks ks':List Nd} (h:¬(k=k'∧nm=Ou∧v=v'∧a=a'∧b=b'∧c=c'∧d=d'∧ks.length=ks'.length)):
 Dv (.mk k t nm v a b c d ks) (.mk k' t' Ou v' a' b' c' d' ks')=false:=by
 refine Bool.eq_false_iff.2 fun he=>h ?_;rw [Dv] at he;simp only [cS,decide_eq_true_eq] at he;obtain ⟨⟨⟨⟨⟨⟨⟨h1,h2⟩,h3⟩,h4⟩,h5⟩,h6⟩,h7⟩,h8⟩:=he;exact ⟨h1,h2,h3,h4,h5,h6,h7,yY h8⟩
theorem BH {xs ys:List Nd} {i:Nat} (h:i<xs.length) (h':i<ys.length):kA (xs.drop i) (ys.drop i)=(Dv xs[i] ys[i]&&kA (xs.drop (i+1)) (ys.drop (i+1))):=by
 rw [cn h,cn h',kA]
theorem jO {a b:Int} (h:a=b):(a==b)=true∧(a !=b)=false:=by subst h;simp
theorem jP {a b:Int} (h:a≠b):(a==b)=false∧(a !=b)=true:=⟨aP.2 h,by rw [bne,aP.2 h];rfl⟩
theorem xu {a b:List UInt8} (h:a=b):((ag a).toList==(ag b).toList)=true∧((ag a).toList !=(ag b).toList)=false:=by subst h;simp
theorem xw {a b:List UInt8} (h:a≠b):((ag a).toList==(ag b).toList)=false∧((ag a).toList !=(ag b).toList)=true:=by
 have h1:((ag a).toList==(ag b).toList)=false:=by rw [Ki];exact aP.2 h
 exact ⟨h1,by rw [bne,h1];rfl⟩
theorem wC:∀(m:Nat) (x y:Nd) (C C':Nat→Prop) (cx cy:List Value) (W:World),aC x≤m→m≤1000000→aC y≤1000000→cK C W x cx→cK C' W y cy→
 Calls Tryz.prog 14 #[.agg cx.toArray,.agg cy.toArray] W fun e w'=>e=.returned (.bool (Dv x y))∧Below W.heap.size W w'
 |0,n,y,C,C',cx,cy,W,h,_,_,_,_=>by have:=mX n;omega
 |m+1,n,y,C,C',cx,cy,W,hm,hmm,hm',h,h'=>by
  have IH:=hide (fun (x y:Nd) (cx cy:List Value) (W':World) (hx:aC x≤m) (hy:aC y≤1000000) (h:cK C W' x cx) (h':cK C' W' y cy)=>wC m x y C C' cx cy W' hx (by omega) hy h h')
  obtain ⟨R,hR⟩:∃R,Dv n y=R:=⟨_,rfl⟩
  rw [hR]
  cases h with
  |mk kd a0 nm vl xa xb xc xd ks A cap bH hl hks hr hcap=>
  cases h' with
  |mk zk z0 zn zv za zb zc zd zs A' cap' pJ hl' Ao hr' Sb=>
   clear hcap Sb;rw [aC] at hm hm';have hkl:=j_ ks;have ZV:=j_ zs
   have HB:=hide (fun (i:Nat) (hi:i<ks.length)=>show aC ks[i]≤m from by
    have h1:=ez (cI hi)
    omega)
   have HB':=hide (fun (i:Nat) (hi:i<zs.length)=>show aC zs[i]≤1000000 from by
    have h1:=ez (cI hi)
    omega)
   obtain ⟨W0,hW0⟩:∃W0,W0=W.alloc (.cells (aB kd a0 nm vl xa xb xc xd (.slice A ks.length cap)).toArray 25):=⟨_,rfl⟩
   have hb0:Below W.heap.size W W0:=by rw [hW0];exact (af _ W).alloc (aa _) _
   have hz0:W0.heap.size=W.heap.size+1:=by rw [hW0,aF]
   obtain ⟨W1,hW1⟩:∃W1,W1=W0.alloc (.cells (aB zk z0 zn zv za zb zc zd (.slice A' zs.length cap')).toArray 25):=⟨_,rfl⟩
   have hb1:Below W.heap.size W W1:=by rw [hW1];exact hb0.alloc hb0.size _
   have n9:=ae (Row W1 W.heap.size 25 (aB kd a0 nm vl xa xb xc xd (.slice A ks.length cap)).toArray) (by rw [hW1];exact Row.alloc (by rw [hW0];exact Row.new _ _ _) _);have wD:=ae (Row W1 (W.heap.size+1) 25 (aB zk z0 zn zv za zb zc zd (.slice A' zs.length cap')).toArray) (by rw [hW1,←hz0];exact Row.new _ _ _);have HR:=hide (hr.keeps (ah.of_below hb1 (aa _)));have HK:=hide (fun (i:Nat) (hi:i<ks.length) (h':i<bH.length)=>(hks i hi h').keeps (ah.of_below hb1 (aa _)));have HR':=hide (hr'.keeps (ah.of_below hb1 (aa _)));have HK':=hide (fun (i:Nat) (hi:i<zs.length) (h':i<pJ.length)=>(Ao i hi h').keeps (ah.of_below hb1 (aa _)));have HL:=hide hl;have HL':=hide hl';have dX:=hide hb1
   have ki:ks.length≤1000000:=by omega
   have ZX:zs.length≤1000000:=by omega
   have HC:=hide (fun (wr:World) (hb:Below W1.heap.size W1 wr)=>show wr.cell? ⟨W.heap.size,8,none⟩=some (.slice A ks.length cap) from ue n9.o hb 8);have HC':=hide (fun (wr:World) (hb:Below W1.heap.size W1 wr)=>show wr.cell? ⟨W.heap.size+1,8,none⟩=some (.slice A' zs.length cap') from ue wD.o hb 8);have HRd:=hide hR;have xq:=hide (fun h=>hR.symm.trans (Sa (k:=kd) (nm:=nm) (v:=vl) (a:=xa) (b:=xb) (c:=xc) (d:=xd) (ks:=ks) (k':=zk) (Ou:=zn) (v':=zv) (a':=za) (b':=zb) (c':=zc) (d':=zd) (ks':=zs) h));unfold aB;unfold aB at hW0 hW1 n9 wD;clear hr hks hl hb1 hb0 hm hm' hr' Ao hl' hkl ZV hR
   obtain ⟨N,hN⟩:∃N,ks.length=N:=⟨_,rfl⟩
   obtain ⟨M,hM⟩:∃M,zs.length=M:=⟨_,rfl⟩
   rw [hN] at hW0 HC n9⊢;rw [hM] at hW1 HC' wD⊢;rw [hN] at ki;rw [hM] at ZX;have HN:=hide hN;have HM:=hide hM;have ZY:=hide hW0.symm;have jq:=hide hW1.symm;have HZ0:=hide hz0;clear hN hM hW0 hW1 hz0;go_enter Tryz.func14,Tryz.ntmps14;go_upto_region 1 with fail;rw [ZY.o,jq.o];obtain ⟨n0,n1,n2,n3,n4,n5,n6,n7,n8⟩:=ak n9.o;obtain ⟨r0,r1,r2,r3,r4,r5,r6,r7,r8⟩:=ak wD.o;by_cases g0:kd=zk;rotate_left
   ·obtain ⟨e0,f0⟩:=jP g0;have HF:=hide (xq.o fun h=>g0 h.1);clear g0;go_wp2;go_ret;exact ⟨aT HF.o,dX.o⟩
   have G0:=hide g0;obtain ⟨e0,f0⟩:=jO g0;clear g0;by_cases g2:nm=zn;rotate_left
   ·obtain ⟨e2,f2⟩:=xw g2;have HF:=hide (xq.o fun h=>g2 h.2.1);generalize ag nm=s1 at*;generalize ag zn=s2 at*;clear g2;go_wp2;go_ret;exact ⟨aT HF.o,dX.o⟩
   have G2:=hide g2;obtain ⟨e2,f2⟩:=xu g2;clear g2
   obtain ⟨s2,hs2⟩:∃s,ag nm=s:=⟨_,rfl⟩
   obtain ⟨u2,hu2⟩:∃s,ag zn=s:=⟨_,rfl⟩
   rw [hs2] at n2 e2 f2;rw [hu2] at r2 e2 f2;clear hs2 hu2;by_cases g3:vl=zv;rotate_left
   ·obtain ⟨e3,f3⟩:=xw g3;have HF:=hide (xq.o fun h=>g3 h.2.2.1);generalize ag vl=s1 at*;generalize ag zv=s2 at*;clear g3;go_wp2;go_ret;exact ⟨aT HF.o,dX.o⟩
   have G3:=hide g3;obtain ⟨e3,f3⟩:=xu g3;clear g3
   obtain ⟨s3,hs3⟩:∃s,ag vl=s:=⟨_,rfl⟩
   obtain ⟨u3,hu3⟩:∃s,ag zv=s:=⟨_,rfl⟩
   rw [hs3] at n3 e3 f3;rw [hu3] at r3 e3 f3;clear hs3 hu3;by_cases g4:xa=za;rotate_left
   ·obtain ⟨e4,f4⟩:=jP g4;have HF:=hide (xq.o fun h=>g4 h.2.2.2.1);clear g4;go_wp2;go_ret;exact ⟨aT HF.o,dX.o⟩
   have G4:=hide g4;obtain ⟨e4,f4⟩:=jO g4;clear g4;by_cases g5:xb=zb;rotate_left
   ·obtain ⟨e5,f5⟩:=jP g5;have HF:=hide (xq.o fun h=>g5 h.2.2.2.2.1);clear g5;go_wp2;go_ret;exact ⟨aT HF.o,dX.o⟩
   have G5:=hide g5;obtain ⟨e5,f5⟩:=jO g5;clear g5;by_cases g6:xc=zc;rotate_left
   ·obtain ⟨e6,f6⟩:=jP g6;have HF:=hide (xq.o fun h=>g6 h.2.2.2.2.2.1);clear g6;go_wp2;go_ret;exact ⟨aT HF.o,dX.o⟩
   have G6:=hide g6;obtain ⟨e6,f6⟩:=jO g6;clear g6;by_cases g7:xd=zd;rotate_left
   ·obtain ⟨e7,f7⟩:=jP g7;have HF:=hide (xq.o fun h=>g7 h.2.2.2.2.2.2.1);clear g7;go_wp2;go_ret;exact ⟨aT HF.o,dX.o⟩
   have G7:=hide g7;obtain ⟨e7,f7⟩:=jO g7;clear g7;by_cases g8:N=M;rotate_left
   ·have e8:((N:Int)==(M:Int))=false:=aP.2 (by omega)
    have f8:((N:Int) !=(M:Int))=true:=by rw [bne,e8];rfl
    have HF:=hide (xq.o fun h=>g8 (by have:=h.2.2.2.2.2.2.2;rw [HN.o,HM.o] at this;exact this));clear g8;go_wp2;go_ret;exact ⟨aT HF.o,dX.o⟩
   subst g8;have e8:((N:Int)==(N:Int))=true:=xy _
   have f8:((N:Int) !=(N:Int))=false:=by rw [bne,e8];rfl
   have HE:=ae (kA (ks.drop 0) (zs.drop 0)=R) (by rw [List.drop_zero,List.drop_zero,←HRd.o,R_ ⟨G0.o,G2.o,G3.o,G4.o,G5.o,G6.o,G7.o⟩]);go_wp2_with fail;clear n0 r0 n1 r1 n2 r2 n3 r3 n4 r4 n5 r5 n6 r6 n7 r7 n8 r8 e0 f0 e2 f2 e3 f3 e4 f4 e5 f5 e6 f6 e7 f7 e8 f8
   go_loopw [5] (fun i wr=>∃k:Nat,k≤N∧i=.int .i64 (k:Int)∧kA (ks.drop k) (zs.drop k)=R∧Below W1.heap.size W1 wr) (fun i _=>N-(intOf i).toNat)
   case atStart=>exact ⟨0,bj _,rfl,HE.o,af _ _⟩
   case round=>
    obtain ⟨k,hk,rfl,hf,hb⟩:=hrel;have m8:=HC.o wr hb;have m8':=HC'.o wr hb;by_cases hlt:k<N
    ·have ir:k<ks.length:=by rw [HN.o];exact hlt
     have V6:k<zs.length:=by rw [HM.o];exact hlt
     have tW:k<bH.length:=by rw [HL.o];exact ir
     have Sc:k<pJ.length:=by rw [HL'.o];exact V6
     have hk':(k:Int)<(N:Int):=by omega
     have uQ:(0:Int)≤(k:Int):=by omega
     have hw1:IntKind.i64.wrap ((k:Int)+1)=(k:Int)+1:=bI _ (by omega);rw [BH ir V6] at hf;have V5:=hide hf;obtain ⟨bk,off,rfl,_,hbz,hat⟩:=HR.o.nine tW;obtain ⟨bz,ZZ,rfl,_,Z0,tP⟩:=HR'.o.nine Sc;have hat':∀j,j<9→wr.cell? ⟨bk,off+k*9+j,none⟩=(bH[k])[j]? :=fun j hj=>(hb.cell (p:=⟨bk,_,none⟩) hbz).trans (hat j hj);have F_:∀j,j<9→wr.cell? ⟨bz,ZZ+k*9+j,none⟩=(pJ[k])[j]? :=fun j hj=>(hb.cell (p:=⟨bz,_,none⟩) Z0).trans (tP j hj);have hnd:=(HK.o k ir tW).keeps (ah.of_below hb (aa _));have Jr:=(HK'.o k V6 Sc).keeps (ah.of_below hb (aa _));obtain ⟨yk,y0,yn,yv,ya,yb,yc,yd,yA,cZ,cv,ye⟩:=hnd.nine;obtain ⟨vk,v0,vn,vv,va,vb,vc,vd,vA,Sd,Sg,ve⟩:=Jr.nine;obtain ⟨c0,c1,c2,c3,c4,c5,c6,c7,c8⟩:=iW ye hat';obtain ⟨b0,b1,b2,b3,b4,b5,b6,b7,b8⟩:=iW ve F_
     obtain ⟨v,hv⟩:∃v,Dv ks[k] zs[k]=v:=⟨_,rfl⟩
     have Tw:=hide (fun (d:Nat) (os:Array Obj)=>Calls.regrown_of (d:=d) (os:=os) (w:=wr) (v:=.bool v) (show Calls Tryz.prog 14 #[.agg #[.int .i64 yk,.int .i64 y0,.string (ag yn),.string (ag yv),.int .i64 ya,.int .i64 yb,.int .i64 yc,.int .i64 yd,.slice yA cZ cv],.agg #[.int .i64 vk,.int .i64 v0,.string (ag vn),.string (ag vv),.int .i64 va,.int .i64 vb,.int .i64 vc,.int .i64 vd,.slice vA Sd Sg]] (grow (redrawn wr d) os) fun e w'=>e=.returned (.bool v)∧Below (grow (redrawn wr d) os).heap.size (grow (redrawn wr d) os) w' from by
      have hq:=below_regrown wr d os;have:=IH.o ks[k] zs[k] bH[k] pJ[k] (grow (redrawn wr d) os) (HB.o k ir) (HB'.o k V6) (hnd.keeps (ah.of_below hq (aa _))) (Jr.keeps (ah.of_below hq (aa _)));rw [ye,ve,hv] at this
      exact this))
     rw [hv] at V5;have q0:=fun d os=>cell_regrown c0 d os;have t0:=fun d os=>cell_regrown b0 d os;have q1:=fun d os=>cell_regrown c1 d os;have t1:=fun d os=>cell_regrown b1 d os;have q2:=fun d os=>cell_regrown c2 d os;have t2:=fun d os=>cell_regrown b2 d os;have q3:=fun d os=>cell_regrown c3 d os;have t3:=fun d os=>cell_regrown b3 d os;have q4:=fun d os=>cell_regrown c4 d os;have t4:=fun d os=>cell_regrown b4 d os;have q5:=fun d os=>cell_regrown c5 d os;have t5:=fun d os=>cell_regrown b5 d os;have q6:=fun d os=>cell_regrown c6 d os;have t6:=fun d os=>cell_regrown b6 d os;have q7:=fun d os=>cell_regrown c7 d os;have t7:=fun d os=>cell_regrown b7 d os;have q8:=fun d os=>cell_regrown c8 d os;have t8:=fun d os=>cell_regrown b8 d os;have q9:=fun d os=>cell_regrown m8 d os;have t9:=fun d os=>cell_regrown m8' d os;have Hb:=hide hb;clear hat hat' tP F_ hnd Jr ye ve hb hv hf c0 b0 c1 b1 c2 b2 c3 b3 c4 b4 c5 b5 c6 b6 c7 b7 c8 b8;go_wp2_with fail;refine wp_region_quiet_below (by kernel_rfl) (by kernel_rfl) ?_
     repeat (go_big_quiet_step (exact Tw.o _ _))
     refine wpQuiet_nil ?_;intro _ hw';obtain ⟨⟨dq,osq⟩,hw''⟩:=hw';subst hw'';have vK:=hide (Hb.o.trans ((below_regrown wr dq osq).mono Hb.o.size));clear q0 t0 q1 t1 q2 t2 q3 t3 q4 t4 q5 t5 q6 t6 q7 t7 q8 t8 q9 t9
     cases v with
     |false=>
      have HF:=ae (R=false) (by rw [←V5.o];rfl);have HE3:=hide (dX.o.trans (vK.o.mono dX.o.size));go_wp2;go_ret;exact ⟨aT HF.o,HE3.o⟩
     |true=>
      go_wp2;go_roundw
      case rel=>exact ⟨k+1,by omega,by go_num,by rw [←V5.o];rfl,vK.o⟩
      case measure=>simp [intOf];omega
    ·obtain rfl:k=N:=by omega
     have hk':¬(k:Int)<(k:Int):=by omega
     have HF:=ae (R=true) (by rw [←hf,dc (by rw [HN.o];omega),dc (by rw [HM.o];omega),kA]);have Hb:=hide (dX.o.trans (hb.mono dX.o.size));clear hb hf;go_wp2;go_ret;exact ⟨aT HF.o,Hb.o⟩
end Go.Proofs.YtddoehnkgcbboaaGreatDoor
namespace Go.Proofs.YtddoehnkgcbboaaGreatDoor
open Go.RowKit Go.Shelf Go.Maps
theorem Av (ks zs:List Nd) (bH pJ:List (List Value)) (A A':Option Addr) (cap cap':Nat) (C C':Nat→Prop) (W:World) (hl:bH.length=ks.length) (hl':pJ.length=zs.length)
 (hks:∀i (h:i<ks.length) (h':i<bH.length),cK C W ks[i] bH[i]) (hr:mK C W A bH) (Ao:∀i (h:i<zs.length) (h':i<pJ.length),cK C' W zs[i] pJ[i]) (hr':mK C' W A' pJ)
 (ki:ks.length≤1000000) (ZX:zs.length≤1000000)
 (IH:∀i (hi:i<ks.length) (hi':i<zs.length) (cx cy:List Value) (W':World),cK C W' ks[i] cx→cK C' W' zs[i] cy→Calls Tryz.prog 15 #[.agg cx.toArray,.agg cy.toArray] W' fun e w'=>e=.returned (.bool (Dv ks[i] zs[i]))∧Below W'.heap.size W' w'):
 Calls Tryz.prog 28 #[.slice A ks.length cap,.slice A' zs.length cap',.func (.func 15) #[] #[]] W fun e w'=>e=.returned (.bool (kA ks zs))∧Below W.heap.size W w':=by
 have hmf:∀(fn:Fn) (first cap:Array Value) (w:World),(Instr.makeFunc fn first cap).run Tryz.prog w=.ok (.func fn first cap) w:=fun _ _ _ _=>rfl
 obtain ⟨R,hR⟩:∃R,kA ks zs=R:=⟨_,rfl⟩
 rw [hR];have HRd:=hide hR;clear hR;by_cases g8:ks.length=zs.length;rotate_left
 ·have e8:((ks.length:Int)==(zs.length:Int))=false:=aP.2 (by omega)
  have f8:((ks.length:Int) !=(zs.length:Int))=true:=by rw [bne,e8];rfl
  have HF:=ae (R=false) (by rw [←HRd.o];exact Bool.eq_false_iff.2 fun h=>g8 (yY h));clear g8 IH hks Ao hr hr' hl hl';generalize ks.length=N at*;generalize zs.length=M at*;go_enter Tryz.func28,Tryz.ntmps28;go_wp2;go_ret;exact ⟨aT HF.o,af _ _⟩
 have HR:=hide hr;have HR':=hide hr';have HK:=hide hks;have HK':=hide Ao;have HL:=hide hl;have HL':=hide hl';have HI:=hide IH;clear hr hr' hks Ao hl hl' IH
 obtain ⟨N,hN⟩:∃N,ks.length=N:=⟨_,rfl⟩
 rw [←g8,hN];rw [hN] at ki;have HN:=hide hN;have HM:=hide (g8.symm.trans hN);have e8:((N:Int)==(N:Int))=true:=xy _
 have f8:((N:Int) !=(N:Int))=false:=by rw [bne,e8];rfl
 have HE:=ae (kA (ks.drop 0) (zs.drop 0)=R) (by rw [List.drop_zero,List.drop_zero,←HRd.o]);clear g8 hN ZX;go_enter Tryz.func28,Tryz.ntmps28;go_wp2_with fail;clear e8 f8
 go_loopw [17] (fun i wr=>∃k:Nat,k≤N∧i=.int .i64 (k:Int)∧kA (ks.drop k) (zs.drop k)=R∧Below W.heap.size W wr) (fun i _=>N-(intOf i).toNat)
 case atStart=>exact ⟨0,bj _,rfl,HE.o,af _ _⟩
 case round=>
  obtain ⟨k,hk,rfl,hf,hb⟩:=hrel;by_cases hlt:k<N
  ·have ir:k<ks.length:=by rw [HN.o];exact hlt
   have V6:k<zs.length:=by rw [HM.o];exact hlt
   have tW:k<bH.length:=by rw [HL.o];exact ir
   have Sc:k<pJ.length:=by rw [HL'.o];exact V6
   have hk':(k:Int)<(N:Int):=by omega
   have uQ:(0:Int)≤(k:Int):=by omega
   have hw1:IntKind.i64.wrap ((k:Int)+1)=(k:Int)+1:=bI _ (by omega);rw [BH ir V6] at hf;obtain ⟨bk,off,rfl,_,hbz,hat⟩:=HR.o.nine tW;obtain ⟨bz,ZZ,rfl,_,Z0,tP⟩:=HR'.o.nine Sc;have hat':∀j,j<9→wr.cell? ⟨bk,off+k*9+j,none⟩=(bH[k])[j]? :=fun j hj=>(hb.cell (p:=⟨bk,_,none⟩) hbz).trans (hat j hj);have hnd:=HK.o k ir tW;have Jr:=HK'.o k V6 Sc;obtain ⟨yk,y0,yn,yv,ya,yb,yc,yd,yA,cZ,cv,ye⟩:=hnd.nine;obtain ⟨vk,v0,vn,vv,va,vb,vc,vd,vA,Sd,Sg,ve⟩:=Jr.nine
   obtain ⟨wx,hwx⟩:∃wx,wr.alloc (.cells #[.int .i64 yk,.int .i64 y0,.string (ag yn),.string (ag yv),.int .i64 ya,.int .i64 yb,.int .i64 yc,.int .i64 yd,.slice yA cZ cv] 25)=wx:=⟨_,rfl⟩
   have Uy:Below W.heap.size W wx:=by rw [←hwx];exact hb.alloc hb.size _
   have hzx:wx.heap.size=wr.heap.size+1:=by rw [←hwx,aF]
   have hrx:Row wx wr.heap.size 25 #[.int .i64 yk,.int .i64 y0,.string (ag yn),.string (ag yv),.int .i64 ya,.int .i64 yb,.int .i64 yc,.int .i64 yd,.slice yA cZ cv]:=by rw [←hwx];exact Row.new _ _ _
   have F_:∀j,j<9→wx.cell? ⟨bz,ZZ+k*9+j,none⟩=(pJ[k])[j]? :=fun j hj=>(Uy.cell (p:=⟨bz,_,none⟩) Z0).trans (tP j hj)
   obtain ⟨wy,hwy⟩:∃wy,wx.alloc (.cells #[.int .i64 vk,.int .i64 v0,.string (ag vn),.string (ag vv),.int .i64 va,.int .i64 vb,.int .i64 vc,.int .i64 vd,.slice vA Sd Sg] 25)=wy:=⟨_,rfl⟩
   have hby:Below W.heap.size W wy:=by rw [←hwy];exact Uy.alloc Uy.size _
   have HRx:=ae (Row wy wr.heap.size 25 #[.int .i64 yk,.int .i64 y0,.string (ag yn),.string (ag yv),.int .i64 ya,.int .i64 yb,.int .i64 yc,.int .i64 yd,.slice yA cZ cv]) (by rw [←hwy];exact hrx.alloc _);have HRy:=ae (Row wy (wr.heap.size+1) 25 #[.int .i64 vk,.int .i64 v0,.string (ag vn),.string (ag vv),.int .i64 va,.int .i64 vb,.int .i64 vc,.int .i64 vd,.slice vA Sd Sg]) (by rw [←hwy,←hzx];exact Row.new _ _ _);obtain ⟨c0,c1,c2,c3,c4,c5,c6,c7,c8⟩:=iW ye hat'
   obtain ⟨v,hv⟩:∃v,Dv ks[k] zs[k]=v:=⟨_,rfl⟩
   have CAL:=ae (Calls Tryz.prog 15 #[.agg #[.int .i64 yk,.int .i64 y0,.string (ag yn),.string (ag yv),.int .i64 ya,.int .i64 yb,.int .i64 yc,.int .i64 yd,.slice yA cZ cv],.agg #[.int .i64 vk,.int .i64 v0,.string (ag vn),.string (ag vv),.int .i64 va,.int .i64 vb,.int .i64 vc,.int .i64 vd,.slice vA Sd Sg]] wy fun e w'=>e=.returned (.bool v)∧Below wy.heap.size wy w') (by
    have:=HI.o k ir V6 bH[k] pJ[k] wy (hnd.keeps (ah.of_below hby (aa _))) (Jr.keeps (ah.of_below hby (aa _)));rw [ye,ve,hv] at this
    exact this)
   rw [hv] at hf;have V5:=hide hf;have KC2:=hide (iW ve F_);have HBY:=hide hby;have HWX:=hide hwx;have HWY:=hide hwy;have HZX:=hide hzx;clear hat tP hat' F_ hnd Jr ye ve hb hv hf Uy hby hwx hwy hzx hrx;go_upto_region 6 with fail;rw [HWX.o];obtain ⟨b0,b1,b2,b3,b4,b5,b6,b7,b8⟩:=KC2.o;clear c0 c1 c2 c3 c4 c5 c6 c7 c8;go_upto_region 7 with fail;rw [HWY.o,HZX.o];clear b0 b1 b2 b3 b4 b5 b6 b7 b8;obtain ⟨n0,n1,n2,n3,n4,n5,n6,n7,n8⟩:=ak HRx.o;obtain ⟨r0,r1,r2,r3,r4,r5,r6,r7,r8⟩:=ak HRy.o;go_wp2_with fail;refine CAL.o.mono ?_;rintro e w3 ⟨rfl,hb3⟩;have vK:=hide (HBY.o.trans (hb3.mono HBY.o.size));clear hb3 n0 r0 n1 r1 n2 r2 n3 r3 n4 r4 n5 r5 n6 r6 n7 r7 n8 r8
   cases v with
   |false=>
    have HF:=ae (R=false) (by rw [←V5.o];rfl);go_wp2;go_ret;exact ⟨aT HF.o,vK.o⟩
   |true=>
    go_wp2;go_roundw
    case rel=>exact ⟨k+1,by omega,by go_num,by rw [←V5.o];rfl,vK.o⟩
    case measure=>simp [intOf];omega
  ·obtain rfl:k=N:=by omega
   have hk':¬(k:Int)<(k:Int):=by omega
   have HF:=ae (R=true) (by rw [←hf,dc (by rw [HN.o];omega),dc (by rw [HM.o];omega),kA]);have Hb:=hide hb;clear hb hf;go_wp2;go_ret;exact ⟨aT HF.o,Hb.o⟩
theorem BI:∀(m:Nat) (x y:Nd) (C C':Nat→Prop) (cx cy:List Value) (W:World),aC x≤m→m≤1000000→aC y≤1000000→cK C W x cx→cK C' W y cy→
 Calls Tryz.prog 15 #[.agg cx.toArray,.agg cy.toArray] W fun e w'=>e=.returned (.bool (Dv x y))∧Below W.heap.size W w'
 |0,n,y,C,C',cx,cy,W,h,_,_,_,_=>by have:=mX n;omega
 |m+1,n,y,C,C',cx,cy,W,hm,hmm,hm',h,h'=>by
  have IH:=hide (fun (x y:Nd) (cx cy:List Value) (W':World) (hx:aC x≤m) (hy:aC y≤1000000) (h:cK C W' x cx) (h':cK C' W' y cy)=>BI m x y C C' cx cy W' hx (by omega) hy h h')
  obtain ⟨R,hR⟩:∃R,Dv n y=R:=⟨_,rfl⟩
  rw [hR]
  cases h with
  |mk kd a0 nm vl xa xb xc xd ks A cap bH hl hks hr hcap=>
  cases h' with
  |mk zk z0 zn zv za zb zc zd zs A' cap' pJ hl' Ao hr' Sb=>
   clear hcap Sb;rw [aC] at hm hm';have hkl:=j_ ks;have ZV:=j_ zs
   obtain ⟨W0,hW0⟩:∃W0,W0=W.alloc (.cells (aB kd a0 nm vl xa xb xc xd (.slice A ks.length cap)).toArray 25):=⟨_,rfl⟩
   have hb0:Below W.heap.size W W0:=by rw [hW0];exact (af _ W).alloc (aa _) _
   have hz0:W0.heap.size=W.heap.size+1:=by rw [hW0,aF]
   obtain ⟨W1,hW1⟩:∃W1,W1=W0.alloc (.cells (aB zk z0 zn zv za zb zc zd (.slice A' zs.length cap')).toArray 25):=⟨_,rfl⟩
   have hb1:Below W.heap.size W W1:=by rw [hW1];exact hb0.alloc hb0.size _
   have n9:=ae (Row W1 W.heap.size 25 (aB kd a0 nm vl xa xb xc xd (.slice A ks.length cap)).toArray) (by rw [hW1];exact Row.alloc (by rw [hW0];exact Row.new _ _ _) _);have wD:=ae (Row W1 (W.heap.size+1) 25 (aB zk z0 zn zv za zb zc zd (.slice A' zs.length cap')).toArray) (by rw [hW1,←hz0];exact Row.new _ _ _)
   have EF:=hide (show Calls Tryz.prog 28 #[.slice A ks.length cap,.slice A' zs.length cap',.func (.func 15) #[] #[]] W1 fun e w'=>e=.returned (.bool (kA ks zs))∧Below W1.heap.size W1 w' from
    Av ks zs bH pJ A A' cap cap' C C' W1 hl hl' (fun i h h'=>(hks i h h').keeps (ah.of_below hb1 (aa _))) (hr.keeps (ah.of_below hb1 (aa _))) (fun i h h'=>(Ao i h h').keeps (ah.of_below hb1 (aa _))) (hr'.keeps (ah.of_below hb1 (aa _))) (by omega) (by omega)
     (fun i hi hi' cx cy W' h1 h2=>IH.o ks[i] zs[i] cx cy W' (by have:=ez (cI hi);omega) (by have:=ez (cI hi');omega) h1 h2))
   have dX:=hide hb1;have HRd:=hide hR;have xq:=hide (fun h=>hR.symm.trans (Sa (k:=kd) (nm:=nm) (v:=vl) (a:=xa) (b:=xb) (c:=xc) (d:=xd) (ks:=ks) (k':=zk) (Ou:=zn) (v':=zv) (a':=za) (b':=zb) (c':=zc) (d':=zd) (ks':=zs) h));unfold aB;unfold aB at hW0 hW1 n9 wD;clear hr hks hl hb1 hb0 hm hm' hr' Ao hl' hkl ZV hR IH
   obtain ⟨N,hN⟩:∃N,ks.length=N:=⟨_,rfl⟩
   obtain ⟨M,hM⟩:∃M,zs.length=M:=⟨_,rfl⟩
   rw [hN] at hW0 n9 EF⊢;rw [hM] at hW1 wD EF⊢;have ZY:=hide hW0.symm;have jq:=hide hW1.symm;have HZ0:=hide hz0;clear hN hM hW0 hW1 hz0;go_enter Tryz.func15,Tryz.ntmps15;go_upto_region 1 with fail;rw [ZY.o,jq.o];obtain ⟨n0,n1,n2,n3,n4,n5,n6,n7,n8⟩:=ak n9.o;obtain ⟨r0,r1,r2,r3,r4,r5,r6,r7,r8⟩:=ak wD.o;by_cases g0:kd=zk;rotate_left
   ·obtain ⟨e0,f0⟩:=jP g0;have HF:=hide (xq.o fun h=>g0 h.1);clear g0;go_wp2;go_ret;exact ⟨aT HF.o,dX.o⟩
   have G0:=hide g0;obtain ⟨e0,f0⟩:=jO g0;clear g0;by_cases g2:nm=zn;rotate_left
   ·obtain ⟨e2,f2⟩:=xw g2;have HF:=hide (xq.o fun h=>g2 h.2.1);generalize ag nm=s1 at*;generalize ag zn=s2 at*;clear g2;go_wp2;go_ret;exact ⟨aT HF.o,dX.o⟩
   have G2:=hide g2;obtain ⟨e2,f2⟩:=xu g2;clear g2
   obtain ⟨s2,hs2⟩:∃s,ag nm=s:=⟨_,rfl⟩
   obtain ⟨u2,hu2⟩:∃s,ag zn=s:=⟨_,rfl⟩
   rw [hs2] at n2 e2 f2;rw [hu2] at r2 e2 f2;clear hs2 hu2;by_cases g3:vl=zv;rotate_left
   ·obtain ⟨e3,f3⟩:=xw g3;have HF:=hide (xq.o fun h=>g3 h.2.2.1);generalize ag vl=s1 at*;generalize ag zv=s2 at*;clear g3;go_wp2;go_ret;exact ⟨aT HF.o,dX.o⟩
   have G3:=hide g3;obtain ⟨e3,f3⟩:=xu g3;clear g3
   obtain ⟨s3,hs3⟩:∃s,ag vl=s:=⟨_,rfl⟩
   obtain ⟨u3,hu3⟩:∃s,ag zv=s:=⟨_,rfl⟩
   rw [hs3] at n3 e3 f3;rw [hu3] at r3 e3 f3;clear hs3 hu3;by_cases g4:xa=za;rotate_left
   ·obtain ⟨e4,f4⟩:=jP g4;have HF:=hide (xq.o fun h=>g4 h.2.2.2.1);clear g4;go_wp2;go_ret;exact ⟨aT HF.o,dX.o⟩
   have G4:=hide g4;obtain ⟨e4,f4⟩:=jO g4;clear g4;by_cases g5:xb=zb;rotate_left
   ·obtain ⟨e5,f5⟩:=jP g5;have HF:=hide (xq.o fun h=>g5 h.2.2.2.2.1);clear g5;go_wp2;go_ret;exact ⟨aT HF.o,dX.o⟩
   have G5:=hide g5;obtain ⟨e5,f5⟩:=jO g5;clear g5;by_cases g6:xc=zc;rotate_left
   ·obtain ⟨e6,f6⟩:=jP g6;have HF:=hide (xq.o fun h=>g6 h.2.2.2.2.2.1);clear g6;go_wp2;go_ret;exact ⟨aT HF.o,dX.o⟩
   have G6:=hide g6;obtain ⟨e6,f6⟩:=jO g6;clear g6;by_cases g7:xd=zd;rotate_left
   ·obtain ⟨e7,f7⟩:=jP g7;have HF:=hide (xq.o fun h=>g7 h.2.2.2.2.2.2.1);clear g7;go_wp2;go_ret;exact ⟨aT HF.o,dX.o⟩
   have G7:=hide g7;obtain ⟨e7,f7⟩:=jO g7;clear g7;have HE:=ae (kA ks zs=R) (by rw [←HRd.o,R_ ⟨G0.o,G2.o,G3.o,G4.o,G5.o,G6.o,G7.o⟩]);rw [HE.o] at EF;go_wp2_with fail;refine EF.o.mono ?_;rintro e w3 ⟨rfl,hb3⟩;have HE3:=hide (dX.o.trans (hb3.mono dX.o.size));clear hb3;go_wp2;go_ret;exact ⟨rfl,HE3.o⟩
theorem BJ (b B:Nat) (v:Value) (st:St) (bad:Bool) (w:World) (h:fT w B b v st bad):
 Calls Tryz.prog 46 #[.pointer (some ⟨b,0,none⟩)] w fun e w'=>e=.returned (.string (ag st.1))∧Below B w w':=by
 have mixed:Tryz.prog.follows .mixedOrders=true:=by kernel_rfl
 obtain ⟨p,hp,hr⟩:=h.row;have hown:=h.own;have hBw:=h.leB;obtain ⟨l,esc⟩:=st;by_cases h0:l=[]
 ·subst h0;have hUS:=fun (W:World) (q:Option Addr)=>Lib.run_unsafeString_none (P:=Tryz.prog) W 109 3 9 q
  rcases hown.2 with ⟨rfl,_⟩|⟨g,cap,cur,rfl,hbg,hg,_,_,_,_⟩
  ·have c1:w.drew.cell? ⟨b,1,none⟩=some (.slice none 0 0):=hr.cell 1;have hSD:(Builtin.unsafeSliceData_ #[75] 109 #[.slice none 0 0]).run Tryz.prog w.drew=.ok (.pointer none) w.drew:=rfl;clear hr hown h;go_enter Tryz.func46,Tryz.ntmps46;go_wp2
   go_region_o
   all_goals (go_wp2;go_ret;exact ⟨rfl,Below.drew (af B w)⟩)
  ·by_cases hc0:cap=0
   ·subst hc0;have c1:w.drew.cell? ⟨b,1,none⟩=some (.slice (some ⟨g,0,none⟩) 0 0):=hr.cell 1
    have hSD:(Builtin.unsafeSliceData_ #[75] 109 #[.slice (some ⟨g,0,none⟩) 0 0]).run Tryz.prog w.drew=.ok (.pointer (some ⟨w.drew.heap.size,0,none⟩)) (w.drew.alloc (.view ⟨g,0,none⟩ 5)):=
     Lib.run_unsafeSliceData_zero w.drew _ _ 5 Tryz.underlying109 ⟨g,0,none⟩ 0 (5,cur.size) (by have hg':w.drew.heap[g]? =some (.cells cur 5 (0,0)):=hg;simp [World.shape?,hg'])
    have c2:(w.drew.alloc (.view ⟨g,0,none⟩ 5)).cell? ⟨b,1,none⟩=some (.slice (some ⟨g,0,none⟩) 0 0):=(hr.drew.alloc _).cell 1;have c3:(w.alloc (.view ⟨g,0,none⟩ 5)).drew.cell? ⟨b,1,none⟩=some (.slice (some ⟨g,0,none⟩) 0 0):=c2;have c0:w.cell? ⟨b,1,none⟩=some (.slice (some ⟨g,0,none⟩) 0 0):=c1;clear hr hown h;go_enter Tryz.func46,Tryz.ntmps46;go_wp2
    go_region_o
    all_goals (go_wp2;go_ret;exact ⟨rfl,(Below.drew (af B w)).alloc hBw _⟩)
   ·have c1:w.drew.cell? ⟨b,1,none⟩=some (.slice (some ⟨g,0,none⟩) 0 cap):=hr.cell 1;have hSD:(Builtin.unsafeSliceData_ #[75] 109 #[.slice (some ⟨g,0,none⟩) 0 cap]).run Tryz.prog w.drew=.ok (.pointer (some ⟨g,0,none⟩)) w.drew:=Lib.run_unsafeSliceData_row _ _ _ _ _ _ hc0;clear hr hown h hc0;go_enter Tryz.func46,Tryz.ntmps46;go_wp2
    go_region_o
    all_goals (go_wp2;go_ret;exact ⟨rfl,Below.drew (af B w)⟩)
 ·have hl0:l.length≠0:=by simpa using h0
  obtain ⟨g,cap,cur,rfl,hbg,hg,hnc,hcm,hcs,htake⟩:∃g cap cur,v=.slice (some ⟨g,0,none⟩) l.length cap∧B≤g∧w.heap[g]? =some (.cells cur 5 (0,0))∧l.length≤cap∧cap≤maxLen∧cur.size=cap*1∧cur.toList.take (l.length*1)=Lib.byteCells l:=by
   rcases hown.2 with ⟨_,hz⟩|⟨g,cap,cur,hv,r⟩
   ·exact absurd hz hl0
   ·exact ⟨g,cap,cur,hv,r⟩
  have c1:w.drew.cell? ⟨b,1,none⟩=some (.slice (some ⟨g,0,none⟩) l.length cap):=hr.cell 1;have hSD:(Builtin.unsafeSliceData_ #[75] 109 #[.slice (some ⟨g,0,none⟩) l.length cap]).run Tryz.prog w.drew=.ok (.pointer (some ⟨g,0,none⟩)) w.drew:=Lib.run_unsafeSliceData_row _ _ _ _ _ _ (by omega)
  have hUS:(Builtin.unsafeString_ #[109,3] 9 #[.pointer (some ⟨g,0,none⟩),.int .i64 l.length]).run Tryz.prog w.drew=.ok (.string ⟨l.toArray⟩) (w.drew.freeze ⟨g,0,none⟩ l.length):=by
   refine Lib.run_unsafeString_row w.drew 109 3 9 5 Tryz.underlying109 (by kernel_rfl) g cur.size (by have hg':w.drew.heap[g]? =some (.cells cur 5 (0,0)):=hg;simp [World.shape?,hg']) l h0 (by omega) (by unfold maxLen at hcm;omega) ?_;intro j x hx;have:=hown.cells (g:=g) rfl j (.int .u8 x.toNat) (by simp [Lib.byteCells,hx]);exact this
  clear hr hown h;go_enter Tryz.func46,Tryz.ntmps46;go_wp2
  go_region_o
  all_goals (go_wp2;go_ret;exact ⟨rfl,Lib.below_freeze (Below.drew (af B w)) (p:=⟨g,0,none⟩) hbg _⟩)
def m_ (o:Option (List UInt8)) (W:World) (e:Ending) (w':World):Prop:=∃s:ByteArray,e=.returned (.tuple #[.string s,.bool o.isSome])∧(∀t,o=some t→s=ag t)∧Below W.heap.size W w'
theorem m_.none_ {W w':World} {o:Option (List UInt8)} (ho:o=none) (h:Below W.heap.size W w') (s:ByteArray):m_ o W (.returned (.tuple #[.string s,.bool false])) w':=by
 subst ho;exact ⟨s,rfl,fun t e=>(by cases e),h⟩
theorem Js {x:Nd} (h:32<iF x):eV aD aQ x=none:=if_pos h
theorem BK {x:Nd} (need:Int) (h:¬32<iF x) (hn:(if 10≤iz aD x then (10:Int) else 0)=need) (ho:bC aD aQ x need ([],false)=none):eV aD aQ x=none:=by
 unfold eV;rw [if_neg h,hn,ho]
theorem Ga {x:Nd} (need:Int) (st:St) (h:¬32<iF x) (hn:(if 10≤iz aD x then (10:Int) else 0)=need) (ho:bC aD aQ x need ([],false)=some st):eV aD aQ x=if (df st.1).2.2=0 then some st.1 else none:=by
 unfold eV;rw [if_neg h,hn,ho]
theorem Z1 (W:World) (B:Nat) (hB:B≤W.heap.size) (hg:Gl W) (hgB:3<B∧2<B):
 cz (W.alloc (.cells #[.pointer none,.slice none 0 0,.bool false,.bool false] 79)) B W.heap.size (some ([],false)) 0:=
 ⟨⟨.slice none 0 0,([],false),false,⟨hB,⟨_,.inl rfl,Row.new W _ _⟩,World.ownsRow_nil _ _ _ _⟩,aa _,rfl⟩,hg.below ((af _ W).alloc (aa _) _),hgB⟩
theorem zy (x:Nd) (hf:pU x) (hc:aC x≤500) (cs:List Value) (w:World) (hnd:cK (fun c=>w.heap.size≤c) w x cs) (hg:Gl w):
 Calls Tryz.prog 27 #[.agg cs.toArray] w (m_ (eV aD aQ x) w):=by
 have kE:=hf.abD;have OP:=hide (RT x hf);have hgB:=hg.lt;have fR:=hide hnd;have HC:=hide hc;have ac3:=ze x;obtain ⟨kd,a0,nm,vl,xa,xb,xc,xd,A,len,cap,rfl⟩:=hnd.nine;have km:=hnd.kv;have HL:=ae (iz aD x=Gv kd vl) (by rw [CV,km.1,km.2]);have HKD:=ae (In64 kd∧vl.length≤1000000) (by rw [←km.1,←km.2];exact ⟨kE.kd,by have:=kE.vl;omega⟩)
 obtain ⟨w1,hw1⟩:∃w1,w1=w.alloc (.cells (aB kd a0 nm vl xa xb xc xd (.slice A len cap)).toArray 25):=⟨_,rfl⟩
 have hb1:Below w.heap.size w w1:=by rw [hw1];exact (af _ w).alloc (aa _) _
 have dX:=hide hb1;have fU:=ae (Row w1 w.heap.size 25 (aB kd a0 nm vl xa xb xc xd (.slice A len cap)).toArray) (by rw [hw1];exact Row.new _ _ _);have NK:=hide (fun (W:World) (hb:Below w.heap.size w W)=>show cK (fun c=>w.heap.size≤c) W x [.int .i64 kd,.int .i64 a0,.string (ag nm),.string (ag vl),.int .i64 xa,.int .i64 xb,.int .i64 xc,.int .i64 xd,.slice A len cap] from hnd.keeps (vo hb hb.size));have GLW:=hide (fun (W:World) (hb:Below w.heap.size w W)=>show Gl W from hg.below hb);have HGB:=hide hgB;have cR:=hide hw1.symm;have Lq:w.heap.size<w1.heap.size:=fU.o.lt;have LVS:=ae (Calls Tryz.prog 33 #[.agg #[.int .i64 kd,.int .i64 a0,.string (ag nm),.string (ag vl),.int .i64 xa,.int .i64 xb,.int .i64 xc,.int .i64 xd,.slice A len cap]] w1 fun e w'=>e=.returned (.int .i64 (iF x:Int))∧Below w1.heap.size w1 w') (vh 500 x _ _ w1 HC.o (by decide) (NK.o w1 hb1));clear hnd hg km kE hf hw1 hb1 hgB;unfold aB at cR fU⊢
 obtain ⟨lev,Z2⟩:∃lev,iF x=lev:=⟨_,rfl⟩
 rw [Z2] at LVS ac3;have Sh:=hide Z2;clear Z2;go_enter Tryz.func27,Tryz.ntmps27;go_upto_region 1 with fail;rw [cR.o];obtain ⟨n0,n1,n2,n3,n4,n5,n6,n7,n8⟩:=ak fU.o;go_wp2_with fail;refine LVS.o.mono ?_;rintro e w2 ⟨rfl,hb2⟩;clear n0 n1 n2 n3 n4 n5 n6 n7 n8;have iM:=hide (dX.o.trans (hb2.mono dX.o.size));have ia:=hide (fU.o.below hb2 Lq);have hz2:=iM.o.size;clear hb2;by_cases hd:32<lev
 ·have hd':(32:Int)<(lev:Int):=by omega
  have HT:=ae (m_ (eV aD aQ x) w (.returned (.tuple #[.string {data:=#[]},.bool false])) w2) (m_.none_ (Js (by rw [Sh.o];exact hd)) iM.o _);clear hd;go_wp2
  go_ret2
  exact HT.o
 ·have hd':¬(32:Int)<(lev:Int):=by omega
  have HD:=hide hd;clear hd
  obtain ⟨w3,hw3⟩:∃w3,w3=w2.alloc (.cells #[.pointer none,.slice none 0 0,.bool false,.bool false] 79):=⟨_,rfl⟩
  have P3:=ae (cz w3 w.heap.size w2.heap.size (some ([],false)) 0) (by rw [hw3];exact Z1 w2 _ hz2 (GLW.o w2 iM.o) HGB.o);have nk:=ae (Below w.heap.size w w3) (by rw [hw3];exact iM.o.alloc hz2 _);have iR:=ae (Row w3 w.heap.size 25 #[.int .i64 kd,.int .i64 a0,.string (ag nm),.string (ag vl),.int .i64 xa,.int .i64 xb,.int .i64 xc,.int .i64 xd,.slice A len cap]) (by rw [hw3];exact ia.o.alloc _);have Nu:=hide hw3.symm;clear hw3;go_upto_region 4 with fail;rw [Nu.o];have LV:=ae (Calls Tryz.prog 44 #[.agg #[.int .i64 kd,.int .i64 a0,.string (ag nm),.string (ag vl),.int .i64 xa,.int .i64 xb,.int .i64 xc,.int .i64 xd,.slice A len cap]] w3 fun e w'=>e=.returned (.int .i64 (Gv kd vl))∧Below w3.heap.size w3 w') (qq kd a0 xa xb xc xd nm vl (.slice A len cap) w3 HKD.o.1 HKD.o.2 (GLW.o w3 nk.o))
  obtain ⟨lv,hlv⟩:∃lv,Gv kd vl=lv:=⟨_,rfl⟩
  rw [hlv] at LV HL;clear hlv;obtain ⟨n0,n1,n2,n3,n4,n5,n6,n7,n8⟩:=ak iR.o;go_wp2_with fail;refine LV.o.mono ?_;rintro e w4 ⟨rfl,hb4⟩;clear n0 n1 n2 n3 n4 n5 n6 n7 n8;have P4:=hide (P3.o.keep hb4);have zN:=hide (nk.o.trans (hb4.mono nk.o.size));have jJ:=hide (iR.o.below hb4 iR.o.lt);clear hb4 LV;by_cases h10:10≤lv
  ·skip;have Gy:=ae (Calls Tryz.prog 45 #[.pointer (some ⟨w2.heap.size,0,none⟩),.agg #[.int .i64 kd,.int .i64 a0,.string (ag nm),.string (ag vl),.int .i64 xa,.int .i64 xb,.int .i64 xc,.int .i64 xd,.slice A len cap],.int .i64 10] w4 (jn w.heap.size w2.heap.size w4 ((some (([]:List UInt8),false):Option St).bind (bC aD aQ x 10)) (0+2000*aC x))) (OP.o w.heap.size w2.heap.size 10 _ (some ([],false)) 0 w4 P4.o (NK.o w4 zN.o) (by decide) (by decide) (by have:=HC.o;omega));have xq:=ae ((if 10≤iz aD x then (10:Int) else 0)=10) (by rw [HL.o];exact if_pos h10)
   obtain ⟨o5,q5⟩:∃z_,bC aD aQ x 10 ([],false)=z_:=⟨_,rfl⟩
   rw [show (some (([]:List UInt8),false):Option St).bind (bC aD aQ x 10)=o5 from q5] at Gy;have Q5:=hide q5;clear q5;obtain ⟨n0,n1,n2,n3,n4,n5,n6,n7,n8⟩:=ak jJ.o;go_wp2_with fail;refine Gy.o.mono ?_;rintro e w5 ⟨rfl,p5,t5⟩;clear n0 n1 n2 n3 n4 n5 n6 n7 n8;have P5:=hide p5;have mI:=hide (zN.o.trans t5.below);clear p5 t5 Gy
   cases o5 with
   |none=>
    obtain ⟨Dz,GA,GC,_⟩:=P5.o.kO;have HT:=ae (m_ (eV aD aQ x) w (.returned (.tuple #[.string {data:=#[]},.bool false])) w5) (m_.none_ (BK 10 (by rw [Sh.o];exact HD.o) xq.o Q5.o) mI.o _);go_wp2
    go_ret2
    exact HT.o
   |some st=>
    obtain ⟨Dz,GA,GC,_⟩:=P5.o.dC;obtain ⟨v,st',bad,hp,hl,he⟩:=P5.o.at_
    obtain rfl:st=st':=by cases bad<;>simp [jr] at he;exact he
    have SP:=hide (BJ w2.heap.size w.heap.size v st bad w5 hp)
    have FN:st.1.length≤1000000:=by have:=HC.o;omega
    clear hp hl he;go_wp2_with fail;refine SP.o.mono ?_;rintro e w6 ⟨rfl,fV⟩;have sH:=hide (mI.o.trans fV);have LX:=hide (xe st.1 FN w6 (GLW.o w6 sH.o))
    obtain ⟨er,her⟩:∃er,(df st.1).2.2=er:=⟨_,rfl⟩
    rw [her] at LX;have HER:=hide her;clear her fV Dz GA GC;go_wp2_with fail;refine LX.o.mono ?_;rintro e w7 ⟨v7,rfl,_,sI⟩;have Ct:=hide (sH.o.trans (sI.mono sH.o.size));have HQ:=hide (Ga 10 st (by rw [Sh.o];exact HD.o) xq.o Q5.o)
    have HT:=ae (m_ (eV aD aQ x) w (.returned (.tuple #[.string (ag st.1),.bool (er==0)])) w7) (by
     rw [HQ.o,HER.o];by_cases h0:er=0
     ·rw [if_pos h0];subst h0;exact ⟨_,rfl,fun t e=>by injection e with e;rw [e],Ct.o⟩
     ·rw [if_neg h0,show (er==0)=false from by simpa using h0];exact m_.none_ rfl Ct.o _)
    clear sI;go_wp2
    go_ret2
    exact HT.o
  ·skip;have Gy:=ae (Calls Tryz.prog 45 #[.pointer (some ⟨w2.heap.size,0,none⟩),.agg #[.int .i64 kd,.int .i64 a0,.string (ag nm),.string (ag vl),.int .i64 xa,.int .i64 xb,.int .i64 xc,.int .i64 xd,.slice A len cap],.int .i64 0] w4 (jn w.heap.size w2.heap.size w4 ((some (([]:List UInt8),false):Option St).bind (bC aD aQ x 0)) (0+2000*aC x))) (OP.o w.heap.size w2.heap.size 0 _ (some ([],false)) 0 w4 P4.o (NK.o w4 zN.o) (by decide) (by decide) (by have:=HC.o;omega));have xq:=ae ((if 10≤iz aD x then (10:Int) else 0)=0) (by rw [HL.o];exact if_neg h10)
   obtain ⟨o5,q5⟩:∃z_,bC aD aQ x 0 ([],false)=z_:=⟨_,rfl⟩
   rw [show (some (([]:List UInt8),false):Option St).bind (bC aD aQ x 0)=o5 from q5] at Gy;have Q5:=hide q5;clear q5;obtain ⟨n0,n1,n2,n3,n4,n5,n6,n7,n8⟩:=ak jJ.o;go_wp2_with fail;refine Gy.o.mono ?_;rintro e w5 ⟨rfl,p5,t5⟩;clear n0 n1 n2 n3 n4 n5 n6 n7 n8;have P5:=hide p5;have mI:=hide (zN.o.trans t5.below);clear p5 t5 Gy
   cases o5 with
   |none=>
    obtain ⟨Dz,GA,GC,_⟩:=P5.o.kO;have HT:=ae (m_ (eV aD aQ x) w (.returned (.tuple #[.string {data:=#[]},.bool false])) w5) (m_.none_ (BK 0 (by rw [Sh.o];exact HD.o) xq.o Q5.o) mI.o _);go_wp2
    go_ret2
    exact HT.o
   |some st=>
    obtain ⟨Dz,GA,GC,_⟩:=P5.o.dC;obtain ⟨v,st',bad,hp,hl,he⟩:=P5.o.at_
    obtain rfl:st=st':=by cases bad<;>simp [jr] at he;exact he
    have SP:=hide (BJ w2.heap.size w.heap.size v st bad w5 hp)
    have FN:st.1.length≤1000000:=by have:=HC.o;omega
    clear hp hl he;go_wp2_with fail;refine SP.o.mono ?_;rintro e w6 ⟨rfl,fV⟩;have sH:=hide (mI.o.trans fV);have LX:=hide (xe st.1 FN w6 (GLW.o w6 sH.o))
    obtain ⟨er,her⟩:∃er,(df st.1).2.2=er:=⟨_,rfl⟩
    rw [her] at LX;have HER:=hide her;clear her fV Dz GA GC;go_wp2_with fail;refine LX.o.mono ?_;rintro e w7 ⟨v7,rfl,_,sI⟩;have Ct:=hide (sH.o.trans (sI.mono sH.o.size));have HQ:=hide (Ga 0 st (by rw [Sh.o];exact HD.o) xq.o Q5.o)
    have HT:=ae (m_ (eV aD aQ x) w (.returned (.tuple #[.string (ag st.1),.bool (er==0)])) w7) (by
     rw [HQ.o,HER.o];by_cases h0:er=0
     ·rw [if_pos h0];subst h0;exact ⟨_,rfl,fun t e=>by injection e with e;rw [e],Ct.o⟩
     ·rw [if_neg h0,show (er==0)=false from by simpa using h0];exact m_.none_ rfl Ct.o _)
    clear sI;go_wp2
    go_ret2
    exact HT.o
theorem pX (x:Nd) (hf:pU x) (hc:aC x≤500) (cs:List Value) (w:World) (hnd:cK (fun c=>w.heap.size≤c) w x cs) (hg:Gl w):
 Calls Tryz.prog 13 #[.agg cs.toArray] w fun e w'=>e=.returned (.bool (eV aD aQ x).isSome)∧Below w.heap.size w w':=by
 obtain ⟨kd,a0,nm,vl,xa,xb,xc,xd,A,len,cap,rfl⟩:=hnd.nine
 obtain ⟨w1,hw1⟩:∃w1,w1=w.alloc (.cells (aB kd a0 nm vl xa xb xc xd (.slice A len cap)).toArray 25):=⟨_,rfl⟩
 have hb1:Below w.heap.size w w1:=by rw [hw1];exact (af _ w).alloc (aa _) _
 have Si:cK (fun c=>w1.heap.size≤c) w1 x _:=(hnd.keeps (vo hb1 hb1.size)).mono (fun b hb=>br hb1.size hb);have fU:=ae (Row w1 w.heap.size 25 (aB kd a0 nm vl xa xb xc xd (.slice A len cap)).toArray) (by rw [hw1];exact Row.new _ _ _);have TX:=hide (zy x hf hc _ w1 Si (hg.below hb1));have dX:=hide hb1;have cR:=hide hw1.symm;clear hnd Si hw1 hb1 hg hf hc;unfold aB at cR fU TX⊢;generalize eV aD aQ x=tx at*;go_enter Tryz.func13,Tryz.ntmps13;go_upto_region 1 with fail;rw [cR.o];obtain ⟨n0,n1,n2,n3,n4,n5,n6,n7,n8⟩:=ak fU.o;go_wp2_with fail;refine TX.o.mono ?_;rintro e w2 ⟨s,rfl,_,hb2⟩;have iM:=hide (dX.o.trans (hb2.mono dX.o.size));clear hb2;go_wp2;go_ret;exact ⟨rfl,iM.o⟩
theorem uf (x:Nd) (hf:pU x) (hc:aC x≤500) (cs:List Value) (w:World) (hnd:cK (fun c=>w.heap.size≤c) w x cs) (hg:Gl w):
 Calls Tryz.prog 12 #[.agg cs.toArray] w fun e w'=>e=.returned (.string (ag ((eV aD aQ x).getD [])))∧Below w.heap.size w w':=by
 obtain ⟨kd,a0,nm,vl,xa,xb,xc,xd,A,len,cap,rfl⟩:=hnd.nine
 obtain ⟨w1,hw1⟩:∃w1,w1=w.alloc (.cells (aB kd a0 nm vl xa xb xc xd (.slice A len cap)).toArray 25):=⟨_,rfl⟩
 have hb1:Below w.heap.size w w1:=by rw [hw1];exact (af _ w).alloc (aa _) _
 have Si:cK (fun c=>w1.heap.size≤c) w1 x _:=(hnd.keeps (vo hb1 hb1.size)).mono (fun b hb=>br hb1.size hb);have fU:=ae (Row w1 w.heap.size 25 (aB kd a0 nm vl xa xb xc xd (.slice A len cap)).toArray) (by rw [hw1];exact Row.new _ _ _);have TX:=hide (zy x hf hc _ w1 Si (hg.below hb1));have dX:=hide hb1;have cR:=hide hw1.symm;clear hnd Si hw1 hb1 hg hf hc;unfold aB at cR fU TX⊢;generalize eV aD aQ x=tx at*;go_enter Tryz.func12,Tryz.ntmps12;go_upto_region 1 with fail;rw [cR.o];obtain ⟨n0,n1,n2,n3,n4,n5,n6,n7,n8⟩:=ak fU.o;go_wp2_with fail;refine TX.o.mono ?_;rintro e w2 ⟨s,rfl,hs,hb2⟩;have iM:=hide (dX.o.trans (hb2.mono dX.o.size));clear hb2
 cases tx with
 |none=>
  clear hs;go_wp2;go_ret;exact ⟨rfl,iM.o⟩
 |some t=>
  obtain rfl:s=ag t:=hs t rfl;clear hs;go_wp2;go_ret;exact ⟨rfl,iM.o⟩
end Go.Proofs.YtddoehnkgcbboaaGreatDoor
namespace Go.Proofs.YtddoehnkgcbboaaGreatDoor
open Go.RowKit Go.Shelf
def lf (p:Int) (s:List UInt8):Nd:=.mk 1 p s [] 0 0 0 0 []
def aw1:List UInt8:=[97,38,98,61,61,99,124,124,33,100]
def TE:Nd:=.mk 30 6 [] [] 0 0 0 0 [.mk 19 3 [] [] 0 0 0 0 [.mk 9 1 [] [] 0 0 0 0 [lf 0 [97],lf 2 [98]],lf 5 [99]],.mk 28 8 [] [] 0 0 0 0 [lf 9 [100]]]
theorem NA (rd:List UInt8→Int×Int):mn false aw1 true rd=(TE,0,0):=by kernel_rfl
def aw2:List UInt8:=[114,105,115,101,40,114,101,113,41,32,45,62,32,91,49,44,32,53,93,32,119,104,105,108,101,32,98,117,115,121,32,114,105,115,101,40,97,99,107,41]
def TF:Nd:=.mk 45 10 [] [] 1 5 0 0 [.mk 37 0 [] [] 0 0 0 0 [lf 5 [114,101,113]],.mk 37 31 [] [] 0 0 0 0 [lf 36 [97,99,107]],lf 26 [98,117,115,121]]
theorem NB (rd:List UInt8→Int×Int):mn true aw2 true rd=(TF,0,0):=by kernel_rfl
theorem Sj (sg:List UInt8→Int) (ng:List UInt8→List UInt8):eV sg ng TE=some [97,32,38,32,98,32,61,61,32,99,32,124,124,32,33,100]:=by kernel_rfl
theorem Sk (sg:List UInt8→Int) (ng:List UInt8→List UInt8):(eV sg ng TF).isSome=true:=by kernel_rfl
theorem Sm (sg:List UInt8→Int) (ng:List UInt8→List UInt8):eV sg ng np=none:=by kernel_rfl
end Go.Proofs.YtddoehnkgcbboaaGreatDoor
namespace Go.Proofs.YtddoehnkgcbboaaGreatDoor
open Go.RowKit Go.Shelf Go.Maps
theorem cK.low {C:Nat→Prop} {W:World} {n:Nd} {cs:List Value} (h:cK C W n cs):cK (fun c=>W.heap.size≤c) W n cs:=by
 induction h with
 |mk kind az name value a b c d ks A cap bH hl _ hr hcap ih=>
  refine .mk _ _ _ _ _ _ _ _ _ _ _ bH hl ih (fun hp=>?_) hcap;obtain ⟨b,off,rfl,hnb,hz,hat⟩:=hr hp;exact ⟨b,off,rfl,Nat.not_le_of_lt hz,hz,hat⟩
theorem cK.top {C:Nat→Prop} {W:World} {kd a0 xa xb xc xd:Int} {nm vl:List UInt8} {ks:List Nd} {cs:List Value} (h:cK C W (.mk kd a0 nm vl xa xb xc xd ks) cs):
 ∃A cap,cs=aB kd a0 nm vl xa xb xc xd (.slice A ks.length cap):=by
 cases h with
 |mk _ _ _ _ _ _ _ _ _ A cap bH hl hk hr hcap=>exact ⟨A,cap,rfl⟩
def zz (n:Int):Bool:=decide (-9223372036854775808≤n)&&decide (n≤9223372036854775807)
theorem pY {n:Int} (h:zz n=true):In64 n:=by
 unfold zz at h;rw [cS,decide_eq_true_eq,decide_eq_true_eq] at h;exact h
mutual
def Z3:Nd→Bool
 |.mk kd _ nm v a b c d ks=>zz kd&&(zz a&&(zz b&&(zz c&&(zz d&&(decide (nm.length≤200)&&(decide (v.length≤200)&&(decide (ks.length≤400)&&KX ks)))))))
def KX:List Nd→Bool
 |[]=>true
 |n::r=>Z3 n&&KX r
end
mutual
theorem xx:∀x:Nd,Z3 x=true→pU x
 |.mk kd a0 nm v a b c d ks,h=>by
  rw [Z3] at h;simp only [cS,decide_eq_true_eq] at h;obtain ⟨h1,h2,h3,h4,h5,h6,h7,h8,h9⟩:=h;rw [pU];exact ⟨⟨pY h1,pY h2,pY h3,pY h4,pY h5,h6,h7⟩,h8,Gb ks h9⟩
theorem Gb:∀ks:List Nd,KX ks=true→pV ks
 |[],_=>by rw [pV];trivial
 |x::r,h=>by
  rw [KX,cS] at h;rw [pV];exact ⟨xx x h.1,Gb r h.2⟩
end
theorem V7:pU TE:=xx _ (by kernel_rfl)
theorem V8:pU TF:=xx _ (by kernel_rfl)
theorem V9:pU np:=xx _ (by kernel_rfl)
theorem Jt:aC TE≤500∧aC TF≤500∧aC np≤500:=by
 have h1:aC TE=8:=by kernel_rfl
 have h2:aC TF=6:=by kernel_rfl
 have h3:aC np=1:=by kernel_rfl
 omega
end Go.Proofs.YtddoehnkgcbboaaGreatDoor
