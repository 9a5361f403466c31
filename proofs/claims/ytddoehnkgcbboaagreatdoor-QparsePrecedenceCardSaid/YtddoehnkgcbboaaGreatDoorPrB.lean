/- Packed by program: a part of the proof; the last file says what is proved. -/
import Derived.Test.YtddoehnkgcbboaaGreatDoorPrA
import Derived.Deep.DeepCutAuto
import Derived.Deep.CutBlock
import Derived.Deep.RegionWith
import Derived.Lib.Atoi
import Derived.Lib.ItoaMem
set_option maxHeartbeats 16000000
set_option maxRecDepth 100000
set_option linter.unusedVariables false
set_option linter.unusedSimpArgs false
namespace Go.Proofs.YtddoehnkgcbboaaGreatDoor
open Go.RowKit Go.Shelf
theorem oT {l:List UInt8} {p:List UInt8×Nat} (h:fk l=some p):1≤p.2∧p.2≤l.length:=by
 cases l with
 |nil=>cases h
 |cons c r=>
  rw [fk] at h
  split at h
  ·rename_i hf
   cases h
   have h1:aQ kW (c::r)=aQ kW r+1:=eu (by unfold kW;rw [hf];rfl)
   have h2:=dz kW (c::r)
   exact ⟨by show 1≤aQ kW (c::r);omega,h2⟩
  ·split at h
   ·split at h
    ·cases h
    ·rename_i hn
     have h2:=dz qc r
     split at h
     ·cases h
      exact ⟨by show 1≤r.length+1;omega,Nat.le_refl _⟩
     ·rename_i d r2 hd
      split at h
      ·cases h
       have:=congrArg List.length hd
       rw [List.length_drop,List.length_cons] at this
       exact ⟨by show 1≤aQ qc r+2;omega,by show aQ qc r+2≤r.length+1;omega⟩
      ·cases h
   ·cases h
theorem s8:∀(n m:Nat) (l:List UInt8),l.length<n→l.length<m→lZ n l=lZ m l
 |0,m,l,h,_=>absurd h (by omega)
 |n+1,0,l,_,h=>absurd h (by omega)
 |n+1,m+1,l,hn,hm=>by
  unfold lZ
  cases hs:fk l with
  |none=>rfl
  |some p=>
   obtain ⟨h1,h2⟩:=oT hs
   simp only [Option.bind_some]
   split
   ·rename_i hh
    have hlt:p.2<l.length:=by
     rcases Nat.lt_or_ge p.2 l.length with h|h
     ·exact h
     ·rw [List.drop_eq_nil_of_le h] at hh;cases hh
    rw [s8 n m (l.drop (p.2+1)) (by rw [List.length_drop];omega) (by rw [List.length_drop];omega)]
   ·rfl
def QF (R:Option (List UInt8×Nat)):Wq:=match R with|some p=>lX 0 p.1 p.2|none=>cn 3
def gz (l:List UInt8):Option (List UInt8×Nat):=lZ (l.length+1) l
theorem eE (l:List UInt8):gz l=(fk l).bind fun p=>if (l.drop p.2).head? =some 46 then (gz (l.drop (p.2+1))).map fun q=>(p.1++46::q.1,p.2+1+q.2) else some p:=by
 unfold gz
 conv=>lhs;unfold lZ
 cases hs:fk l with
 |none=>rfl
 |some p=>
  obtain ⟨h1,h2⟩:=oT hs
  simp only [Option.bind_some]
  split
  ·rename_i hh
   have hlt:p.2<l.length:=by
    rcases Nat.lt_or_ge p.2 l.length with h|h
    ·exact h
    ·rw [List.drop_eq_nil_of_le h] at hh;cases hh
   rw [s8 l.length ((l.drop (p.2+1)).length+1) (l.drop (p.2+1)) (by rw [List.length_drop];omega) (by omega)]
  ·rfl
theorem nx {P:Program} (a b:List UInt8) (h:a.length+b.length≤70368744177664) (w:World):(Op.stringOp .add (ae a) (ae b)).run P w=.ok (.string (ae (a++b))) w:=by
 rw [run_string_add_sum w _ _ (by rw [aD,aD];omega)]
 congr 2
theorem yl (l:List UInt8) (i j:Nat):(ae l).extract i j=ae ((l.drop i).take (j-i)):=by
 apply ByteArray.ext
 apply Array.toList_inj.1
 rw [Lib.extract_data]
 rfl
theorem cL (er:Int) (w:World):Calls Tryz.prog 126 #[.int .i64 er] w fun e w'=>e=.returned (.agg #[.int .i64 0,.string ⟨#[]⟩,.int .i64 0,.int .i64 0,.int .i64 er])∧Below w.heap.size w w':=DC er w
abbrev ZW (W:World) (g:Nat):Prop:=Row W g 85 #[.int .i64 0,.string ⟨#[]⟩,.int .i64 0,.int .i64 0,.int .i64 0]
theorem ZW.put {W:World} {g:Nat} (h:ZW W g) (a b c d e:Value):Row (((((W.setCell ⟨g,0,none⟩ a).setCell ⟨g,1,none⟩ b).setCell ⟨g,2,none⟩ c).setCell ⟨g,3,none⟩ d).setCell ⟨g,4,none⟩ e) g 85 #[a,b,c,d,e]:=
 ((((h.bg 0 a).bg 1 b).bg 2 c).bg 3 d).bg 4 e
theorem cH {W V:World} {B g:Nat} (hb:Below B W V) (hg:B≤g) (a b c d e:Value):Below B W (((((V.setCell ⟨g,0,none⟩ a).setCell ⟨g,1,none⟩ b).setCell ⟨g,2,none⟩ c).setCell ⟨g,3,none⟩ d).setCell ⟨g,4,none⟩ e):=
 ((((hb.setCell (p:=⟨g,0,none⟩) hg a).setCell (p:=⟨g,1,none⟩) hg b).setCell (p:=⟨g,2,none⟩) hg c).setCell (p:=⟨g,3,none⟩) hg d).setCell (p:=⟨g,4,none⟩) hg e
theorem qd {l T oU:List UInt8} {a n:Nat} {R:Option (List UInt8×Nat)} (hR:R=(gz (l.drop a)).map fun q=>(T++q.1,a+q.2)) (hs:fk (l.drop a)=some (oU,n)):
 R=if (l.drop (a+n)).head? =some 46 then (gz (l.drop (a+n+1))).map (fun q=>((T++oU++[46])++q.1,(a+n+1)+q.2)) else some (T++oU,a+n):=by
 rw [hR,eE,hs]
 simp only [Option.bind_some,List.drop_drop]
 split
 ·rw [show a+(n+1)=a+n+1 by omega]
  cases gz (l.drop (a+n+1)) with
  |none=>rfl
  |some q=>
   simp only [Option.map_some]
   rw [show T++(oU++46::q.1)=T++oU++[46]++q.1 by simp,show a+(n+1+q.2)=a+n+1+q.2 by omega]
 ·rfl
theorem G8 (l:List UInt8) (w:World) (hl:l.length≤50000):
 Calls Tryz.prog 120 #[.string (ae l)] w fun e w'=>e=.returned (oO (fQ l))∧Below w.heap.size w w':=by
 have hz:=aD l
 have hg:∀(i:Nat) (h:i<(ae l).size) (h2:i<l.length),(ae l)[i]'h=l[i]:=fun i h h2=>df l i h
 have hx:∀i j,(ae l).extract i j=ae ((l.drop i).take (j-i)):=yl l
 have RI:=aa (fun (i:Nat) (W:World) (h:i≤1000000)=>G5 l i W (by omega) h)
 have RP:=aa (fun (i:Nat) (W:World) (h:i≤1000000)=>Dw l i W (by omega) h)
 obtain ⟨R,hR⟩:∃R,gz l=R:=⟨_,rfl⟩
 have VT:fQ l=QF R:=by rw [←hR];rfl
 have HR:=aa hR
 have Dj:=aa VT
 clear hR VT
 generalize ae l=s at*
 have Hz:=aa hz
 have Hg:=aa hg
 have Hx:=aa hx
 clear hz hg hx
 go_enter Tryz.func120,Tryz.ntmps120
 go_upto_region 2 with fail
 go_loopg [3,4] (l.length+2) (fun g v3 v4 wx=>∃(a:Nat) (T:List UInt8),v3=.string (ae T)∧v4=.int .i64 (a:Int)∧a≤l.length+1∧g=l.length+2-a∧T.length≤2*a∧R=(gz (l.drop a)).map (fun q=>(T++q.1,a+q.2))∧Below w.heap.size w wx∧ZW wx w.heap.size)
 case atStart=>
  refine ⟨0,[],rfl,rfl,Nat.zero_le _,rfl,Nat.zero_le _,?_,(Below.refl _ _).alloc (Nat.le_refl _) _,Row.new _ _ _⟩
  rw [←HR.out]
  show gz l=(gz l).map fun q=>([]++q.1,0+q.2)
  cases gz l with
  |none=>rfl
  |some q=>show some q=some (q.1,0+q.2);rw [Nat.zero_add]
 case round=>
  obtain ⟨a,T,rfl,rfl,ha,hga,hT,hRa,hb,hrow⟩:=hrel
  have H:=aa (And.intro hb hrow)
  have RZ:=aa hRa
  have Hga:=aa hga
  clear hb hrow hRa hga
  by_cases hlt:a<l.length
  ·have ha':(a:Int)<(s.size:Int):=by have:=Hz.out;omega
   have ha0:(0:Int)≤(a:Int):=by omega
   have has:a<s.size:=by have:=Hz.out;omega
   obtain ⟨c,hc⟩:∃c,l[a]'hlt=c:=⟨_,rfl⟩
   have hsc:s[a]'has=c:=by rw [Hg.out a has hlt];exact hc
   have hdr:l.drop a=c::l.drop (a+1):=by rw [List.drop_eq_getElem_cons hlt,hc]
   have FI:=aa (nR c wr)
   have HD:=aa hdr
   clear hc hdr
   cases Aj:sF c with
   |true=>
    rw [Aj] at FI
    have Y_:=aa (RI.out a wr (by omega))
    have aad:aQ kW (l.drop a)=aQ kW (l.drop (a+1))+1:=by rw [HD.out];exact eu (by unfold kW;rw [Aj];rfl)
    have VU:=dz kW (l.drop a)
    rw [List.length_drop] at VU
    have Ak:fk (l.drop a)=some ((l.drop a).take (aQ kW (l.drop a)),aQ kW (l.drop a)):=by rw [HD.out,fk,if_pos Aj]
    have qf:=qd RZ.out Ak
    obtain ⟨oU,NN⟩:∃oU,(l.drop a).take (aQ kW (l.drop a))=oU:=⟨_,rfl⟩
    have aae:oU.length≤aQ kW (l.drop a):=by rw [←NN];exact List.length_take_le _ _
    rw [NN] at qf
    obtain ⟨m,hm⟩:∃m,a+aQ kW (l.drop a)=m:=⟨_,rfl⟩
    have x1:s.extract a m=ae oU:=by rw [Hx.out,←hm,Nat.add_sub_cancel_left,NN]
    rw [hm] at Y_ qf
    have hma:a+1≤m∧m≤l.length∧oU.length≤m-a:=by omega
    have HNx:=aa qf
    have HTl:=aa (show (T++oU).length≤2*m by rw [List.length_append];omega)
    have y1:∀W:World,(Op.stringOp .add (ae T) (ae oU)).run Tryz.prog W=.ok (.string (ae (T++oU))) W:=fun W=>nx T oU (by omega) W
    have ham:(a:Int)≤(m:Int):=by omega
    have VV:(m:Int)≤(s.size:Int):=by have:=Hz.out;omega
    clear aad VU Ak qf NN aae hm Aj
    by_cases FK:m<l.length
    ·have hm1:¬(s.size:Int)≤(m:Int):=by have:=Hz.out;omega
     have rq:(m:Int)<(s.size:Int):=by have:=Hz.out;omega
     have VW:m<s.size:=by have:=Hz.out;omega
     have hm0:(0:Int)≤(m:Int):=by omega
     obtain ⟨d,hd⟩:∃d,l[m]'FK=d:=⟨_,rfl⟩
     have NL:s[m]'VW=d:=by rw [Hg.out m VW FK];exact hd
     have Al:(l.drop m).head? =some d:=by rw [List.drop_eq_getElem_cons FK,hd];rfl
     have R_:=aa Al
     clear hd Al
     by_cases vC:d=46
     ·subst vC
      have HN:=aa (show R=(gz (l.drop (m+1))).map (fun q=>((T++oU++[46])++q.1,(m+1)+q.2)) by rw [HNx.out,if_pos R_.out])
      have y46:∀W:World,(Op.stringOp .add (ae (T++oU)) ⟨#[46]⟩).run Tryz.prog W=.ok (.string (ae (T++oU++[46]))) W:=fun W=>nx (T++oU) [46] (by have:=HTl.out;rw [List.length_singleton];omega) W
      have hwm:IntKind.i64.wrap ((m:Int)+1)=(m:Int)+1:=IntWalk.i64_in _ (by omega)
      go_wp2_with fail
      refine FI.out.mono ?_
      rintro e wr ⟨rfl,rfl⟩
      go_wp2_with fail
      refine Y_.out.mono ?_
      rintro e w2 ⟨rfl,hb2⟩
      have H2:=aa (And.intro (H.out.1.trans (hb2.mono H.out.1.size)) (show ZW w2 w.heap.size from H.out.2.below hb2 H.out.2.lt))
      clear hb2
      go_wp2
      go_roundg (l.length+2-(m+1))
      case measure=>have:=Hga.out;omega
      case rel=>exact ⟨m+1,T++oU++[46],by first|rfl|(simp only [List.append_assoc])|simp,by go_num,by omega,by first|rfl|omega,by have:=HTl.out;rw [List.length_append,List.length_singleton];omega,HN.out,H2.out.1,H2.out.2⟩
     ·have NP:((d.toNat:Int)==46)=false:=az (d:=46) vC
      have aaf:((d.toNat:Int) !=46)=true:=by rw [bne,NP];rfl
      have HN:=aa (show R=some (T++oU,m) by rw [HNx.out,if_neg (by rw [R_.out];intro e;exact vC (Option.some.inj e))])
      clear vC
      go_wp2_with fail
      refine FI.out.mono ?_
      rintro e wr ⟨rfl,rfl⟩
      go_wp2_with fail
      refine Y_.out.mono ?_
      rintro e w2 ⟨rfl,hb2⟩
      have H2:=aa (And.intro (H.out.1.trans (hb2.mono H.out.1.size)) (show ZW w2 w.heap.size from H.out.2.below hb2 H.out.2.lt))
      clear hb2
      go_wp2_with fail
      refine (fD 0 _ (T++oU) _).mono ?_
      rintro e w9 ⟨rfl,gW⟩
      have r9:ZW w9 w.heap.size:=H2.out.2.below gW H2.out.2.lt
      have B9:=aa (H2.out.1.trans (gW.mono H2.out.1.size))
      have R9:=aa r9
      have c0:=r9.cell 0
      have c1:=r9.cell 1
      have c2:=r9.cell 2
      have c3:=r9.cell 3
      have c4:=r9.cell 4
      have f0:=r9.frozen 0
      have f1:=r9.frozen 1
      have f2:=r9.frozen 2
      have f3:=r9.frozen 3
      have f4:=r9.frozen 4
      clear r9 gW
      go_wp2
      refine bodyPost_ret (v:=.agg #[.int .i64 0,.string (ae (T++oU)),.int .i64 0,.int .i64 (m:Int),.int .i64 0]) (ag rfl _ _ w.heap.size 85 _ _ _ rfl (R9.out.put _ _ _ _ _) Tryz.underlying85 rfl (by kernel_rfl)) rfl ?_
      rw [Dj.out,HN.out]
      exact ⟨rfl,cH B9.out (Nat.le_refl _) _ _ _ _ _⟩
    ·have hm1:(s.size:Int)≤(m:Int):=by have:=Hz.out;omega
     have rq:¬(m:Int)<(s.size:Int):=by have:=Hz.out;omega
     have HN:=aa (show R=some (T++oU,m) by rw [HNx.out,if_neg (by rw [List.drop_eq_nil_of_le (by omega)];intro e;cases e)])
     go_wp2_with fail
     refine FI.out.mono ?_
     rintro e wr ⟨rfl,rfl⟩
     go_wp2_with fail
     refine Y_.out.mono ?_
     rintro e w2 ⟨rfl,hb2⟩
     have H2:=aa (And.intro (H.out.1.trans (hb2.mono H.out.1.size)) (show ZW w2 w.heap.size from H.out.2.below hb2 H.out.2.lt))
     clear hb2
     go_wp2_with fail
     refine (fD 0 _ (T++oU) _).mono ?_
     rintro e w9 ⟨rfl,gW⟩
     have r9:ZW w9 w.heap.size:=H2.out.2.below gW H2.out.2.lt
     have B9:=aa (H2.out.1.trans (gW.mono H2.out.1.size))
     have R9:=aa r9
     have c0:=r9.cell 0
     have c1:=r9.cell 1
     have c2:=r9.cell 2
     have c3:=r9.cell 3
     have c4:=r9.cell 4
     have f0:=r9.frozen 0
     have f1:=r9.frozen 1
     have f2:=r9.frozen 2
     have f3:=r9.frozen 3
     have f4:=r9.frozen 4
     clear r9 gW
     go_wp2
     refine bodyPost_ret (v:=.agg #[.int .i64 0,.string (ae (T++oU)),.int .i64 0,.int .i64 (m:Int),.int .i64 0]) (ag rfl _ _ w.heap.size 85 _ _ _ rfl (R9.out.put _ _ _ _ _) Tryz.underlying85 rfl (by kernel_rfl)) rfl ?_
     rw [Dj.out,HN.out]
     exact ⟨rfl,cH B9.out (Nat.le_refl _) _ _ _ _ _⟩
   |false=>
    rw [Aj] at FI
    by_cases G9:c=92
    ·subst G9
     have hsp:=dz qc (l.drop (a+1))
     rw [List.length_drop] at hsp
     obtain ⟨n1,yi⟩:∃n1,aQ qc (l.drop (a+1))=n1:=⟨_,rfl⟩
     have RPa:=aa (show Calls Tryz.prog 117 #[.string s,.int .i64 ((a:Int)+1),.func (.func 155) #[] #[]] wr fun e w'=>e=.returned (.int .i64 ((a+1+n1:Nat):Int))∧Below wr.heap.size wr w' by
      have:=RP.out (a+1) wr (by omega)
      rw [yi] at this
      rwa [show ((a+1:Nat):Int)=(a:Int)+1 by omega] at this)
     have hwa:IntKind.i64.wrap ((a:Int)+1)=(a:Int)+1:=IntWalk.i64_in _ (by omega)
     obtain ⟨m1,hm1⟩:∃m1,a+1+n1=m1:=⟨_,rfl⟩
     rw [hm1] at RPa
     have FN:=aa (And.intro hm1 (And.intro yi hsp))
     rw [yi] at hsp
     clear hm1 yi
     by_cases hz1:n1=0
     ·have ee:((m1:Int)==(a:Int)+1)=true:=by rw [beq_iff_eq];have:=FN.out.1;omega
      have hn:R=none:=by
       rw [RZ.out,eE,HD.out]
       have:fk (92::l.drop (a+1))=none:=by rw [fk,if_neg (by rw [Aj];decide),if_pos rfl,if_pos (by rw [FN.out.2.1];exact hz1)]
       rw [this];rfl
      have Hn:=aa hn
      clear hn hz1 Aj
      go_wp2_with fail
      refine FI.out.mono ?_
      rintro e wr ⟨rfl,rfl⟩
      go_wp2_with fail
      refine RPa.out.mono ?_
      rintro e w2 ⟨rfl,hb2⟩
      have H2:=aa (And.intro (H.out.1.trans (hb2.mono H.out.1.size)) (show ZW w2 w.heap.size from H.out.2.below hb2 H.out.2.lt))
      clear hb2
      go_wp2_with fail
      refine (cL 3 _).mono ?_
      rintro e w9 ⟨rfl,gW⟩
      have r9:ZW w9 w.heap.size:=H2.out.2.below gW H2.out.2.lt
      have B9:=aa (H2.out.1.trans (gW.mono H2.out.1.size))
      have R9:=aa r9
      have c0:=r9.cell 0
      have c1:=r9.cell 1
      have c2:=r9.cell 2
      have c3:=r9.cell 3
      have c4:=r9.cell 4
      have f0:=r9.frozen 0
      have f1:=r9.frozen 1
      have f2:=r9.frozen 2
      have f3:=r9.frozen 3
      have f4:=r9.frozen 4
      clear r9 gW
      go_wp2
      refine bodyPost_ret (v:=.agg #[.int .i64 0,.string ⟨#[]⟩,.int .i64 0,.int .i64 0,.int .i64 3]) (ag rfl _ _ w.heap.size 85 _ _ _ rfl (R9.out.put _ _ _ _ _) Tryz.underlying85 rfl (by kernel_rfl)) rfl ?_
      rw [Dj.out,Hn.out]
      exact ⟨rfl,cH B9.out (Nat.le_refl _) _ _ _ _ _⟩
     ·have ee:((m1:Int)==(a:Int)+1)=false:=beq_eq_false_iff_ne.2 (by have:=FN.out.1;omega)
      have ham:(a:Int)≤(m1:Int):=by have:=FN.out.1;omega
      by_cases Sa:m1<l.length
      ·have UY:(m1:Int)<(s.size:Int):=by have:=Hz.out;omega
       have hqs:m1<s.size:=by have:=Hz.out;omega
       have zZ:(0:Int)≤(m1:Int):=by omega
       have VV:(m1:Int)≤(s.size:Int):=by omega
       obtain ⟨d1,DF⟩:∃d,l[m1]'Sa=d:=⟨_,rfl⟩
       have aby:s[m1]'hqs=d1:=by rw [Hg.out m1 hqs Sa];exact DF
       have hr1:(l.drop (a+1)).drop n1=d1::l.drop (m1+1):=by
        rw [List.drop_drop,FN.out.1,List.drop_eq_getElem_cons Sa,DF]
       have gJ:=aa hr1
       have BL:=aa (fun W:World=>s6 d1 W)
       clear DF hr1
       cases hbl:Di d1 with
       |false=>
        rw [hbl] at BL
        have hn:R=none:=by
         rw [RZ.out,eE,HD.out]
         have:fk (92::l.drop (a+1))=none:=by
          rw [fk,if_neg (by rw [Aj];decide),if_pos rfl,FN.out.2.1,if_neg hz1,gJ.out]
          simp only
          rw [if_neg (by rw [hbl];decide)]
         rw [this];rfl
        have Hn:=aa hn
        clear hn hbl Aj hz1
        go_wp2_with fail
        refine FI.out.mono ?_
        rintro e wr ⟨rfl,rfl⟩
        go_wp2_with fail
        refine RPa.out.mono ?_
        rintro e w2 ⟨rfl,hb2⟩
        have H2:=aa (And.intro (H.out.1.trans (hb2.mono H.out.1.size)) (show ZW w2 w.heap.size from H.out.2.below hb2 H.out.2.lt))
        clear hb2
        go_wp2_with fail
        refine (BL.out _).mono ?_
        rintro e w2 ⟨rfl,rfl⟩
        go_wp2_with fail
        refine (cL 3 _).mono ?_
        rintro e w9 ⟨rfl,gW⟩
        have r9:ZW w9 w.heap.size:=H2.out.2.below gW H2.out.2.lt
        have B9:=aa (H2.out.1.trans (gW.mono H2.out.1.size))
        have R9:=aa r9
        have c0:=r9.cell 0
        have c1:=r9.cell 1
        have c2:=r9.cell 2
        have c3:=r9.cell 3
        have c4:=r9.cell 4
        have f0:=r9.frozen 0
        have f1:=r9.frozen 1
        have f2:=r9.frozen 2
        have f3:=r9.frozen 3
        have f4:=r9.frozen 4
        clear r9 gW
        go_wp2
        refine bodyPost_ret (v:=.agg #[.int .i64 0,.string ⟨#[]⟩,.int .i64 0,.int .i64 0,.int .i64 3]) (ag rfl _ _ w.heap.size 85 _ _ _ rfl (R9.out.put _ _ _ _ _) Tryz.underlying85 rfl (by kernel_rfl)) rfl ?_
        rw [Dj.out,Hn.out]
        exact ⟨rfl,cH B9.out (Nat.le_refl _) _ _ _ _ _⟩
       |true=>
        rw [hbl] at BL
        obtain ⟨raw,Sb⟩:∃raw,(l.drop a).take (m1-a)=raw:=⟨_,rfl⟩
        have Kq:raw=92::(l.drop (a+1)).take n1:=by
         rw [←Sb,HD.out,show m1-a=n1+1 by have:=FN.out.1;omega];rfl
        have hrl:raw.length≤n1+1:=by rw [Kq,List.length_cons];have:=List.length_take_le n1 (l.drop (a+1));omega
        have x1:s.extract a m1=ae raw:=by rw [Hx.out,Sb]
        have y1:∀W:World,(Op.stringOp .add (ae T) (ae raw)).run Tryz.prog W=.ok (.string (ae (T++raw))) W:=fun W=>nx T raw (by omega) W
        have y32:∀W:World,(Op.stringOp .add (ae (T++raw)) ⟨#[32]⟩).run Tryz.prog W=.ok (.string (ae (T++raw++[32]))) W:=fun W=>nx (T++raw) [32] (by rw [List.length_append,List.length_singleton];omega) W
        have Ak:fk (l.drop a)=some (raw++(if (l.drop (m1+1)).head? =some 46 then [32] else []),n1+2):=by
         rw [HD.out,fk,if_neg (by rw [Aj];decide),if_pos rfl,FN.out.2.1,if_neg hz1,gJ.out]
         simp only
         rw [if_pos hbl,Kq]
        have qf:=qd RZ.out Ak
        rw [show a+(n1+2)=m1+1 by have:=FN.out.1;omega] at qf
        have abz:IntKind.i64.wrap ((m1:Int)+1)=(m1:Int)+1:=IntWalk.i64_in _ (by omega)
        have HTr:=aa (show (T++raw).length+1≤2*(m1+1) by rw [List.length_append];have:=FN.out.1;omega)
        have Sc:=aa qf
        clear Ak Sb Kq hrl hbl qf Aj hz1
        by_cases hmm:m1+1<l.length
        ·have VX:¬(s.size:Int)≤(m1:Int)+1:=by have:=Hz.out;omega
         have rq:(m1:Int)+1<(s.size:Int):=by have:=Hz.out;omega
         have VW:m1+1<s.size:=by have:=Hz.out;omega
         have hm0:(0:Int)≤(m1:Int)+1:=by omega
         have hmt:((m1:Int)+1).toNat=m1+1:=by omega
         obtain ⟨d,hd⟩:∃d,l[m1+1]'hmm=d:=⟨_,rfl⟩
         have NL:s[m1+1]'VW=d:=by rw [Hg.out (m1+1) VW hmm];exact hd
         have Al:(l.drop (m1+1)).head? =some d:=by rw [List.drop_eq_getElem_cons hmm,hd];rfl
         have R_:=aa Al
         clear hd Al
         by_cases vC:d=46
         ·subst vC
          have HN:=aa (show R=(gz (l.drop (m1+1+1))).map (fun q=>((T++raw++[32]++[46])++q.1,(m1+1+1)+q.2)) by rw [Sc.out,if_pos R_.out,if_pos R_.out,←List.append_assoc T raw [32]])
          have y46:∀W:World,(Op.stringOp .add (ae (T++raw++[32])) ⟨#[46]⟩).run Tryz.prog W=.ok (.string (ae (T++raw++[32]++[46]))) W:=fun W=>nx (T++raw++[32]) [46] (by have:=HTr.out;rw [List.length_append,List.length_singleton,List.length_singleton];omega) W
          have hwm:IntKind.i64.wrap ((m1:Int)+1+1)=(m1:Int)+1+1:=IntWalk.i64_in _ (by omega)
          obtain ⟨T2,hT2⟩:∃T2,T++raw++[32]++[46]=T2:=⟨_,rfl⟩
          obtain ⟨T3,Sd⟩:∃T3,T++raw++[32]=T3:=⟨_,rfl⟩
          obtain ⟨T4,hT4⟩:∃T4,T++raw=T4:=⟨_,rfl⟩
          rw [hT2] at y46 HN
          rw [Sd] at y46 y32
          rw [hT4] at y32 y1
          have Am:=aa (show T2.length≤2*(m1+1+1) by rw [←hT2,List.length_append,List.length_append,List.length_singleton,List.length_singleton];have:=HTr.out;omega)
          clear hT2 Sd hT4
          go_wp2_with fail
          refine FI.out.mono ?_
          rintro e wr ⟨rfl,rfl⟩
          go_wp2_with fail
          refine RPa.out.mono ?_
          rintro e w2 ⟨rfl,hb2⟩
          have H2:=aa (And.intro (H.out.1.trans (hb2.mono H.out.1.size)) (show ZW w2 w.heap.size from H.out.2.below hb2 H.out.2.lt))
          clear hb2
          go_wp2_with fail
          refine (BL.out _).mono ?_
          rintro e w2 ⟨rfl,rfl⟩
          go_wp2
          go_roundg (l.length+2-(m1+1+1))
          case measure=>have:=Hga.out;have:=FN.out.1;omega
          case rel=>exact ⟨m1+1+1,T2,rfl,by go_num,by omega,by first|rfl|omega,Am.out,HN.out,H2.out.1,H2.out.2⟩
         ·have NP:((d.toNat:Int)==46)=false:=az (d:=46) vC
          have aaf:((d.toNat:Int) !=46)=true:=by rw [bne,NP];rfl
          have HN:=aa (show R=some (T++raw,m1+1) by rw [Sc.out,if_neg (by rw [R_.out];intro e;exact vC (Option.some.inj e)),if_neg (by rw [R_.out];intro e;exact vC (Option.some.inj e)),List.append_nil])
          clear vC
          go_wp2_with fail
          refine FI.out.mono ?_
          rintro e wr ⟨rfl,rfl⟩
          go_wp2_with fail
          refine RPa.out.mono ?_
          rintro e w2 ⟨rfl,hb2⟩
          have H2:=aa (And.intro (H.out.1.trans (hb2.mono H.out.1.size)) (show ZW w2 w.heap.size from H.out.2.below hb2 H.out.2.lt))
          clear hb2
          go_wp2_with fail
          refine (BL.out _).mono ?_
          rintro e w2 ⟨rfl,rfl⟩
          go_wp2_with fail
          refine (fD 0 _ (T++raw) _).mono ?_
          rintro e w9 ⟨rfl,gW⟩
          have r9:ZW w9 w.heap.size:=H2.out.2.below gW H2.out.2.lt
          have B9:=aa (H2.out.1.trans (gW.mono H2.out.1.size))
          have R9:=aa r9
          have c0:=r9.cell 0
          have c1:=r9.cell 1
          have c2:=r9.cell 2
          have c3:=r9.cell 3
          have c4:=r9.cell 4
          have f0:=r9.frozen 0
          have f1:=r9.frozen 1
          have f2:=r9.frozen 2
          have f3:=r9.frozen 3
          have f4:=r9.frozen 4
          clear r9 gW
          go_wp2
          refine bodyPost_ret (v:=.agg #[.int .i64 0,.string (ae (T++raw)),.int .i64 0,.int .i64 ((m1:Int)+1),.int .i64 0]) (ag rfl _ _ w.heap.size 85 _ _ _ rfl (R9.out.put _ _ _ _ _) Tryz.underlying85 rfl (by kernel_rfl)) rfl ?_
          rw [Dj.out,HN.out]
          exact ⟨rfl,cH B9.out (Nat.le_refl _) _ _ _ _ _⟩
        ·have VX:(s.size:Int)≤(m1:Int)+1:=by have:=Hz.out;omega
         have rq:¬(m1:Int)+1<(s.size:Int):=by have:=Hz.out;omega
         have hnil:l.drop (m1+1)=[]:=List.drop_eq_nil_of_le (by omega)
         have HN:=aa (show R=some (T++raw,m1+1) by rw [Sc.out,hnil,if_neg (by intro e;cases e),if_neg (by intro e;cases e),List.append_nil])
         clear hnil
         go_wp2_with fail
         refine FI.out.mono ?_
         rintro e wr ⟨rfl,rfl⟩
         go_wp2_with fail
         refine RPa.out.mono ?_
         rintro e w2 ⟨rfl,hb2⟩
         have H2:=aa (And.intro (H.out.1.trans (hb2.mono H.out.1.size)) (show ZW w2 w.heap.size from H.out.2.below hb2 H.out.2.lt))
         clear hb2
         go_wp2_with fail
         refine (BL.out _).mono ?_
         rintro e w2 ⟨rfl,rfl⟩
         go_wp2_with fail
         refine (fD 0 _ (T++raw) _).mono ?_
         rintro e w9 ⟨rfl,gW⟩
         have r9:ZW w9 w.heap.size:=H2.out.2.below gW H2.out.2.lt
         have B9:=aa (H2.out.1.trans (gW.mono H2.out.1.size))
         have R9:=aa r9
         have c0:=r9.cell 0
         have c1:=r9.cell 1
         have c2:=r9.cell 2
         have c3:=r9.cell 3
         have c4:=r9.cell 4
         have f0:=r9.frozen 0
         have f1:=r9.frozen 1
         have f2:=r9.frozen 2
         have f3:=r9.frozen 3
         have f4:=r9.frozen 4
         clear r9 gW
         go_wp2
         refine bodyPost_ret (v:=.agg #[.int .i64 0,.string (ae (T++raw)),.int .i64 0,.int .i64 ((m1:Int)+1),.int .i64 0]) (ag rfl _ _ w.heap.size 85 _ _ _ rfl (R9.out.put _ _ _ _ _) Tryz.underlying85 rfl (by kernel_rfl)) rfl ?_
         rw [Dj.out,HN.out]
         exact ⟨rfl,cH B9.out (Nat.le_refl _) _ _ _ _ _⟩
      ·have UY:¬(m1:Int)<(s.size:Int):=by have:=Hz.out;omega
       have FK:m1=l.length:=by have:=FN.out.1;omega
       have VV:(m1:Int)≤(s.size:Int):=by have:=Hz.out;omega
       have VX:(s.size:Int)≤(m1:Int):=by have:=Hz.out;omega
       have x1:s.extract a m1=ae (l.drop a):=by rw [Hx.out,List.take_of_length_le (by rw [List.length_drop];omega)]
       have y1:∀W:World,(Op.stringOp .add (ae T) (ae (l.drop a))).run Tryz.prog W=.ok (.string (ae (T++l.drop a))) W:=fun W=>nx T (l.drop a) (by rw [List.length_drop];omega) W
       have hr1:(l.drop (a+1)).drop n1=[]:=by rw [List.drop_drop,FN.out.1];exact List.drop_eq_nil_of_le (by omega)
       have Ak:fk (l.drop a)=some (l.drop a,(l.drop (a+1)).length+1):=by
        rw [HD.out,fk,if_neg (by rw [Aj];decide),if_pos rfl,FN.out.2.1,if_neg hz1,hr1]
       have qf:=qd RZ.out Ak
       rw [show a+((l.drop (a+1)).length+1)=m1 by rw [List.length_drop];omega] at qf
       have HN:=aa (show R=some (T++l.drop a,m1) by rw [qf,if_neg (by rw [List.drop_eq_nil_of_le (by omega)];intro e;cases e)])
       generalize l.drop a=oU at*
       have abA:=aa FK
       clear Ak qf hr1 Aj hz1 FK
       go_wp2_with fail
       refine FI.out.mono ?_
       rintro e wr ⟨rfl,rfl⟩
       go_wp2_with fail
       refine RPa.out.mono ?_
       rintro e w2 ⟨rfl,hb2⟩
       have H2:=aa (And.intro (H.out.1.trans (hb2.mono H.out.1.size)) (show ZW w2 w.heap.size from H.out.2.below hb2 H.out.2.lt))
       clear hb2
       go_wp2_with fail
       refine (fD 0 _ (T++oU) _).mono ?_
       rintro e w9 ⟨rfl,gW⟩
       have r9:ZW w9 w.heap.size:=H2.out.2.below gW H2.out.2.lt
       have B9:=aa (H2.out.1.trans (gW.mono H2.out.1.size))
       have R9:=aa r9
       have c0:=r9.cell 0
       have c1:=r9.cell 1
       have c2:=r9.cell 2
       have c3:=r9.cell 3
       have c4:=r9.cell 4
       have f0:=r9.frozen 0
       have f1:=r9.frozen 1
       have f2:=r9.frozen 2
       have f3:=r9.frozen 3
       have f4:=r9.frozen 4
       clear r9 gW
       go_wp2
       refine bodyPost_ret (v:=.agg #[.int .i64 0,.string (ae (T++oU)),.int .i64 0,.int .i64 (m1:Int),.int .i64 0]) (ag rfl _ _ w.heap.size 85 _ _ _ rfl (R9.out.put _ _ _ _ _) Tryz.underlying85 rfl (by kernel_rfl)) rfl ?_
       rw [Dj.out,HN.out]
       exact ⟨rfl,cH B9.out (Nat.le_refl _) _ _ _ _ _⟩
    ·have e92:((c.toNat:Int)==92)=false:=az (d:=92) G9
     have hn:R=none:=by
      rw [RZ.out,eE,HD.out]
      have:fk (c::l.drop (a+1))=none:=by rw [fk,if_neg (by rw [Aj];decide),if_neg G9]
      rw [this];rfl
     have Hn:=aa hn
     clear Aj G9 hn
     go_wp2_with fail
     refine FI.out.mono ?_
     rintro e wr ⟨rfl,rfl⟩
     go_wp2_with fail
     refine (cL 3 _).mono ?_
     rintro e w9 ⟨rfl,gW⟩
     have r9:ZW w9 w.heap.size:=H.out.2.below gW H.out.2.lt
     have B9:=aa (H.out.1.trans (gW.mono H.out.1.size))
     have R9:=aa r9
     have c0:=r9.cell 0
     have c1:=r9.cell 1
     have c2:=r9.cell 2
     have c3:=r9.cell 3
     have c4:=r9.cell 4
     have f0:=r9.frozen 0
     have f1:=r9.frozen 1
     have f2:=r9.frozen 2
     have f3:=r9.frozen 3
     have f4:=r9.frozen 4
     clear r9 gW
     go_wp2
     refine bodyPost_ret (v:=.agg #[.int .i64 0,.string ⟨#[]⟩,.int .i64 0,.int .i64 0,.int .i64 3]) (ag rfl _ _ w.heap.size 85 _ _ _ rfl (R9.out.put _ _ _ _ _) Tryz.underlying85 rfl (by kernel_rfl)) rfl ?_
     rw [Dj.out,Hn.out]
     exact ⟨rfl,cH B9.out (Nat.le_refl _) _ _ _ _ _⟩
  ·have ha':¬(a:Int)<(s.size:Int):=by have:=Hz.out;omega
   have hn:R=none:=by
    rw [RZ.out,List.drop_eq_nil_of_le (by omega),eE];rfl
   have Hn:=aa hn
   clear hn
   go_wp2_with fail
   refine (cL 3 _).mono ?_
   rintro e w9 ⟨rfl,gW⟩
   have r9:ZW w9 w.heap.size:=H.out.2.below gW H.out.2.lt
   have B9:=aa (H.out.1.trans (gW.mono H.out.1.size))
   have R9:=aa r9
   have c0:=r9.cell 0
   have c1:=r9.cell 1
   have c2:=r9.cell 2
   have c3:=r9.cell 3
   have c4:=r9.cell 4
   have f0:=r9.frozen 0
   have f1:=r9.frozen 1
   have f2:=r9.frozen 2
   have f3:=r9.frozen 3
   have f4:=r9.frozen 4
   clear r9 gW
   go_wp2
   refine bodyPost_ret (v:=.agg #[.int .i64 0,.string ⟨#[]⟩,.int .i64 0,.int .i64 0,.int .i64 3]) (ag rfl _ _ w.heap.size 85 _ _ _ rfl (R9.out.put _ _ _ _ _) Tryz.underlying85 rfl (by kernel_rfl)) rfl ?_
   rw [Dj.out,Hn.out]
   exact ⟨rfl,cH B9.out (Nat.le_refl _) _ _ _ _ _⟩
theorem s9 {P:Program} (w:World) (QG kt et:TypeId) (d:TypeDesc) (r clock:Nat) (es:Array MapEntry) (x val:Value)
 (hm:P.underlying QG=some (.map kt et)) (hk:P.underlying kt=some d) (hx:MapKept.IsKey d x) (hb:w.heap[r]? =some (.map es clock)) (hf:Instr.findNow d x es.toList 0=some none):
 ∃w',(Instr.mapUpdate QG (.map (some r)) x val).run P w=.ok () w'∧w'.heap[r]? =some (.map (es.push {key:=x,val:=val,born:=clock}) (clock+1))∧∀B,B≤r→RowKit.Below B w w':=by
 have hc:(Instr.checkKey false 10000 kt x).run P w=.ok () w:=MapKept.run_checkKey (k:=x) hk hx false 9999
 refine ⟨{w with heap:=w.heap.setIfInBounds r (.map (es.push {key:=x,val:=val,born:=clock}) (clock+1))},by simp [Instr.mapUpdate,run_underlying hm,MapKept.run_getObj_map hb,hc,MapKept.run_findKey hk hf,MapKept.run_setObj_map _ hb,Result.andThen],(MapKept.heap_set hb).1,fun B hB=>⟨rfl,rfl,rfl,by simp,fun k hk2=>(MapKept.heap_set hb).2 k (by omega)⟩⟩
theorem Ao {P:Program} (w:World) (QG kt et:TypeId) (d:TypeDesc) (r clock:Nat) (es:Array MapEntry) (x:Value) (i:Nat) (v:Value) (ok:Bool)
 (hm:P.underlying QG=some (.map kt et)) (hk:P.underlying kt=some d) (hx:MapKept.IsKey d x) (hb:w.heap[r]? =some (.map es clock)) (hf:Instr.findNow d x es.toList 0=some (some (i,v))):
 (Instr.lookup QG (.map (some r)) x ok).run P w=.ok (if ok then .tuple #[v,.bool true] else v) w:=by
 have hc:(Instr.checkKey es.isEmpty 10000 kt x).run P w=.ok () w:=MapKept.run_checkKey (k:=x) hk hx es.isEmpty 9999
 cases ok<;>simp [Instr.lookup,run_underlying hm,MapKept.run_getObj_map hb,hc,MapKept.run_findKey hk hf]
theorem th {P:Program} (w:World) (QG kt et:TypeId) (d:TypeDesc) (r clock:Nat) (es:Array MapEntry) (x:Value) (z:Value) (ok:Bool)
 (hm:P.underlying QG=some (.map kt et)) (hk:P.underlying kt=some d) (hx:MapKept.IsKey d x) (hb:w.heap[r]? =some (.map es clock)) (hf:Instr.findNow d x es.toList 0=some none)
 (hz:(zeroValue et).run P w=.ok z w):
 (Instr.lookup QG (.map (some r)) x ok).run P w=.ok (if ok then .tuple #[z,.bool false] else z) w:=by
 have hc:(Instr.checkKey es.isEmpty 10000 kt x).run P w=.ok () w:=MapKept.run_checkKey (k:=x) hk hx es.isEmpty 9999
 cases ok<;>simp [Instr.lookup,run_underlying hm,MapKept.run_getObj_map hb,hc,MapKept.run_findKey hk hf,hz,Result.andThen]
def Kr:Array MapEntry:=#[{key:=.int .u8 98,val:=.int .i64 1,born:=0},{key:=.int .u8 111,val:=.int .i64 3,born:=1},{key:=.int .u8 104,val:=.int .i64 4,born:=2},{key:=.int .u8 100,val:=.int .i64 0,born:=3}]
def oV (w:World) (r:Nat):Prop:=w.heap[r]? =some (.map Kr 4)
theorem qg (w:World):Calls Tryz.prog 187 #[] w fun e w'=>e=.returned (.map (some w.heap.size))∧oV w' w.heap.size∧Below w.heap.size w w':=by
 have hmm:=@run_makeMap Tryz.prog
 have hb0:(w.alloc (.map #[] 0)).heap[w.heap.size]? =some (.map #[] 0):=(MapKept.heap_alloc w _).1
 obtain ⟨W1,r1,hb1,b1⟩:=s9 _ _ _ _ _ _ _ _ (.int .u8 98) (.int .i64 1) Tryz.underlying161 Tryz.underlying5 rfl hb0 rfl
 obtain ⟨W2,r2,hb2,b2⟩:=s9 _ _ _ _ _ _ _ _ (.int .u8 111) (.int .i64 3) Tryz.underlying161 Tryz.underlying5 rfl hb1 rfl
 obtain ⟨W3,r3,hb3,b3⟩:=s9 _ _ _ _ _ _ _ _ (.int .u8 104) (.int .i64 4) Tryz.underlying161 Tryz.underlying5 rfl hb2 rfl
 obtain ⟨W4,r4,hb4,b4⟩:=s9 _ _ _ _ _ _ _ _ (.int .u8 100) (.int .i64 0) Tryz.underlying161 Tryz.underlying5 rfl hb3 rfl
 have B:=(((((Below.refl w.heap.size w).alloc (Nat.le_refl _) _).trans (b1 _ (Nat.le_refl _))).trans (b2 _ (Nat.le_refl _))).trans (b3 _ (Nat.le_refl _))).trans (b4 _ (Nat.le_refl _))
 go_enter Tryz.func187,Tryz.ntmps187
 go_wp2
 go_ret
 exact ⟨rfl,hb4,B⟩
theorem VY (w:World):(zeroValue 3).run Tryz.prog w=.ok (.int .i64 0) w:=by kernel_rfl
theorem mR (w:World) (r:Nat) (h:oV w r) (b:UInt8) (ok:Bool):
 (Instr.lookup 161 (.map (some r)) (.int .u8 b.toNat) ok).run Tryz.prog w=.ok (if ok then .tuple #[.int .i64 (((dH b).getD 0:Nat):Int),.bool (dH b).isSome] else .int .i64 (((dH b).getD 0:Nat):Int)) w:=by
 by_cases h1:b=98
 ·subst h1;exact Ao w _ _ _ _ r _ _ _ 0 _ ok Tryz.underlying161 Tryz.underlying5 rfl h rfl
 by_cases h2:b=111
 ·subst h2;exact Ao w _ _ _ _ r _ _ _ 1 _ ok Tryz.underlying161 Tryz.underlying5 rfl h rfl
 by_cases h3:b=104
 ·subst h3;exact Ao w _ _ _ _ r _ _ _ 2 _ ok Tryz.underlying161 Tryz.underlying5 rfl h rfl
 by_cases h4:b=100
 ·subst h4;exact Ao w _ _ _ _ r _ _ _ 3 _ ok Tryz.underlying161 Tryz.underlying5 rfl h rfl
 have hn:dH b=none:=by unfold dH;rw [if_neg h1,if_neg h2,if_neg h3,if_neg h4]
 rw [hn]
 refine th w _ _ _ _ r _ _ _ _ ok Tryz.underlying161 Tryz.underlying5 rfl h ?_ (VY w)
 have g (c:UInt8) (k:Nat) (hk:c.toNat=k) (h:¬b=c):((b.toNat:Int)==(k:Int))=false:=beq_eq_false_iff_ne.2 fun e=>h (UInt8.toNat_inj.1 (by omega))
 have e1:=g _ 98 rfl h1
 have e2:=g _ 111 rfl h2
 have e3:=g _ 104 rfl h3
 have e4:=g _ 100 rfl h4
 simp only [Int.cast_ofNat_Int] at e1 e2 e3 e4
 simp [Kr,Instr.findNow,Instr.sameNow,e1,e2,e3,e4]
theorem nT (c:UInt8):-1≤cv c∧cv c≤15:=gH (p:=fun c=> -1≤cv c∧cv c≤15) (by decide+kernel) c
theorem l7 (b:UInt8):(dH b).getD 0=0∨(dH b).getD 0=1∨(dH b).getD 0=3∨(dH b).getD 0=4:=by
 unfold dH
 by_cases h1:b=98
 ·rw [if_pos h1];exact .inr (.inl rfl)
 rw [if_neg h1]
 by_cases h2:b=111
 ·rw [if_pos h2];exact .inr (.inr (.inl rfl))
 rw [if_neg h2]
 by_cases h3:b=104
 ·rw [if_pos h3];exact .inr (.inr (.inr rfl))
 rw [if_neg h3]
 by_cases h4:b=100
 ·rw [if_pos h4];exact .inl rfl
 ·rw [if_neg h4];exact .inl rfl
theorem Om {b c:UInt8} (h1:¬aU c=120) (h2:¬aU c=122) (hb:¬b=100):p_ b c=decide (0≤cv c∧cv c<(2 ^ (dH b).getD 0:Nat)):=by
 unfold p_
 rw [if_neg (by rintro (h|h);exact h1 h;exact h2 h),if_neg hb]
theorem Ap (b c:UInt8) (w:World):Calls Tryz.prog 189 #[.int .u8 (b.toNat:Int),.int .u8 (c.toNat:Int)] w fun e w'=>e=.returned (.bool (p_ b c))∧Below w.heap.size w w':=by
 have JU:=nQ c
 have C1:=aa (gI c)
 have C2:=aa (s7 c)
 have C3:=aa qg
 by_cases h1:aU c=120
 ·have HV:=aa (show p_ b c=true by unfold p_;rw [if_pos (.inl h1)])
  rw [h1] at JU
  clear h1
  go_enter Tryz.func189,Tryz.ntmps189
  go_wp2
  go_ret
  exact ⟨bD HV.out,Below.refl _ _⟩
 by_cases h2:aU c=122
 ·have HV:=aa (show p_ b c=true by unfold p_;rw [if_pos (.inr h2)])
  rw [h2] at JU
  clear h1 h2
  go_enter Tryz.func189,Tryz.ntmps189
  go_wp2
  go_ret
  exact ⟨bD HV.out,Below.refl _ _⟩
 have e1:(((aU c).toNat:Int)==120)=false:=az (d:=120) h1
 have e2:(((aU c).toNat:Int)==122)=false:=az (d:=122) h2
 by_cases hb:b=100
 ·have HV:=aa (show p_ b c=aZ c by unfold p_;rw [if_neg (by rintro (h|h);exact h1 h;exact h2 h),if_pos hb])
  subst hb
  clear h1 h2
  go_enter Tryz.func189,Tryz.ntmps189
  go_wp2_with fail
  refine (C1.out _).mono ?_
  rintro e w1 ⟨rfl,rfl⟩
  go_wp2
  go_ret
  exact ⟨bD HV.out,Below.refl _ _⟩
 have e3:((b.toNat:Int)==100)=false:=az (d:=100) hb
 have HO:=aa (Om h1 h2 hb)
 have hr:=nT c
 by_cases hp:0≤cv c
 ·have K:=aa (mR)
  rcases l7 b with k|k|k|k
  all_goals
   rw [k] at HO
   have L:=aa (fun (W:World) (r:Nat) (h:oV W r)=>show (Instr.lookup 161 (.map (some r)) (.int .u8 b.toNat) false).run Tryz.prog W=.ok (.int .i64 _) W by have:=mR W r h b false;rw [k] at this;exact this)
   clear k h1 h2 hb
   generalize cv c=x at*
   go_enter Tryz.func189,Tryz.ntmps189
   go_wp2_with fail
   refine (C2.out _).mono ?_
   rintro e w1 ⟨rfl,rfl⟩
   go_wp2_with fail
   refine (C3.out _).mono ?_
   rintro e w1 ⟨rfl,hB,b1⟩
   have L1:=L.out _ _ hB
   go_wp2
   all_goals go_ret
   all_goals refine ⟨bD (HO.out.trans ?_),b1⟩
   all_goals exact (decide_eq_decide.2 ⟨fun h=>by have:=h.2;omega,fun h=>⟨hp,by omega⟩⟩)
 ·have HV:=aa (show p_ b c=false by rw [HO.out];exact decide_eq_false (fun h=>hp h.1))
  generalize cv c=x at*
  clear h1 h2 hb
  go_enter Tryz.func189,Tryz.ntmps189
  go_wp2_with fail
  refine (C2.out _).mono ?_
  rintro e w1 ⟨rfl,rfl⟩
  go_wp2
  go_ret
  exact ⟨bD HV.out,Below.refl _ _⟩
theorem ym (b:UInt8) (w:World) (p:Addr) (hp:w.cell? p=some (.int .u8 b.toNat)) (hb:p.block<w.heap.size):Kn w 188 #[.pointer (some p)] (p_ b):=by
 refine ⟨fun W c hB=>?_,fun W c=>jh (by kernel_rfl) W⟩
 have hc:W.cell? p=some (.int .u8 b.toNat):=by rw [hB.cell hb];exact hp
 have C:=aa (Ap b c W)
 show Calls Tryz.prog _ #[.int .u8 (c.toNat:Int),.pointer (some p)] W _
 clear hp hB
 go_enter Tryz.func188,Tryz.ntmps188
 go_wp2_with fail
 refine C.out.mono ?_
 rintro e w1 ⟨rfl,b1⟩
 go_wp2
 go_ret
 exact ⟨rfl,b1⟩
theorem oW {l:List UInt8} {n:Nat} (h:l.length≤n+2):bN l n=0:=by
 unfold bN
 split
 ·next b t e=>
  have:(l.drop n).length=t.length+2:=by rw [e];rfl
  rw [List.length_drop] at this
  rw [if_pos (.inl (List.length_eq_zero_iff.1 (by omega)))]
 ·rfl
theorem mS {l:List UInt8} {n:Nat} (h:n+1<l.length):l.drop n=l[n]::l[n+1]::l.drop (n+2):=by
 rw [List.drop_eq_getElem_cons (by omega),List.drop_eq_getElem_cons h]
theorem ru {l:List UInt8} {n:Nat} (h:n<l.length) (hc:l[n]≠39):bN l n=0:=by
 unfold bN
 rw [List.drop_eq_getElem_cons h]
 split
 ·next b t e=>
  rw [List.cons.injEq] at e
  exact absurd e.1 hc
 ·rfl
theorem ry {l:List UInt8} {n:Nat} (h:n+1<l.length) (hb:dH (aU l[n+1])=none∨G3 l[n+1]=false):bN l n=0:=by
 unfold bN
 rw [mS h]
 split
 ·next b t e=>
  rw [List.cons.injEq,List.cons.injEq] at e
  rw [e.2.1] at hb
  rw [if_pos (.inr hb)]
 ·rfl
theorem Aq {l:List UInt8} {n:Nat} (h:n+2<l.length) (h1:l[n]=39) (hb:(dH (aU l[n+1])).isSome=true) (hl:G3 l[n+1]=true):
 bN l n=if aQ (p_ (aU l[n+1])) (l.drop (n+2))=0 then 0 else n+2+aQ (p_ (aU l[n+1])) (l.drop (n+2)):=by
 unfold bN
 rw [mS (by omega),h1]
 simp only
 rw [if_neg]
 rintro (h3|h3|h3)
 ·rw [List.drop_eq_nil_iff] at h3;omega
 ·rw [h3] at hb;cases hb
 ·rw [h3] at hl;cases hl
theorem fy {w w1:World} {v:Value} {t:TypeId} (b1:Below (w.alloc (.cells #[v] t)).drew.heap.size (w.alloc (.cells #[v] t)).drew w1):
 w1.cell? ⟨w.heap.size,0,none⟩=some v∧Below w.heap.size w w1∧w.heap.size<w1.heap.size:=by
 have h:(w.alloc (.cells #[v] t)).drew.heap.size=w.heap.size+1:=by simp
 refine ⟨?_,?_,?_⟩
 ·rw [b1.cell (by rw [h];exact Nat.lt_succ_self _)]
  simp
 ·exact ((Below.refl w.heap.size w).alloc (Nat.le_refl _) _).drew.trans (b1.mono (by rw [h];exact Nat.le_succ _))
 ·have:=b1.size;rw [h] at this;exact this
theorem tj (l:List UInt8) (n:Nat) (w:World) (hl:l.length≤100000) (hn:n≤100000):
 Calls Tryz.prog 156 #[.string (ae l),.int .i64 (n:Int)] w fun e w'=>e=.returned (.int .i64 (bN l n:Int))∧Below w.heap.size w w':=by
 have hz:=aD l
 have hg:∀(i:Nat) (h:i<(ae l).size) (h2:i<l.length),(ae l)[i]'h=l[i]:=fun i h h2=>df l i h
 have R:=aa (fun (b:UInt8) (W:World) (p:Addr) (h:W.cell? p=some (.int .u8 b.toNat)) (hb:p.block<W.heap.size)=>l5 l (n+2) 188 #[.pointer (some p)] (p_ b) W (by omega) (by omega) (ym b W p h hb))
 have hw2:IntKind.i64.wrap ((n:Int)+2)=(n:Int)+2:=IntWalk.i64_in _ (by omega)
 have hw1:IntKind.i64.wrap ((n:Int)+1)=(n:Int)+1:=IntWalk.i64_in _ (by omega)
 by_cases h0:l.length≤n+2
 ·have HV:=aa (oW h0)
  generalize ae l=s at*
  have hge:(s.size:Int)≤(n:Int)+2:=by omega
  clear hz hg h0
  go_enter Tryz.func156,Tryz.ntmps156
  go_wp2
  go_ret
  exact ⟨ix (by rw [HV.out];rfl),Below.refl _ _⟩
 have hnl:n<l.length:=by omega
 have Sg:n+1<l.length:=by omega
 by_cases h1:l[n]'hnl=39
 rotate_left
 ·have HV:=aa (ru hnl h1)
  obtain ⟨c,hc⟩:∃c,l[n]'hnl=c:=⟨_,rfl⟩
  rw [hc] at h1
  have e1:((c.toNat:Int)==39)=false:=az (d:=39) h1
  have e2:((c.toNat:Int) !=39)=true:=by rw [bne,e1];rfl
  have hge:¬((ae l).size:Int)≤(n:Int)+2:=by omega
  have hlt:n<(ae l).size:=by omega
  have hsc:(ae l)[n]'hlt=c:=by rw [hg n hlt (by omega),hc]
  generalize ae l=s at*
  have lU:(0:Int)≤(n:Int):=by omega
  have hi':(n:Int)<(s.size:Int):=by omega
  clear hz hg h0 h1 hc
  go_enter Tryz.func156,Tryz.ntmps156
  go_wp2
  go_ret
  exact ⟨ix (by rw [HV.out];rfl),Below.refl _ _⟩
 obtain ⟨d,hd⟩:∃d,l[n+1]'Sg=d:=⟨_,rfl⟩
 have hge:¬((ae l).size:Int)≤(n:Int)+2:=by omega
 have hlt:n<(ae l).size:=by omega
 have G_:n+1<(ae l).size:=by omega
 have hsc:(ae l)[n]'hlt=39:=by rw [hg n hlt (by omega),h1]
 have NL:(ae l)[n+1]'G_=d:=by rw [hg (n+1) G_ (by omega),hd]
 have JU:=nQ d
 have LT:=aa (ri d)
 have C3:=aa qg
 have lU:(0:Int)≤(n:Int):=by omega
 have hi':(n:Int)<((ae l).size:Int):=by omega
 have DI:(0:Int)≤(n:Int)+1:=by omega
 have V0:(n:Int)+1<((ae l).size:Int):=by omega
 have yi:((n:Int)+1).toNat=n+1:=by omega
 have L:=aa (fun (W:World) (r:Nat) (h:oV W r)=>show (Instr.lookup 161 (.map (some r)) (.int .u8 (aU d).toNat) true).run Tryz.prog W=.ok (.tuple #[.int .i64 _,.bool _]) W from mR W r h (aU d) true)
 generalize hk:(((dH (aU d)).getD 0:Nat):Int)=k at*
 clear hk
 cases DJ:(dH (aU d)).isSome with
 |false=>
  rw [DJ] at L
  have HV:=aa (ry (l:=l) (n:=n) Sg (.inl (by rw [hd];exact Option.isSome_eq_false_iff.1 DJ|>Option.isNone_iff_eq_none.1)))
  generalize (aU d)=b at*
  generalize ae l=s at*
  clear hz hg h0 h1 hd DJ
  go_enter Tryz.func156,Tryz.ntmps156
  go_upto_region 4 with fail
  go_region_with (go_at_call 187;refine (C3.out _).mono ?_;rintro e w1 ⟨rfl,hB,b1⟩;have L1:=L.out w1 (w.heap.size+1) (by simpa using hB);have hc5:=(fy b1).1;have Hb:=aa (fy b1).2.1;have hsz:=aa (fy b1).2.2;clear b1 hB)
  all_goals
   go_wp2_with fail
   go_ret
   exact ⟨ix (by rw [HV.out];rfl),Hb.out⟩
 |true=>
  rw [DJ] at L
  cases hlt2:G3 d with
  |false=>
   rw [hlt2] at LT
   have HV:=aa (ry (l:=l) (n:=n) Sg (.inr (by rw [hd];exact hlt2)))
   generalize (aU d)=b at*
   generalize ae l=s at*
   clear hz hg h0 h1 hd DJ hlt2
   go_enter Tryz.func156,Tryz.ntmps156
   go_upto_region 4 with fail
   go_region_with (go_at_call 187;refine (C3.out _).mono ?_;rintro e w1 ⟨rfl,hB,b1⟩;have L1:=L.out w1 (w.heap.size+1) (by simpa using hB);have hc5:=(fy b1).1;have Hb:=aa (fy b1).2.1;have hsz:=aa (fy b1).2.2;clear b1 hB)
   all_goals
    go_wp2_with fail
    refine (LT.out _).mono ?_
    rintro e w2 ⟨rfl,rfl⟩
    go_wp2_with fail
    go_ret
    exact ⟨ix (by rw [HV.out];rfl),Hb.out⟩
  |true=>
   rw [hlt2] at LT
   have HV:=Aq (l:=l) (n:=n) (by omega) h1 (by rw [hd];exact DJ) (by rw [hd];exact hlt2)
   rw [hd] at HV
   have hk3:aQ (p_ (aU d)) (l.drop (n+2))≤100000:=Nat.le_trans (dz _ _) (by rw [List.length_drop];omega)
   have R2:=aa (fun (W:World) (p:Addr) (h:W.cell? p=some (.int .u8 (aU d).toNat)) (hb:p.block<W.heap.size)=>R.out (aU d) W p h hb)
   clear R
   generalize (aU d)=b at*
   generalize ae l=s at*
   generalize aQ (p_ b) (l.drop (n+2))=m at*
   have HV:=aa HV
   clear hz hg h0 h1 hd DJ hlt2
   by_cases hm:m=0
   ·have em:(((n+2+m:Nat):Int)==(n:Int)+2)=true:=by rw [beq_iff_eq];omega
    go_enter Tryz.func156,Tryz.ntmps156
    go_upto_region 4 with fail
    go_region_with (go_at_call 187;refine (C3.out _).mono ?_;rintro e w1 ⟨rfl,hB,b1⟩;have L1:=L.out w1 (w.heap.size+1) (by simpa using hB);have hc5:=(fy b1).1;have Hb:=aa (fy b1).2.1;have hsz:=aa (fy b1).2.2;clear b1 hB)
    all_goals
     go_wp2_with fail
     refine (LT.out _).mono ?_
     rintro e w2 ⟨rfl,rfl⟩
     go_wp2_with fail
     refine (R2.out w2 ⟨w.heap.size,0,none⟩ hc5 hsz.out).mono ?_
     rintro e w2 ⟨rfl,b2⟩
     go_wp2_with fail
     go_ret
     exact ⟨ix (by rw [HV.out,if_pos hm];rfl),Hb.out.trans (b2.mono Hb.out.size)⟩
   ·have em:(((n+2+m:Nat):Int)==(n:Int)+2)=false:=by rw [beq_eq_false_iff_ne];omega
    go_enter Tryz.func156,Tryz.ntmps156
    go_upto_region 4 with fail
    go_region_with (go_at_call 187;refine (C3.out _).mono ?_;rintro e w1 ⟨rfl,hB,b1⟩;have L1:=L.out w1 (w.heap.size+1) (by simpa using hB);have hc5:=(fy b1).1;have Hb:=aa (fy b1).2.1;have hsz:=aa (fy b1).2.2;clear b1 hB)
    all_goals
     go_wp2_with fail
     refine (LT.out _).mono ?_
     rintro e w2 ⟨rfl,rfl⟩
     go_wp2_with fail
     refine (R2.out w2 ⟨w.heap.size,0,none⟩ hc5 hsz.out).mono ?_
     rintro e w2 ⟨rfl,b2⟩
     go_wp2_with fail
     go_ret
     exact ⟨ix (by rw [HV.out,if_neg hm];omega),Hb.out.trans (b2.mono Hb.out.size)⟩
end Go.Proofs.YtddoehnkgcbboaaGreatDoor
namespace Go.Proofs.YtddoehnkgcbboaaGreatDoor
open Go
def iL (b:UInt8):Bool:=decide (48≤b.toNat∧b.toNat≤57)
def nd (l:List UInt8):Nat:=(l.takeWhile iL).length
theorem tq (l:List UInt8):nd l≤l.length:=by
 unfold nd
 induction l with
 |nil=>exact Nat.le_refl _
 |cons a t ih=>rw [List.takeWhile_cons];split<;>simp<;>omega
theorem tr (l:List UInt8):∀(j:Nat) (h:j<l.length),j<nd l→iL l[j]=true:=by
 unfold nd
 induction l with
 |nil=>intro j h;simp at h
 |cons a t ih=>
  intro j h hj
  rw [List.takeWhile_cons] at hj
  cases ha:iL a with
  |false=>rw [ha] at hj;simp at hj
  |true=>
   rw [ha] at hj
   rcases j with _|j
   ·exact ha
   ·exact ih j (by simpa using h) (by simpa using hj)
theorem Ks (l:List UInt8) (h:nd l<l.length):iL l[nd l]=false:=by
 unfold nd at h⊢
 induction l with
 |nil=>simp at h
 |cons a t ih=>
  cases ha:iL a with
  |false=>simp [ha]
  |true=>
   have h':(t.takeWhile iL).length<t.length:=by simpa [List.takeWhile_cons,ha] using h
   simpa [ha] using ih h'
def dv (l:List UInt8):Nat:=l.foldl (fun a b=>10*a+(b.toNat-48)) 0
theorem FP (l:List UInt8) (b:UInt8):dv (l++[b])=10*dv l+(b.toNat-48):=by
 unfold dv;rw [List.foldl_append];rfl
theorem DK (l:List UInt8) (k:Nat) (h:k<l.length):l.take (k+1)=l.take k++[l[k]]:=by
 rw [List.take_succ_eq_append_getElem h]
theorem FQ (l:List UInt8) (k:Nat) (h:k<l.length):dv (l.take (k+1))=10*dv (l.take k)+(l[k].toNat-48):=by
 rw [DK l k h,FP]
theorem V1 (l:List UInt8) (k:Nat):(∀j (h:j<l.length),j<k→iL l[j]=true)→k≤l.length→dv (l.take k)<10 ^ k:=by
 induction k with
 |zero=>intro _ _;show 0<_;decide
 |succ k ih=>
  intro hd hk
  have h1:=ih (fun j h hj=>hd j h (by omega)) (by omega)
  have h2:=hd k (by omega) (by omega)
  rw [FQ l k (by omega),Nat.pow_succ]
  simp only [iL,decide_eq_true_eq] at h2
  omega
theorem Kt {b:UInt8} (h:iL b=true):Lib.digitVal b=some (b.toNat-48):=by
 simp only [iL,decide_eq_true_eq] at h
 unfold Lib.digitVal
 rw [if_pos (by first|exact h|simpa using h)]
theorem DM (l:List UInt8) (k:Nat):(∀j (h:j<l.length),j<k→iL l[j]=true)→k≤l.length→Lib.decFrom 0 (l.take k)=some (dv (l.take k)):=by
 induction k with
 |zero=>intro _ _;rfl
 |succ k ih=>
  intro hd hk
  have h1:=ih (fun j h hj=>hd j h (by omega)) (by omega)
  have h2:=hd k (by omega) (by omega)
  rw [Lib.decFrom_take l k 0 _ l[k] _ h1 (List.getElem?_eq_getElem (by omega)) (Kt h2),FQ l k (by omega),Nat.mul_comm]
theorem FT (l:List UInt8) (k:Nat) (hd:∀j (h:j<l.length),j<k→iL l[j]=true) (hk:k≤l.length) (h1:1≤k):Lib.atoi (l.take k)=some ((dv (l.take k):Nat):Int):=by
 have hf:=DM l k hd hk
 rcases l with _|⟨b,t⟩
 ·simp at hk;omega
 ·obtain ⟨k',rfl⟩:∃k',k=k'+1:=⟨k-1,by omega⟩
  have hb:=hd 0 (by simp) (by omega)
  simp only [iL,decide_eq_true_eq,List.getElem_cons_zero] at hb
  rw [List.take_succ_cons] at hf⊢
  have n1:(b==45)=false:=beq_eq_false_iff_ne.2 (fun e=>by subst e;simp at hb)
  have n2:(b==43)=false:=beq_eq_false_iff_ne.2 (fun e=>by subst e;simp at hb)
  unfold Lib.atoi
  simp only [n1,n2,Bool.false_eq_true,if_false]
  unfold Lib.decNat
  first|(rw [hf];rfl)|(simp [hf])
end Go.Proofs.YtddoehnkgcbboaaGreatDoor
