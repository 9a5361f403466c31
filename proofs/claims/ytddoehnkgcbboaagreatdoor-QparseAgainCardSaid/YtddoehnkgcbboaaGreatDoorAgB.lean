/- A part of the proof that the last file tells. -/
import Derived.Test.YtddoehnkgcbboaaGreatDoorAgA
import Derived.Deep.DeepCutAuto
import Derived.Deep.CutBlock
import Derived.Deep.RegionWith
import Derived.Lib.Atoi
import Derived.Lib.ItoaMem
set_option maxHeartbeats 16000000
set_option maxRecDepth 100000
set_option linter.unusedVariables false
set_option linter.unusedSimpArgs false
namespace Go.Proofs.YtddoehnkgcbboaaGreatDoor
open Go.RowKit Go.Shelf
theorem oY {l:List UInt8} {p:List UInt8×Nat} (h:gM l=some p):1≤p.2∧p.2≤l.length:=by
 cases l with
 |nil=>cases h
 |cons c r=>
  rw [gM] at h
  split at h
  ·rename_i hf;cases h;have h1:bf lT (c::r)=bf lT r+1:=ft (by unfold lT;rw [hf];rfl);have h2:=fA lT (c::r);exact ⟨by show 1≤bf lT (c::r);omega,h2⟩
  ·split at h
   ·split at h
    ·cases h
    ·rename_i hn;have h2:=fA uo r
     split at h
     ·cases h;exact ⟨by show 1≤r.length+1;omega,aa _⟩
     ·rename_i d r2 hd
      split at h
      ·cases h;have:=congrArg List.length hd;rw [aA,aj] at this;exact ⟨by show 1≤bf uo r+2;omega,by show bf uo r+2≤r.length+1;omega⟩
      ·cases h
   ·cases h
theorem xC:∀(n m:Nat) (l:List UInt8),l.length<n→l.length<m→oQ n l=oQ m l
 |0,m,l,h,_=>absurd h (by omega)
 |n+1,0,l,_,h=>absurd h (by omega)
 |n+1,m+1,l,hn,hm=>by
  unfold oQ
  cases hs:gM l with
  |none=>rfl
  |some p=>
   obtain ⟨h1,h2⟩:=oY hs;simp only [Option.bind_some]
   split
   ·rename_i hh
    have hlt:p.2<l.length:=by
     rcases Nat.lt_or_ge p.2 l.length with h|h
     ·exact h
     ·rw [dc h] at hh;cases hh
    rw [xC n m (l.drop (p.2+1)) (by rw [aA];omega) (by rw [aA];omega)]
   ·rfl
def OL (R:Option (List UInt8×Nat)):Wq:=match R with|some p=>ma 0 p.1 p.2|none=>dI 3
def gU (l:List UInt8):Option (List UInt8×Nat):=oQ (l.length+1) l
theorem eP (l:List UInt8):gU l=(gM l).bind fun p=>if (l.drop p.2).head? =some 46 then (gU (l.drop (p.2+1))).map fun q=>(p.1++46::q.1,p.2+1+q.2) else some p:=by
 unfold gU
 conv=>lhs;unfold oQ
 cases hs:gM l with
 |none=>rfl
 |some p=>
  obtain ⟨h1,h2⟩:=oY hs;simp only [Option.bind_some]
  split
  ·rename_i hh
   have hlt:p.2<l.length:=by
    rcases Nat.lt_or_ge p.2 l.length with h|h
    ·exact h
    ·rw [dc h] at hh;cases hh
   rw [xC l.length ((l.drop (p.2+1)).length+1) (l.drop (p.2+1)) (by rw [aA];omega) (by omega)]
  ·rfl
theorem wK {P:Program} (a b:List UInt8) (h:a.length+b.length≤70368744177664) (w:World):(Op.stringOp .add (ag a) (ag b)).run P w=.ok (.string (ag (a++b))) w:=by
 rw [run_string_add_sum w _ _ (by rw [aO,aO];omega)]
 congr 2
theorem B_ (l:List UInt8) (i j:Nat):(ag l).extract i j=ag ((l.drop i).take (j-i)):=by
 apply ByteArray.ext;apply Array.toList_inj.1;rw [Lib.extract_data];rfl
theorem eF (er:Int) (w:World):Calls Tryz.prog 126 #[.int .i64 er] w fun e w'=>e=.returned (.agg #[.int .i64 0,.string ⟨#[]⟩,.int .i64 0,.int .i64 0,.int .i64 er])∧Below w.heap.size w w':=GN er w
abbrev ZW (W:World) (g:Nat):Prop:=Row W g 85 #[.int .i64 0,.string ⟨#[]⟩,.int .i64 0,.int .i64 0,.int .i64 0]
theorem ZW.put {W:World} {g:Nat} (h:ZW W g) (a b c d e:Value):Row (((((W.setCell ⟨g,0,none⟩ a).setCell ⟨g,1,none⟩ b).setCell ⟨g,2,none⟩ c).setCell ⟨g,3,none⟩ d).setCell ⟨g,4,none⟩ e) g 85 #[a,b,c,d,e]:=
 ((((h.bU 0 a).bU 1 b).bU 2 c).bU 3 d).bU 4 e
theorem eo {W V:World} {B g:Nat} (hb:Below B W V) (hg:B≤g) (a b c d e:Value):Below B W (((((V.setCell ⟨g,0,none⟩ a).setCell ⟨g,1,none⟩ b).setCell ⟨g,2,none⟩ c).setCell ⟨g,3,none⟩ d).setCell ⟨g,4,none⟩ e):=
 ((((hb.setCell (p:=⟨g,0,none⟩) hg a).setCell (p:=⟨g,1,none⟩) hg b).setCell (p:=⟨g,2,none⟩) hg c).setCell (p:=⟨g,3,none⟩) hg d).setCell (p:=⟨g,4,none⟩) hg e
theorem uy {l T sU:List UInt8} {a n:Nat} {R:Option (List UInt8×Nat)} (hR:R=(gU (l.drop a)).map fun q=>(T++q.1,a+q.2)) (hs:gM (l.drop a)=some (sU,n)):
 R=if (l.drop (a+n)).head? =some 46 then (gU (l.drop (a+n+1))).map (fun q=>((T++sU++[46])++q.1,(a+n+1)+q.2)) else some (T++sU,a+n):=by
 rw [hR,eP,hs];simp only [Option.bind_some,dB]
 split
 ·rw [show a+(n+1)=a+n+1 by omega]
  cases gU (l.drop (a+n+1)) with
  |none=>rfl
  |some q=>
   simp only [Option.map_some];rw [show T++(sU++46::q.1)=T++sU++[46]++q.1 by simp,show a+(n+1+q.2)=a+n+1+q.2 by omega]
 ·rfl
theorem Ll (l:List UInt8) (w:World) (hl:l.length≤50000):
 Calls Tryz.prog 120 #[.string (ag l)] w fun e w'=>e=.returned (sQ (iY l))∧Below w.heap.size w w':=by
 have hz:=aO l;have hg:∀(i:Nat) (h:i<(ag l).size) (h2:i<l.length),(ag l)[i]'h=l[i]:=fun i h h2=>fu l i h;have hx:∀i j,(ag l).extract i j=ag ((l.drop i).take (j-i)):=B_ l;have RI:=hide (fun (i:Nat) (W:World) (h:i≤1000000)=>Li l i W (by omega) h);have RP:=hide (fun (i:Nat) (W:World) (h:i≤1000000)=>GJ l i W (by omega) h)
 obtain ⟨R,hR⟩:∃R,gU l=R:=⟨_,rfl⟩
 have hpq:iY l=OL R:=by rw [←hR];rfl
 have HR:=hide hR;have Gr:=hide hpq;clear hR hpq;generalize ag l=s at*;have Hz:=hide hz;have Hg:=hide hg;have Hx:=hide hx;clear hz hg hx;go_enter Tryz.func120,Tryz.ntmps120;go_upto_region 2 with fail
 go_loopg [3,4] (l.length+2) (fun g v3 v4 wx=>∃(a:Nat) (T:List UInt8),v3=.string (ag T)∧v4=.int .i64 (a:Int)∧a≤l.length+1∧g=l.length+2-a∧T.length≤2*a∧R=(gU (l.drop a)).map (fun q=>(T++q.1,a+q.2))∧Below w.heap.size w wx∧ZW wx w.heap.size)
 case atStart=>
  refine ⟨0,[],rfl,rfl,bj _,rfl,bj _,?_,(af _ _).alloc (aa _) _,Row.new _ _ _⟩;rw [←HR.o]
  show gU l=(gU l).map fun q=>([]++q.1,0+q.2)
  cases gU l with
  |none=>rfl
  |some q=>show some q=some (q.1,0+q.2);rw [Nat.zero_add]
 case round=>
  obtain ⟨a,T,rfl,rfl,ha,hga,hT,hRa,hb,hrow⟩:=hrel;have H:=hide (And.intro hb hrow);have XE:=hide hRa;have Hga:=hide hga;clear hb hrow hRa hga;by_cases hlt:a<l.length
  ·have ha':(a:Int)<(s.size:Int):=by have:=Hz.o;omega
   have ha0:(0:Int)≤(a:Int):=by omega
   have has:a<s.size:=by have:=Hz.o;omega
   obtain ⟨c,hc⟩:∃c,l[a]'hlt=c:=⟨_,rfl⟩
   have hsc:s[a]'has=c:=by rw [Hg.o a has hlt];exact hc
   have hdr:l.drop a=c::l.drop (a+1):=by rw [cn hlt,hc]
   have FI:=hide (rq c wr);have HD:=hide hdr;clear hc hdr
   cases hfi:oC c with
   |true=>
    rw [hfi] at FI;have RIa:=hide (RI.o a wr (by omega))
    have ab5:bf lT (l.drop a)=bf lT (l.drop (a+1))+1:=by rw [HD.o];exact ft (by unfold lT;rw [hfi];rfl)
    have aag:=fA lT (l.drop a);rw [aA] at aag
    have hseg:gM (l.drop a)=some ((l.drop a).take (bf lT (l.drop a)),bf lT (l.drop a)):=by rw [HD.o,gM,if_pos hfi]
    have hnx:=uy XE.o hseg
    obtain ⟨sU,SZ⟩:∃sU,(l.drop a).take (bf lT (l.drop a))=sU:=⟨_,rfl⟩
    have ab6:sU.length≤bf lT (l.drop a):=by rw [←SZ];exact List.length_take_le _ _
    rw [SZ] at hnx
    obtain ⟨m,hm⟩:∃m,a+bf lT (l.drop a)=m:=⟨_,rfl⟩
    have x1:s.extract a m=ag sU:=by rw [Hx.o,←hm,Nat.add_sub_cancel_left,SZ]
    rw [hm] at RIa hnx
    have hma:a+1≤m∧m≤l.length∧sU.length≤m-a:=by omega
    have HNx:=hide hnx;have HTl:=hide (show (T++sU).length≤2*m by rw [aw];omega);have y1:∀W:World,(Op.stringOp .add (ag T) (ag sU)).run Tryz.prog W=.ok (.string (ag (T++sU))) W:=fun W=>wK T sU (by omega) W
    have ham:(a:Int)≤(m:Int):=by omega
    have aah:(m:Int)≤(s.size:Int):=by have:=Hz.o;omega
    clear ab5 aag hseg hnx SZ ab6 hm hfi;by_cases zU:m<l.length
    ·have TS:¬(s.size:Int)≤(m:Int):=by have:=Hz.o;omega
     have hm2:(m:Int)<(s.size:Int):=by have:=Hz.o;omega
     have hms:m<s.size:=by have:=Hz.o;omega
     have hm0:(0:Int)≤(m:Int):=by omega
     obtain ⟨d,hd⟩:∃d,l[m]'zU=d:=⟨_,rfl⟩
     have SY:s[m]'hms=d:=by rw [Hg.o m hms zU];exact hd
     have Ca:(l.drop m).head? =some d:=by rw [cn zU,hd];rfl
     have XF:=hide Ca;clear hd Ca;by_cases zV:d=46
     ·subst zV;have HN:=hide (show R=(gU (l.drop (m+1))).map (fun q=>((T++sU++[46])++q.1,(m+1)+q.2)) by rw [HNx.o,if_pos XF.o]);have y46:∀W:World,(Op.stringOp .add (ag (T++sU)) ⟨#[46]⟩).run Tryz.prog W=.ok (.string (ag (T++sU++[46]))) W:=fun W=>wK (T++sU) [46] (by have:=HTl.o;rw [List.length_singleton];omega) W;have hwm:IntKind.i64.wrap ((m:Int)+1)=(m:Int)+1:=bI _ (by omega);go_wp2_with fail;refine FI.o.mono ?_;rintro e wr ⟨rfl,rfl⟩;go_wp2_with fail;refine RIa.o.mono ?_;rintro e w2 ⟨rfl,hb2⟩;have H2:=hide (And.intro (H.o.1.trans (hb2.mono H.o.1.size)) (show ZW w2 w.heap.size from H.o.2.below hb2 H.o.2.lt));clear hb2;go_wp2
      go_roundg (l.length+2-(m+1))
      case measure=>have:=Hga.o;omega
      case rel=>exact ⟨m+1,T++sU++[46],by first|rfl|(simp only [cT])|simp,by go_num,by omega,by first|rfl|omega,by have:=HTl.o;rw [aw,List.length_singleton];omega,HN.o,H2.o.1,H2.o.2⟩
     ·have Lm:((d.toNat:Int)==46)=false:=aL (d:=46) zV
      have ab7:((d.toNat:Int) !=46)=true:=by rw [bne,Lm];rfl
      have HN:=hide (show R=some (T++sU,m) by rw [HNx.o,if_neg (by rw [XF.o];intro e;exact zV (au e))]);clear zV;go_wp2_with fail;refine FI.o.mono ?_;rintro e wr ⟨rfl,rfl⟩;go_wp2_with fail;refine RIa.o.mono ?_;rintro e w2 ⟨rfl,hb2⟩;have H2:=hide (And.intro (H.o.1.trans (hb2.mono H.o.1.size)) (show ZW w2 w.heap.size from H.o.2.below hb2 H.o.2.lt));clear hb2;go_wp2_with fail;refine (iT 0 _ (T++sU) _).mono ?_;rintro e w9 ⟨rfl,iK⟩;have r9:ZW w9 w.heap.size:=H2.o.2.below iK H2.o.2.lt;have B9:=hide (H2.o.1.trans (iK.mono H2.o.1.size));have R9:=hide r9;have c0:=r9.cell 0;have c1:=r9.cell 1;have c2:=r9.cell 2;have c3:=r9.cell 3;have c4:=r9.cell 4;have f0:=r9.frozen 0;have f1:=r9.frozen 1;have f2:=r9.frozen 2;have f3:=r9.frozen 3;have f4:=r9.frozen 4;clear r9 iK;go_wp2;refine bodyPost_ret (v:=.agg #[.int .i64 0,.string (ag (T++sU)),.int .i64 0,.int .i64 (m:Int),.int .i64 0]) (ai rfl _ _ w.heap.size 85 _ _ _ rfl (R9.o.put _ _ _ _ _) Tryz.underlying85 rfl (by kernel_rfl)) rfl ?_;rw [Gr.o,HN.o];exact ⟨rfl,eo B9.o (aa _) _ _ _ _ _⟩
    ·have TS:(s.size:Int)≤(m:Int):=by have:=Hz.o;omega
     have hm2:¬(m:Int)<(s.size:Int):=by have:=Hz.o;omega
     have HN:=hide (show R=some (T++sU,m) by rw [HNx.o,if_neg (by rw [dc (by omega)];intro e;cases e)]);go_wp2_with fail;refine FI.o.mono ?_;rintro e wr ⟨rfl,rfl⟩;go_wp2_with fail;refine RIa.o.mono ?_;rintro e w2 ⟨rfl,hb2⟩;have H2:=hide (And.intro (H.o.1.trans (hb2.mono H.o.1.size)) (show ZW w2 w.heap.size from H.o.2.below hb2 H.o.2.lt));clear hb2;go_wp2_with fail;refine (iT 0 _ (T++sU) _).mono ?_;rintro e w9 ⟨rfl,iK⟩;have r9:ZW w9 w.heap.size:=H2.o.2.below iK H2.o.2.lt;have B9:=hide (H2.o.1.trans (iK.mono H2.o.1.size));have R9:=hide r9;have c0:=r9.cell 0;have c1:=r9.cell 1;have c2:=r9.cell 2;have c3:=r9.cell 3;have c4:=r9.cell 4;have f0:=r9.frozen 0;have f1:=r9.frozen 1;have f2:=r9.frozen 2;have f3:=r9.frozen 3;have f4:=r9.frozen 4;clear r9 iK;go_wp2;refine bodyPost_ret (v:=.agg #[.int .i64 0,.string (ag (T++sU)),.int .i64 0,.int .i64 (m:Int),.int .i64 0]) (ai rfl _ _ w.heap.size 85 _ _ _ rfl (R9.o.put _ _ _ _ _) Tryz.underlying85 rfl (by kernel_rfl)) rfl ?_;rw [Gr.o,HN.o];exact ⟨rfl,eo B9.o (aa _) _ _ _ _ _⟩
   |false=>
    rw [hfi] at FI;by_cases Lp:c=92
    ·subst Lp;have hsp:=fA uo (l.drop (a+1));rw [aA] at hsp
     obtain ⟨n1,AA⟩:∃n1,bf uo (l.drop (a+1))=n1:=⟨_,rfl⟩
     have RPa:=hide (show Calls Tryz.prog 117 #[.string s,.int .i64 ((a:Int)+1),.func (.func 155) #[] #[]] wr fun e w'=>e=.returned (.int .i64 ((a+1+n1:Nat):Int))∧Below wr.heap.size wr w' by
      have:=RP.o (a+1) wr (by omega);rw [AA] at this
      rwa [show ((a+1:Nat):Int)=(a:Int)+1 by omega] at this)
     have hwa:IntKind.i64.wrap ((a:Int)+1)=(a:Int)+1:=bI _ (by omega)
     obtain ⟨m1,TS⟩:∃m1,a+1+n1=m1:=⟨_,rfl⟩
     rw [TS] at RPa;have JV:=hide (And.intro TS (And.intro AA hsp));rw [AA] at hsp;clear TS AA;by_cases hz1:n1=0
     ·have ee:((m1:Int)==(a:Int)+1)=true:=by rw [beq_iff_eq];have:=JV.o.1;omega
      have hn:R=none:=by
       rw [XE.o,eP,HD.o]
       have:gM (92::l.drop (a+1))=none:=by rw [gM,if_neg (by rw [hfi];decide),if_pos rfl,if_pos (by rw [JV.o.2.1];exact hz1)]
       rw [this];rfl
      have Hn:=hide hn;clear hn hz1 hfi;go_wp2_with fail;refine FI.o.mono ?_;rintro e wr ⟨rfl,rfl⟩;go_wp2_with fail;refine RPa.o.mono ?_;rintro e w2 ⟨rfl,hb2⟩;have H2:=hide (And.intro (H.o.1.trans (hb2.mono H.o.1.size)) (show ZW w2 w.heap.size from H.o.2.below hb2 H.o.2.lt));clear hb2;go_wp2_with fail;refine (eF 3 _).mono ?_;rintro e w9 ⟨rfl,iK⟩;have r9:ZW w9 w.heap.size:=H2.o.2.below iK H2.o.2.lt;have B9:=hide (H2.o.1.trans (iK.mono H2.o.1.size));have R9:=hide r9;have c0:=r9.cell 0;have c1:=r9.cell 1;have c2:=r9.cell 2;have c3:=r9.cell 3;have c4:=r9.cell 4;have f0:=r9.frozen 0;have f1:=r9.frozen 1;have f2:=r9.frozen 2;have f3:=r9.frozen 3;have f4:=r9.frozen 4;clear r9 iK;go_wp2;refine bodyPost_ret (v:=.agg #[.int .i64 0,.string ⟨#[]⟩,.int .i64 0,.int .i64 0,.int .i64 3]) (ai rfl _ _ w.heap.size 85 _ _ _ rfl (R9.o.put _ _ _ _ _) Tryz.underlying85 rfl (by kernel_rfl)) rfl ?_;rw [Gr.o,Hn.o];exact ⟨rfl,eo B9.o (aa _) _ _ _ _ _⟩
     ·have ee:((m1:Int)==(a:Int)+1)=false:=aP.2 (by have:=JV.o.1;omega)
      have ham:(a:Int)≤(m1:Int):=by have:=JV.o.1;omega
      by_cases XG:m1<l.length
      ·have hq2:(m1:Int)<(s.size:Int):=by have:=Hz.o;omega
       have hqs:m1<s.size:=by have:=Hz.o;omega
       have hq0:(0:Int)≤(m1:Int):=by omega
       have aah:(m1:Int)≤(s.size:Int):=by omega
       obtain ⟨d1,hd1⟩:∃d,l[m1]'XG=d:=⟨_,rfl⟩
       have adq:s[m1]'hqs=d1:=by rw [Hg.o m1 hqs XG];exact hd1
       have hr1:(l.drop (a+1)).drop n1=d1::l.drop (m1+1):=by
        rw [dB,JV.o.1,cn XG,hd1]
       have jx:=hide hr1;have BL:=hide (fun W:World=>xz d1 W);clear hd1 hr1
       cases hbl:Dr d1 with
       |false=>
        rw [hbl] at BL
        have hn:R=none:=by
         rw [XE.o,eP,HD.o]
         have:gM (92::l.drop (a+1))=none:=by
          rw [gM,if_neg (by rw [hfi];decide),if_pos rfl,JV.o.2.1,if_neg hz1,jx.o];simp only;rw [if_neg (by rw [hbl];decide)]
         rw [this];rfl
        have Hn:=hide hn;clear hn hbl hfi hz1;go_wp2_with fail;refine FI.o.mono ?_;rintro e wr ⟨rfl,rfl⟩;go_wp2_with fail;refine RPa.o.mono ?_;rintro e w2 ⟨rfl,hb2⟩;have H2:=hide (And.intro (H.o.1.trans (hb2.mono H.o.1.size)) (show ZW w2 w.heap.size from H.o.2.below hb2 H.o.2.lt));clear hb2;go_wp2_with fail;refine (BL.o _).mono ?_;rintro e w2 ⟨rfl,rfl⟩;go_wp2_with fail;refine (eF 3 _).mono ?_;rintro e w9 ⟨rfl,iK⟩;have r9:ZW w9 w.heap.size:=H2.o.2.below iK H2.o.2.lt;have B9:=hide (H2.o.1.trans (iK.mono H2.o.1.size));have R9:=hide r9;have c0:=r9.cell 0;have c1:=r9.cell 1;have c2:=r9.cell 2;have c3:=r9.cell 3;have c4:=r9.cell 4;have f0:=r9.frozen 0;have f1:=r9.frozen 1;have f2:=r9.frozen 2;have f3:=r9.frozen 3;have f4:=r9.frozen 4;clear r9 iK;go_wp2;refine bodyPost_ret (v:=.agg #[.int .i64 0,.string ⟨#[]⟩,.int .i64 0,.int .i64 0,.int .i64 3]) (ai rfl _ _ w.heap.size 85 _ _ _ rfl (R9.o.put _ _ _ _ _) Tryz.underlying85 rfl (by kernel_rfl)) rfl ?_;rw [Gr.o,Hn.o];exact ⟨rfl,eo B9.o (aa _) _ _ _ _ _⟩
       |true=>
        rw [hbl] at BL
        obtain ⟨raw,XH⟩:∃raw,(l.drop a).take (m1-a)=raw:=⟨_,rfl⟩
        have OM:raw=92::(l.drop (a+1)).take n1:=by
         rw [←XH,HD.o,show m1-a=n1+1 by have:=JV.o.1;omega];rfl
        have hrl:raw.length≤n1+1:=by rw [OM,aj];have:=List.length_take_le n1 (l.drop (a+1));omega
        have x1:s.extract a m1=ag raw:=by rw [Hx.o,XH]
        have y1:∀W:World,(Op.stringOp .add (ag T) (ag raw)).run Tryz.prog W=.ok (.string (ag (T++raw))) W:=fun W=>wK T raw (by omega) W;have y32:∀W:World,(Op.stringOp .add (ag (T++raw)) ⟨#[32]⟩).run Tryz.prog W=.ok (.string (ag (T++raw++[32]))) W:=fun W=>wK (T++raw) [32] (by rw [aw,List.length_singleton];omega) W
        have hseg:gM (l.drop a)=some (raw++(if (l.drop (m1+1)).head? =some 46 then [32] else []),n1+2):=by
         rw [HD.o,gM,if_neg (by rw [hfi];decide),if_pos rfl,JV.o.2.1,if_neg hz1,jx.o];simp only;rw [if_pos hbl,OM]
        have hnx:=uy XE.o hseg;rw [show a+(n1+2)=m1+1 by have:=JV.o.1;omega] at hnx;have adr:IntKind.i64.wrap ((m1:Int)+1)=(m1:Int)+1:=bI _ (by omega);have HTr:=hide (show (T++raw).length+1≤2*(m1+1) by rw [aw];have:=JV.o.1;omega);have XI:=hide hnx;clear hseg XH OM hrl hbl hnx hfi hz1;by_cases hmm:m1+1<l.length
        ·have aai:¬(s.size:Int)≤(m1:Int)+1:=by have:=Hz.o;omega
         have hm2:(m1:Int)+1<(s.size:Int):=by have:=Hz.o;omega
         have hms:m1+1<s.size:=by have:=Hz.o;omega
         have hm0:(0:Int)≤(m1:Int)+1:=by omega
         have hmt:((m1:Int)+1).toNat=m1+1:=by omega
         obtain ⟨d,hd⟩:∃d,l[m1+1]'hmm=d:=⟨_,rfl⟩
         have SY:s[m1+1]'hms=d:=by rw [Hg.o (m1+1) hms hmm];exact hd
         have Ca:(l.drop (m1+1)).head? =some d:=by rw [cn hmm,hd];rfl
         have XF:=hide Ca;clear hd Ca;by_cases zV:d=46
         ·subst zV;have HN:=hide (show R=(gU (l.drop (m1+1+1))).map (fun q=>((T++raw++[32]++[46])++q.1,(m1+1+1)+q.2)) by rw [XI.o,if_pos XF.o,if_pos XF.o,←cT T raw [32]]);have y46:∀W:World,(Op.stringOp .add (ag (T++raw++[32])) ⟨#[46]⟩).run Tryz.prog W=.ok (.string (ag (T++raw++[32]++[46]))) W:=fun W=>wK (T++raw++[32]) [46] (by have:=HTr.o;rw [aw,List.length_singleton,List.length_singleton];omega) W;have hwm:IntKind.i64.wrap ((m1:Int)+1+1)=(m1:Int)+1+1:=bI _ (by omega)
          obtain ⟨T2,hT2⟩:∃T2,T++raw++[32]++[46]=T2:=⟨_,rfl⟩
          obtain ⟨T3,XJ⟩:∃T3,T++raw++[32]=T3:=⟨_,rfl⟩
          obtain ⟨T4,hT4⟩:∃T4,T++raw=T4:=⟨_,rfl⟩
          rw [hT2] at y46 HN;rw [XJ] at y46 y32;rw [hT4] at y32 y1;have DI:=hide (show T2.length≤2*(m1+1+1) by rw [←hT2,aw,aw,List.length_singleton,List.length_singleton];have:=HTr.o;omega);clear hT2 XJ hT4;go_wp2_with fail;refine FI.o.mono ?_;rintro e wr ⟨rfl,rfl⟩;go_wp2_with fail;refine RPa.o.mono ?_;rintro e w2 ⟨rfl,hb2⟩;have H2:=hide (And.intro (H.o.1.trans (hb2.mono H.o.1.size)) (show ZW w2 w.heap.size from H.o.2.below hb2 H.o.2.lt));clear hb2;go_wp2_with fail;refine (BL.o _).mono ?_;rintro e w2 ⟨rfl,rfl⟩;go_wp2
          go_roundg (l.length+2-(m1+1+1))
          case measure=>have:=Hga.o;have:=JV.o.1;omega
          case rel=>exact ⟨m1+1+1,T2,rfl,by go_num,by omega,by first|rfl|omega,DI.o,HN.o,H2.o.1,H2.o.2⟩
         ·have Lm:((d.toNat:Int)==46)=false:=aL (d:=46) zV
          have ab7:((d.toNat:Int) !=46)=true:=by rw [bne,Lm];rfl
          have HN:=hide (show R=some (T++raw,m1+1) by rw [XI.o,if_neg (by rw [XF.o];intro e;exact zV (au e)),if_neg (by rw [XF.o];intro e;exact zV (au e)),dH]);clear zV;go_wp2_with fail;refine FI.o.mono ?_;rintro e wr ⟨rfl,rfl⟩;go_wp2_with fail;refine RPa.o.mono ?_;rintro e w2 ⟨rfl,hb2⟩;have H2:=hide (And.intro (H.o.1.trans (hb2.mono H.o.1.size)) (show ZW w2 w.heap.size from H.o.2.below hb2 H.o.2.lt));clear hb2;go_wp2_with fail;refine (BL.o _).mono ?_;rintro e w2 ⟨rfl,rfl⟩;go_wp2_with fail;refine (iT 0 _ (T++raw) _).mono ?_;rintro e w9 ⟨rfl,iK⟩;have r9:ZW w9 w.heap.size:=H2.o.2.below iK H2.o.2.lt;have B9:=hide (H2.o.1.trans (iK.mono H2.o.1.size));have R9:=hide r9;have c0:=r9.cell 0;have c1:=r9.cell 1;have c2:=r9.cell 2;have c3:=r9.cell 3;have c4:=r9.cell 4;have f0:=r9.frozen 0;have f1:=r9.frozen 1;have f2:=r9.frozen 2;have f3:=r9.frozen 3;have f4:=r9.frozen 4;clear r9 iK;go_wp2;refine bodyPost_ret (v:=.agg #[.int .i64 0,.string (ag (T++raw)),.int .i64 0,.int .i64 ((m1:Int)+1),.int .i64 0]) (ai rfl _ _ w.heap.size 85 _ _ _ rfl (R9.o.put _ _ _ _ _) Tryz.underlying85 rfl (by kernel_rfl)) rfl ?_;rw [Gr.o,HN.o];exact ⟨rfl,eo B9.o (aa _) _ _ _ _ _⟩
        ·have aai:(s.size:Int)≤(m1:Int)+1:=by have:=Hz.o;omega
         have hm2:¬(m1:Int)+1<(s.size:Int):=by have:=Hz.o;omega
         have hnil:l.drop (m1+1)=[]:=dc (by omega);have HN:=hide (show R=some (T++raw,m1+1) by rw [XI.o,hnil,if_neg (by intro e;cases e),if_neg (by intro e;cases e),dH]);clear hnil;go_wp2_with fail;refine FI.o.mono ?_;rintro e wr ⟨rfl,rfl⟩;go_wp2_with fail;refine RPa.o.mono ?_;rintro e w2 ⟨rfl,hb2⟩;have H2:=hide (And.intro (H.o.1.trans (hb2.mono H.o.1.size)) (show ZW w2 w.heap.size from H.o.2.below hb2 H.o.2.lt));clear hb2;go_wp2_with fail;refine (BL.o _).mono ?_;rintro e w2 ⟨rfl,rfl⟩;go_wp2_with fail;refine (iT 0 _ (T++raw) _).mono ?_;rintro e w9 ⟨rfl,iK⟩;have r9:ZW w9 w.heap.size:=H2.o.2.below iK H2.o.2.lt;have B9:=hide (H2.o.1.trans (iK.mono H2.o.1.size));have R9:=hide r9;have c0:=r9.cell 0;have c1:=r9.cell 1;have c2:=r9.cell 2;have c3:=r9.cell 3;have c4:=r9.cell 4;have f0:=r9.frozen 0;have f1:=r9.frozen 1;have f2:=r9.frozen 2;have f3:=r9.frozen 3;have f4:=r9.frozen 4;clear r9 iK;go_wp2;refine bodyPost_ret (v:=.agg #[.int .i64 0,.string (ag (T++raw)),.int .i64 0,.int .i64 ((m1:Int)+1),.int .i64 0]) (ai rfl _ _ w.heap.size 85 _ _ _ rfl (R9.o.put _ _ _ _ _) Tryz.underlying85 rfl (by kernel_rfl)) rfl ?_;rw [Gr.o,HN.o];exact ⟨rfl,eo B9.o (aa _) _ _ _ _ _⟩
      ·have hq2:¬(m1:Int)<(s.size:Int):=by have:=Hz.o;omega
       have zU:m1=l.length:=by have:=JV.o.1;omega
       have aah:(m1:Int)≤(s.size:Int):=by have:=Hz.o;omega
       have aai:(s.size:Int)≤(m1:Int):=by have:=Hz.o;omega
       have x1:s.extract a m1=ag (l.drop a):=by rw [Hx.o,List.take_of_length_le (by rw [aA];omega)]
       have y1:∀W:World,(Op.stringOp .add (ag T) (ag (l.drop a))).run Tryz.prog W=.ok (.string (ag (T++l.drop a))) W:=fun W=>wK T (l.drop a) (by rw [aA];omega) W
       have hr1:(l.drop (a+1)).drop n1=[]:=by rw [dB,JV.o.1];exact dc (by omega)
       have hseg:gM (l.drop a)=some (l.drop a,(l.drop (a+1)).length+1):=by
        rw [HD.o,gM,if_neg (by rw [hfi];decide),if_pos rfl,JV.o.2.1,if_neg hz1,hr1]
       have hnx:=uy XE.o hseg;rw [show a+((l.drop (a+1)).length+1)=m1 by rw [aA];omega] at hnx;have HN:=hide (show R=some (T++l.drop a,m1) by rw [hnx,if_neg (by rw [dc (by omega)];intro e;cases e)]);generalize l.drop a=sU at*;have ads:=hide zU;clear hseg hnx hr1 hfi hz1 zU;go_wp2_with fail;refine FI.o.mono ?_;rintro e wr ⟨rfl,rfl⟩;go_wp2_with fail;refine RPa.o.mono ?_;rintro e w2 ⟨rfl,hb2⟩;have H2:=hide (And.intro (H.o.1.trans (hb2.mono H.o.1.size)) (show ZW w2 w.heap.size from H.o.2.below hb2 H.o.2.lt));clear hb2;go_wp2_with fail;refine (iT 0 _ (T++sU) _).mono ?_;rintro e w9 ⟨rfl,iK⟩;have r9:ZW w9 w.heap.size:=H2.o.2.below iK H2.o.2.lt;have B9:=hide (H2.o.1.trans (iK.mono H2.o.1.size));have R9:=hide r9;have c0:=r9.cell 0;have c1:=r9.cell 1;have c2:=r9.cell 2;have c3:=r9.cell 3;have c4:=r9.cell 4;have f0:=r9.frozen 0;have f1:=r9.frozen 1;have f2:=r9.frozen 2;have f3:=r9.frozen 3;have f4:=r9.frozen 4;clear r9 iK;go_wp2;refine bodyPost_ret (v:=.agg #[.int .i64 0,.string (ag (T++sU)),.int .i64 0,.int .i64 (m1:Int),.int .i64 0]) (ai rfl _ _ w.heap.size 85 _ _ _ rfl (R9.o.put _ _ _ _ _) Tryz.underlying85 rfl (by kernel_rfl)) rfl ?_;rw [Gr.o,HN.o];exact ⟨rfl,eo B9.o (aa _) _ _ _ _ _⟩
    ·have e92:((c.toNat:Int)==92)=false:=aL (d:=92) Lp
     have hn:R=none:=by
      rw [XE.o,eP,HD.o]
      have:gM (c::l.drop (a+1))=none:=by rw [gM,if_neg (by rw [hfi];decide),if_neg Lp]
      rw [this];rfl
     have Hn:=hide hn;clear hfi Lp hn;go_wp2_with fail;refine FI.o.mono ?_;rintro e wr ⟨rfl,rfl⟩;go_wp2_with fail;refine (eF 3 _).mono ?_;rintro e w9 ⟨rfl,iK⟩;have r9:ZW w9 w.heap.size:=H.o.2.below iK H.o.2.lt;have B9:=hide (H.o.1.trans (iK.mono H.o.1.size));have R9:=hide r9;have c0:=r9.cell 0;have c1:=r9.cell 1;have c2:=r9.cell 2;have c3:=r9.cell 3;have c4:=r9.cell 4;have f0:=r9.frozen 0;have f1:=r9.frozen 1;have f2:=r9.frozen 2;have f3:=r9.frozen 3;have f4:=r9.frozen 4;clear r9 iK;go_wp2;refine bodyPost_ret (v:=.agg #[.int .i64 0,.string ⟨#[]⟩,.int .i64 0,.int .i64 0,.int .i64 3]) (ai rfl _ _ w.heap.size 85 _ _ _ rfl (R9.o.put _ _ _ _ _) Tryz.underlying85 rfl (by kernel_rfl)) rfl ?_;rw [Gr.o,Hn.o];exact ⟨rfl,eo B9.o (aa _) _ _ _ _ _⟩
  ·have ha':¬(a:Int)<(s.size:Int):=by have:=Hz.o;omega
   have hn:R=none:=by
    rw [XE.o,dc (by omega),eP];rfl
   have Hn:=hide hn;clear hn;go_wp2_with fail;refine (eF 3 _).mono ?_;rintro e w9 ⟨rfl,iK⟩;have r9:ZW w9 w.heap.size:=H.o.2.below iK H.o.2.lt;have B9:=hide (H.o.1.trans (iK.mono H.o.1.size));have R9:=hide r9;have c0:=r9.cell 0;have c1:=r9.cell 1;have c2:=r9.cell 2;have c3:=r9.cell 3;have c4:=r9.cell 4;have f0:=r9.frozen 0;have f1:=r9.frozen 1;have f2:=r9.frozen 2;have f3:=r9.frozen 3;have f4:=r9.frozen 4;clear r9 iK;go_wp2;refine bodyPost_ret (v:=.agg #[.int .i64 0,.string ⟨#[]⟩,.int .i64 0,.int .i64 0,.int .i64 3]) (ai rfl _ _ w.heap.size 85 _ _ _ rfl (R9.o.put _ _ _ _ _) Tryz.underlying85 rfl (by kernel_rfl)) rfl ?_;rw [Gr.o,Hn.o];exact ⟨rfl,eo B9.o (aa _) _ _ _ _ _⟩
theorem xD {P:Program} (w:World) (Wo kt et:TypeId) (d:TypeDesc) (r clock:Nat) (es:Array MapEntry) (x val:Value)
 (hm:P.underlying Wo=some (.map kt et)) (hk:P.underlying kt=some d) (hx:MapKept.IsKey d x) (hb:w.heap[r]? =some (.map es clock)) (hf:Instr.findNow d x es.toList 0=some none):
 ∃w',(Instr.mapUpdate Wo (.map (some r)) x val).run P w=.ok () w'∧w'.heap[r]? =some (.map (es.push {key:=x,val:=val,born:=clock}) (clock+1))∧∀B,B≤r→RowKit.Below B w w':=by
 have hc:(Instr.checkKey false 10000 kt x).run P w=.ok () w:=MapKept.run_checkKey (k:=x) hk hx false 9999;refine ⟨{w with heap:=w.heap.setIfInBounds r (.map (es.push {key:=x,val:=val,born:=clock}) (clock+1))},by simp [Instr.mapUpdate,run_underlying hm,MapKept.run_getObj_map hb,hc,MapKept.run_findKey hk hf,MapKept.run_setObj_map _ hb,Result.andThen],(MapKept.heap_set hb).1,fun B hB=>⟨rfl,rfl,rfl,by simp,fun k hk2=>(MapKept.heap_set hb).2 k (by omega)⟩⟩
theorem DJ {P:Program} (w:World) (Wo kt et:TypeId) (d:TypeDesc) (r clock:Nat) (es:Array MapEntry) (x:Value) (i:Nat) (v:Value) (ok:Bool)
 (hm:P.underlying Wo=some (.map kt et)) (hk:P.underlying kt=some d) (hx:MapKept.IsKey d x) (hb:w.heap[r]? =some (.map es clock)) (hf:Instr.findNow d x es.toList 0=some (some (i,v))):
 (Instr.lookup Wo (.map (some r)) x ok).run P w=.ok (if ok then .tuple #[v,.bool true] else v) w:=by
 have hc:(Instr.checkKey es.isEmpty 10000 kt x).run P w=.ok () w:=MapKept.run_checkKey (k:=x) hk hx es.isEmpty 9999
 cases ok<;>simp [Instr.lookup,run_underlying hm,MapKept.run_getObj_map hb,hc,MapKept.run_findKey hk hf]
theorem xE {P:Program} (w:World) (Wo kt et:TypeId) (d:TypeDesc) (r clock:Nat) (es:Array MapEntry) (x:Value) (z:Value) (ok:Bool)
 (hm:P.underlying Wo=some (.map kt et)) (hk:P.underlying kt=some d) (hx:MapKept.IsKey d x) (hb:w.heap[r]? =some (.map es clock)) (hf:Instr.findNow d x es.toList 0=some none)
 (hz:(zeroValue et).run P w=.ok z w):
 (Instr.lookup Wo (.map (some r)) x ok).run P w=.ok (if ok then .tuple #[z,.bool false] else z) w:=by
 have hc:(Instr.checkKey es.isEmpty 10000 kt x).run P w=.ok () w:=MapKept.run_checkKey (k:=x) hk hx es.isEmpty 9999
 cases ok<;>simp [Instr.lookup,run_underlying hm,MapKept.run_getObj_map hb,hc,MapKept.run_findKey hk hf,hz,Result.andThen]
def OO:Array MapEntry:=#[{key:=.int .u8 98,val:=.int .i64 1,born:=0},{key:=.int .u8 111,val:=.int .i64 3,born:=1},{key:=.int .u8 104,val:=.int .i64 4,born:=2},{key:=.int .u8 100,val:=.int .i64 0,born:=3}]
def sV (w:World) (r:Nat):Prop:=w.heap[r]? =some (.map OO 4)
theorem uz (w:World):Calls Tryz.prog 187 #[] w fun e w'=>e=.returned (.map (some w.heap.size))∧sV w' w.heap.size∧Below w.heap.size w w':=by
 have hmm:=@run_makeMap Tryz.prog;have hb0:(w.alloc (.map #[] 0)).heap[w.heap.size]? =some (.map #[] 0):=(MapKept.heap_alloc w _).1;obtain ⟨W1,r1,hb1,b1⟩:=xD _ _ _ _ _ _ _ _ (.int .u8 98) (.int .i64 1) Tryz.underlying161 Tryz.underlying5 rfl hb0 rfl;obtain ⟨W2,r2,hb2,b2⟩:=xD _ _ _ _ _ _ _ _ (.int .u8 111) (.int .i64 3) Tryz.underlying161 Tryz.underlying5 rfl hb1 rfl;obtain ⟨W3,r3,hb3,b3⟩:=xD _ _ _ _ _ _ _ _ (.int .u8 104) (.int .i64 4) Tryz.underlying161 Tryz.underlying5 rfl hb2 rfl;obtain ⟨W4,r4,hb4,b4⟩:=xD _ _ _ _ _ _ _ _ (.int .u8 100) (.int .i64 0) Tryz.underlying161 Tryz.underlying5 rfl hb3 rfl;have B:=(((((af w.heap.size w).alloc (aa _) _).trans (b1 _ (aa _))).trans (b2 _ (aa _))).trans (b3 _ (aa _))).trans (b4 _ (aa _));go_enter Tryz.func187,Tryz.ntmps187;go_wp2;go_ret;exact ⟨rfl,hb4,B⟩
theorem aaj (w:World):(zeroValue 3).run Tryz.prog w=.ok (.int .i64 0) w:=by kernel_rfl
theorem qa (w:World) (r:Nat) (h:sV w r) (b:UInt8) (ok:Bool):
 (Instr.lookup 161 (.map (some r)) (.int .u8 b.toNat) ok).run Tryz.prog w=.ok (if ok then .tuple #[.int .i64 (((fJ b).getD 0:Nat):Int),.bool (fJ b).isSome] else .int .i64 (((fJ b).getD 0:Nat):Int)) w:=by
 by_cases h1:b=98
 ·subst h1;exact DJ w _ _ _ _ r _ _ _ 0 _ ok Tryz.underlying161 Tryz.underlying5 rfl h rfl
 by_cases h2:b=111
 ·subst h2;exact DJ w _ _ _ _ r _ _ _ 1 _ ok Tryz.underlying161 Tryz.underlying5 rfl h rfl
 by_cases h3:b=104
 ·subst h3;exact DJ w _ _ _ _ r _ _ _ 2 _ ok Tryz.underlying161 Tryz.underlying5 rfl h rfl
 by_cases h4:b=100
 ·subst h4;exact DJ w _ _ _ _ r _ _ _ 3 _ ok Tryz.underlying161 Tryz.underlying5 rfl h rfl
 have hn:fJ b=none:=by unfold fJ;rw [if_neg h1,if_neg h2,if_neg h3,if_neg h4]
 rw [hn];refine xE w _ _ _ _ r _ _ _ _ ok Tryz.underlying161 Tryz.underlying5 rfl h ?_ (aaj w);have g (c:UInt8) (k:Nat) (hk:c.toNat=k) (h:¬b=c):((b.toNat:Int)==(k:Int))=false:=aP.2 fun e=>h (UInt8.toNat_inj.1 (by omega));have e1:=g _ 98 rfl h1;have e2:=g _ 111 rfl h2;have e3:=g _ 104 rfl h3;have e4:=g _ 100 rfl h4;simp only [Int.cast_ofNat_Int] at e1 e2 e3 e4;simp [OO,Instr.findNow,Instr.sameNow,e1,e2,e3,e4]
theorem ry (c:UInt8):-1≤dK c∧dK c≤15:=fL (p:=fun c=> -1≤dK c∧dK c≤15) (by decide+kernel) c
theorem oZ (b:UInt8):(fJ b).getD 0=0∨(fJ b).getD 0=1∨(fJ b).getD 0=3∨(fJ b).getD 0=4:=by
 unfold fJ;by_cases h1:b=98
 ·rw [if_pos h1];exact .inr (.inl rfl)
 rw [if_neg h1];by_cases h2:b=111
 ·rw [if_pos h2];exact .inr (.inr (.inl rfl))
 rw [if_neg h2];by_cases h3:b=104
 ·rw [if_pos h3];exact .inr (.inr (.inr rfl))
 rw [if_neg h3];by_cases h4:b=100
 ·rw [if_pos h4];exact .inl rfl
 ·rw [if_neg h4];exact .inl rfl
theorem TT {b c:UInt8} (h1:¬bp c=120) (h2:¬bp c=122) (hb:¬b=100):ra b c=decide (0≤dK c∧dK c<(2 ^ (fJ b).getD 0:Nat)):=by
 unfold ra;rw [if_neg (by rintro (h|h);exact h1 h;exact h2 h),if_neg hb]
theorem DK (b c:UInt8) (w:World):Calls Tryz.prog 189 #[.int .u8 (b.toNat:Int),.int .u8 (c.toNat:Int)] w fun e w'=>e=.returned (.bool (ra b c))∧Below w.heap.size w w':=by
 have N7:=rh c;have C1:=hide (jw c);have C2:=hide (xA c);have C3:=hide uz;by_cases h1:bp c=120
 ·have HV:=hide (show ra b c=true by unfold ra;rw [if_pos (.inl h1)]);rw [h1] at N7;clear h1;go_enter Tryz.func189,Tryz.ntmps189;go_wp2;go_ret;exact ⟨aT HV.o,af _ _⟩
 by_cases h2:bp c=122
 ·have HV:=hide (show ra b c=true by unfold ra;rw [if_pos (.inr h2)]);rw [h2] at N7;clear h1 h2;go_enter Tryz.func189,Tryz.ntmps189;go_wp2;go_ret;exact ⟨aT HV.o,af _ _⟩
 have e1:(((bp c).toNat:Int)==120)=false:=aL (d:=120) h1;have e2:(((bp c).toNat:Int)==122)=false:=aL (d:=122) h2;by_cases hb:b=100
 ·have HV:=hide (show ra b c=bg c by unfold ra;rw [if_neg (by rintro (h|h);exact h1 h;exact h2 h),if_pos hb]);subst hb;clear h1 h2;go_enter Tryz.func189,Tryz.ntmps189;go_wp2_with fail;refine (C1.o _).mono ?_;rintro e w1 ⟨rfl,rfl⟩;go_wp2;go_ret;exact ⟨aT HV.o,af _ _⟩
 have e3:((b.toNat:Int)==100)=false:=aL (d:=100) hb;have HO:=hide (TT h1 h2 hb);have hr:=ry c;by_cases hp:0≤dK c
 ·have K:=hide (qa)
  rcases oZ b with k|k|k|k
  all_goals
   rw [k] at HO;have L:=hide (fun (W:World) (r:Nat) (h:sV W r)=>show (Instr.lookup 161 (.map (some r)) (.int .u8 b.toNat) false).run Tryz.prog W=.ok (.int .i64 _) W by have:=qa W r h b false;rw [k] at this;exact this);clear k h1 h2 hb;generalize dK c=x at*;go_enter Tryz.func189,Tryz.ntmps189;go_wp2_with fail;refine (C2.o _).mono ?_;rintro e w1 ⟨rfl,rfl⟩;go_wp2_with fail;refine (C3.o _).mono ?_;rintro e w1 ⟨rfl,hB,b1⟩;have L1:=L.o _ _ hB;go_wp2
   all_goals go_ret
   all_goals refine ⟨aT (HO.o.trans ?_),b1⟩
   all_goals exact (decide_eq_decide.2 ⟨fun h=>by have:=h.2;omega,fun h=>⟨hp,by omega⟩⟩)
 ·have HV:=hide (show ra b c=false by rw [HO.o];exact decide_eq_false (fun h=>hp h.1));generalize dK c=x at*;clear h1 h2 hb;go_enter Tryz.func189,Tryz.ntmps189;go_wp2_with fail;refine (C2.o _).mono ?_;rintro e w1 ⟨rfl,rfl⟩;go_wp2;go_ret;exact ⟨aT HV.o,af _ _⟩
theorem Cb (b:UInt8) (w:World) (p:Addr) (hp:w.cell? p=some (.int .u8 b.toNat)) (hb:p.block<w.heap.size):OH w 188 #[.pointer (some p)] (ra b):=by
 refine ⟨fun W c hB=>?_,fun W c=>ld (by kernel_rfl) W⟩
 have hc:W.cell? p=some (.int .u8 b.toNat):=by rw [hB.cell hb];exact hp
 have C:=hide (DK b c W);show Calls Tryz.prog _ #[.int .u8 (c.toNat:Int),.pointer (some p)] W _;clear hp hB;go_enter Tryz.func188,Tryz.ntmps188;go_wp2_with fail;refine C.o.mono ?_;rintro e w1 ⟨rfl,b1⟩;go_wp2;go_ret;exact ⟨rfl,b1⟩
theorem sW {l:List UInt8} {n:Nat} (h:l.length≤n+2):bY l n=0:=by
 unfold bY
 split
 ·next b t e=>
  have:(l.drop n).length=t.length+2:=by rw [e];rfl
  rw [aA] at this;rw [if_pos (.inl (List.length_eq_zero_iff.1 (by omega)))]
 ·rfl
theorem qb {l:List UInt8} {n:Nat} (h:n+1<l.length):l.drop n=l[n]::l[n+1]::l.drop (n+2):=by
 rw [cn (by omega),cn h]
theorem vE {l:List UInt8} {n:Nat} (h:n<l.length) (hc:l[n]≠39):bY l n=0:=by
 unfold bY;rw [cn h]
 split
 ·next b t e=>
  rw [List.cons.injEq] at e;exact absurd e.1 hc
 ·rfl
theorem vF {l:List UInt8} {n:Nat} (h:n+1<l.length) (hb:fJ (bp l[n+1])=none∨JT l[n+1]=false):bY l n=0:=by
 unfold bY;rw [qb h]
 split
 ·next b t e=>
  rw [List.cons.injEq,List.cons.injEq] at e;rw [e.2.1] at hb;rw [if_pos (.inr hb)]
 ·rfl
theorem DM {l:List UInt8} {n:Nat} (h:n+2<l.length) (h1:l[n]=39) (hb:(fJ (bp l[n+1])).isSome=true) (hl:JT l[n+1]=true):
 bY l n=if bf (ra (bp l[n+1])) (l.drop (n+2))=0 then 0 else n+2+bf (ra (bp l[n+1])) (l.drop (n+2)):=by
 unfold bY;rw [qb (by omega),h1];simp only;rw [if_neg];rintro (h3|h3|h3)
 ·rw [List.drop_eq_nil_iff] at h3;omega
 ·rw [h3] at hb;cases hb
 ·rw [h3] at hl;cases hl
theorem iL {w w1:World} {v:Value} {t:TypeId} (b1:Below (w.alloc (.cells #[v] t)).drew.heap.size (w.alloc (.cells #[v] t)).drew w1):
 w1.cell? ⟨w.heap.size,0,none⟩=some v∧Below w.heap.size w w1∧w.heap.size<w1.heap.size:=by
 have h:(w.alloc (.cells #[v] t)).drew.heap.size=w.heap.size+1:=by simp
 refine ⟨?_,?_,?_⟩
 ·rw [b1.cell (by rw [h];exact Nat.lt_succ_self _)];simp
 ·exact ((af w.heap.size w).alloc (aa _) _).drew.trans (b1.mono (by rw [h];exact Nat.le_succ _))
 ·have:=b1.size;rw [h] at this;exact this
theorem xG (l:List UInt8) (n:Nat) (w:World) (hl:l.length≤100000) (hn:n≤100000):
 Calls Tryz.prog 156 #[.string (ag l),.int .i64 (n:Int)] w fun e w'=>e=.returned (.int .i64 (bY l n:Int))∧Below w.heap.size w w':=by
 have hz:=aO l;have hg:∀(i:Nat) (h:i<(ag l).size) (h2:i<l.length),(ag l)[i]'h=l[i]:=fun i h h2=>fu l i h;have R:=hide (fun (b:UInt8) (W:World) (p:Addr) (h:W.cell? p=some (.int .u8 b.toNat)) (hb:p.block<W.heap.size)=>oV l (n+2) 188 #[.pointer (some p)] (ra b) W (by omega) (by omega) (Cb b W p h hb));have hw2:IntKind.i64.wrap ((n:Int)+2)=(n:Int)+2:=bI _ (by omega);have hw1:IntKind.i64.wrap ((n:Int)+1)=(n:Int)+1:=bI _ (by omega);by_cases h0:l.length≤n+2
 ·have HV:=hide (sW h0);generalize ag l=s at*
  have hge:(s.size:Int)≤(n:Int)+2:=by omega
  clear hz hg h0;go_enter Tryz.func156,Tryz.ntmps156;go_wp2;go_ret;exact ⟨kp (by rw [HV.o];rfl),af _ _⟩
 have hnl:n<l.length:=by omega
 have XK:n+1<l.length:=by omega
 by_cases h1:l[n]'hnl=39;rotate_left
 ·have HV:=hide (vE hnl h1)
  obtain ⟨c,hc⟩:∃c,l[n]'hnl=c:=⟨_,rfl⟩
  rw [hc] at h1;have e1:((c.toNat:Int)==39)=false:=aL (d:=39) h1
  have e2:((c.toNat:Int) !=39)=true:=by rw [bne,e1];rfl
  have hge:¬((ag l).size:Int)≤(n:Int)+2:=by omega
  have hlt:n<(ag l).size:=by omega
  have hsc:(ag l)[n]'hlt=c:=by rw [hg n hlt (by omega),hc]
  generalize ag l=s at*
  have hi0:(0:Int)≤(n:Int):=by omega
  have hi':(n:Int)<(s.size:Int):=by omega
  clear hz hg h0 h1 hc;go_enter Tryz.func156,Tryz.ntmps156;go_wp2;go_ret;exact ⟨kp (by rw [HV.o];rfl),af _ _⟩
 obtain ⟨d,hd⟩:∃d,l[n+1]'XK=d:=⟨_,rfl⟩
 have hge:¬((ag l).size:Int)≤(n:Int)+2:=by omega
 have hlt:n<(ag l).size:=by omega
 have Lq:n+1<(ag l).size:=by omega
 have hsc:(ag l)[n]'hlt=39:=by rw [hg n hlt (by omega),h1]
 have SY:(ag l)[n+1]'Lq=d:=by rw [hg (n+1) Lq (by omega),hd]
 have N7:=rh d;have LT:=hide (vC d);have C3:=hide uz
 have hi0:(0:Int)≤(n:Int):=by omega
 have hi':(n:Int)<((ag l).size:Int):=by omega
 have hi1:(0:Int)≤(n:Int)+1:=by omega
 have XL:(n:Int)+1<((ag l).size:Int):=by omega
 have AA:((n:Int)+1).toNat=n+1:=by omega
 have L:=hide (fun (W:World) (r:Nat) (h:sV W r)=>show (Instr.lookup 161 (.map (some r)) (.int .u8 (bp d).toNat) true).run Tryz.prog W=.ok (.tuple #[.int .i64 _,.bool _]) W from qa W r h (bp d) true);generalize hk:(((fJ (bp d)).getD 0:Nat):Int)=k at*;clear hk
 cases hbs:(fJ (bp d)).isSome with
 |false=>
  rw [hbs] at L;have HV:=hide (vF (l:=l) (n:=n) XK (.inl (by rw [hd];exact Option.isSome_eq_false_iff.1 hbs|>Option.isNone_iff_eq_none.1)));generalize (bp d)=b at*;generalize ag l=s at*;clear hz hg h0 h1 hd hbs;go_enter Tryz.func156,Tryz.ntmps156;go_upto_region 4 with fail
  go_region_with (go_at_call 187;refine (C3.o _).mono ?_;rintro e w1 ⟨rfl,hB,b1⟩;have L1:=L.o w1 (w.heap.size+1) (by simpa using hB);have hc5:=(iL b1).1;have Hb:=hide (iL b1).2.1;have hsz:=hide (iL b1).2.2;clear b1 hB)
  all_goals
   go_wp2_with fail;go_ret;exact ⟨kp (by rw [HV.o];rfl),Hb.o⟩
 |true=>
  rw [hbs] at L
  cases zS:JT d with
  |false=>
   rw [zS] at LT;have HV:=hide (vF (l:=l) (n:=n) XK (.inr (by rw [hd];exact zS)));generalize (bp d)=b at*;generalize ag l=s at*;clear hz hg h0 h1 hd hbs zS;go_enter Tryz.func156,Tryz.ntmps156;go_upto_region 4 with fail
   go_region_with (go_at_call 187;refine (C3.o _).mono ?_;rintro e w1 ⟨rfl,hB,b1⟩;have L1:=L.o w1 (w.heap.size+1) (by simpa using hB);have hc5:=(iL b1).1;have Hb:=hide (iL b1).2.1;have hsz:=hide (iL b1).2.2;clear b1 hB)
   all_goals
    go_wp2_with fail;refine (LT.o _).mono ?_;rintro e w2 ⟨rfl,rfl⟩;go_wp2_with fail;go_ret;exact ⟨kp (by rw [HV.o];rfl),Hb.o⟩
  |true=>
   rw [zS] at LT;have HV:=DM (l:=l) (n:=n) (by omega) h1 (by rw [hd];exact hbs) (by rw [hd];exact zS);rw [hd] at HV;have hk3:bf (ra (bp d)) (l.drop (n+2))≤100000:=br (fA _ _) (by rw [aA];omega);have R2:=hide (fun (W:World) (p:Addr) (h:W.cell? p=some (.int .u8 (bp d).toNat)) (hb:p.block<W.heap.size)=>R.o (bp d) W p h hb);clear R;generalize (bp d)=b at*;generalize ag l=s at*;generalize bf (ra b) (l.drop (n+2))=m at*;have HV:=hide HV;clear hz hg h0 h1 hd hbs zS;by_cases hm:m=0
   ·have em:(((n+2+m:Nat):Int)==(n:Int)+2)=true:=by rw [beq_iff_eq];omega
    go_enter Tryz.func156,Tryz.ntmps156;go_upto_region 4 with fail
    go_region_with (go_at_call 187;refine (C3.o _).mono ?_;rintro e w1 ⟨rfl,hB,b1⟩;have L1:=L.o w1 (w.heap.size+1) (by simpa using hB);have hc5:=(iL b1).1;have Hb:=hide (iL b1).2.1;have hsz:=hide (iL b1).2.2;clear b1 hB)
    all_goals
     go_wp2_with fail;refine (LT.o _).mono ?_;rintro e w2 ⟨rfl,rfl⟩;go_wp2_with fail;refine (R2.o w2 ⟨w.heap.size,0,none⟩ hc5 hsz.o).mono ?_;rintro e w2 ⟨rfl,b2⟩;go_wp2_with fail;go_ret;exact ⟨kp (by rw [HV.o,if_pos hm];rfl),Hb.o.trans (b2.mono Hb.o.size)⟩
   ·have em:(((n+2+m:Nat):Int)==(n:Int)+2)=false:=by rw [aP];omega
    go_enter Tryz.func156,Tryz.ntmps156;go_upto_region 4 with fail
    go_region_with (go_at_call 187;refine (C3.o _).mono ?_;rintro e w1 ⟨rfl,hB,b1⟩;have L1:=L.o w1 (w.heap.size+1) (by simpa using hB);have hc5:=(iL b1).1;have Hb:=hide (iL b1).2.1;have hsz:=hide (iL b1).2.2;clear b1 hB)
    all_goals
     go_wp2_with fail;refine (LT.o _).mono ?_;rintro e w2 ⟨rfl,rfl⟩;go_wp2_with fail;refine (R2.o w2 ⟨w.heap.size,0,none⟩ hc5 hsz.o).mono ?_;rintro e w2 ⟨rfl,b2⟩;go_wp2_with fail;go_ret;exact ⟨kp (by rw [HV.o,if_neg hm];omega),Hb.o.trans (b2.mono Hb.o.size)⟩
end Go.Proofs.YtddoehnkgcbboaaGreatDoor
namespace Go.Proofs.YtddoehnkgcbboaaGreatDoor
open Go
def kq (b:UInt8):Bool:=decide (48≤b.toNat∧b.toNat≤57)
def nd (l:List UInt8):Nat:=(l.takeWhile kq).length
theorem xH (l:List UInt8):nd l≤l.length:=by
 unfold nd
 induction l with
 |nil=>exact aa _
 |cons a t ih=>rw [List.takeWhile_cons];split<;>simp<;>omega
theorem xI (l:List UInt8):∀(j:Nat) (h:j<l.length),j<nd l→kq l[j]=true:=by
 unfold nd
 induction l with
 |nil=>intro j h;simp at h
 |cons a t ih=>
  intro j h hj;rw [List.takeWhile_cons] at hj
  cases ha:kq a with
  |false=>rw [ha] at hj;simp at hj
  |true=>
   rw [ha] at hj
   rcases j with _|j
   ·exact ha
   ·exact ih j (by simpa using h) (by simpa using hj)
theorem OQ (l:List UInt8) (h:nd l<l.length):kq l[nd l]=false:=by
 unfold nd at h⊢
 induction l with
 |nil=>simp at h
 |cons a t ih=>
  cases ha:kq a with
  |false=>simp [ha]
  |true=>
   have h':(t.takeWhile kq).length<t.length:=by simpa [List.takeWhile_cons,ha] using h
   simpa [ha] using ih h'
def dv (l:List UInt8):Nat:=l.foldl (fun a b=>10*a+(b.toNat-48)) 0
theorem JW (l:List UInt8) (b:UInt8):dv (l++[b])=10*dv l+(b.toNat-48):=by
 unfold dv;rw [List.foldl_append];rfl
theorem GR (l:List UInt8) (k:Nat) (h:k<l.length):l.take (k+1)=l.take k++[l[k]]:=by
 rw [List.take_succ_eq_append_getElem h]
theorem JX (l:List UInt8) (k:Nat) (h:k<l.length):dv (l.take (k+1))=10*dv (l.take k)+(l[k].toNat-48):=by
 rw [GR l k h,JW]
theorem aak (l:List UInt8) (k:Nat):(∀j (h:j<l.length),j<k→kq l[j]=true)→k≤l.length→dv (l.take k)<10 ^ k:=by
 induction k with
 |zero=>intro _ _;show 0<_;decide
 |succ k ih=>
  intro hd hk;have h1:=ih (fun j h hj=>hd j h (by omega)) (by omega);have h2:=hd k (by omega) (by omega);rw [JX l k (by omega),Nat.pow_succ];simp only [kq,decide_eq_true_eq] at h2;omega
theorem OS {b:UInt8} (h:kq b=true):Lib.digitVal b=some (b.toNat-48):=by
 simp only [kq,decide_eq_true_eq] at h;unfold Lib.digitVal;rw [if_pos (by first|exact h|simpa using h)]
theorem GU (l:List UInt8) (k:Nat):(∀j (h:j<l.length),j<k→kq l[j]=true)→k≤l.length→Lib.decFrom 0 (l.take k)=some (dv (l.take k)):=by
 induction k with
 |zero=>intro _ _;rfl
 |succ k ih=>
  intro hd hk;have h1:=ih (fun j h hj=>hd j h (by omega)) (by omega);have h2:=hd k (by omega) (by omega);rw [Lib.decFrom_take l k 0 _ l[k] _ h1 (List.getElem?_eq_getElem (by omega)) (OS h2),JX l k (by omega),Nat.mul_comm]
theorem JY (l:List UInt8) (k:Nat) (hd:∀j (h:j<l.length),j<k→kq l[j]=true) (hk:k≤l.length) (h1:1≤k):Lib.atoi (l.take k)=some ((dv (l.take k):Nat):Int):=by
 have hf:=GU l k hd hk
 rcases l with _|⟨b,t⟩
 ·simp at hk;omega
 ·obtain ⟨k',rfl⟩:∃k',k=k'+1:=⟨k-1,by omega⟩
  have hb:=hd 0 (by simp) (by omega);simp only [kq,decide_eq_true_eq,List.getElem_cons_zero] at hb;rw [List.take_succ_cons] at hf⊢;have n1:(b==45)=false:=aP.2 (fun e=>by subst e;simp at hb);have n2:(b==43)=false:=aP.2 (fun e=>by subst e;simp at hb);unfold Lib.atoi;simp only [n1,n2,Bool.false_eq_true,if_false];unfold Lib.decNat
  first|(rw [hf];rfl)|(simp [hf])
theorem OT (n:Nat):1≤n→∀h:0<(Lib.decDigits n).length,(Lib.decDigits n)[0]≠48:=by
 induction n using Nat.strongRecOn with
 |_ n ih=>
 intro h1 h;by_cases hs:n<10
 ·have e:Lib.decDigits n=[UInt8.ofNat (48+n)]:=by rw [Lib.decDigits,dif_pos hs]
  simp only [e,List.getElem_cons_zero];intro hh;have:=congrArg UInt8.toNat hh;rw [UInt8.toNat_ofNat',Nat.mod_eq_of_lt (by omega)] at this;have h48:(48:UInt8).toNat=48:=rfl;omega
 ·have e:Lib.decDigits n=Lib.decDigits (n / 10)++[UInt8.ofNat (48+n % 10)]:=by rw [Lib.decDigits,dif_neg hs]
  have hp:0<(Lib.decDigits (n / 10)).length:=by rw [Lib.decDigits];split<;>simp
  simp only [e];rw [uw hp];exact ih (n / 10) (by omega) (by omega) hp
end Go.Proofs.YtddoehnkgcbboaaGreatDoor
