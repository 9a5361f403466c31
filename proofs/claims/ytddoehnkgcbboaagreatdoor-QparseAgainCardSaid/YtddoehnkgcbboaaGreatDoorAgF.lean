/- A part of the proof that the last file tells. -/
import Derived.Test.YtddoehnkgcbboaaGreatDoorAgE
set_option maxHeartbeats 16000000
set_option maxRecDepth 100000
set_option linter.unusedVariables false
set_option linter.unusedSimpArgs false
namespace Go.Proofs.YtddoehnkgcbboaaGreatDoor
open Go.RowKit Go.Shelf
theorem l4:∀(n m:Nat) (l:List UInt8),l.length≤n→l.length≤m→ja n l=ja m l
 |0,m,l,hn,_=>by
  have:l=[]:=List.length_eq_zero_iff.1 (by omega)
  subst this;cases m<;>rfl
 |n+1,0,l,_,hm=>by
  have:l=[]:=List.length_eq_zero_iff.1 (by omega);subst this;rfl
 |n+1,m+1,[],_,_=>rfl
 |n+1,m+1,c::t,hn,hm=>by
  rw [aj] at hn hm;simp only [ja];rw [l4 n m t (by omega) (by omega),l4 n m (t.drop 1) (by rw [aA];omega) (by rw [aA];omega)]
def bV (l:List UInt8):Nat:=ja l.length l
theorem xV:bV []=0:=rfl
theorem rE (t:List UInt8):bV (34::t)=0:=by
 unfold bV;rw [aj];simp only [ja];rw [if_pos trivial]
theorem nH (t:List UInt8):bV (92::t)=bV (t.drop 1)+2:=by
 unfold bV;rw [aj];simp only [ja];rw [if_neg (by decide),if_pos trivial,l4 t.length (t.drop 1).length _ (by rw [aA];omega) (aa _)]
theorem mH {c:UInt8} (t:List UInt8) (h1:c≠34) (h2:c≠92):bV (c::t)=bV t+1:=by
 unfold bV;rw [aj];simp only [ja];rw [if_neg h1,if_neg h2]
theorem uM:∀(n:Nat) (l:List UInt8),l.length≤n→bV l≤l.length+1
 |0,l,h=>by
  have:l=[]:=List.length_eq_zero_iff.1 (by omega);subst this;exact bj _
 |n+1,[],_=>bj _
 |n+1,c::t,h=>by
  rw [aj] at h⊢;by_cases h1:c=34
  ·subst h1;rw [rE];omega
  ·by_cases h2:c=92
   ·subst h2;rw [nH]
    cases t with
    |nil=>show bV []+2≤2;rw [xV];omega
    |cons d r=>
     show bV r+2≤_;rw [aj] at h⊢;have:=uM n r (by omega);omega
   ·rw [mH t h1 h2];have:=uM n t (by omega);omega
def iO (l:List UInt8) (E:Nat):Wq:=if l.length≤E then dI 3 else ⟨5,(iZ (l.take (E+1))).1,E+1,(iZ (l.take (E+1))).2⟩
theorem gX (l:List UInt8):fF l=iO l (1+bV (l.drop 1)):=by
 unfold fF iO;rw [l4 l.length (l.drop 1).length (l.drop 1) (by rw [aA];omega) (aa _)];show (if l.length≤1+bV (l.drop 1) then _ else _)=_;rw [show ja (l.drop 1).length (l.drop 1)=bV (l.drop 1) from rfl,show bV (l.drop 1)+2=1+bV (l.drop 1)+1 by omega]
theorem Cj (l:List UInt8) (w:World) (hl:l.length≤50000):
 Calls Tryz.prog 123 #[.string (ag l)] w fun e w'=>e=.returned (sQ (fF l))∧Below w.heap.size w w':=by
 have hz:=aO l;have hg:∀(i:Nat) (h:i<(ag l).size) (h2:i<l.length),(ag l)[i]'h=l[i]:=fun i h h2=>fu l i h
 obtain ⟨E,hE⟩:∃E,1+bV (l.drop 1)=E:=⟨_,rfl⟩
 have hpq:fF l=iO l E:=by rw [gX,hE]
 have HE:=hide hE;have Gr:=hide hpq
 have hEl:E≤l.length+2:=by rw [←hE];have:=uM _ (l.drop 1) (aa _);rw [aA] at this;omega
 have x1:(ag l).extract 0 (E+1)=ag (l.take (E+1)):=sN l (E+1);have Ed:=hide x1;have UN:=hide (fun W:World=>Aa (l.take (E+1)) W (by rw [cr];omega));clear hE hpq x1;generalize ag l=s at*;have Hz:=hide hz;have Hg:=hide hg;clear hz hg;go_enter Tryz.func123,Tryz.ntmps123;go_upto_region 1 with fail
 obtain ⟨W1,hW1⟩:∃W1,w.alloc (.cells #[.int .i64 0,.string ⟨#[]⟩,.int .i64 0,.int .i64 0,.int .i64 0] 85)=W1:=⟨_,rfl⟩
 rw [hW1];have HB:=hide (show Below w.heap.size w W1 by rw [←hW1];exact (af _ _).alloc (aa _) _);have HR:=hide (show ZW W1 w.heap.size by rw [←hW1];exact Row.new _ _ _);clear hW1
 obtain ⟨g,hgg⟩:∃g,w.heap.size=g:=⟨_,rfl⟩
 rw [hgg] at HR;rw [hgg];have AJ:=hide hgg;clear hgg;go_wp2_with fail
 go_loop [3] (fun v=>∃i:Nat,v=.int .i64 (i:Int)∧i≤l.length+1∧i+bV (l.drop i)=E) (fun v=>l.length+2-(intOf v).toNat)
 case atStart=>exact ⟨1,rfl,by omega,HE.o⟩
 case round=>
  obtain ⟨i,rfl,hi,hiE⟩:=hrel;have HiE:=hide hiE;clear hiE;by_cases hlt:i<l.length
  ·have N8:i<s.size:=by have:=Hz.o;omega
   have hi':(i:Int)<(s.size:Int):=by omega
   have hi0:(0:Int)≤(i:Int):=by omega
   obtain ⟨c,hc⟩:∃c,l[i]'hlt=c:=⟨_,rfl⟩
   have hsc:s[i]'N8=c:=by rw [Hg.o i N8 hlt,hc]
   have hdr:=drop_one hlt;rw [hc] at hdr;have Ue:=hide hdr;clear hc hdr;have hw1:IntKind.i64.wrap ((i:Int)+1)=(i:Int)+1:=bI _ (by omega);by_cases c1:c=34
   ·subst c1
    have hEi:i=E:=by have:=HiE.o;rw [Ue.o,rE] at this;omega
    subst hEi;have hV:=Gr.o;unfold iO at hV;rw [if_neg (by omega)] at hV
    obtain ⟨⟨t,er⟩,hu⟩:∃p,iZ (l.take (i+1))=p:=⟨_,rfl⟩
    rw [hu] at hV UN;have HV:=hide hV;have x1:=Ed.o
    have hge:¬(s.size:Int)≤(i:Int):=by omega
    have hsl:((i:Int)+1).toNat=i+1:=by omega
    clear hV hu;generalize ag (l.take (i+1))=sp at*;go_wp2_with fail;refine (UN.o _).mono ?_;rintro e w9 ⟨rfl,iK⟩;have r9:ZW w9 g:=HR.o.below iK HR.o.lt;have B9:=hide (HB.o.trans (iK.mono HB.o.size));have R9:=hide r9;have c0:=r9.cell 0;have c1:=r9.cell 1;have c2:=r9.cell 2;have c3:=r9.cell 3;have c4:=r9.cell 4;have f0:=r9.frozen 0;have f1:=r9.frozen 1;have f2:=r9.frozen 2;have f3:=r9.frozen 3;have f4:=r9.frozen 4;clear r9 iK;go_wp2;refine bodyPost_ret (v:=.agg #[.int .i64 5,.string (ag t),.int .i64 0,.int .i64 ((i:Int)+1),.int .i64 er]) (ai rfl _ _ g 85 _ _ _ rfl (R9.o.put _ _ _ _ _) Tryz.underlying85 rfl (by kernel_rfl)) rfl ?_;rw [HV.o];exact ⟨rfl,eo B9.o (Nat.le_of_eq AJ.o) _ _ _ _ _⟩
   have e1:((c.toNat:Int)==34)=false:=aL (d:=34) c1
   have e2:((c.toNat:Int) !=34)=true:=by rw [bne,e1];rfl
   by_cases c2:c=92
   ·subst c2;have HN:=hide (show (i+2)+bV (l.drop (i+1+1))=E by rw [←HiE.o,Ue.o,nH,dB];omega);clear c1;go_wp2;go_round
    case rel=>exact ⟨i+2,by go_num,by omega,HN.o⟩
    case measure=>simp [intOf];omega
   ·have e3:((c.toNat:Int)==92)=false:=aL (d:=92) c2;have HN:=hide (show (i+1)+bV (l.drop (i+1))=E by rw [←HiE.o,Ue.o,mH _ c1 c2];omega);clear c1 c2;go_wp2;go_round
    case rel=>exact ⟨i+1,by go_num,by omega,HN.o⟩
    case measure=>simp [intOf];omega
  ·have hi':¬(i:Int)<(s.size:Int):=by have:=Hz.o;omega
   have hge:(s.size:Int)≤(i:Int):=by omega
   have hEi:i=E:=by have:=HiE.o;rw [dc (by omega),xV] at this;omega
   have HV:=hide (show fF l=dI 3 by rw [Gr.o];unfold iO;rw [if_pos (by omega)]);clear hEi;go_wp2_with fail;refine (eF 3 _).mono ?_;rintro e w9 ⟨rfl,iK⟩;have r9:ZW w9 g:=HR.o.below iK HR.o.lt;have B9:=hide (HB.o.trans (iK.mono HB.o.size));have R9:=hide r9;have c0:=r9.cell 0;have c1:=r9.cell 1;have c2:=r9.cell 2;have c3:=r9.cell 3;have c4:=r9.cell 4;have f0:=r9.frozen 0;have f1:=r9.frozen 1;have f2:=r9.frozen 2;have f3:=r9.frozen 3;have f4:=r9.frozen 4;clear r9 iK;go_wp2;refine bodyPost_ret (v:=.agg #[.int .i64 0,.string ⟨#[]⟩,.int .i64 0,.int .i64 0,.int .i64 3]) (ai rfl _ _ g 85 _ _ _ rfl (R9.o.put _ _ _ _ _) Tryz.underlying85 rfl (by kernel_rfl)) rfl ?_;rw [HV.o];exact ⟨rfl,eo B9.o (Nat.le_of_eq AJ.o) _ _ _ _ _⟩
end Go.Proofs.YtddoehnkgcbboaaGreatDoor
namespace Go.Proofs.YtddoehnkgcbboaaGreatDoor
open Go.RowKit Go.Shelf Go.Sort
theorem fH (l:List UInt8):(cf l).size=l.length:=by rw [Lib.size_eq,gi]
theorem Hp (l:List UInt8) (i:Nat) (h:i<(cf l).size):(cf l)[i]'h=l[i]'(by rw [←fH];exact h):=by
 have:=Lib.data_getElem? (cf l) i h;rw [gi,List.getElem?_eq_getElem (by rw [←fH];exact h)] at this;exact (au this).symm
def mh (c:UInt8):Value:=.int .u8 (c.toNat:Int)
def l5 (l:List UInt8):List UInt8:=(l.reverse.dropWhile (·==48)).reverse
theorem J8 {W:World} {b off:Nat} {l:List UInt8} (h:∀i (hi:i<l.length),W.cell? ⟨b,off+i,none⟩=some (mh (l[i]'hi))) (k:Nat):Sl mh W (some ⟨b,off+k,none⟩) (l.drop k):=fun hp=>
 ⟨b,off+k,rfl,fun i hi=>by
  have hk:k+i<l.length:=by rw [aA] at hi;omega
  rw [Nat.add_assoc,h (k+i) hk,List.getElem_drop]⟩
theorem uN (A:Option Addr) (n cap:Nat) (l:List UInt8) (w:World) (hn:n=l.length) (hp:0<l.length) (hc:n≤cap) (hz:cap≤maxLen) (hs:Sl mh w A l):
 Calls Tryz.prog 228 #[.slice A n cap,.int .u8 48] w fun e w'=>(∃A' cap',e=.returned (.slice A' (l.dropWhile (·==48)).length cap')∧(∀W':World,Sl mh W' A l→Sl mh W' A' (l.dropWhile (·==48)))∧(l.dropWhile (·==48)).length≤cap'∧cap'≤maxLen)∧w'=w:=by
 subst hn;obtain ⟨b,off,rfl,hat⟩:=hs hp;unfold maxLen at hz⊢;have Ek:=hide hat
 obtain ⟨R,hR⟩:∃R,l.dropWhile (·==48)=R:=⟨_,rfl⟩
 have HR:=hide hR;rw [hR];clear hat hR hs;go_enter Tryz.func228,Tryz.ntmps228;go_wp2
 go_loop [0] (fun v=>∃(k:Nat) (A':Option Addr),v=.slice A' (l.length-k) (cap-k)∧k≤l.length∧(l.drop k).dropWhile (·==48)=R∧(k<l.length→A'=some ⟨b,off+k,none⟩)) (fun v=>match v with|.slice _ m _=>m|_=>0)
 case atStart=>exact ⟨0,some ⟨b,off,none⟩,rfl,bj _,HR.o,fun _=>rfl⟩
 case round=>
  obtain ⟨k,A',rfl,hk,hrest,hA⟩:=hrel;have AR:=hide hrest;clear hrest;by_cases hlt:k<l.length
  ·obtain rfl:=hA hlt;have hcell:=Ek.o k hlt;have hdr:l.drop k=l[k]::l.drop (k+1):=cn hlt
   obtain ⟨c,hc0⟩:∃c,l[k]'hlt=c:=⟨_,rfl⟩
   rw [hc0] at hcell hdr
   have hpos:(0:Int)<((l.length-k:Nat):Int):=by omega
   have hpos':0<l.length-k:=by omega
   unfold mh at hcell
   have h1c:(1:Int)≤((l.length-k:Nat):Int):=by omega
   have h2c:((l.length-k:Nat):Int)≤((cap-k:Nat):Int):=by omega
   by_cases h48:c=48
   ·have e48:((c.toNat:Int)==48)=true:=by rw [h48];rfl
    have hr2:(l.drop (k+1)).dropWhile (·==48)=R:=by
     have:=AR.o;rw [hdr,List.dropWhile_cons,h48] at this
     simpa using this
    have Um:=hide hr2;clear hr2 hdr hc0 h48 hA;go_wp2;go_round
    case rel=>exact ⟨k+1,if cap-k=1 then some ⟨b,off+k,none⟩ else some ⟨b,off+k+1,none⟩,by rw [←Nat.sub_sub,←Nat.sub_sub],by omega,Um.o,fun h=>if_neg (by omega)⟩
    case measure=>show l.length-k-1<l.length-k;omega
   ·have e48:((c.toNat:Int)==48)=false:=aP.2 (fun e=>h48 ((u8i c 48).1 e))
    have hr2:l.drop k=R:=by
     have:=AR.o
     have h48':(c==48)=false:=by simpa using h48
     rw [hdr,List.dropWhile_cons,h48'] at this
     rw [hdr];simpa using this
    have hrl:R.length=l.length-k:=by rw [←hr2,aA]
    have hsl:∀W':World,Sl mh W' (some ⟨b,off,none⟩) l→Sl mh W' (some ⟨b,off+k,none⟩) R:=fun W' h=>by
     obtain ⟨b',off',hA',hat'⟩:=h hp;cases hA';have:=J8 hat' k;rw [hr2] at this;exact this
    have Hsl:=hide hsl;have Hrl:=hide hrl
    have adB:((l.length-k:Nat):Int)≠0:=by omega
    have Pk:l.length-k≠0:=by omega
    clear hr2 hdr hc0 h48 hA hsl hrl;go_wp2;go_ret;exact ⟨⟨some ⟨b,off+k,none⟩,cap-k,congrArg (fun m=>Ending.returned (Value.slice (some ⟨b,off+k,none⟩) m (cap-k))) Hrl.o.symm,Hsl.o,by rw [Hrl.o];omega,by omega⟩,rfl⟩
  ·obtain rfl:k=l.length:=by omega
   have iX:R=[]:=by
    have:=AR.o;rw [List.drop_length] at this;exact this.symm
   subst iX;have hl0:l.length-l.length=0:=Nat.sub_self _;rw [hl0];clear hA;go_wp2;go_ret;exact ⟨⟨none,0,rfl,fun W' _=>Sl.nil _ _ _,by omega⟩,rfl⟩
theorem Ck (A:Option Addr) (n cap:Nat) (l:List UInt8) (w:World) (hn:n=l.length) (hc:n≤cap) (hz:cap≤maxLen) (hs:Sl mh w A l):
 Calls Tryz.prog 206 #[.slice A n cap,.string ⟨#[48]⟩] w fun e w'=>(∃A' cap',e=.returned (.slice A' (l.dropWhile (·==48)).length cap')∧(∀W':World,Sl mh W' A l→Sl mh W' A' (l.dropWhile (·==48)))∧(l.dropWhile (·==48)).length≤cap'∧cap'≤maxLen)∧w'=w:=by
 subst hn;by_cases hp:0<l.length
 ·have T:=hide (fun (W:World) (h:Sl mh W A l)=>uN A l.length cap l W rfl hp hc hz h);have Hs:=hide hs
  have hn0:((l.length:Nat):Int)≠0:=by omega
  have AA:l.length≠0:=by omega
  clear hs;go_enter Tryz.func206,Tryz.ntmps206;go_wp2_with fail;refine (T.o _ Hs.o).mono ?_;rintro e wx ⟨⟨A',cap',rfl,h1,h2,h3⟩,rfl⟩;have H1:=hide h1;clear h1;go_wp2;go_ret;exact ⟨⟨A',cap',rfl,H1.o,h2,h3⟩,rfl⟩
 ·obtain rfl:l=[]:=gH (by omega);go_enter Tryz.func206,Tryz.ntmps206;go_wp2;go_ret;exact ⟨⟨none,0,rfl,fun W' _=>Sl.nil _ _ _,aa _,by unfold maxLen;omega⟩,rfl⟩
theorem Hq (l:List UInt8) (k:Nat) (hk:k<l.length):l5 (l.take (k+1))=if l[k]=48 then l5 (l.take k) else l.take (k+1):=by
 have e:l.take (k+1)=l.take k++[l[k]]:=List.take_succ_eq_append_getElem hk;unfold l5;rw [e,List.reverse_append];show (List.dropWhile _ (l[k]::(l.take k).reverse)).reverse=_;rw [List.dropWhile_cons];by_cases h:l[k]=48
 ·rw [if_pos h];simp [h]
 ·have:(l[k]==48)=false:=by simpa using h
  rw [if_neg h,this];simp
theorem tC (A:Option Addr) (n cap:Nat) (l:List UInt8) (w:World) (hn:n=l.length) (hp:0<l.length) (hc:n≤cap) (hz:cap≤maxLen) (hs:Sl mh w A l):
 Calls Tryz.prog 232 #[.slice A n cap,.int .u8 48] w fun e w'=>(∃A' cap',e=.returned (.slice A' (l5 l).length cap'))∧w'=w:=by
 subst hn;obtain ⟨b,off,rfl,hat⟩:=hs hp;unfold maxLen at hz;have Ek:=hide hat
 obtain ⟨R,hR⟩:∃R,l5 l=R:=⟨_,rfl⟩
 have HR:=hide hR;rw [hR];clear hat hR hs;go_enter Tryz.func232,Tryz.ntmps232;go_wp2
 go_loop [0] (fun v=>∃k:Nat,v=.slice (some ⟨b,off,none⟩) k cap∧k≤l.length∧l5 (l.take k)=R) (fun v=>match v with|.slice _ m _=>m|_=>0)
 case atStart=>exact ⟨l.length,rfl,aa _,by rw [List.take_length];exact HR.o⟩
 case round=>
  obtain ⟨k,rfl,hk,hrest⟩:=hrel;have AR:=hide hrest;clear hrest;by_cases hlt:0<k
  ·obtain ⟨j,rfl⟩:∃j,k=j+1:=⟨k-1,by omega⟩
   have hjl:j<l.length:=by omega
   have hcell:=Ek.o j hjl;have hst:=Hq l j hjl;rw [AR.o] at hst
   obtain ⟨c,hc0⟩:∃c,l[j]'hjl=c:=⟨_,rfl⟩
   rw [hc0] at hcell hst;unfold mh at hcell
   have hjc:((j:Nat):Int)≤(cap:Int):=by omega
   have hjm:(j:Int)≤9223372036854775806:=by omega
   by_cases h48:c=48
   ·have e48:((c.toNat:Int)==48)=true:=by rw [h48];rfl
    rw [if_pos h48] at hst;have Ac:=hide hst;clear hst hc0 h48;go_wp2;go_round
    case rel=>exact ⟨j,by first|rfl|simp,by omega,Ac.o.symm⟩
    case measure=>first|(show j<j+1;omega)|(simp;omega)
   ·have e48:((c.toNat:Int)==48)=false:=aP.2 (fun e=>h48 ((u8i c 48).1 e));rw [if_neg h48] at hst
    have hrl:R.length=j+1:=by rw [hst,cr];omega
    have Hrl:=hide hrl;clear hst hc0 h48 hrl;go_wp2;go_ret;exact ⟨⟨some ⟨b,off,none⟩,cap,congrArg (fun m=>Ending.returned (Value.slice (some ⟨b,off,none⟩) m cap)) Hrl.o.symm⟩,rfl⟩
  ·obtain rfl:k=0:=by omega
   have iX:R=[]:=by
    have:=AR.o;exact this.symm
   subst iX;go_wp2;go_ret;exact ⟨⟨_,_,rfl⟩,rfl⟩
theorem Ad (A:Option Addr) (n cap:Nat) (l:List UInt8) (w:World) (hn:n=l.length) (hc:n≤cap) (hz:cap≤maxLen) (hs:Sl mh w A l):
 Calls Tryz.prog 207 #[.slice A n cap,.string ⟨#[48]⟩] w fun e w'=>(∃A' cap',e=.returned (.slice A' (l5 l).length cap'))∧w'=w:=by
 subst hn;by_cases hp:0<l.length
 ·have T:=hide (fun (W:World) (h:Sl mh W A l)=>tC A l.length cap l W rfl hp hc hz h);have Hs:=hide hs
  have hn0:((l.length:Nat):Int)≠0:=by omega
  have AA:l.length≠0:=by omega
  clear hs;go_enter Tryz.func207,Tryz.ntmps207;go_wp2_with fail;refine (T.o _ Hs.o).mono ?_;rintro e wx ⟨⟨A',cap',rfl⟩,rfl⟩;go_wp2;go_ret;exact ⟨⟨A',cap',rfl⟩,rfl⟩
 ·obtain rfl:l=[]:=gH (by omega);go_enter Tryz.func207,Tryz.ntmps207;go_wp2;go_ret;exact ⟨⟨_,_,rfl⟩,rfl⟩
def jo (neg:Bool) (A:Option Addr) (n cap:Nat) (e:Int):Value:=.agg #[.bool neg,.slice A n cap,.int .i64 e]
theorem tD (l:List UInt8):bh l=l5 (l.dropWhile (·==48)):=rfl
theorem El (l:List UInt8):(l5 l).length≤l.length∧l5 l=l.take (l5 l).length:=by
 have h:l5 l<+:l:=by
  unfold l5;rw [←List.reverse_suffix,List.reverse_reverse];exact List.dropWhile_suffix _
 exact ⟨h.length_le,List.prefix_iff_eq_take.1 h⟩
theorem J9 {W:World} {A:Option Addr} {l:List UInt8} (h:Sl mh W A l) (k:Nat):Sl mh W A (l.take k):=by
 intro hp;rw [cr] at hp;obtain ⟨b,off,rfl,hat⟩:=h (by omega);exact ⟨b,off,rfl,fun i hi=>by rw [hat i (by rw [cr] at hi;omega),List.getElem_take]⟩
theorem Cl (neg:Bool) (A:Option Addr) (n cap:Nat) (e:Int) (w:World) (hn:n≤1000000) (h0:-1000000000≤e) (h1:e≤1000000000):
 Calls Tryz.prog 179 #[jo neg A n cap e] w fun e' w'=>e'=.returned (.int .i64 (e+n-1))∧Below w.heap.size w w':=by
 unfold jo
 have hn':(n:Int)≤1000000:=by omega
 go_enter Tryz.func179,Tryz.ntmps179;go_wp2;go_ret;exact ⟨rfl,(af _ _).alloc (aa _) _⟩
theorem Pm (neg:Bool) (A:Option Addr) (n cap:Nat) (l:List UInt8) (e:Int) (w:World) (hn:n=l.length) (hl:l.length≤1000000) (hc:n≤cap) (hz:cap≤maxLen) (h0:-1000000000≤e) (h1:e≤1000000000) (hs:Sl mh w A l):
 Calls Tryz.prog 178 #[jo neg A n cap e] w fun e' w'=>∃A' cap' LU ex',e'=.returned (jo LU A' (bh l).length cap' ex')∧Sl mh w' A' (bh l)∧(bh l).length≤cap'∧cap'≤maxLen∧Below w.heap.size w w'∧
  (bh l≠[]→LU=neg∧ex'=e+((l.dropWhile (·==48)).length-(bh l).length))∧(bh l=[]→LU=false∧ex'=0):=by
 subst hn;unfold jo;have TL:=hide (fun (W:World) (h:Sl mh W A l)=>Ck A l.length cap l W rfl hc hz h);have Hs:=hide hs;have LQ:(l.dropWhile (·==48)).length≤l.length:=(List.dropWhile_suffix (p:=(·==(48:UInt8))) (l:=l)).length_le;have hdr:=El (l.dropWhile (·==48));rw [tD];generalize l.dropWhile (·==48)=D at*
 obtain ⟨T,hT⟩:∃T,l5 D=T:=⟨_,rfl⟩
 have TR:=hide (fun (A':Option Addr) (cap':Nat) (W:World) (hc:D.length≤cap') (hz:cap'≤maxLen) (h:Sl mh W A' D)=>Ad A' D.length cap' D W rfl hc hz h);rw [hT] at TR hdr⊢;have htd:T.length≤D.length:=hdr.1;have HT:=hide hdr.2
 have hdI:(D.length:Int)≤1000000:=by omega
 have htI:(T.length:Int)≤D.length:=by omega
 clear hs hdr hT;go_enter Tryz.func178,Tryz.ntmps178;go_wp2_with fail;refine (TL.o _ (Hs.o.below (((af w.heap.size w).alloc (aa _) _).alloc (by rw [aF];omega) _))).mono ?_;rintro e' wx ⟨⟨A1,wL,rfl,hs1,hc1,hz1⟩,rfl⟩;have Hs1:=hide hs1;have hsD:Sl mh w A1 D:=hs1 w Hs.o;have HsD:=hide hsD;clear hs1 hsD
 have c1:(T.length:Int)≤(wL:Int):=by omega
 unfold maxLen at hz1
 have zI:(wL:Int)≤9223372036854775807:=by omega
 go_wp2_with fail;refine (TR.o _ _ _ hc1 hz1 (HsD.o.below (((af w.heap.size w).alloc (aa _) _).alloc (by rw [aF];omega) _))).mono ?_;rintro e' wx ⟨⟨A2,cap2,rfl⟩,rfl⟩;by_cases hT0:T.length=0
 ·obtain rfl:T=[]:=gH hT0;have hTI:(([]:List UInt8).length:Int)=0:=rfl;go_wp2
  exact bodyPost_ret (v:=.agg #[.bool false,.slice none 0 0,.int .i64 0]) (results_cell_row rfl _ _ (w.heap.size+1) 131 _ _ _ rfl (heap_alloc2_new w _ _) Tryz.underlying131 rfl (by kernel_rfl)) rfl
   ⟨none,0,0,rfl,Sl.nil _ _ _,by unfold maxLen;omega,((af _ _).alloc (aa _) _).alloc (by rw [aF];omega) _,rfl⟩
 ·have hTI:(T.length:Int)≠0:=by omega
  have hne:T≠[]:=fun e=>hT0 (by rw [e];rfl);have HsT:=ae (Sl mh w A1 T) (by have:=J9 HsD.o T.length;rw [←HT.o] at this;exact this);go_wp2
  exact bodyPost_ret (v:=.agg #[.bool neg,.slice A1 T.length T.length,.int .i64 (e+((D.length:Int)-T.length))]) (results_cell_row rfl _ _ (w.heap.size+1) 131 _ _ _ rfl (heap_alloc2_new w _ _) Tryz.underlying131 rfl (by kernel_rfl)) rfl
   ⟨A1,T.length,neg,_,rfl,HsT.o.below (((af _ _).alloc (aa _) _).alloc (by rw [aF];omega) _),aa _,by unfold maxLen;omega,((af _ _).alloc (aa _) _).alloc (by rw [aF];omega) _,fun _=>⟨rfl,rfl⟩,fun h=>absurd h hne⟩
structure At (W:World) (pa ps:Nat) (k:Nat) (l:List UInt8):Prop where
 pos:Row W pa 3 #[.int .i64 (k:Nat)]
 txt:Row W ps 9 #[.string (cf l)]
theorem At.keep {W W':World} {pa ps k:Nat} {l:List UInt8} (h:At W pa ps k l) {C:Nat→Prop} (hk:ah C W W') (h1:¬C pa) (h2:¬C ps):At W' pa ps k l:=⟨h.pos.keep hk h1,h.txt.keep hk h2⟩
theorem At.drewN {W:World} {pa ps k:Nat} {l:List UInt8} (h:At W pa ps k l) (n:Nat):At (W.drewN n) pa ps k l:=⟨h.pos.drewN n,h.txt.drewN n⟩
def Cm (set:List UInt8) (r:List UInt8):Bool:=match r.head? with|some c=>set.contains c|none=>false
theorem Un (set l:List UInt8) (pa ps k:Nat) (w:World) (hne:pa≠ps) (hz:set.length≤8) (hl:l.length≤1000000) (hk:k≤l.length) (ha:At w pa ps k l):
 Calls Tryz.prog 176 #[.string (cf set),.pointer (some ⟨pa,0,none⟩),.pointer (some ⟨ps,0,none⟩)] w fun e w'=>e=.returned (.bool (Cm set (l.drop k)))∧At w' pa ps (k+(if Cm set (l.drop k) then 1 else 0)) l∧ah (fun c=>c=pa) w w':=by
 have hsz:=fH set;have Gs:=fH l;have Ha:=hide ha
 obtain ⟨R,hR⟩:∃R,Cm set (l.drop k)=R:=⟨_,rfl⟩
 have HR:=hide hR;rw [hR];clear ha hR;have Hc:∀(i:Nat) (h:i<(cf set).size),(cf set)[i]'h=set[i]'(by rw [←hsz];exact h):=Hp set;have Pn:∀(i:Nat) (h:i<(cf l).size),(cf l)[i]'h=l[i]'(by rw [←Gs];exact h):=Hp l;have ace:=hide Hc;have X8:=hide Pn;clear Hc Pn;go_enter Tryz.func176,Tryz.ntmps176;go_wp2
 go_loopw [8] (fun v wr=>∃i:Nat,v=.int .i64 i∧i≤set.length∧(∀j (hj:j<set.length),j<i→(l.drop k).head? ≠some set[j])∧At wr pa ps k l∧ah (fun c=>c=pa) w wr) (fun v _=>set.length-(intOf v).toNat)
 case atStart=>exact ⟨0,rfl,bj _,(fun j hj h=>absurd h (GI _)),Ha.o,ah.refl _ _⟩
 case round=>
  obtain ⟨i,rfl,hi,hno,hat,dL⟩:=hrel;have Ww:=hide hno;have Ek:=hide hat;have J_:=hide dL;have hca:wr.cell? ⟨pa,0,none⟩=some (.int .i64 (k:Nat)):=hat.pos.cell 0;have hcs:wr.cell? ⟨ps,0,none⟩=some (.string (cf l)):=hat.txt.cell 0;have hfa:wr.frozen? ⟨pa,0,none⟩=false:=hat.pos.frozen 0
  have hkI:(k:Int)≤1000000:=by omega
  clear hno hat dL;by_cases hlt:i<set.length
  ·have acf:(i:Int)<((cf set).size:Int):=by rw [hsz];omega
   have X9:i<(cf set).size:=by rw [hsz];exact hlt
   have hgs:=ace.o i X9;by_cases hin:k<l.length
   ·have X_:(k:Int)<((cf l).size:Int):=by rw [Gs];omega
    have Cn:k<(cf l).size:=by rw [Gs];exact hin
    have hgl:=X8.o k Cn
    have Ca:(l.drop k).head? =some (l[k]'hin):=by rw [List.head?_drop,List.getElem?_eq_getElem hin]
    by_cases heq:l[k]'hin=set[i]'hlt
    ·have e1:((((cf l)[k]'Cn).toNat:Int)==(((cf set)[i]'X9).toNat:Int))=true:=by rw [hgl,hgs,heq];simp
     have hRt:R=true:=by
      rw [←HR.o];unfold Cm;rw [Ca,heq];simp
     subst hRt
     have hk1:((k+1:Nat):Int)=(k:Int)+1:=by omega
     have HAt:=hide (fun n:Nat=>(show At ((wr.drewN n).setCell ⟨pa,0,none⟩ (.int .i64 ((k:Int)+1))) pa ps (k+1) l from ⟨by rw [←hk1];exact (Ek.o.drewN n).pos.bU 0 (.int .i64 ((k+1:Nat):Int)),(Ek.o.drewN n).txt.off (b:=pa) (fun h=>hne h.symm) 0 _⟩));clear hgl hgs Ca heq HR hk1;generalize cf l=lb at*;generalize cf set=sb at*;go_upto_region 4 with fail;go_quiet (fail);go_wp2;go_ret;exact ⟨rfl,HAt.o _,(J_.o.drewN _).set (.inl rfl) 0 _⟩
    ·have e1:((((cf l)[k]'Cn).toNat:Int)==(((cf set)[i]'X9).toNat:Int))=false:=by
      rw [hgl,hgs];exact aP.2 (fun e=>heq ((u8i _ _).1 e))
     have Yd:=ae (∀j (hj:j<set.length),j<i+1→(l.drop k).head? ≠some set[j]) (fun j hj h=>by
      rcases Nat.lt_or_ge j i with h1|h1
      ·exact Ww.o j hj h1
      ·obtain rfl:j=i:=by omega
       rw [Ca];exact fun e=>heq (au e))
     clear hgl hgs Ca heq;generalize cf l=lb at*;generalize cf set=sb at*;go_upto_region 4 with fail;go_quiet (fail);go_wp2;go_roundw
     case rel=>exact ⟨i+1,by go_num,by omega,Yd.o,Ek.o.drewN _,J_.o.drewN _⟩
     case measure=>simp [intOf];omega
   ·have X_:¬(k:Int)<((cf l).size:Int):=by rw [Gs];omega
    have Ca:(l.drop k).head? =none:=by rw [List.head?_drop];exact List.getElem?_eq_none (by omega)
    have Yd:=ae (∀j (hj:j<set.length),j<i+1→(l.drop k).head? ≠some set[j]) (fun j hj h=>by rw [Ca];simp);clear hgs Ca;generalize cf l=lb at*;generalize cf set=sb at*;go_upto_region 4 with fail;go_quiet (fail);go_wp2;go_roundw
    case rel=>exact ⟨i+1,by go_num,by omega,Yd.o,Ek.o.drewN _,J_.o.drewN _⟩
    case measure=>simp [intOf];omega
  ·obtain rfl:i=set.length:=by omega
   have hRf:R=false:=by
    rw [←HR.o];unfold Cm
    cases hh:(l.drop k).head? with
    |none=>rfl
    |some c=>
     cases hc:set.contains c with
     |false=>exact hc
     |true=>
      obtain ⟨j,hj,hjc⟩:=List.mem_iff_getElem.1 (show c∈set by simpa using hc);exact absurd (by rw [hh,hjc]) (Ww.o j hj hj)
   subst hRf
   have acf:¬(set.length:Int)<((cf set).size:Int):=by rw [hsz];omega
   clear HR;generalize cf l=lb at*;generalize cf set=sb at*;go_wp2;go_ret;exact ⟨rfl,Ek.o,J_.o⟩
theorem Hu (l:List UInt8) (pa ps k:Nat) (w:World) (hne:pa≠ps) (hl:l.length≤1000000) (hk:k≤l.length) (ha:At w pa ps k l):
 Calls Tryz.prog 177 #[.pointer (some ⟨pa,0,none⟩),.pointer (some ⟨ps,0,none⟩)] w fun e w'=>e=.returned (.string (cf ((l.drop k).take (nd (l.drop k)))))∧At w' pa ps (k+nd (l.drop k)) l∧ah (fun c=>c=pa) w w':=by
 have Gs:=fH l;have Ha:=hide ha;have Pn:∀(i:Nat) (h:i<(cf l).size),(cf l)[i]'h=l[i]'(by rw [←Gs];exact h):=Hp l;have X8:=hide Pn;have acg:w.cell? ⟨pa,0,none⟩=some (.int .i64 (k:Nat)):=ha.pos.cell 0
 obtain ⟨N,hN⟩:∃N,nd (l.drop k)=N:=⟨_,rfl⟩
 have adC:N≤l.length-k:=by rw [←hN,←aA];exact xH _
 have Hin:=ae (∀j (h:k+j<l.length),j<N→kq l[k+j]=true) (fun j h hj=>by
  have:=xI (l.drop k) j (by rw [aA];omega) (by rw [hN];exact hj)
  rwa [List.getElem_drop] at this)
 have ach:=ae (∀(h:k+N<l.length),kq l[k+N]=false) (fun h=>by
  have:=OQ (l.drop k) (by rw [aA,hN];omega);rw [List.getElem_drop] at this;simp only [hN] at this
  exact this)
 have hres:cf ((l.drop k).take N)=(cf l).extract k (k+N):=by
  apply Go.WideShapes.bytes_inj;rw [gi,Lib.extract_data,gi,Nat.add_sub_cancel_left]
 have Uo:=hide hres;rw [hN];clear ha Pn hN hres;go_enter Tryz.func177,Tryz.ntmps177;go_wp2;clear acg
 go_loopg [21] N (fun g v wr=>∃j:Nat,j+g=N∧At wr pa ps (k+j) l∧ah (fun c=>c=pa) w wr)
 case atStart=>exact ⟨0,Nat.zero_add _,Ha.o,ah.refl _ _⟩
 case round=>
  obtain ⟨j,hj,hat,dL⟩:=hrel;have Ek:=hide hat;have J_:=hide dL;have hca:wr.cell? ⟨pa,0,none⟩=some (.int .i64 ((k+j:Nat):Int)):=hat.pos.cell 0;have hcs:wr.cell? ⟨ps,0,none⟩=some (.string (cf l)):=hat.txt.cell 0;have hfa:wr.frozen? ⟨pa,0,none⟩=false:=hat.pos.frozen 0;clear hat dL
  obtain ⟨p,hp⟩:∃p,k+j=p:=⟨_,rfl⟩
  have hpI:(p:Int)≤1000000:=by omega
  rw [hp] at hca;by_cases hin:p<l.length
  ·have X_:(p:Int)<((cf l).size:Int):=by rw [Gs];omega
   have Cn:p<(cf l).size:=by rw [Gs];exact hin
   have hgl:=X8.o p Cn;by_cases hlt:j<N
   ·have hd:=Hin.o j (by rw [hp];exact hin) hlt;simp only [hp] at hd;rw [←hgl] at hd;simp only [kq,decide_eq_true_eq] at hd
    have g1:(48:Int)≤(((cf l)[p]'Cn).toNat:Int):=by omega
    have g2:(((cf l)[p]'Cn).toNat:Int)≤57:=by omega
    have hk1:((k+(j+1):Nat):Int)=(p:Int)+1:=by omega
    have HAt:=ae (At (wr.setCell ⟨pa,0,none⟩ (.int .i64 ((p:Int)+1))) pa ps (k+(j+1)) l) (⟨by rw [←hk1];exact Ek.o.pos.bU 0 (.int .i64 ((k+(j+1):Nat):Int)),Ek.o.txt.off (b:=pa) (fun h=>hne h.symm) 0 _⟩);clear hgl hd hk1 hp;generalize cf l=lb at*;go_wp2
    go_roundg (N-(j+1))
    case measure=>omega
    case rel=>exact ⟨j+1,by omega,HAt.o,J_.o.set (.inl rfl) 0 _⟩
   ·obtain rfl:j=N:=by omega
    have hd:=ach.o (by rw [hp];exact hin);simp only [hp] at hd;rw [←hgl] at hd;simp only [kq,decide_eq_false_iff_not] at hd
    have hk1:(k:Int)≤(p:Int):=by omega
    have hk2:(p:Int)≤((cf l).size:Int):=by omega
    have hr2:=Uo.o;rw [hp] at hr2;have Um:=hide hr2;clear hgl Uo hr2;by_cases g1:(48:Int)≤(((cf l)[p]'Cn).toNat:Int)
    ·have g2:¬(((cf l)[p]'Cn).toNat:Int)≤57:=by omega
     clear hd;generalize cf l=lb at*;go_wp2;go_ret;exact ⟨OW Um.o,hp▸Ek.o,J_.o⟩
    ·clear hd;generalize cf l=lb at*;go_wp2;go_ret;exact ⟨OW Um.o,hp▸Ek.o,J_.o⟩
  ·have X_:¬(p:Int)<((cf l).size:Int):=by rw [Gs];omega
   obtain rfl:j=N:=by omega
   have hk1:(k:Int)≤(p:Int):=by omega
   have hk2:(p:Int)≤((cf l).size:Int):=by omega
   have hr2:=Uo.o;rw [hp] at hr2;have Um:=hide hr2;clear Uo hr2;generalize cf l=lb at*;go_wp2;go_ret;exact ⟨OW Um.o,hp▸Ek.o,J_.o⟩
end Go.Proofs.YtddoehnkgcbboaaGreatDoor
