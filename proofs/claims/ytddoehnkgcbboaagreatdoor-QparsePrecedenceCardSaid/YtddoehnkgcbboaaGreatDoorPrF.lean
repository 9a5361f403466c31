/- Packed by program: a part of the proof; the last file says what is proved. -/
import Derived.Test.YtddoehnkgcbboaaGreatDoorPrE
import Derived.Test.YtddoehnkgcbboaaGreatDoorPrC
import Derived.Lib.Split
set_option maxHeartbeats 16000000
set_option maxRecDepth 100000
set_option linter.unusedVariables false
set_option linter.unusedSimpArgs false
namespace Go.Proofs.YtddoehnkgcbboaaGreatDoor
open Go.RowKit Go.Shelf
theorem jM:∀(n m:Nat) (l:List UInt8),l.length≤n→l.length≤m→fS n l=fS m l
 |0,m,l,hn,_=>by
  have:l=[]:=List.length_eq_zero_iff.1 (by omega)
  subst this;cases m<;>rfl
 |n+1,0,l,_,hm=>by
  have:l=[]:=List.length_eq_zero_iff.1 (by omega)
  subst this;rfl
 |n+1,m+1,[],_,_=>rfl
 |n+1,m+1,c::t,hn,hm=>by
  rw [List.length_cons] at hn hm
  simp only [fS]
  rw [jM n m t (by omega) (by omega),jM n m (t.drop 1) (by rw [List.length_drop];omega) (by rw [List.length_drop];omega)]
def bz (l:List UInt8):Nat:=fS l.length l
theorem tI:bz []=0:=rfl
theorem n9 (t:List UInt8):bz (34::t)=0:=by
 unfold bz;rw [List.length_cons];simp only [fS];rw [if_pos trivial]
theorem lh (t:List UInt8):bz (92::t)=bz (t.drop 1)+2:=by
 unfold bz;rw [List.length_cons];simp only [fS];rw [if_neg (by decide),if_pos trivial,jM t.length (t.drop 1).length _ (by rw [List.length_drop];omega) (Nat.le_refl _)]
theorem ky {c:UInt8} (t:List UInt8) (h1:c≠34) (h2:c≠92):bz (c::t)=bz t+1:=by
 unfold bz;rw [List.length_cons];simp only [fS];rw [if_neg h1,if_neg h2]
theorem qz:∀(n:Nat) (l:List UInt8),l.length≤n→bz l≤l.length+1
 |0,l,h=>by
  have:l=[]:=List.length_eq_zero_iff.1 (by omega)
  subst this;exact Nat.zero_le _
 |n+1,[],_=>Nat.zero_le _
 |n+1,c::t,h=>by
  rw [List.length_cons] at h⊢
  by_cases h1:c=34
  ·subst h1;rw [n9];omega
  ·by_cases h2:c=92
   ·subst h2
    rw [lh]
    cases t with
    |nil=>show bz []+2≤2;rw [tI];omega
    |cons d r=>
     show bz r+2≤_
     rw [List.length_cons] at h⊢
     have:=qz n r (by omega)
     omega
   ·rw [ky t h1 h2]
    have:=qz n t (by omega)
    omega
def iQ (l:List UInt8) (E:Nat):Wq:=if l.length≤E then cn 3 else ⟨5,(fR (l.take (E+1))).1,E+1,(fR (l.take (E+1))).2⟩
theorem jl (l:List UInt8):dJ l=iQ l (1+bz (l.drop 1)):=by
 unfold dJ iQ
 rw [jM l.length (l.drop 1).length (l.drop 1) (by rw [List.length_drop];omega) (Nat.le_refl _)]
 show (if l.length≤1+bz (l.drop 1) then _ else _)=_
 rw [show fS (l.drop 1).length (l.drop 1)=bz (l.drop 1) from rfl,show bz (l.drop 1)+2=1+bz (l.drop 1)+1 by omega]
theorem yz (l:List UInt8) (w:World) (hl:l.length≤50000):
 Calls Tryz.prog 123 #[.string (ae l)] w fun e w'=>e=.returned (oO (dJ l))∧Below w.heap.size w w':=by
 have hz:=aD l
 have hg:∀(i:Nat) (h:i<(ae l).size) (h2:i<l.length),(ae l)[i]'h=l[i]:=fun i h h2=>df l i h
 obtain ⟨E,hE⟩:∃E,1+bz (l.drop 1)=E:=⟨_,rfl⟩
 have VT:dJ l=iQ l E:=by rw [jl,hE]
 have HE:=aa hE
 have Dj:=aa VT
 have hEl:E≤l.length+2:=by rw [←hE];have:=qz _ (l.drop 1) (Nat.le_refl _);rw [List.length_drop] at this;omega
 have x1:(ae l).extract 0 (E+1)=ae (l.take (E+1)):=oL l (E+1)
 have F0:=aa x1
 have UN:=aa (fun W:World=>vH (l.take (E+1)) W (by rw [List.length_take];omega))
 clear hE VT x1
 generalize ae l=s at*
 have Hz:=aa hz
 have Hg:=aa hg
 clear hz hg
 go_enter Tryz.func123,Tryz.ntmps123
 go_upto_region 1 with fail
 obtain ⟨W1,hW1⟩:∃W1,w.alloc (.cells #[.int .i64 0,.string ⟨#[]⟩,.int .i64 0,.int .i64 0,.int .i64 0] 85)=W1:=⟨_,rfl⟩
 rw [hW1]
 have HB:=aa (show Below w.heap.size w W1 by rw [←hW1];exact (Below.refl _ _).alloc (Nat.le_refl _) _)
 have HR:=aa (show ZW W1 w.heap.size by rw [←hW1];exact Row.new _ _ _)
 clear hW1
 obtain ⟨g,F6⟩:∃g,w.heap.size=g:=⟨_,rfl⟩
 rw [F6] at HR
 rw [F6]
 have wE:=aa F6
 clear F6
 go_wp2_with fail
 go_loop [3] (fun v=>∃i:Nat,v=.int .i64 (i:Int)∧i≤l.length+1∧i+bz (l.drop i)=E) (fun v=>l.length+2-(intOf v).toNat)
 case atStart=>exact ⟨1,rfl,by omega,HE.out⟩
 case round=>
  obtain ⟨i,rfl,hi,hiE⟩:=hrel
  have Zh:=aa hiE
  clear hiE
  by_cases hlt:i<l.length
  ·have JV:i<s.size:=by have:=Hz.out;omega
   have hi':(i:Int)<(s.size:Int):=by omega
   have lU:(0:Int)≤(i:Int):=by omega
   obtain ⟨c,hc⟩:∃c,l[i]'hlt=c:=⟨_,rfl⟩
   have hsc:s[i]'JV=c:=by rw [Hg.out i JV hlt,hc]
   have hdr:=drop_one hlt
   rw [hc] at hdr
   have OB:=aa hdr
   clear hc hdr
   have hw1:IntKind.i64.wrap ((i:Int)+1)=(i:Int)+1:=IntWalk.i64_in _ (by omega)
   by_cases c1:c=34
   ·subst c1
    have hEi:i=E:=by have:=Zh.out;rw [OB.out,n9] at this;omega
    subst hEi
    have hV:=Dj.out
    unfold iQ at hV
    rw [if_neg (by omega)] at hV
    obtain ⟨⟨t,er⟩,hu⟩:∃p,fR (l.take (i+1))=p:=⟨_,rfl⟩
    rw [hu] at hV UN
    have HV:=aa hV
    have x1:=F0.out
    have hge:¬(s.size:Int)≤(i:Int):=by omega
    have pn:((i:Int)+1).toNat=i+1:=by omega
    clear hV hu
    generalize ae (l.take (i+1))=sp at*
    go_wp2_with fail
    refine (UN.out _).mono ?_
    rintro e w9 ⟨rfl,gW⟩
    have r9:ZW w9 g:=HR.out.below gW HR.out.lt
    have B9:=aa (HB.out.trans (gW.mono HB.out.size))
    have R9:=aa r9
    have c0:=r9.cell 0
    have c1:=r9.cell 1
    have c2:=r9.cell 2
    have c3:=r9.cell 3
    have c4:=r9.cell 4
    have f0:=r9.frozen 0
    have f1:=r9.frozen 1
    have f2:=r9.frozen 2
    have f3:=r9.frozen 3
    have f4:=r9.frozen 4
    clear r9 gW
    go_wp2
    refine bodyPost_ret (v:=.agg #[.int .i64 5,.string (ae t),.int .i64 0,.int .i64 ((i:Int)+1),.int .i64 er]) (ag rfl _ _ g 85 _ _ _ rfl (R9.out.put _ _ _ _ _) Tryz.underlying85 rfl (by kernel_rfl)) rfl ?_
    rw [HV.out]
    exact ⟨rfl,cH B9.out (Nat.le_of_eq wE.out) _ _ _ _ _⟩
   have e1:((c.toNat:Int)==34)=false:=az (d:=34) c1
   have e2:((c.toNat:Int) !=34)=true:=by rw [bne,e1];rfl
   by_cases c2:c=92
   ·subst c2
    have HN:=aa (show (i+2)+bz (l.drop (i+1+1))=E by rw [←Zh.out,OB.out,lh,List.drop_drop];omega)
    clear c1
    go_wp2
    go_round
    case rel=>exact ⟨i+2,by go_num,by omega,HN.out⟩
    case measure=>simp [intOf];omega
   ·have e3:((c.toNat:Int)==92)=false:=az (d:=92) c2
    have HN:=aa (show (i+1)+bz (l.drop (i+1))=E by rw [←Zh.out,OB.out,ky _ c1 c2];omega)
    clear c1 c2
    go_wp2
    go_round
    case rel=>exact ⟨i+1,by go_num,by omega,HN.out⟩
    case measure=>simp [intOf];omega
  ·have hi':¬(i:Int)<(s.size:Int):=by have:=Hz.out;omega
   have hge:(s.size:Int)≤(i:Int):=by omega
   have hEi:i=E:=by have:=Zh.out;rw [List.drop_eq_nil_of_le (by omega),tI] at this;omega
   have HV:=aa (show dJ l=cn 3 by rw [Dj.out];unfold iQ;rw [if_pos (by omega)])
   clear hEi
   go_wp2_with fail
   refine (cL 3 _).mono ?_
   rintro e w9 ⟨rfl,gW⟩
   have r9:ZW w9 g:=HR.out.below gW HR.out.lt
   have B9:=aa (HB.out.trans (gW.mono HB.out.size))
   have R9:=aa r9
   have c0:=r9.cell 0
   have c1:=r9.cell 1
   have c2:=r9.cell 2
   have c3:=r9.cell 3
   have c4:=r9.cell 4
   have f0:=r9.frozen 0
   have f1:=r9.frozen 1
   have f2:=r9.frozen 2
   have f3:=r9.frozen 3
   have f4:=r9.frozen 4
   clear r9 gW
   go_wp2
   refine bodyPost_ret (v:=.agg #[.int .i64 0,.string ⟨#[]⟩,.int .i64 0,.int .i64 0,.int .i64 3]) (ag rfl _ _ g 85 _ _ _ rfl (R9.out.put _ _ _ _ _) Tryz.underlying85 rfl (by kernel_rfl)) rfl ?_
   rw [HV.out]
   exact ⟨rfl,cH B9.out (Nat.le_of_eq wE.out) _ _ _ _ _⟩
end Go.Proofs.YtddoehnkgcbboaaGreatDoor
namespace Go.Proofs.YtddoehnkgcbboaaGreatDoor
open Go.RowKit Go.Shelf Go.Sort
theorem dx (l:List UInt8):(br l).size=l.length:=by rw [Lib.size_eq,dQ]
theorem D_ (l:List UInt8) (i:Nat) (h:i<(br l).size):(br l)[i]'h=l[i]'(by rw [←dx];exact h):=by
 have:=Lib.data_getElem? (br l) i h
 rw [dQ,List.getElem?_eq_getElem (by rw [←dx];exact h)] at this
 exact (Option.some.inj this).symm
def j_ (c:UInt8):Value:=.int .u8 (c.toNat:Int)
def jN (l:List UInt8):List UInt8:=(l.reverse.dropWhile (·==48)).reverse
theorem F7 {W:World} {b off:Nat} {l:List UInt8} (h:∀i (hi:i<l.length),W.cell? ⟨b,off+i,none⟩=some (j_ (l[i]'hi))) (k:Nat):Sl j_ W (some ⟨b,off+k,none⟩) (l.drop k):=fun hp=>
 ⟨b,off+k,rfl,fun i hi=>by
  have hk:k+i<l.length:=by rw [List.length_drop] at hi;omega
  rw [Nat.add_assoc,h (k+i) hk,List.getElem_drop]⟩
theorem qA (A:Option Addr) (n cap:Nat) (l:List UInt8) (w:World) (hn:n=l.length) (hp:0<l.length) (hc:n≤cap) (hz:cap≤maxLen) (hs:Sl j_ w A l):
 Calls Tryz.prog 228 #[.slice A n cap,.int .u8 48] w fun e w'=>(∃A' cap',e=.returned (.slice A' (l.dropWhile (·==48)).length cap')∧(∀W':World,Sl j_ W' A l→Sl j_ W' A' (l.dropWhile (·==48)))∧(l.dropWhile (·==48)).length≤cap'∧cap'≤maxLen)∧w'=w:=by
 subst hn
 obtain ⟨b,off,rfl,hat⟩:=hs hp
 unfold maxLen at hz⊢
 have AZ:=aa hat
 obtain ⟨R,hR⟩:∃R,l.dropWhile (·==48)=R:=⟨_,rfl⟩
 have HR:=aa hR
 rw [hR]
 clear hat hR hs
 go_enter Tryz.func228,Tryz.ntmps228
 go_wp2
 go_loop [0] (fun v=>∃(k:Nat) (A':Option Addr),v=.slice A' (l.length-k) (cap-k)∧k≤l.length∧(l.drop k).dropWhile (·==48)=R∧(k<l.length→A'=some ⟨b,off+k,none⟩)) (fun v=>match v with|.slice _ m _=>m|_=>0)
 case atStart=>exact ⟨0,some ⟨b,off,none⟩,rfl,Nat.zero_le _,HR.out,fun _=>rfl⟩
 case round=>
  obtain ⟨k,A',rfl,hk,tJ,hA⟩:=hrel
  have wJ:=aa tJ
  clear tJ
  by_cases hlt:k<l.length
  ·obtain rfl:=hA hlt
   have hcell:=AZ.out k hlt
   have hdr:l.drop k=l[k]::l.drop (k+1):=List.drop_eq_getElem_cons hlt
   obtain ⟨c,hc0⟩:∃c,l[k]'hlt=c:=⟨_,rfl⟩
   rw [hc0] at hcell hdr
   have KC:(0:Int)<((l.length-k:Nat):Int):=by omega
   have abk:0<l.length-k:=by omega
   unfold j_ at hcell
   have h1c:(1:Int)≤((l.length-k:Nat):Int):=by omega
   have h2c:((l.length-k:Nat):Int)≤((cap-k:Nat):Int):=by omega
   by_cases wK:c=48
   ·have e48:((c.toNat:Int)==48)=true:=by rw [wK];rfl
    have hr2:(l.drop (k+1)).dropWhile (·==48)=R:=by
     have:=wJ.out
     rw [hdr,List.dropWhile_cons,wK] at this
     simpa using this
    have OK:=aa hr2
    clear hr2 hdr hc0 wK hA
    go_wp2
    go_round
    case rel=>exact ⟨k+1,if cap-k=1 then some ⟨b,off+k,none⟩ else some ⟨b,off+k+1,none⟩,by rw [←Nat.sub_sub,←Nat.sub_sub],by omega,OK.out,fun h=>if_neg (by omega)⟩
    case measure=>show l.length-k-1<l.length-k;omega
   ·have e48:((c.toNat:Int)==48)=false:=beq_eq_false_iff_ne.2 (fun e=>wK ((u8i c 48).1 e))
    have hr2:l.drop k=R:=by
     have:=wJ.out
     have aao:(c==48)=false:=by simpa using wK
     rw [hdr,List.dropWhile_cons,aao] at this
     rw [hdr];simpa using this
    have hrl:R.length=l.length-k:=by rw [←hr2,List.length_drop]
    have pn:∀W':World,Sl j_ W' (some ⟨b,off,none⟩) l→Sl j_ W' (some ⟨b,off+k,none⟩) R:=fun W' h=>by
     obtain ⟨b',SI,OL,OM⟩:=h hp
     cases OL
     have:=F7 OM k
     rw [hr2] at this
     exact this
    have U5:=aa pn
    have Zi:=aa hrl
    have abJ:((l.length-k:Nat):Int)≠0:=by omega
    have Wu:l.length-k≠0:=by omega
    clear hr2 hdr hc0 wK hA pn hrl
    go_wp2
    go_ret
    exact ⟨⟨some ⟨b,off+k,none⟩,cap-k,congrArg (fun m=>Ending.returned (Value.slice (some ⟨b,off+k,none⟩) m (cap-k))) Zi.out.symm,U5.out,by rw [Zi.out];omega,by omega⟩,rfl⟩
  ·obtain rfl:k=l.length:=by omega
   have fO:R=[]:=by
    have:=wJ.out
    rw [List.drop_length] at this
    exact this.symm
   subst fO
   have hl0:l.length-l.length=0:=Nat.sub_self _
   rw [hl0]
   clear hA
   go_wp2
   go_ret
   exact ⟨⟨none,0,rfl,fun W' _=>Sl.nil _ _ _,by omega⟩,rfl⟩
theorem yB (A:Option Addr) (n cap:Nat) (l:List UInt8) (w:World) (hn:n=l.length) (hc:n≤cap) (hz:cap≤maxLen) (hs:Sl j_ w A l):
 Calls Tryz.prog 206 #[.slice A n cap,.string ⟨#[48]⟩] w fun e w'=>(∃A' cap',e=.returned (.slice A' (l.dropWhile (·==48)).length cap')∧(∀W':World,Sl j_ W' A l→Sl j_ W' A' (l.dropWhile (·==48)))∧(l.dropWhile (·==48)).length≤cap'∧cap'≤maxLen)∧w'=w:=by
 subst hn
 by_cases hp:0<l.length
 ·have T:=aa (fun (W:World) (h:Sl j_ W A l)=>qA A l.length cap l W rfl hp hc hz h)
  have Hs:=aa hs
  have hn0:((l.length:Nat):Int)≠0:=by omega
  have yi:l.length≠0:=by omega
  clear hs
  go_enter Tryz.func206,Tryz.ntmps206
  go_wp2_with fail
  refine (T.out _ Hs.out).mono ?_
  rintro e wx ⟨⟨A',cap',rfl,h1,h2,h3⟩,rfl⟩
  have H1:=aa h1
  clear h1
  go_wp2
  go_ret
  exact ⟨⟨A',cap',rfl,H1.out,h2,h3⟩,rfl⟩
 ·obtain rfl:l=[]:=List.eq_nil_of_length_eq_zero (by omega)
  go_enter Tryz.func206,Tryz.ntmps206
  go_wp2
  go_ret
  exact ⟨⟨none,0,rfl,fun W' _=>Sl.nil _ _ _,Nat.le_refl _,by unfold maxLen;omega⟩,rfl⟩
theorem D' (l:List UInt8) (k:Nat) (hk:k<l.length):jN (l.take (k+1))=if l[k]=48 then jN (l.take k) else l.take (k+1):=by
 have e:l.take (k+1)=l.take k++[l[k]]:=List.take_succ_eq_append_getElem hk
 unfold jN
 rw [e,List.reverse_append]
 show (List.dropWhile _ (l[k]::(l.take k).reverse)).reverse=_
 rw [List.dropWhile_cons]
 by_cases h:l[k]=48
 ·rw [if_pos h];simp [h]
 ·have:(l[k]==48)=false:=by simpa using h
  rw [if_neg h,this];simp
theorem pw (A:Option Addr) (n cap:Nat) (l:List UInt8) (w:World) (hn:n=l.length) (hp:0<l.length) (hc:n≤cap) (hz:cap≤maxLen) (hs:Sl j_ w A l):
 Calls Tryz.prog 232 #[.slice A n cap,.int .u8 48] w fun e w'=>(∃A' cap',e=.returned (.slice A' (jN l).length cap'))∧w'=w:=by
 subst hn
 obtain ⟨b,off,rfl,hat⟩:=hs hp
 unfold maxLen at hz
 have AZ:=aa hat
 obtain ⟨R,hR⟩:∃R,jN l=R:=⟨_,rfl⟩
 have HR:=aa hR
 rw [hR]
 clear hat hR hs
 go_enter Tryz.func232,Tryz.ntmps232
 go_wp2
 go_loop [0] (fun v=>∃k:Nat,v=.slice (some ⟨b,off,none⟩) k cap∧k≤l.length∧jN (l.take k)=R) (fun v=>match v with|.slice _ m _=>m|_=>0)
 case atStart=>exact ⟨l.length,rfl,Nat.le_refl _,by rw [List.take_length];exact HR.out⟩
 case round=>
  obtain ⟨k,rfl,hk,tJ⟩:=hrel
  have wJ:=aa tJ
  clear tJ
  by_cases hlt:0<k
  ·obtain ⟨j,rfl⟩:∃j,k=j+1:=⟨k-1,by omega⟩
   have JY:j<l.length:=by omega
   have hcell:=AZ.out j JY
   have hst:=D' l j JY
   rw [wJ.out] at hst
   obtain ⟨c,hc0⟩:∃c,l[j]'JY=c:=⟨_,rfl⟩
   rw [hc0] at hcell hst
   unfold j_ at hcell
   have hjc:((j:Nat):Int)≤(cap:Int):=by omega
   have hjm:(j:Int)≤9223372036854775806:=by omega
   by_cases wK:c=48
   ·have e48:((c.toNat:Int)==48)=true:=by rw [wK];rfl
    rw [if_pos wK] at hst
    have vJ:=aa hst
    clear hst hc0 wK
    go_wp2
    go_round
    case rel=>exact ⟨j,by first|rfl|simp,by omega,vJ.out.symm⟩
    case measure=>first|(show j<j+1;omega)|(simp;omega)
   ·have e48:((c.toNat:Int)==48)=false:=beq_eq_false_iff_ne.2 (fun e=>wK ((u8i c 48).1 e))
    rw [if_neg wK] at hst
    have hrl:R.length=j+1:=by rw [hst,List.length_take];omega
    have Zi:=aa hrl
    clear hst hc0 wK hrl
    go_wp2
    go_ret
    exact ⟨⟨some ⟨b,off,none⟩,cap,congrArg (fun m=>Ending.returned (Value.slice (some ⟨b,off,none⟩) m cap)) Zi.out.symm⟩,rfl⟩
  ·obtain rfl:k=0:=by omega
   have fO:R=[]:=by
    have:=wJ.out
    exact this.symm
   subst fO
   go_wp2
   go_ret
   exact ⟨⟨_,_,rfl⟩,rfl⟩
theorem vK (A:Option Addr) (n cap:Nat) (l:List UInt8) (w:World) (hn:n=l.length) (hc:n≤cap) (hz:cap≤maxLen) (hs:Sl j_ w A l):
 Calls Tryz.prog 207 #[.slice A n cap,.string ⟨#[48]⟩] w fun e w'=>(∃A' cap',e=.returned (.slice A' (jN l).length cap'))∧w'=w:=by
 subst hn
 by_cases hp:0<l.length
 ·have T:=aa (fun (W:World) (h:Sl j_ W A l)=>pw A l.length cap l W rfl hp hc hz h)
  have Hs:=aa hs
  have hn0:((l.length:Nat):Int)≠0:=by omega
  have yi:l.length≠0:=by omega
  clear hs
  go_enter Tryz.func207,Tryz.ntmps207
  go_wp2_with fail
  refine (T.out _ Hs.out).mono ?_
  rintro e wx ⟨⟨A',cap',rfl⟩,rfl⟩
  go_wp2
  go_ret
  exact ⟨⟨A',cap',rfl⟩,rfl⟩
 ·obtain rfl:l=[]:=List.eq_nil_of_length_eq_zero (by omega)
  go_enter Tryz.func207,Tryz.ntmps207
  go_wp2
  go_ret
  exact ⟨⟨_,_,rfl⟩,rfl⟩
def gm (neg:Bool) (A:Option Addr) (n cap:Nat) (e:Int):Value:=.agg #[.bool neg,.slice A n cap,.int .i64 e]
theorem px (l:List UInt8):aO l=jN (l.dropWhile (·==48)):=rfl
theorem A0 (l:List UInt8):(jN l).length≤l.length∧jN l=l.take (jN l).length:=by
 have h:jN l<+:l:=by
  unfold jN
  rw [←List.reverse_suffix,List.reverse_reverse]
  exact List.dropWhile_suffix _
 exact ⟨h.length_le,List.prefix_iff_eq_take.1 h⟩
theorem F8 {W:World} {A:Option Addr} {l:List UInt8} (h:Sl j_ W A l) (k:Nat):Sl j_ W A (l.take k):=by
 intro hp
 rw [List.length_take] at hp
 obtain ⟨b,off,rfl,hat⟩:=h (by omega)
 exact ⟨b,off,rfl,fun i hi=>by rw [hat i (by rw [List.length_take] at hi;omega),List.getElem_take]⟩
theorem yC (neg:Bool) (A:Option Addr) (n cap:Nat) (e:Int) (w:World) (hn:n≤1000000) (h0:-1000000000≤e) (h1:e≤1000000000):
 Calls Tryz.prog 179 #[gm neg A n cap e] w fun e' w'=>e'=.returned (.int .i64 (e+n-1))∧Below w.heap.size w w':=by
 unfold gm
 have hn':(n:Int)≤1000000:=by omega
 go_enter Tryz.func179,Tryz.ntmps179
 go_wp2
 go_ret
 exact ⟨rfl,(Below.refl _ _).alloc (Nat.le_refl _) _⟩
theorem K6 (neg:Bool) (A:Option Addr) (n cap:Nat) (l:List UInt8) (e:Int) (w:World) (hn:n=l.length) (hl:l.length≤1000000) (hc:n≤cap) (hz:cap≤maxLen) (h0:-1000000000≤e) (h1:e≤1000000000) (hs:Sl j_ w A l):
 Calls Tryz.prog 178 #[gm neg A n cap e] w fun e' w'=>∃A' cap' Ii U6,e'=.returned (gm Ii A' (aO l).length cap' U6)∧Sl j_ w' A' (aO l)∧(aO l).length≤cap'∧cap'≤maxLen∧Below w.heap.size w w'∧
  (aO l≠[]→Ii=neg∧U6=e+((l.dropWhile (·==48)).length-(aO l).length))∧(aO l=[]→Ii=false∧U6=0):=by
 subst hn
 unfold gm
 have TL:=aa (fun (W:World) (h:Sl j_ W A l)=>yB A l.length cap l W rfl hc hz h)
 have Hs:=aa hs
 have Ic:(l.dropWhile (·==48)).length≤l.length:=(List.dropWhile_suffix (p:=(·==(48:UInt8))) (l:=l)).length_le
 have hdr:=A0 (l.dropWhile (·==48))
 rw [px]
 generalize l.dropWhile (·==48)=D at*
 obtain ⟨T,hT⟩:∃T,jN D=T:=⟨_,rfl⟩
 have TR:=aa (fun (A':Option Addr) (cap':Nat) (W:World) (hc:D.length≤cap') (hz:cap'≤maxLen) (h:Sl j_ W A' D)=>vK A' D.length cap' D W rfl hc hz h)
 rw [hT] at TR hdr⊢
 have Zj:T.length≤D.length:=hdr.1
 have HT:=aa hdr.2
 have hdI:(D.length:Int)≤1000000:=by omega
 have htI:(T.length:Int)≤D.length:=by omega
 clear hs hdr hT
 go_enter Tryz.func178,Tryz.ntmps178
 go_wp2_with fail
 refine (TL.out _ (Hs.out.below (((Below.refl w.heap.size w).alloc (Nat.le_refl _) _).alloc (by rw [World.size_alloc];omega) _))).mono ?_
 rintro e' wx ⟨⟨A1,se,rfl,hs1,hc1,hz1⟩,rfl⟩
 have Hs1:=aa hs1
 have hsD:Sl j_ w A1 D:=hs1 w Hs.out
 have HsD:=aa hsD
 clear hs1 hsD
 have c1:(T.length:Int)≤(se:Int):=by omega
 unfold maxLen at hz1
 have zI:(se:Int)≤9223372036854775807:=by omega
 go_wp2_with fail
 refine (TR.out _ _ _ hc1 hz1 (HsD.out.below (((Below.refl w.heap.size w).alloc (Nat.le_refl _) _).alloc (by rw [World.size_alloc];omega) _))).mono ?_
 rintro e' wx ⟨⟨A2,nA,rfl⟩,rfl⟩
 by_cases NV:T.length=0
 ·obtain rfl:T=[]:=List.eq_nil_of_length_eq_zero NV
  have hTI:(([]:List UInt8).length:Int)=0:=rfl
  go_wp2
  exact bodyPost_ret (v:=.agg #[.bool false,.slice none 0 0,.int .i64 0]) (results_cell_row rfl _ _ (w.heap.size+1) 131 _ _ _ rfl (heap_alloc2_new w _ _) Tryz.underlying131 rfl (by kernel_rfl)) rfl
   ⟨none,0,0,rfl,Sl.nil _ _ _,by unfold maxLen;omega,((Below.refl _ _).alloc (Nat.le_refl _) _).alloc (by rw [World.size_alloc];omega) _,rfl⟩
 ·have hTI:(T.length:Int)≠0:=by omega
  have hne:T≠[]:=fun e=>NV (by rw [e];rfl)
  have HsT:=aa (show Sl j_ w A1 T from by have:=F8 HsD.out T.length;rw [←HT.out] at this;exact this)
  go_wp2
  exact bodyPost_ret (v:=.agg #[.bool neg,.slice A1 T.length T.length,.int .i64 (e+((D.length:Int)-T.length))]) (results_cell_row rfl _ _ (w.heap.size+1) 131 _ _ _ rfl (heap_alloc2_new w _ _) Tryz.underlying131 rfl (by kernel_rfl)) rfl
   ⟨A1,T.length,neg,_,rfl,HsT.out.below (((Below.refl _ _).alloc (Nat.le_refl _) _).alloc (by rw [World.size_alloc];omega) _),Nat.le_refl _,by unfold maxLen;omega,((Below.refl _ _).alloc (Nat.le_refl _) _).alloc (by rw [World.size_alloc];omega) _,fun _=>⟨rfl,rfl⟩,fun h=>absurd h hne⟩
structure At (W:World) (pa ps:Nat) (k:Nat) (l:List UInt8):Prop where
 pos:Row W pa 3 #[.int .i64 (k:Nat)]
 txt:Row W ps 9 #[.string (br l)]
theorem At.keep {W W':World} {pa ps k:Nat} {l:List UInt8} (h:At W pa ps k l) {C:Nat→Prop} (hk:af C W W') (h1:¬C pa) (h2:¬C ps):At W' pa ps k l:=⟨h.pos.keep hk h1,h.txt.keep hk h2⟩
theorem At.drewN {W:World} {pa ps k:Nat} {l:List UInt8} (h:At W pa ps k l) (n:Nat):At (W.drewN n) pa ps k l:=⟨h.pos.drewN n,h.txt.drewN n⟩
def yD (set:List UInt8) (r:List UInt8):Bool:=match r.head? with|some c=>set.contains c|none=>false
theorem OO (set l:List UInt8) (pa ps k:Nat) (w:World) (hne:pa≠ps) (hz:set.length≤8) (hl:l.length≤1000000) (hk:k≤l.length) (ha:At w pa ps k l):
 Calls Tryz.prog 176 #[.string (br set),.pointer (some ⟨pa,0,none⟩),.pointer (some ⟨ps,0,none⟩)] w fun e w'=>e=.returned (.bool (yD set (l.drop k)))∧At w' pa ps (k+(if yD set (l.drop k) then 1 else 0)) l∧af (fun c=>c=pa) w w':=by
 have hsz:=dx set
 have Dm:=dx l
 have Ha:=aa ha
 obtain ⟨R,hR⟩:∃R,yD set (l.drop k)=R:=⟨_,rfl⟩
 have HR:=aa hR
 rw [hR]
 clear ha hR
 have D4:∀(i:Nat) (h:i<(br set).size),(br set)[i]'h=set[i]'(by rw [←hsz];exact h):=D_ set
 have K7:∀(i:Nat) (h:i<(br l).size),(br l)[i]'h=l[i]'(by rw [←Dm];exact h):=D_ l
 have aap:=aa D4
 have SJ:=aa K7
 clear D4 K7
 go_enter Tryz.func176,Tryz.ntmps176
 go_wp2
 go_loopw [8] (fun v wr=>∃i:Nat,v=.int .i64 i∧i≤set.length∧(∀j (hj:j<set.length),j<i→(l.drop k).head? ≠some set[j])∧At wr pa ps k l∧af (fun c=>c=pa) w wr) (fun v _=>set.length-(intOf v).toNat)
 case atStart=>exact ⟨0,rfl,Nat.zero_le _,(fun j hj h=>absurd h (Nat.not_lt_zero _)),Ha.out,af.refl _ _⟩
 case round=>
  obtain ⟨i,rfl,hi,hno,hat,bS⟩:=hrel
  have QN:=aa hno
  have AZ:=aa hat
  have F9:=aa bS
  have hca:wr.cell? ⟨pa,0,none⟩=some (.int .i64 (k:Nat)):=hat.pos.cell 0
  have hcs:wr.cell? ⟨ps,0,none⟩=some (.string (br l)):=hat.txt.cell 0
  have hfa:wr.frozen? ⟨pa,0,none⟩=false:=hat.pos.frozen 0
  have hkI:(k:Int)≤1000000:=by omega
  clear hno hat bS
  by_cases hlt:i<set.length
  ·have aaq:(i:Int)<((br set).size:Int):=by rw [hsz];omega
   have SL:i<(br set).size:=by rw [hsz];exact hlt
   have U7:=aap.out i SL
   by_cases hin:k<l.length
   ·have SM:(k:Int)<((br l).size:Int):=by rw [Dm];omega
    have yE:k<(br l).size:=by rw [Dm];exact hin
    have Aa:=SJ.out k yE
    have Al:(l.drop k).head? =some (l[k]'hin):=by rw [List.head?_drop,List.getElem?_eq_getElem hin]
    by_cases heq:l[k]'hin=set[i]'hlt
    ·have e1:((((br l)[k]'yE).toNat:Int)==(((br set)[i]'SL).toNat:Int))=true:=by rw [Aa,U7,heq];simp
     have hRt:R=true:=by
      rw [←HR.out];unfold yD;rw [Al,heq]
      simp
     subst hRt
     have fo:((k+1:Nat):Int)=(k:Int)+1:=by omega
     have HAt:=aa (fun n:Nat=>(show At ((wr.drewN n).setCell ⟨pa,0,none⟩ (.int .i64 ((k:Int)+1))) pa ps (k+1) l from ⟨by rw [←fo];exact (AZ.out.drewN n).pos.bg 0 (.int .i64 ((k+1:Nat):Int)),(AZ.out.drewN n).txt.off (b:=pa) (fun h=>hne h.symm) 0 _⟩))
     clear Aa U7 Al heq HR fo
     generalize br l=lb at*
     generalize br set=sb at*
     go_upto_region 4 with fail
     go_quiet (fail)
     go_wp2
     go_ret
     exact ⟨rfl,HAt.out _,(F9.out.drewN _).set (.inl rfl) 0 _⟩
    ·have e1:((((br l)[k]'yE).toNat:Int)==(((br set)[i]'SL).toNat:Int))=false:=by
      rw [Aa,U7];exact beq_eq_false_iff_ne.2 (fun e=>heq ((u8i _ _).1 e))
     have SN:=aa (show ∀j (hj:j<set.length),j<i+1→(l.drop k).head? ≠some set[j] from fun j hj h=>by
      rcases Nat.lt_or_ge j i with h1|h1
      ·exact QN.out j hj h1
      ·obtain rfl:j=i:=by omega
       rw [Al];exact fun e=>heq (Option.some.inj e))
     clear Aa U7 Al heq
     generalize br l=lb at*
     generalize br set=sb at*
     go_upto_region 4 with fail
     go_quiet (fail)
     go_wp2
     go_roundw
     case rel=>exact ⟨i+1,by go_num,by omega,SN.out,AZ.out.drewN _,F9.out.drewN _⟩
     case measure=>simp [intOf];omega
   ·have SM:¬(k:Int)<((br l).size:Int):=by rw [Dm];omega
    have Al:(l.drop k).head? =none:=by rw [List.head?_drop];exact List.getElem?_eq_none (by omega)
    have SN:=aa (show ∀j (hj:j<set.length),j<i+1→(l.drop k).head? ≠some set[j] from fun j hj h=>by rw [Al];simp)
    clear U7 Al
    generalize br l=lb at*
    generalize br set=sb at*
    go_upto_region 4 with fail
    go_quiet (fail)
    go_wp2
    go_roundw
    case rel=>exact ⟨i+1,by go_num,by omega,SN.out,AZ.out.drewN _,F9.out.drewN _⟩
    case measure=>simp [intOf];omega
  ·obtain rfl:i=set.length:=by omega
   have hRf:R=false:=by
    rw [←HR.out];unfold yD
    cases hh:(l.drop k).head? with
    |none=>rfl
    |some c=>
     cases hc:set.contains c with
     |false=>exact hc
     |true=>
      obtain ⟨j,hj,hjc⟩:=List.mem_iff_getElem.1 (show c∈set by simpa using hc)
      exact absurd (by rw [hh,hjc]) (QN.out j hj hj)
   subst hRf
   have aaq:¬(set.length:Int)<((br set).size:Int):=by rw [hsz];omega
   clear HR
   generalize br l=lb at*
   generalize br set=sb at*
   go_wp2
   go_ret
   exact ⟨rfl,AZ.out,F9.out⟩
theorem Ea (l:List UInt8) (pa ps k:Nat) (w:World) (hne:pa≠ps) (hl:l.length≤1000000) (hk:k≤l.length) (ha:At w pa ps k l):
 Calls Tryz.prog 177 #[.pointer (some ⟨pa,0,none⟩),.pointer (some ⟨ps,0,none⟩)] w fun e w'=>e=.returned (.string (br ((l.drop k).take (nd (l.drop k)))))∧At w' pa ps (k+nd (l.drop k)) l∧af (fun c=>c=pa) w w':=by
 have Dm:=dx l
 have Ha:=aa ha
 have K7:∀(i:Nat) (h:i<(br l).size),(br l)[i]'h=l[i]'(by rw [←Dm];exact h):=D_ l
 have SJ:=aa K7
 have aar:w.cell? ⟨pa,0,none⟩=some (.int .i64 (k:Nat)):=ha.pos.cell 0
 obtain ⟨N,hN⟩:∃N,nd (l.drop k)=N:=⟨_,rfl⟩
 have abK:N≤l.length-k:=by rw [←hN,←List.length_drop];exact tq _
 have Hin:=aa (show ∀j (h:k+j<l.length),j<N→iL l[k+j]=true from fun j h hj=>by
  have:=tr (l.drop k) j (by rw [List.length_drop];omega) (by rw [hN];exact hj)
  rwa [List.getElem_drop] at this)
 have aas:=aa (show ∀(h:k+N<l.length),iL l[k+N]=false from fun h=>by
  have:=Ks (l.drop k) (by rw [List.length_drop,hN];omega)
  rw [List.getElem_drop] at this
  simp only [hN] at this
  exact this)
 have hres:br ((l.drop k).take N)=(br l).extract k (k+N):=by
  apply Go.WideShapes.bytes_inj
  rw [dQ,Lib.extract_data,dQ,Nat.add_sub_cancel_left]
 have OQ:=aa hres
 rw [hN]
 clear ha K7 hN hres
 go_enter Tryz.func177,Tryz.ntmps177
 go_wp2
 clear aar
 go_loopg [21] N (fun g v wr=>∃j:Nat,j+g=N∧At wr pa ps (k+j) l∧af (fun c=>c=pa) w wr)
 case atStart=>exact ⟨0,Nat.zero_add _,Ha.out,af.refl _ _⟩
 case round=>
  obtain ⟨j,hj,hat,bS⟩:=hrel
  have AZ:=aa hat
  have F9:=aa bS
  have hca:wr.cell? ⟨pa,0,none⟩=some (.int .i64 ((k+j:Nat):Int)):=hat.pos.cell 0
  have hcs:wr.cell? ⟨ps,0,none⟩=some (.string (br l)):=hat.txt.cell 0
  have hfa:wr.frozen? ⟨pa,0,none⟩=false:=hat.pos.frozen 0
  clear hat bS
  obtain ⟨p,hp⟩:∃p,k+j=p:=⟨_,rfl⟩
  have hpI:(p:Int)≤1000000:=by omega
  rw [hp] at hca
  by_cases hin:p<l.length
  ·have SM:(p:Int)<((br l).size:Int):=by rw [Dm];omega
   have yE:p<(br l).size:=by rw [Dm];exact hin
   have Aa:=SJ.out p yE
   by_cases hlt:j<N
   ·have hd:=Hin.out j (by rw [hp];exact hin) hlt
    simp only [hp] at hd
    rw [←Aa] at hd
    simp only [iL,decide_eq_true_eq] at hd
    have g1:(48:Int)≤(((br l)[p]'yE).toNat:Int):=by omega
    have g2:(((br l)[p]'yE).toNat:Int)≤57:=by omega
    have fo:((k+(j+1):Nat):Int)=(p:Int)+1:=by omega
    have HAt:=aa (show At (wr.setCell ⟨pa,0,none⟩ (.int .i64 ((p:Int)+1))) pa ps (k+(j+1)) l from ⟨by rw [←fo];exact AZ.out.pos.bg 0 (.int .i64 ((k+(j+1):Nat):Int)),AZ.out.txt.off (b:=pa) (fun h=>hne h.symm) 0 _⟩)
    clear Aa hd fo hp
    generalize br l=lb at*
    go_wp2
    go_roundg (N-(j+1))
    case measure=>omega
    case rel=>exact ⟨j+1,by omega,HAt.out,F9.out.set (.inl rfl) 0 _⟩
   ·obtain rfl:j=N:=by omega
    have hd:=aas.out (by rw [hp];exact hin)
    simp only [hp] at hd
    rw [←Aa] at hd
    simp only [iL,decide_eq_false_iff_not] at hd
    have fo:(k:Int)≤(p:Int):=by omega
    have hk2:(p:Int)≤((br l).size:Int):=by omega
    have hr2:=OQ.out
    rw [hp] at hr2
    have OK:=aa hr2
    clear Aa OQ hr2
    by_cases g1:(48:Int)≤(((br l)[p]'yE).toNat:Int)
    ·have g2:¬(((br l)[p]'yE).toNat:Int)≤57:=by omega
     clear hd
     generalize br l=lb at*
     go_wp2
     go_ret
     exact ⟨Kw OK.out,hp▸AZ.out,F9.out⟩
    ·clear hd
     generalize br l=lb at*
     go_wp2
     go_ret
     exact ⟨Kw OK.out,hp▸AZ.out,F9.out⟩
  ·have SM:¬(p:Int)<((br l).size:Int):=by rw [Dm];omega
   obtain rfl:j=N:=by omega
   have fo:(k:Int)≤(p:Int):=by omega
   have hk2:(p:Int)≤((br l).size:Int):=by omega
   have hr2:=OQ.out
   rw [hp] at hr2
   have OK:=aa hr2
   clear OQ hr2
   generalize br l=lb at*
   go_wp2
   go_ret
   exact ⟨Kw OK.out,hp▸AZ.out,F9.out⟩
end Go.Proofs.YtddoehnkgcbboaaGreatDoor
