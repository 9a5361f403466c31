/- A part of the proof that the last file tells. -/
import Derived.Test.YtddoehnkgcbboaaGreatDoorAgZC
set_option maxHeartbeats 16000000
set_option maxRecDepth 100000
set_option linter.unusedVariables false
set_option linter.unusedSimpArgs false
namespace Go.Proofs.YtddoehnkgcbboaaGreatDoor
open Go.RowKit Go.Shelf
mutual
theorem vw:∀n:Nd,iF (fC n)=iF n
 |.mk k az nm v a b c d ks=>by simp only [fC,iF,BR ks]
theorem BR:∀l:List Nd,ml (d_ l)=ml l
 |[]=>by simp [d_]
 |n::r=>by simp only [d_,ml,vw n,BR r]
end
theorem uj {L:List Lx} {k:Nat} (h:L.length≤k) (w:List UInt8):b_ L k w=false:=by
 unfold b_;rw [List.getElem?_eq_none h]
theorem Lb {L:List Lx} {k:Nat} (h:L.length≤k) (ops:List (List UInt8×Int)):kj L ops k=none:=by
 unfold kj;rw [List.find?_eq_none.mpr (fun p _=>by rw [uj h];decide)];rfl
theorem Fh.end_ {L:List Lx} {k j:Nat} (h:L.length≤k):Fh L k j:=⟨fun _=>uj h _,fun _ _ _=>Lb h _⟩
theorem Am.end_ {L:List Lx} {k j:Nat} (h:L.length≤k):Am L k j:=⟨Fh.end_ h,fun _=>Lb h _,fun _=>uj h _,fun _=>uj h _,uj h _⟩
theorem JI {cE:St→Bool→List Tk→Prop} (I:NI cE) (h0:cE ([],false) false []) (hfin:∀{t e T},cE (t,e) true T→(df t).2.2=0→lB (df t).1 0 T∧T.length=(df t).1.length)
 {sg:List UInt8→Int} {ng:List UInt8→List UInt8} (ko:∀v,sg v<0→bL [⟨4,ng v,0⟩]≠[]→lN (ng v)=v) {n:Nd} {t:List UInt8} (h:eV sg ng n=some t) (rd:List UInt8→Int×Int):
 ∃n',fC n'=fC n∧mn (decide (10≤iz sg n)) t true rd=(n',0,0):=by
 obtain ⟨hlv,hz,T,e,L,R⟩:=JH I h0 ko h;obtain ⟨hat,hlen⟩:=hfin L hz
 have hend:(df t).1.length≤0+T.length:=by omega
 have key:∀(pat:Bool) (n':Nd) (r:PR Nd),fC n'=fC n→r=.ok n' (0+T.length)→yF (df t).1 (t.length:Int) r=(n',0,0):=by
  intro pat n' r hu hr;rw [hr];unfold yF;simp only;rw [if_neg (by omega),if_neg (by rw [←vw n',hu,vw];omega)]
 unfold mn;rw [if_pos rfl,if_pos hz];by_cases hp:10≤iz sg n
 ·rw [if_pos hp] at R;obtain ⟨_,_,r⟩:=R.pat (by decide);obtain ⟨n',hu,hr⟩:=kC.stop (show kC T n from r) (df t).1 (t.length:Int) rd (df t).1.length 0 hat (by omega) (Am.end_ hend);refine ⟨n',hu,?_⟩;rw [if_pos (decide_eq_true hp)];exact key true n' _ hu hr
 ·rw [if_neg hp] at R;obtain ⟨_,_,_,r⟩:=R.val (by decide);obtain ⟨n',hu,hr⟩:=Reads.cond (RD.reads (j:=0) r) (L:=(df t).1) (en:=(t.length:Int)) (rd:=rd) (k:=0) hat (Fh.end_ hend);refine ⟨n',hu,?_⟩;rw [if_neg (by simpa using hp)];exact key false n' _ hu hr
theorem aab {sg:List UInt8→Int} {k az a b c d:Int} {nm v:List UInt8} {ks:List Nd} (hk:k≤47):10≤iz sg (.mk k az nm v a b c d ks)↔37≤k:=by
 by_cases h:37≤k
 ·have hc:k=37∨k=38∨k=39∨k=40∨k=41∨k=42∨k=43∨k=44∨k=45∨k=46∨k=47:=by omega
  have key:∀x:Int,iz sg (.mk k az nm v a b c d ks)=x→10≤x→(10≤iz sg (.mk k az nm v a b c d ks)↔37≤k):=fun x e hx=>⟨fun _=>h,fun _=>by rw [e];exact hx⟩
  rcases hc with rfl|rfl|rfl|rfl|rfl|rfl|rfl|rfl|rfl|rfl|rfl
  ·exact key 13 rfl (by decide)
  ·exact key 13 rfl (by decide)
  ·exact key 13 rfl (by decide)
  ·exact key 13 rfl (by decide)
  ·exact key 13 rfl (by decide)
  ·exact key 13 rfl (by decide)
  ·exact key 13 rfl (by decide)
  ·exact key 13 rfl (by decide)
  ·exact key 11 rfl (by decide)
  ·exact key 10 rfl (by decide)
  ·exact key 12 rfl (by decide)
 ·refine ⟨fun hh=>?_,fun hh=>absurd hh h⟩;exfalso;unfold iz at hh;rw [show (Nd.mk k az nm v a b c d ks).kind=k from rfl] at hh
  cases hx:gq k with
  |some x=>
   rw [hx] at hh;simp only at hh
   rcases qA hx with ⟨j,hj,b1,_⟩|⟨b1,_⟩|⟨rfl,_⟩
   ·unfold ov at hj;simp at hj;omega
   ·omega
   ·omega
  |none=>
   rw [hx] at hh;simp only at hh;by_cases y1:k=28
   ·rw [if_pos y1] at hh;omega
   rw [if_neg y1] at hh;by_cases y2:k=8∨k=6
   ·rw [if_pos y2] at hh;omega
   rw [if_neg y2] at hh;by_cases y3:k=4∧sg (Nd.mk k az nm v a b c d ks).value<0
   ·rw [if_pos y3] at hh;omega
   rw [if_neg y3,if_neg (show¬k=45 by omega),if_neg (show¬k=47 by omega),if_neg (show¬k=44 by omega)] at hh;by_cases y6:(oH k).isSome=true∨k=42
   ·rcases y6 with y6|y6
    ·cases hq:oH k with
     |none=>rw [hq] at y6;cases y6
     |some s=>rcases vt hq with ⟨e,_⟩|⟨e,_⟩|⟨e,_⟩|⟨e,_⟩|⟨e,_⟩|⟨e,_⟩<;>omega
    ·omega
   ·rw [if_neg y6] at hh;omega
theorem NR {sg:List UInt8→Int} {ng:List UInt8→List UInt8} {k az a b c d:Int} {nm v:List UInt8} {ks:List Nd} {fs:List Pw} {st st':St} (h:dZ sg ng (.mk k az nm v a b c d ks) fs st=some st'):k≤47:=by
 by_cases hk:k≤47
 ·exact hk
 exfalso;unfold dZ at h;rw [show (Nd.mk k az nm v a b c d ks).kind=k from rfl] at h
 have hx:gq k=none:=by unfold gq;repeat' (first|rw [if_neg (by omega)]|rfl)
 have hq:iq k=none:=by unfold iq;repeat' (first|rw [if_neg (by omega)]|rfl)
 have he:oH k=none:=by unfold oH;repeat' (first|rw [if_neg (by omega)]|rfl)
 have ht:ET k=none:=by unfold ET;repeat' (first|rw [if_neg (by omega)]|rfl)
 rw [hx,hq,he,ht] at h;simp only at h;rw [if_neg (by omega)] at h;unfold bn at h;rw [show (Nd.mk k az nm v a b c d ks).kind=k from rfl,if_neg (by omega),if_neg (by omega),if_neg (by omega),if_neg (by omega)] at h;unfold dO at h;rw [show (Nd.mk k az nm v a b c d ks).kind=k from rfl] at h;by_cases hl:fs.length≠0
 ·rw [if_pos hl] at h;cases h
 rw [if_neg hl,if_neg (by omega),if_neg (fun hh=>hh.2 (show dY k=0 by unfold dY;repeat' (first|rw [if_neg (by omega)]|rfl)))] at h;cases h
theorem NS {sg:List UInt8→Int} {ng:List UInt8→List UInt8} {k az a b c d need:Int} {nm v:List UInt8} {ks:List Nd} {st st':St} (h:bC sg ng (.mk k az nm v a b c d ks) need st=some st'):∃s0 s1,dZ sg ng (.mk k az nm v a b c d ks) (aq sg ng ks) s0=some s1:=by
 rw [bC] at h;unfold oq at h;by_cases hd:decide (10≤iz sg (.mk k az nm v a b c d ks))≠decide (10≤need)
 ·rw [if_pos hd] at h;cases h
 rw [if_neg hd] at h;by_cases hn:need≤iz sg (.mk k az nm v a b c d ks)
 ·rw [if_pos hn] at h;exact ⟨_,_,h⟩
 ·rw [if_neg hn] at h;obtain ⟨s1,h1,_⟩:=fQ h;exact ⟨_,_,h1⟩
theorem NT {sg:List UInt8→Int} {ng:List UInt8→List UInt8} {n:Nd} {t:List UInt8} (h:eV sg ng n=some t):decide (10≤iz sg n)=decide (37≤n.kind):=by
 obtain ⟨k,az,nm,v,a,b,c,d,ks⟩:=n
 have hk:k≤47:=by
  unfold eV at h;by_cases hl:32<iF (.mk k az nm v a b c d ks)
  ·rw [if_pos hl] at h;cases h
  rw [if_neg hl] at h
  split at h
  ·rename_i st hs;obtain ⟨s0,s1,h1⟩:=NS hs;exact NR h1
  ·cases h
 exact decide_eq_decide.mpr (aab hk)
def tlL:List UInt8:=[32,40,41,44,58,91,93,123,125]
def kI (R:List UInt8):Prop:=R=[]∨∃c r,R=c::r∧c∈tlL∧(c=32→r.head? ≠some 46)
theorem kI.none {R:List UInt8} (h:kI R) {p:UInt8→Bool} (hp:∀c∈tlL,p c=false):bf p R=0:=by
 rcases h with rfl|⟨c,r,rfl,hc,_⟩
 ·rfl
 ·exact gI (hp c hc)
def qW (k:Int) (t:List UInt8):Prop:=
 l6 (aY k t)∧∀R,kI R→aR (aY k t++R)=⟨k,t,(aY k t).length,0⟩
theorem wN.ofW {U R:List UInt8} (hU:U=[]∨U∈cA) (hR:kI R):wN (U++R):=by
 rcases hU with rfl|hU
 ·rcases hR with rfl|⟨c,r,rfl,hc,_⟩
  ·exact .inl rfl
  ·have key:∀c∈tlL,bg c=false∧c≠39∧c≠46∧bp c≠101:=by decide
   obtain ⟨a,b,d,e⟩:=key c hc;exact .inr ⟨c,r,rfl,a,b,d,e⟩
 ·right;simp only [cA,List.mem_cons,List.not_mem_nil,or_false] at hU
  rcases hU with rfl|rfl|rfl|rfl|rfl|rfl<;>exact ⟨_,_,rfl,by decide,by decide,by decide,by decide⟩
theorem SN {R:List UInt8} (hR:kI R):bf zO R=0:=hR.none (by decide)
theorem NV {S U R:List UInt8} (hS:∀c∈S,bg c=true) (hne:S≠[]) (hst:bO S=S) (Ta:S.length≤15) (hU:U=[]∨U∈cA) (hR:kI R):
 aR ((S++U)++R)=⟨if U=[] then 1 else 2,S++U,(S++U).length,0⟩:=by
 have hE:=wN.ofW hU hR;have hn:=dP S (U++R) hS hE.bf;have h0:S.length≠0:=fun e=>hne (gH e)
 have hUt:∀c∈U,zO c=true:=by
  rcases hU with rfl|hU
  ·intro c hc;cases hc
  ·exact Cw U hU
 have hsp:=dP U R hUt (SN hR);have hdr:(S++(U++R)).drop S.length=U++R:=List.drop_left;have htk:(S++(U++R)).take S.length=S:=List.take_left
 obtain ⟨c,r,rfl⟩:∃c r,S=c::r:=by
  cases S with
  |nil=>exact absurd rfl hne
  |cons c r=>exact ⟨c,r,rfl⟩
 have e:(c::r++U)++R=c::r++(U++R):=cT _ _ _;rw [e];have e2:aR (c::r++(U++R))=fg (c::r++(U++R)):=jT (hS c bX);rw [e2,A9 hn h0 hE.get hE.exp (by omega),hdr,htk,hsp,List.take_left,qg _ hne,hst];have hz:U.length=0↔U=[]:=List.length_eq_zero_iff;by_cases hu:U=[]
 ·rw [if_pos (.inl (hz.2 hu)),if_neg (by omega),if_pos (hz.2 hu),if_pos hu];rw [aw];rfl
 ·rw [if_pos (.inr (hU.resolve_left hu)),if_neg (by omega),if_neg (fun e=>hu (hz.1 e)),if_neg hu];rw [aw];rfl
theorem uk {S U:List UInt8} (hS:∀c∈S,bg c=true) (hne:S≠[]) (hst:bO S=S) (Ta:S.length≤15) (hU:U=[]∨U∈cA):qW (if U=[] then 1 else 2) (S++U):=by
 have hk:(if U=[] then 1 else 2:Int)=0∨(if U=[] then 1 else 2:Int)=1∨(if U=[] then 1 else 2:Int)=2∨(if U=[] then 1 else 2:Int)=6:=by
  by_cases h:U=[]
  ·rw [if_pos h];exact .inr (.inl rfl)
  ·rw [if_neg h];exact .inr (.inr (.inl rfl))
 refine ⟨?_,fun R hR=>?_⟩
 ·rw [eH hk];exact l6.dg hne hS U
 ·rw [eH hk];exact NV hS hne hst Ta hU hR
theorem Dp {t:List UInt8} (h1:1≤t.length) (h2:t.length≤128) (hc:∀c∈t,EH c=true):
 fD (Lib.decDigits t.length++39::98::t)=(t,0)∧∀R,kI R→bY (Lib.decDigits t.length++39::98::(t++R)) (Lib.decDigits t.length).length=(Lib.decDigits t.length++39::98::t).length:=by
 have hD:=rK t.length;have hw:=yt t.length h2;have hd0:=(fG t.length).2.2.1
 have hne:t≠[]:=fun e=>by rw [e] at h1;exact absurd h1 (by decide)
 generalize Lib.decDigits t.length=D at*
 have hC:∀R,kI R→bY (D++39::98::(t++R)) D.length=(D++39::98::t).length:=by
  intro R hR;have hs:=dP (p:=ra (bp 98)) t R (fun c h=>(Il c (hc c h)).1) (hR.none (by decide));unfold bY;rw [List.drop_left];show (if t++R=[]∨fJ (bp 98)=none∨JT 98=false then 0 else if bf (ra (bp 98)) (t++R)=0 then 0 else D.length+2+bf (ra (bp 98)) (t++R))=_;rw [if_neg (by rintro (h|h|h);exact hne (List.append_eq_nil_iff.1 h).1;revert h;decide;revert h;decide),hs,if_neg (by omega)];rw [aw,aj,aj];omega
 refine ⟨?_,hC⟩;have hn:bf bg (D++39::98::t)=D.length:=dP D _ hD (gI (by decide));have hc0:=hC [] (.inl rfl);rw [dH] at hc0;rw [tv (by rw [hn];omega) (by rw [hn];exact hc0),hn,List.take_left]
 have e1:(D++39::98::t).getD (D.length+1) 0=98:=by
  rw [List.getD_eq_getElem?_getD,List.getElem?_append_right (by omega),Nat.add_sub_cancel_left];rfl
 have e2:(D++39::98::t).drop (D.length+2)=t:=by rw [←dB,List.drop_left];rfl
 rw [e1,e2];unfold qK
 have h98:bp 98=98:=by decide
 rw [h98,if_neg (by rintro ⟨h,_⟩;revert h;decide),hw,if_neg (by omega),if_neg (by rintro ⟨h,_⟩;revert h;decide)]
 have ho:tu 98 t=t:=by
  unfold tu;rw [if_neg (by decide)];exact rJ t hc
 rw [ho];unfold xQ;rw [if_neg (by omega),Nat.sub_self,List.take_zero,List.drop_zero];rfl
theorem og {F R:List UInt8} (hR:kI R):bB (F++R) F.length=true:=by
 unfold bB;rw [List.drop_left]
 rcases hR with rfl|⟨c,r,rfl,hc,_⟩
 ·rfl
 ·exact (show ∀c∈tlL,(!lT c&&c !=39)=true by decide) c hc
theorem JJ {t:List UInt8} (h1:1≤t.length) (h2:t.length≤128) (hc:∀c∈t,EH c=true):qW 3 t:=by
 obtain ⟨hb,hC⟩:=Dp h1 h2 hc;have hD:=rK t.length;have hd0:=yq t.length;rw [qW,nN];refine ⟨l6.dg hd0 hD _,fun R hR=>?_⟩;have hC:=hC R hR;generalize Lib.decDigits t.length=D at*
 have e:(D++39::98::t)++R=D++39::98::(t++R):=by simp
 have e2:aR (D++39::98::(t++R))=fg (D++39::98::(t++R)):=by
  cases D with
  |nil=>exact absurd rfl hd0
  |cons c r=>exact jT (hD c bX)
 have hn:bf bg (D++39::98::(t++R))=D.length:=dP D _ hD (gI (by decide))
 have ha:bB (D++39::98::(t++R)) (D++39::98::t).length=true:=by rw [←e];exact og hR
 have ht:(D++39::98::(t++R)).take (D++39::98::t).length=D++39::98::t:=by rw [←e,List.take_left]
 rw [e,e2];unfold fg tF;rw [hn,hC,if_pos (by rw [aw,aj];omega),if_pos ha,ht,hb]
theorem NW {t:List UInt8} (h:t.length≤64):qW 5 t:=by
 rw [qW,qj];have hq:=nG t;refine ⟨⟨34,_,hq,by decide,by decide,by decide⟩,fun R hR=>?_⟩;have hlen:=mJ t
 have e:nz t++R=34::(t.flatMap fM++34::R):=by rw [hq];simp
 have e2:aR (nz t++R)=fF (nz t++R):=by
  rw [e,dU,if_neg (by decide),if_neg (by decide),if_pos rfl]
 have hc:bV ((nz t++R).drop 1)=(t.flatMap fM).length:=by rw [e];exact pA t R
 rw [e2,gX,hc];unfold iO
 have hE:1+(t.flatMap fM).length+1=(nz t).length:=by omega
 rw [hE,if_neg (by rw [aw];omega),List.take_left,Ez,if_neg (by omega)]
theorem JK {R:List UInt8} (hR:kI R):aR ([48,46,48]++R)=⟨4,[48],3,0⟩:=by
 have e:aR ([48,46,48]++R)=fg ([48,46,48]++R):=jT (by decide);have hn:bf bg ([48,46,48]++R)=1:=rfl;have h0:=hR.none (p:=bg) (by decide)
 have hl:([48,46,48]++R).length=R.length+3:=by rw [aw];show 3+R.length=_;omega
 have Im:jS ([48,46,48]++R) 1=3:=by
  have h1:bf bg (([48,46,48]++R).drop 2)=1:=by
   show bf bg (48::R)=1;rw [ft (by decide),h0]
  rw [pg (n:=1) (show 1+1<([48,46,48]++R).length by omega) rfl];show (if bg 48=true then 1+1+bf bg (([48,46,48]++R).drop (1+1)) else 1)=3;rw [if_pos (by decide),h1]
 have Io:ic ([48,46,48]++R) (jS ([48,46,48]++R) 1)=3:=by
  rw [Im]
  rcases hR with rfl|⟨c,r,rfl,hc,_⟩
  ·exact oX (aa _)
  ·exact sS (n:=3) (by rw [hl,aj];omega) (by show bp c≠101;exact (show ∀c∈tlL,bp c≠101 by decide) c hc)
 have ht:([48,46,48]++R).take 3=[48,46,48]:=rfl;have ha:bB ([48,46,48]++R) 3=true:=og (F:=[48,46,48]) hR
 have hr:cP [48,46,48]=([48],0):=by decide+kernel
 rw [e,qh hn (by show (46:UInt8)≠39;decide) Io (by omega),if_pos ha,ht,hr]
theorem JL {t0:UInt8} {t E D R:List UInt8} (h0:bg t0=true) (ht:∀c∈t,bg c=true) (hE:E=45::D∨E=D) (hD:D≠[]) (UG:∀c∈D,bg c=true) (hR:kI R) (F:List UInt8)
 (hF:F=t0::((if 0<t.length then 46::t else [])++101::E)) (hr:cP F=(F,0)):aR (F++R)=⟨4,F,F.length,0⟩:=by
 obtain ⟨M,hM⟩:∃M,(if 0<t.length then 46::t else []:List UInt8)=M:=⟨_,rfl⟩
 rw [hM] at hF
 have em:F++R=t0::(M++101::(E++R)):=by rw [hF];simp
 have hRd:=hR.none (p:=bg) (by decide)
 have hEl:0<E.length:=by
  have:0<D.length:=List.length_pos_iff.2 hD
  rcases hE with rfl|rfl
  ·rw [aj];omega
  ·exact this
 have Wy:F.length=M.length+2+E.length:=by rw [hF,aj,aw,aj];omega
 have zU:(t0::(M++101::(E++R))).length=M.length+2+E.length+R.length:=by
  rw [aj,aw,aj,aw];omega
 have hn:bf bg (t0::(M++101::(E++R)))=1:=by
  rw [ft h0,←hM]
  split
  ·rw [List.cons_append,gI (by decide)]
  ·rw [List.nil_append,gI (by decide)]
 have JU:(t0::(M++101::(E++R))).getD 1 0≠39:=by
  rw [←hM]
  split
  ·show (46:UInt8)≠39;decide
  ·show (101:UInt8)≠39;decide
 have Im:jS (t0::(M++101::(E++R))) 1=1+M.length:=by
  by_cases hp:0<t.length
  ·rw [if_pos hp] at hM;subst hM
   obtain ⟨a,r,rfl⟩:∃a r,t=a::r:=by
    cases t with
    |nil=>exact absurd hp (by decide)
    |cons a r=>exact ⟨a,r,rfl⟩
   have hs:bf bg ((a::r)++101::(E++R))=(a::r).length:=dP _ _ ht (gI (by decide));rw [pg (n:=1) (by rw [zU];omega) rfl];show (if bg a=true then 1+1+bf bg ((a::r)++101::(E++R)) else 1)=_;rw [if_pos (ht a bX),hs];rw [aj (a:=46)];omega
  ·rw [if_neg hp] at hM;subst hM;rw [wY (n:=1) (by rw [zU];omega) (by show (101:UInt8)≠46;decide)];rfl
 have hat:∀X:List UInt8,(t0::(M++X)).drop (1+M.length)=X:=fun X=>by
  rw [Nat.add_comm,List.drop_succ_cons,List.drop_left]
 have hge:(t0::(M++101::(E++R)))[1+M.length]'(by rw [zU];omega)=101:=by
  have:=hat (101::(E++R));rw [cn (by rw [zU];omega)] at this;exact (List.cons.inj this).1
 have hd1:(t0::(M++101::(E++R))).drop (1+M.length+1)=E++R:=by rw [←dB,hat];rfl
 have Io:ic (t0::(M++101::(E++R))) (1+M.length)=F.length:=by
  have hDl:0<D.length:=List.length_pos_iff.2 hD;have hDs:bf bg (D++R)=D.length:=dP _ _ UG hRd
  rcases hE with rfl|rfl
  ·have hd2:(t0::(M++101::(45::D++R))).drop (1+M.length+2)=D++R:=by rw [←dB,hat];rfl
   rw [mE (by rw [zU];omega) (by rw [hge];decide) (1+M.length+2) (by rw [hd1];exact (if_pos (.inr rfl)).symm),hd2,hDs,if_pos hDl,Wy,aj];omega
  ·obtain ⟨a,r,rfl⟩:∃a r,E=a::r:=by
    cases E with
    |nil=>exact absurd rfl hD
    |cons a r=>exact ⟨a,r,rfl⟩
   have ha:=UG a bX
   have hna:¬(((a::r)++R).head? =some 43∨((a::r)++R).head? =some 45):=by
    rintro (h|h)<;>(have h2:a=_:=au h;subst h2;revert ha;decide)
   rw [mE (by rw [zU];omega) (by rw [hge];decide) (1+M.length+1) (by rw [hd1];exact (if_neg hna).symm),hd1,hDs,if_pos hDl,Wy];omega
 have htk:(t0::(M++101::(E++R))).take F.length=F:=by rw [←em,List.take_left]
 have hal:bB (t0::(M++101::(E++R))) F.length=true:=by rw [←em];exact og hR
 rw [em,jT h0,qh (e:=F.length) hn JU (by rw [Im];exact Io) (by omega),if_pos hal,htk,hr]
theorem JM {l:List UInt8} (hd:∀c,l.head? =some c→bg c=true) (h:(cP l).2=0):qW 4 (cP l).1∧(aY 4 (cP l).1).length≤24:=by
 rcases vO hd h with h0|⟨t0,t,E,D,hF,h0,ht,acH,hE,hD,UG,hE4,hr⟩
 ·rw [h0,qW,yw];exact ⟨⟨⟨48,_,rfl,by decide,by decide,by decide⟩,fun R hR=>JK hR⟩,by decide⟩
 ·generalize (cP l).1=F at*
  have hne:F≠[48]:=by
   rw [hF];intro e;have:=(List.cons.inj e).2;exact absurd (List.append_eq_nil_iff.1 this).2 (by simp)
  rw [qW,rL hne];obtain ⟨g1,g2,g3,_⟩:=xg t0 h0;refine ⟨⟨⟨t0,_,hF,g1,g2,g3⟩,fun R hR=>JL h0 ht hE hD UG hR F hF hr⟩,?_⟩;rw [hF,aj,aw,aj]
  split
  ·rw [aj];omega
  ·rw [aK];omega
theorem JO {l:List UInt8} (h:(aR l).err=0) (uQ:(aR l).kind≠0) (ki:(aR l).kind≠6):qW (aR l).kind (aR l).text:=by
 cases l with
 |nil=>exact absurd (aH h) (by decide)
 |cons c r=>
  rw [dU] at h uQ ki⊢;by_cases c1:oC c=true∨c=92
  ·rw [if_pos c1] at h uQ;exact absurd (qi h).1 uQ
  ·rw [if_neg c1] at h uQ ki⊢;by_cases c2:bg c=true
   ·rw [if_pos c2] at h⊢;clear uQ ki
    have AA:1≤bf bg (c::r):=by rw [ft c2];omega
    have hnl:=fA bg (c::r);have htk:=kT (p:=bg) (c::r);have hC:=yz (l:=c::r) (n:=bf bg (c::r));have hum:=ln (us:=cA) (t:=(c::r).drop (bf bg (c::r)))
    have Ca:∀k,0<k→∀d,((c::r).take k).head? =some d→bg d=true:=by
     intro k hk d hd
     cases k with
     |zero=>exact absurd hk (by decide)
     |succ k=>rw [List.take_succ_cons] at hd;cases hd;exact c2
    unfold fg tF at h⊢;generalize c::r=l at*;generalize bf bg l=n at*;generalize bY l n=C at*;generalize ic l (jS l n)=e2 at*;generalize hk:iD (l.drop n)=k at*;by_cases h1:0<C
    ·rw [if_pos h1] at h⊢;by_cases h2:bB l C=true
     ·rw [if_pos h2] at h⊢;obtain ⟨b1,b2,b3⟩:=EI h;exact JJ b1 b2 b3
     ·rw [if_neg h2] at h;exact absurd (aH h) (by decide)
    ·rw [if_neg h1] at h⊢;by_cases h3:n<e2
     ·rw [if_pos h3] at h⊢;by_cases h2:bB l e2=true
      ·rw [if_pos h2] at h⊢;exact (JM (Ca e2 (by omega)) h).1
      ·rw [if_neg h2] at h;exact absurd (aH h) (by decide)
     ·rw [if_neg h3] at h⊢;by_cases h4:bB l (n+k)=false
      ·rw [if_pos h4] at h;exact absurd (aH h) (by decide)
      ·rw [if_neg h4] at h⊢;by_cases h5:15<(bO (l.take n)).length
       ·rw [if_pos h5] at h;exact absurd (aH h) (by decide)
       ·rw [if_neg h5]
        have Qa:l.take n≠[]:=fun e=>by
         have:=congrArg List.length e;rw [cr,aK] at this;omega
        have hS:∀d∈bO (l.take n),bg d=true:=fun d hd=>by
         rcases rI Qa d hd with rfl|hd
         ·rfl
         ·exact htk d hd
        have hk':gY cA (l.drop n)=k:=hk
        have hU:(l.drop n).take k=[]∨(l.drop n).take k∈cA:=by
         by_cases h0:0<k
         ·rw [hk'] at hum;exact .inr (hum h0)
         ·rw [show k=0 by omega,List.take_zero];exact .inl rfl
        have hkl:=pj (l.drop n);rw [hk,aA] at hkl
        have hkU:(l.drop n).take k=[]↔k=0:=by
         refine ⟨fun e=>?_,fun e=>by rw [e,List.take_zero]⟩;have:=congrArg List.length e;rw [cr,aA,aK] at this;omega
        have LZ:(if k=0 then 1 else 2:Int)=if (l.drop n).take k=[] then 1 else 2:=by
         by_cases h0:k=0
         ·rw [if_pos h0,if_pos (hkU.2 h0)]
         ·rw [if_neg h0,if_neg (fun e=>h0 (hkU.1 e))]
        have hg:=uk hS (uS _) (tK _) (by omega) hU;rw [←LZ] at hg;exact hg
   ·rw [if_neg c2] at h uQ ki⊢;by_cases c3:c=34
    ·rw [if_pos c3] at h⊢;rw [gX] at h⊢;unfold iO at h⊢;generalize 1+bV ((c::r).drop 1)=E at*;by_cases h1:(c::r).length≤E
     ·rw [if_pos h1] at h;exact absurd (aH h) (by decide)
     ·rw [if_neg h1] at h⊢;obtain ⟨h2,h3⟩:=Kk h;exact NW h2
    ·rw [if_neg c3] at h uQ ki⊢;exfalso
     cases hs:dS eD (c::r) with
     |none=>rw [hs] at h;exact absurd (aH h) (by decide)
     |some u=>rw [hs] at ki;exact ki rfl
theorem Dq (s:List UInt8):bM s=true↔∃a b,s=a++92::b∧(92:UInt8)∉b∧(32:UInt8)∉b:=by
 have key:∀(a b:List UInt8),(92:UInt8)∉b→(a++92::b).reverse.idxOf? 92=some b.length:=by
  intro a b hb
  have e:(a++92::b).reverse=b.reverse++92::a.reverse:=by simp
  rw [e,List.idxOf?_eq_some_iff];refine ⟨by simp,by simp,fun j hj=>?_⟩;rw [uw (by simpa using hj)];intro h;apply hb;have:b.reverse[j]'(by simpa using hj)∈b.reverse:=cI _;rw [List.mem_reverse] at this;rw [←h];exact this
 constructor
 ·intro h;unfold bM at h
  cases hx:s.reverse.idxOf? 92 with
  |none=>rw [hx] at h;cases h
  |some i=>
   rw [hx] at h
   have hi:i<s.length:=by
    have:=(List.idxOf?_eq_some_iff.1 hx).1
    simpa using this
   obtain ⟨b,hb⟩:∃b,s.drop (s.length-1-i)=92::b:=by
    obtain ⟨h1,h2,_⟩:=List.idxOf?_eq_some_iff.1 hx;rw [cn (by omega)];rw [List.getElem_reverse] at h2;rw [h2];exact ⟨_,rfl⟩
   have hs:s=s.take (s.length-1-i)++92::b:=by rw [←hb,List.take_append_drop]
   have hbl:b.length=i:=by
    have:=congrArg List.length hb;rw [aA,aj] at this;omega
   refine ⟨_,b,hs,?_,?_⟩
   ·intro hm;obtain ⟨_,_,h3⟩:=List.idxOf?_eq_some_iff.1 hx;obtain ⟨j,hj,Tf⟩:=List.getElem_of_mem (List.mem_reverse.2 hm);rw [List.length_reverse] at hj;have h4:=h3 j (by omega);apply h4
    have e:s.reverse=b.reverse++92::(s.take (s.length-1-i)).reverse:=by
     conv=>lhs;rw [hs]
     simp
    have e2:s.reverse[j]? =some 92:=by rw [e,List.getElem?_append_left (by rw [List.length_reverse];exact hj),List.getElem?_eq_getElem (by rw [List.length_reverse];exact hj),Tf]
    exact (List.getElem?_eq_some_iff.1 e2).2
   ·intro hm;simp only [hb,Bool.not_eq_true',decide_eq_false_iff_not] at h;exact h (cL _ hm)
 ·rintro ⟨a,b,rfl,hb1,hb2⟩;unfold bM;rw [key a b hb1]
  have hd:(a++92::b).drop ((a++92::b).length-1-b.length)=92::b:=by
   have:(a++92::b).length-1-b.length=a.length:=by rw [aw,aj];omega
   rw [this,List.drop_left]
  simp only [hd,Bool.not_eq_true',decide_eq_false_iff_not];intro h
  rcases List.mem_cons.1 h with h|h
  ·exact absurd h (by decide)
  ·exact hb2 h
theorem Lc {a s:List UInt8} (h:bM s=true):bM (a++s)=true:=by
 obtain ⟨x,y,rfl,h1,h2⟩:=(Dq _).1 h;exact (Dq _).2 ⟨a++x,y,by simp,h1,h2⟩
theorem SQ:∀{s:List UInt8},(92:UInt8)∈s→(32:UInt8)∉s→bM s=true
 |c::r,hm,Qv=>by
  by_cases hr:(92:UInt8)∈r
  ·exact Lc (a:=[c]) (SQ hr (fun h=>Qv (cL _ h)))
  ·obtain rfl:92=c:=by
    rcases List.mem_cons.1 hm with h|h
    ·exact h
    ·exact absurd h hr
   exact (Dq _).2 ⟨[],r,rfl,hr,fun h=>Qv (cL _ h)⟩
theorem aac:uo 32=false:=by decide
theorem JP {T:List UInt8} (h:Cy T false) (he:bM T=false) {R:List UInt8} (hR:kI R):gM (T++R)=some (T,T.length)∧((T++R).drop T.length).head? ≠some 46:=by
 generalize hb:false=b at h
 cases h with
 |plain hf ht=>
  rename_i c t;have hs:=dP (p:=lT) (c::t) R ht (hR.none (by decide));refine ⟨?_,?_⟩
  ·show gM (c::(t++R))=_;rw [gM,if_pos hf];show some (((c::t)++R).take (bf lT ((c::t)++R)),bf lT ((c::t)++R))=_;rw [hs,List.take_left]
  ·rw [List.drop_left]
   rcases hR with rfl|⟨d,r,rfl,hd,_⟩
   ·exact fun e=>by cases e
   ·intro e;have:d=46:=au e;subst this;revert hd;decide
 |mid ht hne=>cases hb
 |last ht hne=>
  rename_i t
  have:bM (92::t)=true:=SQ bX (fun h=>by
   rcases List.mem_cons.1 h with h|h
   ·exact absurd h (by decide)
   ·have:=ht _ h;rw [aac] at this;cases this)
  rw [this] at he;cases he
theorem wJ:∀(k:Nat) (l:List UInt8) (F:List UInt8) (n:Nat),l.length≤k→gU l=some (F,n)→bM F=false→∀R,kI R→gU (F++R)=some (F,F.length)
 |0,l,F,n,hk,h,_,_,_=>by
  obtain rfl:=gH (Nat.le_zero.1 hk);cases h
 |k+1,l,F,n,hk,h,he,R,hr=>by
  rw [eP] at h;obtain ⟨⟨T,j⟩,hs,h⟩:=Option.bind_eq_some_iff.1 h;obtain ⟨hj1,Tf⟩:=oY hs;simp only at hj1 Tf h;by_cases oL:(l.drop j).head? =some 46
  ·rw [if_pos oL] at h;obtain ⟨⟨F2,n2⟩,hp,h⟩:=Option.map_eq_some_iff.1 h;cases h;obtain ⟨hT,WA⟩:=tI hs true ⟨fun _=>oL,fun _=>rfl⟩
   have Ae:bM F2=false:=by
    cases hx:bM F2 with
    |false=>rfl
    |true=>
     have:=Lc (a:=T++[46]) hx;rw [cT] at this;rw [show bM (T++46::F2)=true from this] at he;cases he
   have hR:=wJ k (l.drop (j+1)) F2 n2 (by rw [aA];omega) hp Ae R hr;show gU ((T++46::F2)++R)=some (T++46::F2,(T++46::F2).length)
   have e:(T++46::F2)++R=T++46::(F2++R):=by simp
   rw [e,eP,ED hT];simp only [Option.bind_some]
   have hd:(T++46::(F2++R)).drop (T.length+1)=F2++R:=by rw [←dB,List.drop_left];rfl
   rw [List.drop_left,List.head?_cons,if_pos rfl,hd,hR];show some (T++46::F2,T.length+1+F2.length)=_;rw [aw,aj]
   congr 2;omega
  ·rw [if_neg oL] at h;cases h;obtain ⟨hT,WA⟩:=tI hs false ⟨(fun e=>absurd e (by decide)),(fun e=>absurd e oL)⟩;obtain ⟨hm,XV⟩:=JP hT he hr;rw [eP,hm];simp only [Option.bind_some];rw [if_neg XV]
theorem jL {k:Int} {t:List UInt8} (h:eU k t=true):(aR (aY k t)).err=0∧(aR (aY k t)).kind=k∧(aR (aY k t)).text=t∧l6 (aY k t)∧je k t:=by
 obtain ⟨x,hx,hk,ht,_,_,_,hg⟩:=Ip h;have hh:=hg.1;have hn:=yB (P:=[]) hh;rw [List.nil_append,aK] at hn;obtain ⟨c,r,hc,_⟩:=hh
 have hpos:0<(aY k t).length:=by rw [hc];exact Nat.succ_pos _
 unfold df at hx
 split at hx
 ·cases hx
 ·unfold jd at hx;rw [hn,ll hpos,List.drop_zero] at hx;by_cases he:(aR (aY k t)).err=0
  ·rw [if_pos he,uR he (by decide)] at hx
   have key:∀(ws:List (Nat×Wq)) (y:Lx),jz ws ([]++[y])=([x],0,0)→y=x:=by
    intro ws y hy
    cases ws with
    |nil=>unfold jz at hy;cases hy;rfl
    |cons p r=>
     exfalso
     have gen:∀(ws:List (Nat×Wq)) (out:List Lx),2≤out.length→jz ws out≠([x],0,0):=by
      intro ws
      induction ws with
      |nil=>intro out ho e;unfold jz at e;cases e;exact absurd ho (by show¬2≤1;decide)
      |cons p r ih=>
       intro out ho e;obtain ⟨a,w⟩:=p;unfold jz at e
       split at e
       ·split at e
        ·cases e
        ·exact ih _ (by rw [aw];omega) e
       ·cases e
     obtain ⟨a,w⟩:=p;unfold jz at hy
     split at hy
     ·split at hy
      ·cases hy
      ·exact gen _ _ (by simp) hy
     ·cases hy
   have:=key _ _ hx;subst this;exact ⟨he,hk,ht,hg.1,hg⟩
  ·rw [if_neg he] at hx;exfalso;unfold jz at hx;rw [if_neg he] at hx;cases hx
theorem BS {k:Int} {t:List UInt8} (h:bL [⟨k,t,0⟩]≠[]):bL [⟨k,t,0⟩]=aY k t∧eU k t=true:=by
 by_cases hv:eU k t=true
 ·refine ⟨?_,hv⟩;unfold bL;rw [if_pos (by simp [Th,hv])];show Lib.join [aY k t] [32]=_;simp [Lib.join]
 ·exfalso;apply h;unfold bL;rw [if_neg (by simp [Th,hv])]
theorem Gp {k:Int} {t:List UInt8} (h:eU k t=true) (h0:k≠0) (h6:k≠6):qW k t:=by
 obtain ⟨he,hk,ht,_,_⟩:=jL h;have:=JO he (by rw [hk];exact h0) (by rw [hk];exact h6);rwa [hk,ht] at this
theorem BU {c:UInt8} {r:List UInt8} (h1:(aR (c::r)).err=0) (hk:(aR (c::r)).kind=0):oC c=true∨c=92:=by
 rw [dU] at h1 hk;by_cases c1:oC c=true∨c=92
 ·exact c1
 ·exfalso;rw [if_neg c1] at h1 hk;by_cases c2:bg c=true
  ·rw [if_pos c2] at h1 hk;unfold fg tF at h1 hk
   split at h1
   ·rename_i hc;rw [if_pos hc] at hk
    split at h1
    ·rename_i hc2;rw [if_pos hc2] at hk;exact absurd hk (show (3:Int)≠0 by decide)
    ·exact absurd (aH h1) (by decide)
   ·rename_i hc;rw [if_neg hc] at hk
    split at h1
    ·rename_i hc2;rw [if_pos hc2] at hk
     split at h1
     ·rename_i hc3;rw [if_pos hc3] at hk;exact absurd hk (show (4:Int)≠0 by decide)
     ·exact absurd (aH h1) (by decide)
    ·rename_i hc2;rw [if_neg hc2] at hk
     split at h1
     ·exact absurd (aH h1) (by decide)
     ·rename_i hc3;rw [if_neg hc3] at hk
      split at h1
      ·exact absurd (aH h1) (by decide)
      ·rename_i hc4;rw [if_neg hc4] at hk;have hk2:(if iD ((c::r).drop (bf bg (c::r)))=0 then 1 else 2:Int)=0:=hk
       split at hk2<;>exact absurd hk2 (by decide)
  ·rw [if_neg c2] at h1 hk;by_cases c3:c=34
   ·rw [if_pos c3,gX] at h1 hk;unfold iO at h1 hk
    split at h1
    ·exact absurd (aH h1) (by decide)
    ·rename_i hc;rw [if_neg hc] at hk;exact absurd hk (show (5:Int)≠0 by decide)
   ·rw [if_neg c3] at h1 hk
    cases hs:dS eD (c::r) with
    |none=>rw [hs] at h1;exact absurd (aH h1) (by decide)
    |some u=>rw [hs] at hk;exact absurd hk (by show (6:Int)≠0;decide)
theorem Gq {t:List UInt8} (h:eU 0 t=true) (he:bM t=false) {R:List UInt8} (hR:kI R):aR (t++R)=⟨0,t,t.length,0⟩:=by
 obtain ⟨h1,hk,ht,hh,_⟩:=jL h;rw [eQ] at h1 hk ht hh;obtain ⟨c,r,rfl,g1,g2,g3⟩:=hh;have h1':=h1;have hk':=hk;rw [dU] at h1 hk ht;by_cases c1:oC c=true∨c=92
 ·rw [if_pos c1,tJ] at h1 hk ht
  cases hp:gU (c::r) with
  |none=>rw [hp] at h1;exact absurd h1 (by decide)
  |some p=>
   obtain ⟨F,n⟩:=p;rw [hp] at ht;obtain rfl:F=c::r:=ht;have:=wJ _ _ _ _ (aa _) hp he R hR;show aR (c::(r++R))=_;rw [dU,if_pos c1,tJ];show OL (gU ((c::r)++R))=_;rw [this];rfl
 ·exact absurd (BU h1' hk') c1
def NY:List Tk→List UInt8→Prop
 |[],l=>cV l=l.length
 |t::T,l=>∃n,aR (l.drop (cV l))=⟨t.1,t.2,n,0⟩∧cV l<l.length∧NY T ((l.drop (cV l)).drop n)
theorem Ld (R:List UInt8):cV (32::R)=cV R+1:=rfl
theorem BV {T:List Tk} {R:List UInt8}:NY T (32::R)↔NY T R:=by
 cases T with
 |nil=>
  show cV (32::R)=(32::R).length↔cV R=R.length;rw [Ld,aj];omega
 |cons t T=>
  show (∃n,aR ((32::R).drop (cV (32::R)))=_∧cV (32::R)<(32::R).length∧NY T (((32::R).drop (cV (32::R))).drop n))↔_;rw [Ld,List.drop_succ_cons,aj,Nat.add_lt_add_iff_right];exact Iff.rfl
theorem vz {l R:List UInt8} (h:l6 l):cV (l++R)=0:=by
 obtain ⟨c,r,rfl,h1,h2,_⟩:=h;show mC ((r++R).length+1) (c::(r++R))=0;simp only [mC];rw [h1,if_neg (by decide),if_neg h2]
theorem qC {F R:List UInt8} {k:Int} {t:List UInt8} {n:Nat} {T:List Tk} (hh:l6 F) (h:aR (F++R)=⟨k,t,n,0⟩) (hn:n=F.length∨n=F.length+1∧∃r,R=32::r) (hr:NY T R):NY ((k,t)::T) (F++R):=by
 refine ⟨n,?_,?_,?_⟩
 ·rw [vz hh];exact h
 ·rw [vz hh];obtain ⟨c,r,rfl,_⟩:=hh;exact Nat.succ_pos _
 ·rw [vz hh,List.drop_zero]
  rcases hn with rfl|⟨rfl,r,rfl⟩
  ·rw [List.drop_left];exact hr
  ·rw [←dB,List.drop_left];exact BV.1 hr
theorem Le:∀(T:List Tk) (P l:List UInt8) (rM:List Lx),NY T l→(jz (fN (P++l) (iE (P++l) P.length)) rM).2.2=0→
 ∃ys:List Lx,jz (fN (P++l) (iE (P++l) P.length)) rM=(rM++ys,0,0)∧ys.map (fun y=>(y.kind,y.text))=T
 |[],P,l,rM,h,_=>by
  have hn:iE (P++l) P.length=P.length+cV l:=by unfold iE;rw [List.drop_left]
  have h:cV l=l.length:=h;rw [hn,qL (by rw [aw];omega)];exact ⟨[],by simp [jz],rfl⟩
 |t::T,P,l,rM,h,hz=>by
  have hn:iE (P++l) P.length=P.length+cV l:=by unfold iE;rw [List.drop_left]
  obtain ⟨n,h1,h2,h3⟩:=h
  have hd:(P++l).drop (P.length+cV l)=l.drop (cV l):=by rw [←dB,List.drop_left]
  rw [hn] at hz⊢;rw [ll (by rw [aw];omega),hd,h1] at hz⊢;have hs:=nK (l:=l.drop (cV l)) (by rw [aA];omega) (by rw [h1]);rw [h1] at hs;simp only at hs;by_cases h0:rM.length=512
  ·exfalso;unfold jz at hz;rw [if_pos rfl,if_pos h0] at hz;exact absurd hz (show (9:Int)≠0 by decide)
  ·rw [uR rfl h0] at hz⊢;simp only [if_true] at hz⊢
   obtain ⟨P2,hP2⟩:∃P2,P++(l.take (cV l)++(l.drop (cV l)).take n)=P2:=⟨_,rfl⟩
   have e1:P++l=P2++(l.drop (cV l)).drop n:=by rw [←hP2,cT,cT,List.take_append_drop,List.take_append_drop]
   have e2:P.length+cV l+n=P2.length:=by
    rw [←hP2,aw,aw,cr,cr];rw [aA] at hs⊢;omega
   rw [e1,e2] at hz⊢;obtain ⟨ys,hy,hy2⟩:=Le T P2 _ (rM++[⟨t.1,t.2,P.length+cV l⟩]) h3 hz;refine ⟨⟨t.1,t.2,P.length+cV l⟩::ys,?_,?_⟩
   ·rw [hy,cT];rfl
   ·rw [List.map_cons,hy2]
theorem Wk {T:List Tk} {t:List UInt8} (h:NY T t) (hz:(df t).2.2=0):lB (df t).1 0 T∧T.length=(df t).1.length:=by
 unfold df at hz⊢;by_cases hl:16384<t.length
 ·rw [if_pos hl] at hz;exact absurd hz (by decide)
 ·rw [if_neg hl] at hz⊢;obtain ⟨ys,hy,hy2⟩:=Le T [] t [] h hz;have e:jz (jd t) []=([]++ys,0,0):=hy;rw [e];subst hy2;refine ⟨fun i hi=>?_,by simp⟩
  have hi':i<ys.length:=by simpa using hi
  refine ⟨ys[i],?_,?_,?_⟩
  ·show ([]++ys)[0+i]? =_;rw [List.nil_append,Nat.zero_add,List.getElem?_eq_getElem hi']
  ·simp
  ·simp
def qX (R:List UInt8):Prop:=∀c,R.head? =some c→c∉([38,46,60,61,62,124]:List UInt8)
def TG (b:Bool) (R:List UInt8):Prop:=if b=true then kI R else qX R
theorem TG.free {b:Bool} {R:List UInt8} (h:TG b R):qX R:=by
 unfold TG at h
 split at h
 ·rcases h with rfl|⟨c,r,rfl,hc,_⟩
  ·intro c h;cases h
  ·intro d hd;obtain rfl:c=d:=au hd;exact (show ∀c∈tlL,c∉([38,46,60,61,62,124]:List UInt8) by decide) c hc
 ·exact h
def oh (st:St) (b:Bool) (T:List Tk):Prop:=∀R T',TG b R→(st.2=true→R=[]∨∃r,R=32::r)→NY T' R→NY (T++T') (st.1++R)
theorem oh.wk {st:St} {T:List Tk} (h:oh st false T):oh st true T:=fun R T' ho he hr=>h R T' (show qX R from ho.free) he hr
def p8 (w:List UInt8) (b e:Bool) (K:List Tk):Prop:=∀R T',TG b R→(e=true→R=[]∨∃r,R=32::r)→NY T' R→NY (K++T') (w++R)
theorem oh.step {st:St} {b b' e:Bool} {T K:List Tk} {w:List UInt8} (h:oh st b T) (hw:w≠[]) (hp:p8 w b' e K) (ho:∀R,TG b' R→TG b (w++R)) (oL:w.head? ≠some 46):oh ((bD st w).1,e) b' (T++K):=by
 intro R T' hb he hr;have h1:=hp R T' hb he hr;unfold bD;rw [if_neg hw];show NY (T++K++T') (((if st.2&&decide (w.head? ≠some 32) then st.1++[32] else st.1)++w)++R);rw [cT];by_cases hc:(st.2&&decide (w.head? ≠some 32))=true
 ·rw [if_pos hc];have:=h (32::(w++R)) (K++T') ?_ (fun _=>.inr ⟨_,rfl⟩) (BV.2 h1)
  ·have e:st.1++[32]++w++R=st.1++32::(w++R):=by simp
   rw [e];exact this
  ·unfold TG
   split
   ·refine .inr ⟨32,w++R,rfl,by decide,fun _=>?_⟩
    cases w with
    |nil=>exact absurd rfl hw
    |cons c r=>exact oL
   ·intro c hc;obtain rfl:32=c:=au hc;decide
 ·rw [if_neg hc,cT];refine h (w++R) (K++T') (ho R hb) (fun h2=>.inr ?_) h1;rw [h2] at hc;simp only [Bool.true_and,decide_eq_true_eq,Decidable.not_not] at hc
  cases w with
  |nil=>cases hc
  |cons c r=>
   obtain rfl:c=32:=au hc;exact ⟨_,rfl⟩
theorem aad {st:St} {w:List UInt8} (hw:w≠[]):bD st w=((bD st w).1,false):=by
 unfold bD;rw [if_neg hw]
theorem oh.add {st:St} {b b':Bool} {T K:List Tk} {w:List UInt8} (h:oh st b T) (hw:w≠[]) (hp:p8 w b' false K) (ho:∀R,TG b' R→TG b (w++R)) (oL:w.head? ≠some 46):oh (bD st w) b' (T++K):=by
 rw [aad hw];exact h.step hw hp ho oL
theorem qD {c:UInt8} {r R:List UInt8} (h:c∉([38,46,60,61,62,124]:List UInt8)):qX (c::r++R):=by
 intro d hd;obtain rfl:c=d:=au hd;exact h
theorem JQ {k:Int} {t:List UInt8} (h:eU k t=true) (h0:k≠0) (h6:k≠6):p8 (aY k t) true false [(k,t)]:=fun R T' ho _ hr=>by
 have g:=Gp h h0 h6;exact qC g.1 (g.2 R ho) (.inl rfl) hr
theorem zJ {t:List UInt8} (h:eU 0 t=true):p8 t true (bM t) [(0,t)]:=fun R T' ho he hr=>by
 obtain ⟨_,_,_,hh,hg⟩:=jL h;rw [eQ] at hh
 cases hx:bM t with
 |false=>exact qC hh (Gq h hx ho) (.inl rfl) hr
 |true=>
  have hT:lq R:=by
   rcases he hx with rfl|⟨r,rfl⟩
   ·exact .inl rfl
   ·rcases (show kI (32::r) from ho) with h|⟨c,r',h,_,oL⟩
    ·cases h
    ·cases h;exact .inr ⟨_,rfl,oL rfl⟩
  obtain ⟨n,h1,h2⟩:=hg.2 R hT;rw [eQ] at h1 h2;refine qC hh h1 ?_ hr
  rcases h2 with h2|⟨h2,hne⟩
  ·exact .inl h2
  ·refine .inr ⟨h2,?_⟩
   rcases hT with rfl|⟨r,rfl,_⟩
   ·exact absurd rfl hne
   ·exact ⟨r,rfl⟩
theorem NZ (n:Nat):bO (Lib.decDigits n)=Lib.decDigits n:=by
 by_cases h0:n=0
 ·subst h0
  have e:Lib.decDigits 0=[48]:=by rw [Lib.decDigits,dif_pos (by decide)];rfl
  rw [e];decide
 ·have hp:=(fG n).2.2.1;have h:=OT n (by omega) (by omega)
  cases hd:Lib.decDigits n with
  |nil=>rw [hd] at hp;exact absurd hp (by decide)
  |cons c r=>
   have hc:c≠48:=by
    have:=h;simp only [hd,List.getElem_cons_zero] at this;exact this
   have hb:(c==48)=false:=by simp [hc]
   unfold bO;rw [List.dropWhile_cons,hb];rfl
theorem N0 {x:Int} (h0:0≤x) (h1:x≤1099511627776):p8 (Lib.itoa x) true false [(1,Lib.itoa x)]∧lC x (1,Lib.itoa x)∧Lib.itoa x≠[]∧∀c,(Lib.itoa x).head? =some c→bg c=true:=by
 have e:Lib.itoa x=Lib.decDigits x.toNat:=by
  unfold Lib.itoa;rw [if_neg (by omega)]
 rw [e];have hne:=yq x.toNat;have Dt:=rK x.toNat;have hl:=(fG x.toNat).2.2.2 15 (by decide) (by omega);have g:=uk Dt hne (NZ _) hl (.inl rfl);rw [if_pos rfl,dH] at g;refine ⟨fun R T' ho _ hr=>?_,⟨rfl,?_⟩,hne,fun c hc=>Dt c (List.mem_of_mem_head? hc)⟩
 ·have g1:=g.1;have g2:=g.2 R ho;rw [eH (.inr (.inl rfl))] at g1 g2;exact qC g1 g2 (.inl rfl) hr
 ·show ((dv (Lib.decDigits x.toNat):Nat):Int)=x;rw [(fG x.toNat).2.1];omega
theorem om:∀w∈eI,eU 0 w=true∧bM w=false∧(match w.head? with|some c=>oC c|none=>false)=true:=by decide+kernel
theorem Lf {w:List UInt8} (h:(match w.head? with|some c=>oC c|none=>false)=true):w≠[]∧w.head? ≠some 46∧∀R,qX (w++R):=by
 cases w with
 |nil=>cases h
 |cons c r=>
  have h:oC c=true:=h;have key:oC c=true→c∉([38,46,60,61,62,124]:List UInt8):=fL (p:=fun c=>oC c=true→c∉([38,46,60,61,62,124]:List UInt8)) (by decide+kernel) c;refine ⟨by simp,fun e=>?_,fun R=>qD (key h)⟩;obtain rfl:c=46:=au e;exact key h (by decide)
theorem zK {w:List UInt8} (h:w∈eI):p8 w true false [(0,w)]:=by
 obtain ⟨h1,h2,_⟩:=om w h;have:=zJ h1;rwa [h2] at this
def zL:List UInt8:=[33,126,45,40,41,91,93,123,125,44,58]
theorem SR {c:UInt8} (h:c∈zL) {R:List UInt8} (hR:qX R):aR (c::R)=⟨6,[c],1,0⟩:=by
 have hn:∀d,R.head? =some d→d≠61∧d≠62:=fun d hd=>by
  have:=hR d hd;exact ⟨fun e=>this (by rw [e];decide),fun e=>this (by rw [e];decide)⟩
 simp only [zL,List.mem_cons,List.not_mem_nil,or_false] at h
 rcases h with rfl|rfl|rfl|rfl|rfl|rfl|rfl|rfl|rfl|rfl|rfl
 ·cases R with
  |nil=>rfl
  |cons d r=>
   have h1:((61:UInt8)==d)=false:=by simp [Ne.symm (hn d rfl).1]
   show wM (dS eD (33::d::r))=_;simp [eD,dS,Lib.hasPrefix,List.isPrefixOf,h1,wM,ma]
 ·rfl
 ·cases R with
  |nil=>rfl
  |cons d r=>
   have h1:((62:UInt8)==d)=false:=by simp [Ne.symm (hn d rfl).2]
   show wM (dS eD (45::d::r))=_;simp [eD,dS,Lib.hasPrefix,List.isPrefixOf,h1,wM,ma]
 all_goals rfl
theorem um {c:UInt8} (h:c∈zL):l6 [c]∧c≠46∧c∉([38,46,60,61,62,124]:List UInt8):=by
 have key:∀c∈zL,Dr c=false∧c≠35∧c≠46∧c∉([38,46,60,61,62,124]:List UInt8):=by decide
 obtain ⟨a,b,d,e⟩:=key c h;exact ⟨⟨c,[],rfl,a,b,d⟩,d,e⟩
theorem qE {c:UInt8} (h:c∈zL):p8 [c] false false [(6,[c])]:=fun R T' ho _ hr=>by
 exact qC (um h).1 (n:=1) (SR h ho) (.inl rfl) hr
theorem SS {st:St} {T:List Tk} {c:UInt8} (h:c∈zL) (H:oh st false T):oh (bD st [c]) false (T++[sT [c]]):=
 H.add (by simp) (qE h) (fun R _=>qD (um h).2.2) (fun e=>(um h).2.1 (au e))
theorem SU {st:St} {T:List Tk} {c:UInt8} (h:c∈zL) (h2:c∈tlL) (h3:c≠32) (H:oh st true T):oh (bD st [c]) false (T++[sT [c]]):=
 H.add (by simp) (qE h) (fun R _=>.inr ⟨c,R,rfl,h2,fun e=>absurd e h3⟩) (fun e=>(um h).2.1 (au e))
theorem SV {k:Int} {w:List UInt8} (h:je k w) (hf:aY k w=w):p8 (32::(w++[32])) false false [(k,w)]:=fun R T' ho _ hr=>by
 have hR:lq (32::R):=.inr ⟨R,rfl,fun e=>ho 46 e (by decide)⟩;obtain ⟨n,h1,h2⟩:=h.2 _ hR;have hh:=h.1;rw [hf] at h1 h2 hh
 have e:(32::(w++[32]))++R=32::(w++32::R):=by simp
 rw [e];refine BV.2 (qC hh h1 ?_ (BV.2 hr))
 rcases h2 with h2|⟨h2,_⟩
 ·exact .inl h2
 ·exact .inr ⟨h2,R,rfl⟩
theorem zM {st:St} {T:List Tk} {k:Int} {w:List UInt8} (h:je k w) (hf:aY k w=w) (H:oh st true T):oh (bD st (32::(w++[32]))) false (T++[(k,w)]):=by
 refine H.add (by simp) (SV h hf) (fun R _=>.inr ⟨32,(w++[32])++R,rfl,by decide,fun _=>?_⟩) (by intro e;exact absurd (au e) (by decide));obtain ⟨c,r,hw,_,_,oL⟩:=h.1;rw [hf] at hw;rw [hw];intro e;exact oL (au e)
theorem abV {st:St} {x:List UInt8} (hx:x≠[]):fB st [[32],x,[32]]=bD st (32::(x++[32])):=by
 show bD (bD (bD st [32]) x) [32]=_
 have e1:bD st [32]=(st.1++[32],false):=by
  unfold bD;rw [if_neg (by simp)]
  have:(st.2&&decide (([32]:List UInt8).head? ≠some 32))=false:=by simp
  rw [this];rfl
 have e2:bD (st.1++[32],false) x=(st.1++[32]++x,false):=by
  unfold bD;rw [if_neg hx];rfl
 have e3:bD (st.1++[32]++x,false) [32]=(st.1++[32]++x++[32],false):=by
  unfold bD;rw [if_neg (by simp)];rfl
 rw [e1,e2,e3];unfold bD;rw [if_neg (by simp)]
 have:(st.2&&decide ((32::(x++[32]):List UInt8).head? ≠some 32))=false:=by simp
 rw [this];simp
theorem N1 {k:Int} {x:List UInt8×Int×Int×Int} (h:gq k=some x):(k=46∧x.1=[111,114])∨(k≠46∧x.1∈eD):=by
 by_cases UZ:k=30
 ·subst UZ;obtain rfl:([124,124],0,0,1)=x:=au h;exact .inr ⟨by decide,by decide⟩
 by_cases U0:k=29
 ·subst U0;obtain rfl:([38,38],1,1,2)=x:=au h;exact .inr ⟨by decide,by decide⟩
 by_cases e10:k=10
 ·subst e10;obtain rfl:([124],4,4,5)=x:=au h;exact .inr ⟨by decide,by decide⟩
 by_cases e11:k=11
 ·subst e11;obtain rfl:([94],5,5,6)=x:=au h;exact .inr ⟨by decide,by decide⟩
 by_cases e9:k=9
 ·subst e9;obtain rfl:([38],6,6,7)=x:=au h;exact .inr ⟨by decide,by decide⟩
 by_cases e12:k=12
 ·subst e12;obtain rfl:([43],7,7,8)=x:=au h;exact .inr ⟨by decide,by decide⟩
 by_cases Qy:k=13
 ·subst Qy;obtain rfl:([45],7,7,8)=x:=au h;exact .inr ⟨by decide,by decide⟩
 by_cases Lm:k=46
 ·subst Lm;obtain rfl:([111,114],10,10,11)=x:=au h;exact .inl ⟨rfl,rfl⟩
 by_cases e19:k=19
 ·subst e19;obtain rfl:([61,61],3,4,4)=x:=au h;exact .inr ⟨by decide,by decide⟩
 by_cases U1:k=20
 ·subst U1;obtain rfl:([33,61],3,4,4)=x:=au h;exact .inr ⟨by decide,by decide⟩
 by_cases U2:k=21
 ·subst U2;obtain rfl:([61,61,61],3,4,4)=x:=au h;exact .inr ⟨by decide,by decide⟩
 by_cases U3:k=22
 ·subst U3;obtain rfl:([33,61,61],3,4,4)=x:=au h;exact .inr ⟨by decide,by decide⟩
 by_cases U4:k=23
 ·subst U4;obtain rfl:([60],3,4,4)=x:=au h;exact .inr ⟨by decide,by decide⟩
 by_cases U5:k=24
 ·subst U5;obtain rfl:([60,61],3,4,4)=x:=au h;exact .inr ⟨by decide,by decide⟩
 by_cases U6:k=25
 ·subst U6;obtain rfl:([62],3,4,4)=x:=au h;exact .inr ⟨by decide,by decide⟩
 by_cases U7:k=26
 ·subst U7;obtain rfl:([62,61],3,4,4)=x:=au h;exact .inr ⟨by decide,by decide⟩
 unfold gq at h;rw [if_neg UZ,if_neg U0,if_neg e10,if_neg e11,if_neg e9,if_neg e12,if_neg Qy,if_neg Lm,if_neg e19,if_neg U1,if_neg U2,if_neg U3,if_neg U4,if_neg U5,if_neg U6,if_neg U7] at h;cases h
theorem vB {w:List UInt8} (h:w∈eI):je 0 w:=(jL (om w h).1).2.2.2.2
theorem qX.head {w:List UInt8} (h:∀c,w.head? =some c→c∉([38,46,60,61,62,124]:List UInt8)) (hw:w≠[]) (R:List UInt8):qX (w++R):=by
 cases w with
 |nil=>exact absurd rfl hw
 |cons c r=>exact qD (h c rfl)
theorem N5 {k:Int} {t:List UInt8} (h:eU k t=true) (hk:k=1∨k=3∨k=4∨k=5):∀c,(aY k t).head? =some c→c∉([38,46,60,61,62,124]:List UInt8):=by
 intro c hc;obtain ⟨he,h1,h2,⟨d,r,hd,g1,g2,g3⟩,_⟩:=jL h;rw [hd] at hc he h1;obtain rfl:d=c:=au hc;rw [dU] at he h1;by_cases c1:oC d=true∨d=92
 ·rw [if_pos c1] at he h1;have:=(qi he).1;rw [this] at h1;subst h1;exact absurd hk (by decide)
 ·rw [if_neg c1] at he h1;by_cases c2:bg d=true
  ·exact fL (p:=fun c=>bg c=true→c∉([38,46,60,61,62,124]:List UInt8)) (by decide+kernel) d c2
  ·rw [if_neg c2] at he h1;by_cases c3:d=34
   ·subst c3;decide
   ·rw [if_neg c3] at he h1
    cases hs:dS eD (d::r) with
    |none=>rw [hs] at he;exact absurd (aH he) (by decide)
    |some u=>
     rw [hs] at h1;have h1:(6:Int)=k:=h1;subst h1;exact absurd hk (by decide)
theorem lxI:NI oh where
 wk:=oh.wk
 form:=fun {st T k t} H hk hj=>by
  obtain ⟨e,hv⟩:=BS hj;rw [e] at hj⊢;have hf:=N5 hv hk;refine H.add hj (JQ hv (by rcases hk with rfl|rfl|rfl|rfl<;>decide) (by rcases hk with rfl|rfl|rfl|rfl<;>decide)) (fun R _=>qX.head hf hj R) (fun e=>hf 46 e (by decide))
 name:=fun {st T t} H hj=>by
  obtain ⟨e,hv⟩:=BS hj;rw [e,eQ] at hj⊢;obtain ⟨he,h1,_,hh,_⟩:=jL hv;rw [eQ] at he h1 hh;obtain ⟨c,r,rfl,_,_,oL⟩:=hh
  have hc:oC c=true∨c=92:=by
   by_cases c1:oC c=true∨c=92
   ·exact c1
   ·exfalso;exact c1 (BU he h1)
  have hf:c∉([38,46,60,61,62,124]:List UInt8):=fL (p:=fun c=>(oC c=true∨c=92)→c∉([38,46,60,61,62,124]:List UInt8)) (by decide+kernel) c hc;exact H.step hj (zJ hv) (fun R _=>qD hf) (fun e=>oL (au e))
 num:=fun {st T x} h0 h1 H=>by
  obtain ⟨p,q,hne,hd⟩:=N0 h0 h1;have hf:∀c,(Lib.itoa x).head? =some c→c∉([38,46,60,61,62,124]:List UInt8):=fun c hc=>fL (p:=fun c=>bg c=true→c∉([38,46,60,61,62,124]:List UInt8)) (by decide+kernel) c (hd c hc);exact ⟨_,q,H.add hne p (fun R _=>qX.head hf hne R) (fun e=>hf 46 e (by decide))⟩
 word:=fun {st T w} hw H=>by
  have hm:w∈eI:=by rcases hw with rfl|rfl<;>decide
  obtain ⟨a,b,c⟩:=Lf (om w hm).2.2;exact H.add a (zK hm) (fun R _=>c R) b
 Gj:=fun {st T w} hm H=>by
  obtain ⟨a,b,c⟩:=Lf (om w hm).2.2;have h1:=H.add a (zK hm) (fun R _=>c R) b;have h2:=h1.add (w:=[40]) (by simp) (qE (c:=40) (by decide)) (fun R _=>.inr ⟨40,R,rfl,by decide,fun e=>absurd e (by decide)⟩) (by decide);rw [cT] at h2;exact h2
 pre:=fun {st T w} hw H=>by
  rcases hw with rfl|rfl|rfl|rfl|rfl<;>exact SS (by decide) H
 post:=fun {st T w} hw H=>by
  rcases hw with rfl|rfl|rfl|rfl|rfl|rfl<;>exact SU (by decide) (by decide) (by decide) H
 abU:=fun {st T k x} hx H=>by
  rcases N1 hx with ⟨rfl,e⟩|⟨hk,hm⟩
  ·rw [if_pos rfl,abV (by rw [e];simp)];rw [e];exact zM (vB (by decide)) (eQ _) H
  ·rw [if_neg hk,abV (fun e=>by rw [e] at hm;exact absurd hm (by decide))];exact zM (yu hm) (eH (.inr (.inr (.inr rfl))) _) H
 comma:=fun {st T} H=>by
  refine H.add (by simp) (fun R T' ho he hr=>?_) (fun R _=>.inr ⟨44,32::R,rfl,by decide,fun e=>absurd e (by decide)⟩) (by decide);exact qE (c:=44) (by decide) (32::R) T' (fun d hd=>by obtain rfl:32=d:=au hd;decide) (fun h=>by cases h) (BV.2 hr)
 arrow:=fun {st T} H=>zM (k:=6) (w:=[45,62]) (yu (by decide)) (eH (.inr (.inr (.inr rfl))) _) H
 SD:=fun {st T} H=>zM (k:=0) (w:=jA) (vB (by decide)) (eQ _) H
 if_:=fun {st T} H=>zM (k:=0) (w:=Gu) (vB (by decide)) (eQ _) H
 space:=fun {st T} H=>by
  have:=H.add (w:=[32]) (b':=false) (K:=[]) (by simp) (fun R T' ho he hr=>BV.2 hr) (fun R hR=>.inr ⟨32,R,rfl,by decide,fun _ e=>hR 46 e (by decide)⟩) (by decide);rwa [dH] at this
theorem adf:oh ([],false) false []:=fun R T' _ _ hr=>hr
theorem abW {t:List UInt8} {e:Bool} {T:List Tk} (h:oh (t,e) true T) (hz:(df t).2.2=0):lB (df t).1 0 T∧T.length=(df t).1.length:=by
 have:=h [] [] (.inl rfl) (fun _=>.inl rfl) rfl;rw [dH,dH] at this;exact Wk this hz
end Go.Proofs.YtddoehnkgcbboaaGreatDoor
