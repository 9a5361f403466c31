/- A part of the proof that the last file tells. -/
import Derived.Test.YtddoehnkgcbboaaGreatDoorAgI
set_option maxHeartbeats 16000000
set_option maxRecDepth 100000
set_option linter.unusedVariables false
set_option linter.unusedSimpArgs false
namespace Go.Proofs.YtddoehnkgcbboaaGreatDoor
open Go.RowKit Go.Shelf
def aY (k:Int) (t:List UInt8):List UInt8:=
 if k=3 then Lib.decDigits t.length++39::98::t else if k=4∧t=[48] then [48,46,48] else if k=5 then nz t else t
def lq (R:List UInt8):Prop:=R=[]∨∃r,R=32::r∧r.head? ≠some 46
def l6 (l:List UInt8):Prop:=∃c r,l=c::r∧Dr c=false∧c≠35∧c≠46
def je (k:Int) (t:List UInt8):Prop:=
 l6 (aY k t)∧∀R,lq R→∃n,aR (aY k t++R)=⟨k,t,n,0⟩∧(n=(aY k t).length∨n=(aY k t).length+1∧R≠[])
theorem lq.none {R:List UInt8} (h:lq R) {p:UInt8→Bool} (hp:p 32=false):bf p R=0:=by
 rcases h with rfl|⟨r,rfl,_⟩
 ·rfl
 ·exact gI hp
theorem dP {p:UInt8→Bool}:∀(T X:List UInt8),(∀c∈T,p c=true)→bf p X=0→bf p (T++X)=T.length
 |[],X,_,h=>h
 |c::T,X,h,hx=>by
  show bf p (c::(T++X))=T.length+1;rw [ft (h c bX),dP T X (fun d hd=>h d (cL _ hd)) hx]
inductive Cy:List UInt8→Bool→Prop where
 |plain {c:UInt8} {t:List UInt8} {b:Bool} (h:oC c=true) (ht:∀d∈c::t,lT d=true):Cy (c::t) b
 |mid {t:List UInt8} (ht:∀d∈t,uo d=true) (h:t≠[]):Cy (92::(t++[32])) true
 |last {t:List UInt8} (ht:∀d∈t,uo d=true) (h:t≠[]):Cy (92::t) false
theorem tI {l T:List UInt8} {n:Nat} (h:gM l=some (T,n)) (b:Bool) (hb:b=true↔(l.drop n).head? =some 46):Cy T b∧T.length≤n+1:=by
 cases l with
 |nil=>cases h
 |cons c r=>
  rw [gM] at h;by_cases hf:oC c=true
  ·rw [if_pos hf] at h;cases h;have h1:bf lT (c::r)=bf lT r+1:=ft (by unfold lT;rw [hf];rfl);have h2:=kT (p:=lT) (c::r);rw [h1,List.take_succ_cons] at h2;refine ⟨?_,by rw [cr];omega⟩;rw [h1,List.take_succ_cons];exact .plain hf h2
  ·rw [if_neg hf] at h;by_cases Lp:c=92
   ·subst Lp;rw [if_pos rfl] at h;by_cases h0:bf uo r=0
    ·rw [if_pos h0] at h;cases h
    ·rw [if_neg h0] at h;have h2:=kT (p:=uo) r;have h3:=fA uo r
     have hne:r.take (bf uo r)≠[]:=fun e=>by
      have:=congrArg List.length e;rw [cr,aK] at this;omega
     split at h
     ·rename_i he;cases h
      have:b=false:=by
       cases b with
       |false=>rfl
       |true=>
        have:=hb.1 rfl;rw [dc (by show r.length+1≤r.length+1;omega)] at this;cases this
      subst this
      have hl:r.length≤bf uo r:=by
       have:=congrArg List.length he;rw [aA,aK] at this;omega
      rw [List.take_of_length_le hl] at h2 hne;exact ⟨.last h2 hne,by show r.length+1≤r.length+1+1;omega⟩
     ·rename_i d r2 he
      split at h
      ·cases h
       have hd2:(92::r).drop (bf uo r+2)=r2:=by
        show r.drop (bf uo r+1)=r2;rw [←dB,he];rfl
       rw [hd2] at hb;by_cases oL:r2.head? =some 46
       ·rw [if_pos oL];have:b=true:=hb.2 oL;subst this;refine ⟨.mid h2 hne,?_⟩;rw [aw,aj,cr];show _+1+1≤bf uo r+2+1;omega
       ·rw [if_neg oL,dH]
        have:b=false:=by
         cases b with
         |false=>rfl
         |true=>exact absurd (hb.1 rfl) oL
        subst this;refine ⟨.last h2 hne,?_⟩;rw [aj,cr];show _+1≤bf uo r+2+1;omega
      ·cases h
   ·rw [if_neg Lp] at h;cases h
theorem ED {T:List UInt8} (h:Cy T true) (X:List UInt8):gM (T++46::X)=some (T,T.length):=by
 generalize hb:true=b at h
 cases h with
 |plain hf ht=>
  rename_i c t;have hs:=dP (p:=lT) (c::t) (46::X) ht (gI (by decide));show gM (c::(t++46::X))=_;rw [gM,if_pos hf];show some (((c::t)++46::X).take (bf lT ((c::t)++46::X)),bf lT ((c::t)++46::X))=_;rw [hs,List.take_left]
 |mid ht hne=>
  rename_i t;have hs:=dP (p:=uo) t (32::46::X) ht (gI (by decide));have h0:t.length≠0:=fun e=>hne (gH e)
  have e:(92::(t++[32]))++46::X=92::(t++32::46::X):=by simp
  rw [e,gM,if_neg (by decide),if_pos rfl,hs,if_neg h0,List.drop_left,List.take_left];show (if Dr 32=true then some ((92::t)++(if (46::X).head? =some 46 then [32] else []),t.length+2) else none)=_;rw [if_pos (by decide),List.head?_cons,if_pos rfl];simp
 |last ht hne=>cases hb
theorem Mi {T:List UInt8} (h:Cy T false) {R:List UInt8} (hR:lq R):∃n,gM (T++R)=some (T,n)∧(n=T.length∨n=T.length+1∧R≠[])∧((T++R).drop n).head? ≠some 46:=by
 generalize hb:false=b at h
 cases h with
 |plain hf ht=>
  rename_i c t;have hs:=dP (p:=lT) (c::t) R ht (hR.none (by decide));refine ⟨(c::t).length,?_,.inl rfl,?_⟩
  ·show gM (c::(t++R))=_;rw [gM,if_pos hf];show some (((c::t)++R).take (bf lT ((c::t)++R)),bf lT ((c::t)++R))=_;rw [hs,List.take_left]
  ·rw [List.drop_left]
   rcases hR with rfl|⟨r,rfl,_⟩
   ·exact fun e=>by cases e
   ·exact fun e=>by cases e
 |mid ht hne=>cases hb
 |last ht hne=>
  rename_i t;have hs:=dP (p:=uo) t R ht (hR.none (by decide));have h0:t.length≠0:=fun e=>hne (gH e)
  rcases hR with rfl|⟨r,rfl,hr⟩
  ·refine ⟨(92::t).length,?_,.inl rfl,?_⟩
   ·show gM (92::(t++[]))=_;rw [gM,if_neg (by decide),if_pos rfl,hs,if_neg h0,dH,List.drop_length];rfl
   ·rw [dH,List.drop_length];exact fun e=>by cases e
  ·refine ⟨(92::t).length+1,?_,.inr ⟨rfl,fun e=>by cases e⟩,?_⟩
   ·show gM (92::(t++32::r))=_;rw [gM,if_neg (by decide),if_pos rfl,hs,if_neg h0,List.drop_left,List.take_left];show (if Dr 32=true then some ((92::t)++(if r.head? =some 46 then [32] else []),t.length+2) else none)=_;rw [if_pos (by decide),if_neg hr,dH];rfl
   ·have:((92::t)++32::r).drop ((92::t).length+1)=r:=by
     rw [←dB,List.drop_left];rfl
    rw [this];exact hr
theorem Cy.head {T:List UInt8} {b:Bool} (h:Cy T b):∃c r,T=c::r∧(oC c=true∨c=92):=by
 cases h with
 |plain hf ht=>exact ⟨_,_,rfl,.inl hf⟩
 |mid ht hne=>exact ⟨_,_,rfl,.inr rfl⟩
 |last ht hne=>exact ⟨_,_,rfl,.inr rfl⟩
theorem ym:∀(k:Nat) (l:List UInt8) (F:List UInt8) (n:Nat),l.length≤k→gU l=some (F,n)→
 F.length≤2*n∧(∃c r,F=c::r∧(oC c=true∨c=92))∧∀R,lq R→∃m,gU (F++R)=some (F,m)∧(m=F.length∨m=F.length+1∧R≠[])
 |0,l,F,n,hk,h=>by
  obtain rfl:=gH (Nat.le_zero.1 hk);cases h
 |k+1,l,F,n,hk,h=>by
  rw [eP] at h;obtain ⟨⟨T,j⟩,hs,h⟩:=Option.bind_eq_some_iff.1 h;obtain ⟨hj1,Tf⟩:=oY hs;simp only at hj1 Tf h;by_cases oL:(l.drop j).head? =some 46
  ·rw [if_pos oL] at h;obtain ⟨⟨F2,n2⟩,hp,h⟩:=Option.map_eq_some_iff.1 h;cases h;obtain ⟨hT,WA⟩:=tI hs true ⟨fun _=>oL,fun _=>rfl⟩;obtain ⟨hlen,_,hR⟩:=ym k (l.drop (j+1)) F2 n2 (by rw [aA];omega) hp;refine ⟨by show (T++46::F2).length≤2*(j+1+n2);rw [aw,aj];omega,?_,fun R hr=>?_⟩
   ·obtain ⟨c,r,rfl,hc⟩:=hT.head;exact ⟨c,r++46::F2,rfl,hc⟩
   ·obtain ⟨m,hm,hm2⟩:=hR R hr;refine ⟨T.length+1+m,?_,?_⟩
    ·show gU ((T++46::F2)++R)=_
     have e:(T++46::F2)++R=T++46::(F2++R):=by simp
     rw [e,eP,ED hT];simp only [Option.bind_some]
     have hd:(T++46::(F2++R)).drop (T.length+1)=F2++R:=by rw [←dB,List.drop_left];rfl
     rw [List.drop_left,List.head?_cons,if_pos rfl,hd,hm];rfl
    ·show _=(T++46::F2).length∨_=(T++46::F2).length+1∧_;rw [aw,aj]
     rcases hm2 with hm2|⟨hm2,hne⟩
     ·exact .inl (by omega)
     ·exact .inr ⟨by omega,hne⟩
  ·rw [if_neg oL] at h;cases h;obtain ⟨hT,WA⟩:=tI hs false ⟨(fun e=>absurd e (by decide)),(fun e=>absurd e oL)⟩;refine ⟨by omega,hT.head,fun R hr=>?_⟩;obtain ⟨m,hm,hm2,XV⟩:=Mi hT hr;refine ⟨m,?_,hm2⟩;rw [eP,hm];simp only [Option.bind_some];rw [if_neg XV]
theorem eQ (t:List UInt8):aY 0 t=t:=by unfold aY;rw [if_neg (by decide),if_neg (by rintro ⟨h,_⟩;revert h;decide),if_neg (by decide)]
theorem tJ (l:List UInt8):iY l=OL (gU l):=rfl
theorem UD:∀c:UInt8,(oC c=true∨c=92)→Dr c=false∧c≠35∧c≠46:=fun c=>fL (p:=fun c=>(oC c=true∨c=92)→Dr c=false∧c≠35∧c≠46) (by decide+kernel) c
theorem qi {l:List UInt8} (h:(iY l).err=0):(iY l).kind=0∧je 0 (iY l).text∧(aY 0 (iY l).text).length+1≤40*(iY l).size:=by
 rw [tJ] at h⊢
 cases hp:gU l with
 |none=>rw [hp] at h;exact absurd h (by decide)
 |some p=>
  obtain ⟨F,n⟩:=p;obtain ⟨h1,⟨c,r,hF,hc⟩,h3⟩:=ym l.length l F n (aa _) hp
  have AA:1≤n:=by
   have:0<F.length:=by rw [hF];simp
   omega
  obtain ⟨g1,g2,g3⟩:=UD c hc;refine ⟨rfl,⟨?_,fun R hR=>?_⟩,?_⟩
  ·show l6 (aY 0 F);rw [eQ];exact ⟨c,r,hF,g1,g2,g3⟩
  ·show ∃n,aR (aY 0 F++R)=⟨0,F,n,0⟩∧_;rw [eQ];obtain ⟨m,hm,hm2⟩:=h3 R hR;refine ⟨m,?_,hm2⟩
   have e:F++R=c::(r++R):=by rw [hF];rfl
   rw [e,dU,if_pos hc,←e,tJ,hm];rfl
  ·show (aY 0 F).length+1≤40*n;rw [eQ];omega
theorem oo {p:UInt8→Bool}:∀l:List UInt8,(l.dropWhile p).dropWhile p=l.dropWhile p
 |[]=>rfl
 |c::t=>by
  rw [List.dropWhile_cons]
  cases h:p c with
  |true=>rw [if_pos rfl];exact oo t
  |false=>rw [if_neg (by decide),List.dropWhile_cons,h,if_neg (by decide)]
theorem tK (l:List UInt8):bO (bO l)=bO l:=by
 unfold bO;by_cases h:l.dropWhile (·==48)=[]
 ·rw [if_pos h];decide
 ·rw [if_neg h,oo,if_neg h]
theorem rI {l:List UInt8} (h:l≠[]):∀c∈bO l,c=48∨c∈l:=by
 intro c hc;unfold bO at hc;by_cases h:l.dropWhile (·==48)=[]
 ·rw [if_pos h] at hc;exact .inl (by simpa using hc)
 ·rw [if_neg h] at hc;exact .inr ((List.dropWhile_suffix _).subset hc)
theorem uS (l:List UInt8):bO l≠[]:=by
 unfold bO;by_cases h:l.dropWhile (·==48)=[]
 ·rw [if_pos h];decide
 ·rw [if_neg h];exact h
theorem xg:∀c:UInt8,bg c=true→Dr c=false∧c≠35∧c≠46∧oC c=false∧c≠92:=fun c=>fL (p:=fun c=>bg c=true→Dr c=false∧c≠35∧c≠46∧oC c=false∧c≠92) (by decide+kernel) c
theorem jT {c:UInt8} {r:List UInt8} (h:bg c=true):aR (c::r)=fg (c::r):=by
 obtain ⟨_,_,_,h1,h2⟩:=xg c h;rw [dU,if_neg (by rintro (h3|h3);rw [h1] at h3;cases h3;exact h2 h3),if_pos h]
def wN (X:List UInt8):Prop:=X=[]∨∃d x,X=d::x∧bg d=false∧d≠39∧d≠46∧bp d≠101
theorem wN.of {U R:List UInt8} (hU:U=[]∨U∈cA) (hR:lq R):wN (U++R):=by
 rcases hU with rfl|hU
 ·rcases hR with rfl|⟨r,rfl,_⟩
  ·exact .inl rfl
  ·exact .inr ⟨32,r,rfl,by decide,by decide,by decide,by decide⟩
 ·right;simp only [cA,List.mem_cons,List.not_mem_nil,or_false] at hU
  rcases hU with rfl|rfl|rfl|rfl|rfl|rfl<;>exact ⟨_,_,rfl,by decide,by decide,by decide,by decide⟩
theorem wN.bf {X:List UInt8} (h:wN X):bf bg X=0:=by
 rcases h with rfl|⟨d,x,rfl,h,_⟩
 ·rfl
 ·exact gI h
theorem wN.get {S X:List UInt8} (h:wN X):(S++X).getD S.length 0≠39:=by
 rw [List.getD_eq_getElem?_getD,List.getElem?_append_right (aa _),Nat.sub_self]
 rcases h with rfl|⟨d,x,rfl,_,h,_⟩
 ·decide
 ·exact h
theorem wN.exp {S X:List UInt8} (h:wN X):ic (S++X) (jS (S++X) S.length)=S.length:=by
 rcases h with rfl|⟨d,x,rfl,_,_,h1,h2⟩
 ·rw [dH,Ep (by omega),oX (aa _)]
 ·have hlt:S.length<(S++d::x).length:=by rw [aw,aj];omega
  have hd:(S++d::x)[S.length]'hlt=d:=by rw [List.getElem_append_right (aa _)];simp
  rw [wY hlt (by rw [hd];exact h1),sS hlt (by rw [hd];exact h2)]
theorem UE {R:List UInt8} (hR:lq R):bf zO R=0:=hR.none (by decide)
theorem PW {S U R:List UInt8} (hS:∀c∈S,bg c=true) (hne:S≠[]) (hst:bO S=S) (Ta:S.length≤15) (hU:U=[]∨U∈cA) (hR:lq R):
 aR ((S++U)++R)=⟨if U=[] then 1 else 2,S++U,(S++U).length,0⟩:=by
 have hE:=wN.of hU hR;have hn:=dP S (U++R) hS hE.bf;have h0:S.length≠0:=fun e=>hne (gH e)
 have hUt:∀c∈U,zO c=true:=by
  rcases hU with rfl|hU
  ·intro c hc;cases hc
  ·exact Cw U hU
 have hsp:=dP U R hUt (UE hR);have hdr:(S++(U++R)).drop S.length=U++R:=List.drop_left;have htk:(S++(U++R)).take S.length=S:=List.take_left
 obtain ⟨c,r,rfl⟩:∃c r,S=c::r:=by
  cases S with
  |nil=>exact absurd rfl hne
  |cons c r=>exact ⟨c,r,rfl⟩
 have e:(c::r++U)++R=c::r++(U++R):=cT _ _ _;rw [e];have e2:aR (c::r++(U++R))=fg (c::r++(U++R)):=jT (hS c bX);rw [e2,A9 hn h0 hE.get hE.exp (by omega),hdr,htk,hsp,List.take_left,qg _ hne,hst];have hz:U.length=0↔U=[]:=List.length_eq_zero_iff;by_cases hu:U=[]
 ·rw [if_pos (.inl (hz.2 hu)),if_neg (by omega),if_pos (hz.2 hu),if_pos hu];rw [aw];rfl
 ·rw [if_pos (.inr (hU.resolve_left hu)),if_neg (by omega),if_neg (fun e=>hu (hz.1 e)),if_neg hu];rw [aw];rfl
theorem eH {k:Int} (h:k=0∨k=1∨k=2∨k=6) (t:List UInt8):aY k t=t:=by
 rcases h with rfl|rfl|rfl|rfl<;>(unfold aY;rw [if_neg (by decide),if_neg (by rintro ⟨h,_⟩;revert h;decide),if_neg (by decide)])
theorem l6.dg {l:List UInt8} (h1:l≠[]) (h2:∀c∈l,bg c=true) (x:List UInt8):l6 (l++x):=by
 cases l with
 |nil=>exact absurd rfl h1
 |cons c r=>
  obtain ⟨a,b,d,_⟩:=xg c (h2 c bX);exact ⟨c,r++x,rfl,a,b,d⟩
theorem EG {S U:List UInt8} (hS:∀c∈S,bg c=true) (hne:S≠[]) (hst:bO S=S) (Ta:S.length≤15) (hU:U=[]∨U∈cA):je (if U=[] then 1 else 2) (S++U):=by
 have hk:(if U=[] then 1 else 2:Int)=0∨(if U=[] then 1 else 2:Int)=1∨(if U=[] then 1 else 2:Int)=2∨(if U=[] then 1 else 2:Int)=6:=by
  by_cases h:U=[]
  ·rw [if_pos h];exact .inr (.inl rfl)
  ·rw [if_neg h];exact .inr (.inr (.inl rfl))
 refine ⟨?_,fun R hR=>?_⟩
 ·rw [eH hk];exact l6.dg hne hS U
 ·rw [eH hk];exact ⟨_,PW hS hne hst Ta hU hR,.inl rfl⟩
def EH (c:UInt8):Bool:=c==48||c==49||c==120||c==122
theorem Cz (c:UInt8) (h:fE c≠0):EH (fE c)=true:=by
 unfold fE at h⊢;by_cases hx:bp c=120∨bp c=122
 ·rw [if_pos hx]
  rcases hx with hx|hx<;>rw [hx]<;>rfl
 ·rw [if_neg hx] at h;exact absurd rfl h
theorem xh:∀(n v:Nat),∀c∈fK n v,EH c=true
 |0,_,c,h=>by cases h
 |n+1,v,c,h=>by
  rw [ie] at h
  rcases List.mem_append.1 h with h|h
  ·exact xh n _ c h
  ·have:c=kr v:=by simpa using h
   rw [this];unfold kr
   split<;>rfl
theorem uT (k:Nat):∀l:List UInt8,∀c∈gT k l,EH c=true
 |[],c,h=>by cases h
 |x::t,c,h=>by
  by_cases hx:fE x≠0
  ·rw [nC k t hx] at h
   rcases List.mem_append.1 h with h|h
   ·rw [List.eq_of_mem_replicate h];exact Cz x hx
   ·exact uT k t c h
  ·rw [qd k t (by simpa using hx)] at h
   rcases List.mem_append.1 h with h|h
   ·exact xh _ _ c h
   ·exact uT k t c h
theorem yo:∀(ds:List UInt8) (v:Nat),∀c∈cO ds v,EH c=true
 |[],v,c,h=>xh 140 v c h
 |x::t,v,c,h=>by
  unfold cO at h
  split at h
  ·rcases List.mem_cons.1 h with rfl|h
   ·rfl
   ·exact xh _ _ c h
  ·exact yo t _ c h
theorem UF {w:Nat} {u:UInt8} {out:List UInt8} (hu:u≠0→EH u=true) (ho:∀c∈out,EH c=true) (h:(xQ w u out).2=0):(xQ w u out).1.length=w∧∀c∈(xQ w u out).1,EH c=true:=by
 unfold xQ at h⊢;by_cases h1:out.length<w
 ·rw [if_pos h1];refine ⟨by rw [aw,List.length_replicate];omega,fun c hc=>?_⟩
  rcases List.mem_append.1 hc with hc|hc
  ·rw [List.eq_of_mem_replicate hc];by_cases h2:u≠0
   ·rw [if_pos h2];exact hu h2
   ·rw [if_neg h2];rfl
  ·exact ho c hc
 ·rw [if_neg h1] at h⊢;by_cases h2:(out.take (out.length-w)).all (·==48)=true
  ·rw [if_pos h2];exact ⟨by rw [aA];omega,fun c hc=>ho c (List.mem_of_mem_drop hc)⟩
  ·rw [if_neg h2] at h;exact absurd h (by decide)
theorem PX {d:List UInt8} {b:UInt8} {ds:List UInt8} (h:(qK d b ds).2=0):1≤(qK d b ds).1.length∧(qK d b ds).1.length≤128∧∀c∈(qK d b ds).1,EH c=true:=by
 unfold qK at h⊢;by_cases c1:b=100∧¬(ds.length=1∧fE (ds.headD 0)≠0)∧bf bg ds<ds.length
 ·rw [if_pos c1] at h;exact absurd h (by decide)
 ·rw [if_neg c1] at h⊢;by_cases c2:gJ d<1∨128<gJ d
  ·rw [if_pos c2] at h;exact absurd h (by decide)
  ·rw [if_neg c2] at h⊢;by_cases c3:b=100∧ds.length=1∧fE (ds.headD 0)≠0
   ·rw [if_pos c3];exact ⟨by show 1≤(List.replicate _ _).length;rw [List.length_replicate];omega,by show (List.replicate _ _).length≤128;rw [List.length_replicate];omega,fun c hc=>by rw [List.eq_of_mem_replicate hc];exact Cz _ c3.2.2⟩
   ·rw [if_neg c3] at h⊢
    have ho:∀c∈tu b ds,EH c=true:=by
     unfold tu;by_cases c4:b=100
     ·rw [if_pos c4];exact yo ds 0
     ·rw [if_neg c4];exact uT _ ds
    obtain ⟨h1,h2⟩:=UF (Cz _) ho h;exact ⟨by omega,by omega,h2⟩
theorem EI {l:List UInt8} (h:(fD l).2=0):1≤(fD l).1.length∧(fD l).1.length≤128∧∀c∈(fD l).1,EH c=true:=by
 by_cases h0:bf bg l=0
 ·rw [xR h0] at h;exact absurd h (by decide)
 ·by_cases hc:bY l (bf bg l)=l.length
  ·rw [tv h0 hc] at h⊢;exact PX h
  ·rw [xS hc] at h;exact absurd h (by decide)
theorem Il:∀c:UInt8,EH c=true→ra 98 c=true∧(fE c≠0→fE c=c)∧(fE c=0→fK 1 (dK c).toNat=[c]):=
 fun c=>fL (p:=fun c=>EH c=true→ra 98 c=true∧(fE c≠0→fE c=c)∧(fE c=0→fK 1 (dK c).toNat=[c])) (by decide+kernel) c
theorem rJ:∀t:List UInt8,(∀c∈t,EH c=true)→gT 1 t=t
 |[],_=>rfl
 |c::t,h=>by
  obtain ⟨_,h1,h2⟩:=Il c (h c bX);have ih:=rJ t (fun d hd=>h d (cL _ hd));by_cases hu:fE c≠0
  ·rw [nC 1 t hu,ih,h1 hu];rfl
  ·have hu:fE c=0:=by simpa using hu
   rw [qd 1 t hu,ih,h2 hu];rfl
theorem PY:∀c:UInt8,kq c=true→bg c=true:=fun c=>fL (p:=fun c=>kq c=true→bg c=true) (by decide+kernel) c
theorem rK (n:Nat):∀c∈Lib.decDigits n,bg c=true:=fun c hc=>PY c ((fG n).1 c hc)
theorem yq (n:Nat):Lib.decDigits n≠[]:=fun e=>by
 have:=(fG n).2.2.1;rw [e] at this;exact absurd this (by decide)
theorem yt (n:Nat) (h:n≤128):gJ (Lib.decDigits n)=n:=by
 have h2:=yj (Lib.decDigits n) 0;have h3:(Lib.decDigits n).foldl (fun v c=>10*v+(c.toNat-48)) 0=n:=(fG n).2.1;rw [h3] at h2;rw [LN];have h4:(Lib.decDigits n).foldl tz 0=min n 1000:=h2;rw [h4];omega
theorem EJ {t:List UInt8} (h1:1≤t.length) (h2:t.length≤128) (hc:∀c∈t,EH c=true):
 fD (Lib.decDigits t.length++39::98::t)=(t,0)∧∀R,lq R→bY (Lib.decDigits t.length++39::98::(t++R)) (Lib.decDigits t.length).length=(Lib.decDigits t.length++39::98::t).length:=by
 have hD:=rK t.length;have hw:=yt t.length h2;have hd0:=(fG t.length).2.2.1
 have hne:t≠[]:=fun e=>by rw [e] at h1;exact absurd h1 (by decide)
 generalize Lib.decDigits t.length=D at*
 have hC:∀R,lq R→bY (D++39::98::(t++R)) D.length=(D++39::98::t).length:=by
  intro R hR;have hs:=dP (p:=ra (bp 98)) t R (fun c h=>(Il c (hc c h)).1) (hR.none (by decide));unfold bY;rw [List.drop_left];show (if t++R=[]∨fJ (bp 98)=none∨JT 98=false then 0 else if bf (ra (bp 98)) (t++R)=0 then 0 else D.length+2+bf (ra (bp 98)) (t++R))=_;rw [if_neg (by rintro (h|h|h);exact hne (List.append_eq_nil_iff.1 h).1;revert h;decide;revert h;decide),hs,if_neg (by omega)];rw [aw,aj,aj];omega
 refine ⟨?_,hC⟩;have hn:bf bg (D++39::98::t)=D.length:=dP D _ hD (gI (by decide));have hc0:=hC [] (.inl rfl);rw [dH] at hc0;rw [tv (by rw [hn];omega) (by rw [hn];exact hc0),hn,List.take_left]
 have e1:(D++39::98::t).getD (D.length+1) 0=98:=by
  rw [List.getD_eq_getElem?_getD,List.getElem?_append_right (by omega),Nat.add_sub_cancel_left];rfl
 have e2:(D++39::98::t).drop (D.length+2)=t:=by rw [←dB,List.drop_left];rfl
 rw [e1,e2];unfold qK
 have h98:bp 98=98:=by decide
 rw [h98,if_neg (by rintro ⟨h,_⟩;revert h;decide),hw,if_neg (by omega),if_neg (by rintro ⟨h,_⟩;revert h;decide)]
 have ho:tu 98 t=t:=by
  unfold tu;rw [if_neg (by decide)];exact rJ t hc
 rw [ho];unfold xQ;rw [if_neg (by omega),Nat.sub_self,List.take_zero,List.drop_zero];rfl
theorem pz {F R:List UInt8} (hR:lq R):bB (F++R) F.length=true:=by
 unfold bB;rw [List.drop_left]
 rcases hR with rfl|⟨r,rfl,_⟩<;>rfl
theorem nN (t:List UInt8):aY 3 t=Lib.decDigits t.length++39::98::t:=by unfold aY;rw [if_pos rfl]
theorem Mj {t:List UInt8} (h1:1≤t.length) (h2:t.length≤128) (hc:∀c∈t,EH c=true):je 3 t:=by
 obtain ⟨hb,hC⟩:=EJ h1 h2 hc;have hD:=rK t.length;have hd0:=yq t.length;rw [je,nN];refine ⟨l6.dg hd0 hD _,fun R hR=>?_⟩;have hC:=hC R hR;generalize Lib.decDigits t.length=D at*;refine ⟨_,?_,.inl rfl⟩
 have e:(D++39::98::t)++R=D++39::98::(t++R):=by simp
 have e2:aR (D++39::98::(t++R))=fg (D++39::98::(t++R)):=by
  cases D with
  |nil=>exact absurd rfl hd0
  |cons c r=>exact jT (hD c bX)
 have hn:bf bg (D++39::98::(t++R))=D.length:=dP D _ hD (gI (by decide))
 have ha:bB (D++39::98::(t++R)) (D++39::98::t).length=true:=by rw [←e];exact pz hR
 have ht:(D++39::98::(t++R)).take (D++39::98::t).length=D++39::98::t:=by rw [←e,List.take_left]
 rw [e,e2];unfold fg tF;rw [hn,hC,if_pos (by rw [aw,aj];omega),if_pos ha,ht,hb]
theorem yu {u:List UInt8} (h:u∈eD):je 6 u:=by
 rw [je,eH (.inr (.inr (.inr rfl)))];simp only [eD,List.mem_cons,List.not_mem_nil,or_false] at h
 rcases h with rfl|rfl|rfl|rfl|rfl|rfl|rfl|rfl|rfl|rfl|rfl|rfl|rfl|rfl|rfl|rfl|rfl|rfl|rfl|rfl|rfl|rfl|rfl|rfl|rfl|rfl<;>
  (refine ⟨⟨_,_,rfl,by decide,by decide,by decide⟩,fun R hR=>⟨_,?_,.inl rfl⟩⟩
   rcases hR with rfl|⟨r,rfl,_⟩<;>rfl)
theorem EK:∀(n:Nat) (m o:List UInt8),m.length≤n→rD m=some o→o.length≤m.length
 |n,[],o,_,h=>by rw [Eh] at h;cases h;exact aa _
 |0,c::t,o,hn,_=>absurd hn (by rw [aj];omega)
 |n+1,c::t,o,hn,h=>by
  cases hs:gm (c::t) with
  |none=>rw [AQ hs (by simp)] at h;cases h
  |some p=>
   obtain ⟨d,k⟩:=p;obtain ⟨h1,h2⟩:=kR hs;rw [uJ hs] at h;obtain ⟨o2,ho,h⟩:=Option.map_eq_some_iff.1 h;cases h;simp only at h1 h2;have:=EK n ((c::t).drop k) o2 (by rw [aA,aj];rw [aj] at hn;omega) ho;rw [aA] at this;rw [aj];omega
theorem Kk {l:List UInt8} (h:(iZ l).2=0):(iZ l).1.length≤64∧(iZ l).1.length+2≤l.length:=by
 by_cases hb:l.length<2∨l.head? ≠some 34∨l.getLast? ≠some 34
 ·rw [tB hb] at h;exact absurd h (by decide)
 ·rw [xU hb] at h⊢;unfold uK at h⊢
  cases hu:rD ((l.drop 1).take (l.length-2)) with
  |none=>rw [hu] at h;exact absurd h (by decide)
  |some o=>
   have hl:=EK _ _ o (aa _) hu;rw [cr,aA] at hl;have h2:¬l.length<2:=fun h3=>hb (.inl h3);rw [hu] at h;simp only at h⊢;by_cases h6:64<o.length
   ·rw [if_pos h6] at h;exact absurd h (by decide)
   ·rw [if_neg h6];exact ⟨by show o.length≤64;omega,by show o.length+2≤_;omega⟩
theorem pA:∀(l R:List UInt8),bV (l.flatMap fM++34::R)=(l.flatMap fM).length
 |[],R=>rE R
 |c::t,R=>by rw [uH,cT,Ey,pA t R,aw]
theorem qj (t:List UInt8):aY 5 t=nz t:=by unfold aY;rw [if_neg (by decide),if_neg (by rintro ⟨h,_⟩;revert h;decide),if_pos rfl]
theorem PZ {t:List UInt8} (h:t.length≤64):je 5 t:=by
 rw [je,qj];have hq:=nG t;refine ⟨⟨34,_,hq,by decide,by decide,by decide⟩,fun R hR=>⟨_,?_,.inl rfl⟩⟩;have hlen:=mJ t
 have e:nz t++R=34::(t.flatMap fM++34::R):=by rw [hq];simp
 have e2:aR (nz t++R)=fF (nz t++R):=by
  rw [e,dU,if_neg (by decide),if_neg (by decide),if_pos rfl]
 have hc:bV ((nz t++R).drop 1)=(t.flatMap fM).length:=by rw [e];exact pA t R
 rw [e2,gX,hc];unfold iO
 have hE:1+(t.flatMap fM).length+1=(nz t).length:=by omega
 rw [hE,if_neg (by rw [aw];omega),List.take_left,Ez,if_neg (by omega)]
theorem yw:aY 4 [48]=[48,46,48]:=by decide
theorem rL {t:List UInt8} (h:t≠[48]):aY 4 t=t:=by unfold aY;rw [if_neg (by decide),if_neg (fun e=>h e.2),if_neg (by decide)]
theorem yx {l:List UInt8} {p:Bool×List UInt8×List UInt8×Bool×List UInt8} (h:fh l=some p):p.1=(bZ l).1:=by
 unfold fh at h
 split at h
 ·cases h
 ·obtain ⟨f,hf,h⟩:=Option.bind_eq_some_iff.1 h;obtain ⟨x,hx,h⟩:=Option.bind_eq_some_iff.1 h
  split at h
  ·cases h;rfl
  ·cases h
theorem P_:∀c:UInt8,bg c=true→kq c=true:=fun c=>fL (p:=fun c=>bg c=true→kq c=true) (by decide+kernel) c
theorem vO {l:List UInt8} (hd:∀c,l.head? =some c→bg c=true) (h:(cP l).2=0):
 (cP l).1=[48]∨∃(t0:UInt8) (t E D:List UInt8),(cP l).1=t0::((if 0<t.length then 46::t else [])++101::E)∧bg t0=true∧(∀c∈t,bg c=true)∧t.length≤16∧
  (E=45::D∨E=D)∧D≠[]∧(∀c∈D,bg c=true)∧E.length≤4∧cP (cP l).1=((cP l).1,0):=by
 have hag:=(D7 _).1 (lX l h)
 have acG:cP (cP l).1=((cP l).1,0):=by
  exact congrArg (fun p:ByteArray×Int=>(p.1.data.toList,p.2)) hag
 cases hs:fh l with
 |none=>
  have e:bG 100000 l=(⟨#[]⟩,3):=by unfold bG;rw [hs]
  have h':(bG 100000 l).2=0:=h;rw [e] at h';exact absurd h' (by decide)
 |some p=>
  have SZ:p.1=false:=by rw [yx hs,rz (fun c hc=>P_ c (hd c hc))]
  have e:bG 100000 l=bF p.1 (bh (p.2.1++p.2.2.1)) ((p.2.1.length:Int)-1-lW (p.2.1++p.2.2.1)+mf p.2.2.2.1 (jQ 100000 p.2.2.2.2)):=by
   unfold bG;rw [hs];rfl
  have hT:∀c∈bh (p.2.1++p.2.2.1),bg c=true:=fun c hc=>PY c (mF hs c (AE hc));rw [SZ] at e;generalize bh (p.2.1++p.2.2.1)=T at*
  generalize ((p.2.1.length:Int)-1-lW (p.2.1++p.2.2.1)+mf p.2.2.2.1 (jQ 100000 p.2.2.2.2))=first at*
  have h':(bG 100000 l).2=0:=h;rw [e] at h'
  have e1:(cP l).1=(bF false T first).1.data.toList:=by show (bG 100000 l).1.data.toList=_;rw [e]
  by_cases hT0:T=[]
  ·left;rw [e1];unfold bF;rw [if_pos hT0]
  ·right
   by_cases hr:17<T.length∨first< -400∨400<first
   ·have e2:bF false T first=(⟨#[]⟩,9):=by unfold bF;rw [if_neg hT0,if_pos hr]
    rw [e2] at h';exact absurd h' (by decide)
   ·have e2:bF false T first=(cf ((if false then [45] else [])++(T.take 1++(if 1<T.length then 46::T.drop 1 else [])))++⟨#[101]⟩++nA first,0):=by unfold bF;rw [if_neg hT0,if_neg hr]
    obtain ⟨t0,t,rfl⟩:∃t0 t,T=t0::t:=by
     cases T with
     |nil=>exact absurd rfl hT0
     |cons a t=>exact ⟨a,t,rfl⟩
    have hlist:(bF false (t0::t) first).1.data.toList=t0::((if 0<t.length then 46::t else [])++101::Lib.itoa first):=by
     rw [e2];show (cf _++⟨#[101]⟩++nA first).data.toList=_;rw [s8,s8,gi]
     have ed:(nA first).data.toList=Lib.itoa first:=by unfold nA;simp
     rw [ed]
     have ec:(if 1<(t0::t).length then 46::(t0::t).drop 1 else ([]:List UInt8))=if 0<t.length then 46::t else []:=by
      simp only [aj,List.drop_succ_cons,List.drop_zero];by_cases h:0<t.length
      ·rw [if_pos h,if_pos (by omega)]
      ·rw [if_neg h,if_neg (by omega)]
     rw [ec];simp
    have hlen:(t0::t).length=t.length+1:=rfl
    have hE:=D6 first (by omega) (by omega)
    have hE2:∃D,(Lib.itoa first=45::D∨Lib.itoa first=D)∧D≠[]∧∀c∈D,bg c=true:=by
     unfold Lib.itoa
     by_cases h:first<0
     ·rw [if_pos h];exact ⟨_,.inl rfl,yq _,rK _⟩
     ·rw [if_neg h];exact ⟨_,.inr rfl,yq _,rK _⟩
    obtain ⟨D,hD1,Uz,hD3⟩:=hE2;exact ⟨t0,t,Lib.itoa first,D,by rw [e1,hlist],hT t0 bX,fun c hc=>hT c (cL _ hc),by omega,hD1,Uz,hD3,hE,acG⟩
theorem Mk {R:List UInt8} (hR:lq R):aR ([48,46,48]++R)=⟨4,[48],3,0⟩:=by
 have e:aR ([48,46,48]++R)=fg ([48,46,48]++R):=jT (by decide);have hn:bf bg ([48,46,48]++R)=1:=rfl;have h0:=hR.none (p:=bg) (by decide)
 have hl:([48,46,48]++R).length=R.length+3:=by rw [aw];show 3+R.length=_;omega
 have Im:jS ([48,46,48]++R) 1=3:=by
  have h1:bf bg (([48,46,48]++R).drop 2)=1:=by
   show bf bg (48::R)=1;rw [ft (by decide),h0]
  rw [pg (n:=1) (show 1+1<([48,46,48]++R).length by omega) rfl];show (if bg 48=true then 1+1+bf bg (([48,46,48]++R).drop (1+1)) else 1)=3;rw [if_pos (by decide),h1]
 have Io:ic ([48,46,48]++R) (jS ([48,46,48]++R) 1)=3:=by
  rw [Im]
  rcases hR with rfl|⟨r,rfl,_⟩
  ·exact oX (aa _)
  ·exact sS (n:=3) (by rw [hl,aj];omega) (by show bp 32≠101;decide)
 have ht:([48,46,48]++R).take 3=[48,46,48]:=rfl;have ha:bB ([48,46,48]++R) 3=true:=pz (F:=[48,46,48]) hR
 have hr:cP [48,46,48]=([48],0):=by decide+kernel
 rw [e,qh hn (by show (46:UInt8)≠39;decide) Io (by omega),if_pos ha,ht,hr]
theorem Ml {t0:UInt8} {t E D R:List UInt8} (h0:bg t0=true) (ht:∀c∈t,bg c=true) (hE:E=45::D∨E=D) (hD:D≠[]) (UG:∀c∈D,bg c=true) (hR:lq R) (F:List UInt8)
 (hF:F=t0::((if 0<t.length then 46::t else [])++101::E)) (hr:cP F=(F,0)):aR (F++R)=⟨4,F,F.length,0⟩:=by
 obtain ⟨M,hM⟩:∃M,(if 0<t.length then 46::t else []:List UInt8)=M:=⟨_,rfl⟩
 rw [hM] at hF
 have em:F++R=t0::(M++101::(E++R)):=by rw [hF];simp
 have hRd:=hR.none (p:=bg) (by decide)
 have hEl:0<E.length:=by
  have:0<D.length:=List.length_pos_iff.2 hD
  rcases hE with rfl|rfl
  ·rw [aj];omega
  ·exact this
 have Wy:F.length=M.length+2+E.length:=by rw [hF,aj,aw,aj];omega
 have zU:(t0::(M++101::(E++R))).length=M.length+2+E.length+R.length:=by
  rw [aj,aw,aj,aw];omega
 have hn:bf bg (t0::(M++101::(E++R)))=1:=by
  rw [ft h0,←hM]
  split
  ·rw [List.cons_append,gI (by decide)]
  ·rw [List.nil_append,gI (by decide)]
 have JU:(t0::(M++101::(E++R))).getD 1 0≠39:=by
  rw [←hM]
  split
  ·show (46:UInt8)≠39;decide
  ·show (101:UInt8)≠39;decide
 have Im:jS (t0::(M++101::(E++R))) 1=1+M.length:=by
  by_cases hp:0<t.length
  ·rw [if_pos hp] at hM;subst hM
   obtain ⟨a,r,rfl⟩:∃a r,t=a::r:=by
    cases t with
    |nil=>exact absurd hp (by decide)
    |cons a r=>exact ⟨a,r,rfl⟩
   have hs:bf bg ((a::r)++101::(E++R))=(a::r).length:=dP _ _ ht (gI (by decide));rw [pg (n:=1) (by rw [zU];omega) rfl];show (if bg a=true then 1+1+bf bg ((a::r)++101::(E++R)) else 1)=_;rw [if_pos (ht a bX),hs];rw [aj (a:=46)];omega
  ·rw [if_neg hp] at hM;subst hM;rw [wY (n:=1) (by rw [zU];omega) (by show (101:UInt8)≠46;decide)];rfl
 have hat:∀X:List UInt8,(t0::(M++X)).drop (1+M.length)=X:=fun X=>by
  rw [Nat.add_comm,List.drop_succ_cons,List.drop_left]
 have hge:(t0::(M++101::(E++R)))[1+M.length]'(by rw [zU];omega)=101:=by
  have:=hat (101::(E++R));rw [cn (by rw [zU];omega)] at this;exact (List.cons.inj this).1
 have hd1:(t0::(M++101::(E++R))).drop (1+M.length+1)=E++R:=by rw [←dB,hat];rfl
 have Io:ic (t0::(M++101::(E++R))) (1+M.length)=F.length:=by
  have hDl:0<D.length:=List.length_pos_iff.2 hD;have hDs:bf bg (D++R)=D.length:=dP _ _ UG hRd
  rcases hE with rfl|rfl
  ·have hd2:(t0::(M++101::(45::D++R))).drop (1+M.length+2)=D++R:=by rw [←dB,hat];rfl
   rw [mE (by rw [zU];omega) (by rw [hge];decide) (1+M.length+2) (by rw [hd1];exact (if_pos (.inr rfl)).symm),hd2,hDs,if_pos hDl,Wy,aj];omega
  ·obtain ⟨a,r,rfl⟩:∃a r,E=a::r:=by
    cases E with
    |nil=>exact absurd rfl hD
    |cons a r=>exact ⟨a,r,rfl⟩
   have ha:=UG a bX
   have hna:¬(((a::r)++R).head? =some 43∨((a::r)++R).head? =some 45):=by
    rintro (h|h)<;>(have h2:a=_:=au h;subst h2;revert ha;decide)
   rw [mE (by rw [zU];omega) (by rw [hge];decide) (1+M.length+1) (by rw [hd1];exact (if_neg hna).symm),hd1,hDs,if_pos hDl,Wy];omega
 have htk:(t0::(M++101::(E++R))).take F.length=F:=by rw [←em,List.take_left]
 have hal:bB (t0::(M++101::(E++R))) F.length=true:=by rw [←em];exact pz hR
 rw [em,jT h0,qh (e:=F.length) hn JU (by rw [Im];exact Io) (by omega),if_pos hal,htk,hr]
theorem Mm {l:List UInt8} (hd:∀c,l.head? =some c→bg c=true) (h:(cP l).2=0):je 4 (cP l).1∧(aY 4 (cP l).1).length≤24:=by
 rcases vO hd h with h0|⟨t0,t,E,D,hF,h0,ht,acH,hE,hD,UG,hE4,hr⟩
 ·rw [h0,je,yw];exact ⟨⟨⟨48,_,rfl,by decide,by decide,by decide⟩,fun R hR=>⟨3,Mk hR,.inl rfl⟩⟩,by decide⟩
 ·generalize (cP l).1=F at*
  have hne:F≠[48]:=by
   rw [hF];intro e;have:=(List.cons.inj e).2;exact absurd (List.append_eq_nil_iff.1 this).2 (by simp)
  rw [je,rL hne];obtain ⟨g1,g2,g3,_⟩:=xg t0 h0;refine ⟨⟨⟨t0,_,hF,g1,g2,g3⟩,fun R hR=>⟨_,Ml h0 ht hE hD UG hR F hF hr,.inl rfl⟩⟩,?_⟩;rw [hF,aj,aw,aj]
  split
  ·rw [aj];omega
  ·rw [aK];omega
theorem yz {l:List UInt8} {n:Nat} (h:0<bY l n):n+3≤bY l n:=by
 have key:bY l n=0∨n+3≤bY l n:=by
  unfold bY
  split
  ·split
   ·exact .inl rfl
   ·split
    ·exact .inl rfl
    ·right;omega
  ·exact .inl rfl
 omega
theorem Mn {l:List UInt8} (h:(aR l).err=0):je (aR l).kind (aR l).text∧(aY (aR l).kind (aR l).text).length+1≤40*(aR l).size∧0≤(aR l).kind∧(aR l).kind≤6:=by
 cases l with
 |nil=>exact absurd (aH h) (by decide)
 |cons c r=>
  rw [dU] at h⊢;by_cases c1:oC c=true∨c=92
  ·rw [if_pos c1] at h⊢;obtain ⟨hk,h1,h2⟩:=qi h;rw [hk];exact ⟨h1,h2,by decide,by decide⟩
  ·rw [if_neg c1] at h⊢;by_cases c2:bg c=true
   ·rw [if_pos c2] at h⊢
    have AA:1≤bf bg (c::r):=by rw [ft c2];omega
    have hnl:=fA bg (c::r);have htk:=kT (p:=bg) (c::r);have hC:=yz (l:=c::r) (n:=bf bg (c::r));have hum:=ln (us:=cA) (t:=(c::r).drop (bf bg (c::r)))
    have Ca:∀k,0<k→∀d,((c::r).take k).head? =some d→bg d=true:=by
     intro k hk d hd
     cases k with
     |zero=>exact absurd hk (by decide)
     |succ k=>rw [List.take_succ_cons] at hd;cases hd;exact c2
    unfold fg tF at h⊢;generalize c::r=l at*;generalize bf bg l=n at*;generalize bY l n=C at*;generalize ic l (jS l n)=e2 at*;generalize hk:iD (l.drop n)=k at*;by_cases h1:0<C
    ·rw [if_pos h1] at h⊢;by_cases h2:bB l C=true
     ·rw [if_pos h2] at h⊢;obtain ⟨b1,b2,b3⟩:=EI h;refine ⟨Mj b1 b2 b3,?_,(show (0:Int)≤3 by decide),(show (3:Int)≤6 by decide)⟩;show (aY 3 (fD (l.take C)).1).length+1≤40*C;have hd3:=(fG (fD (l.take C)).1.length).2.2.2 3 (by decide) (by omega);rw [nN,aw,aj,aj];have:=hC h1;omega
     ·rw [if_neg h2] at h;exact absurd (aH h) (by decide)
    ·rw [if_neg h1] at h⊢;by_cases h3:n<e2
     ·rw [if_pos h3] at h⊢;by_cases h2:bB l e2=true
      ·rw [if_pos h2] at h⊢;obtain ⟨g1,g2⟩:=Mm (Ca e2 (by omega)) h;refine ⟨g1,?_,(show (0:Int)≤4 by decide),(show (4:Int)≤6 by decide)⟩;show (aY 4 (cP (l.take e2)).1).length+1≤40*e2;omega
      ·rw [if_neg h2] at h;exact absurd (aH h) (by decide)
     ·rw [if_neg h3] at h⊢;by_cases h4:bB l (n+k)=false
      ·rw [if_pos h4] at h;exact absurd (aH h) (by decide)
      ·rw [if_neg h4] at h⊢;by_cases h5:15<(bO (l.take n)).length
       ·rw [if_pos h5] at h;exact absurd (aH h) (by decide)
       ·rw [if_neg h5]
        have Qa:l.take n≠[]:=fun e=>by
         have:=congrArg List.length e;rw [cr,aK] at this;omega
        have hS:∀d∈bO (l.take n),bg d=true:=fun d hd=>by
         rcases rI Qa d hd with rfl|hd
         ·rfl
         ·exact htk d hd
        have hk':gY cA (l.drop n)=k:=hk
        have hU:(l.drop n).take k=[]∨(l.drop n).take k∈cA:=by
         by_cases h0:0<k
         ·rw [hk'] at hum;exact .inr (hum h0)
         ·rw [show k=0 by omega,List.take_zero];exact .inl rfl
        have hkl:=pj (l.drop n);rw [hk,aA] at hkl
        have hkU:(l.drop n).take k=[]↔k=0:=by
         refine ⟨fun e=>?_,fun e=>by rw [e,List.take_zero]⟩;have:=congrArg List.length e;rw [cr,aA,aK] at this;omega
        have LZ:(if k=0 then 1 else 2:Int)=if (l.drop n).take k=[] then 1 else 2:=by
         by_cases h0:k=0
         ·rw [if_pos h0,if_pos (hkU.2 h0)]
         ·rw [if_neg h0,if_neg (fun e=>h0 (hkU.1 e))]
        have hg:=EG hS (uS _) (tK _) (by omega) hU;rw [←LZ] at hg
        have hkk:(if k=0 then 1 else 2:Int)=1∨(if k=0 then 1 else 2:Int)=2:=by
         by_cases h0:k=0
         ·exact .inl (if_pos h0)
         ·exact .inr (if_neg h0)
        refine ⟨hg,?_,?_,?_⟩
        ·show (aY (if k=0 then 1 else 2) (bO (l.take n)++(l.drop n).take k)).length+1≤40*(n+k);rw [eH (.inr (by rcases hkk with h|h;exact .inl h;exact .inr (.inl h))),aw,cr];omega
        ·show (0:Int)≤(if k=0 then 1 else 2);omega
        ·show (if k=0 then 1 else 2:Int)≤6;omega
   ·rw [if_neg c2] at h⊢;by_cases c3:c=34
    ·rw [if_pos c3] at h⊢;rw [gX] at h⊢;unfold iO at h⊢;generalize 1+bV ((c::r).drop 1)=E at*;by_cases h1:(c::r).length≤E
     ·rw [if_pos h1] at h;exact absurd (aH h) (by decide)
     ·rw [if_neg h1] at h⊢;obtain ⟨h2,h3⟩:=Kk h;refine ⟨PZ h2,?_,(show (0:Int)≤5 by decide),(show (5:Int)≤6 by decide)⟩;show (aY 5 (iZ ((c::r).take (E+1))).1).length+1≤40*(E+1);rw [cr] at h3;have h4:=tA (iZ ((c::r).take (E+1))).1;have h5:=mJ (iZ ((c::r).take (E+1))).1;rw [qj];omega
    ·rw [if_neg c3] at h⊢
     cases hs:dS eD (c::r) with
     |none=>rw [hs] at h;exact absurd (aH h) (by decide)
     |some u=>
      obtain ⟨h1,h2⟩:=pk hs;refine ⟨yu h1,?_,(show (0:Int)≤6 by decide),(show (6:Int)≤6 by decide)⟩;show (aY 6 u).length+1≤40*u.length;have:=PU u h1;rw [eH (.inr (.inr (.inr rfl)))];omega
def Kl (y:Lx):List UInt8:=aY y.kind y.text
def Mo (ys:List Lx):Nat:=(ys.map fun y=>(Kl y).length+1).sum
theorem Qb (l:List UInt8):∀(k a:Nat) (rM out:List Lx) (p:Nat),rM.length≤512→jz (ku l k a) rM=(out,p,0)→
 p=0∧out.length≤512∧∃ys,out=rM++ys∧(∀y∈ys,je y.kind y.text∧0≤y.kind∧y.kind≤6)∧Mo ys≤40*(l.length-a)∧∀y r,ys=y::r→y.az=a
 |0,a,rM,out,p,h5,h=>by
  cases h;exact ⟨rfl,h5,[],by simp,(fun y hy=>by cases hy),bj _,(fun y r e=>by cases e)⟩
 |k+1,a,rM,out,p,h5,h=>by
  unfold ku at h;by_cases hlt:a<l.length
  ·rw [if_pos hlt] at h;by_cases he:(aR (l.drop a)).err=0
   ·rw [if_pos he] at h;by_cases hf:rM.length=512
    ·rw [Mh he hf] at h;have:=(Prod.mk.inj (Prod.mk.inj h).2).2;exact absurd this (by decide)
    ·rw [uR he hf] at h;obtain ⟨g1,g2,g3,g4⟩:=Mn he;obtain ⟨s1,s2⟩:=nK (l:=l.drop a) (by rw [aA];omega) he;rw [aA] at s2;have hn:=x_ l (a+(aR (l.drop a)).size);have Es:=x9 (l:=l) (a:=a+(aR (l.drop a)).size) (by omega);obtain ⟨i1,i2,ys,i3,i4,i5,_⟩:=Qb l k _ _ out p (by rw [aw];show rM.length+1≤512;omega) h;refine ⟨i1,i2,⟨(aR (l.drop a)).kind,(aR (l.drop a)).text,a⟩::ys,by rw [i3];simp,?_,?_,?_⟩
     ·intro y hy
      rcases List.mem_cons.1 hy with rfl|hy
      ·exact ⟨g1,g3,g4⟩
      ·exact i4 y hy
     ·unfold Mo at i5⊢;rw [List.map_cons,List.sum_cons];show (aY (aR (l.drop a)).kind (aR (l.drop a)).text).length+1+_≤_;omega
     ·intro y r e;cases e;rfl
   ·rw [PV he] at h;have:=(Prod.mk.inj (Prod.mk.inj h).2).2;exact absurd this he
  ·rw [if_neg hlt] at h;cases h;exact ⟨rfl,h5,[],by simp,(fun y hy=>by cases hy),bj _,(fun y r e=>by cases e)⟩
theorem CA {l:List UInt8} {out:List Lx} {p:Nat} (h:df l=(out,p,0)):
 p=0∧out.length≤512∧(∀y∈out,je y.kind y.text∧0≤y.kind∧y.kind≤6)∧Mo out≤40*l.length∧∀y r,out=y::r→y.az=iE l 0:=by
 unfold df at h;by_cases hb:16384<l.length
 ·rw [if_pos hb] at h;have:=(Prod.mk.inj (Prod.mk.inj h).2).2;exact absurd this (by decide)
 ·rw [if_neg hb] at h;obtain ⟨i1,i2,ys,i3,i4,i5,i6⟩:=Qb l l.length (iE l 0) [] out p (bj _) h;rw [List.nil_append] at i3;subst i3;exact ⟨i1,i2,i4,by omega,i6⟩
theorem yB {P J:List UInt8} (h:l6 J):iE (P++J) P.length=P.length:=by
 obtain ⟨c,t,rfl,g1,g2,_⟩:=h
 have hlt:P.length<(P++c::t).length:=by rw [aw,aj];omega
 have hg:(P++c::t)[P.length]'hlt=c:=by rw [List.getElem_append_right (aa _)];simp
 exact Ik hlt (by rw [hg];exact g1) (by rw [hg];exact g2)
def eU (k:Int) (t:List UInt8):Bool:=
 decide ((df (aY k t)).2.2=0)&&match (df (aY k t)).1 with|[x]=>x.kind==k&&x.text==t|_=>false
theorem Ip {k:Int} {t:List UInt8} (h:eU k t=true):∃x,df (aY k t)=([x],0,0)∧x.kind=k∧x.text=t∧x.az=0∧0≤k∧k≤6∧je k t:=by
 unfold eU at h
 obtain ⟨⟨out,p,er⟩,hp⟩:∃q,df (aY k t)=q:=⟨_,rfl⟩
 rw [hp] at h;simp only [cS,decide_eq_true_eq] at h;obtain ⟨h1,h2⟩:=h;subst h1;obtain ⟨i1,_,i3,_,i5⟩:=CA hp
 match out,h2 with
 |[x],h2=>
  simp only [cS,beq_iff_eq] at h2;obtain ⟨g1,g2,g3⟩:=i3 x bX;have ha:=i5 x [] rfl;rw [h2.1,h2.2] at g1;rw [h2.1] at g2 g3;have hn:=yB (P:=[]) g1.1;rw [List.nil_append,aK] at hn;exact ⟨x,by rw [hp,i1],h2.1,h2.2,by rw [ha,hn],g2,g3,g1⟩
theorem uU (k:Int) (t:List UInt8) (h:t.length≤1000000):(aY k t).length≤4*t.length+12:=by
 unfold aY;by_cases h3:k=3
 ·rw [if_pos h3];have:=(fG t.length).2.2.2 7 (by decide) (by omega);rw [aw,aj,aj];omega
 ·rw [if_neg h3];by_cases h4:k=4∧t=[48]
  ·rw [if_pos h4];show 3≤_;omega
  ·rw [if_neg h4];by_cases h5:k=5
   ·rw [if_pos h5,mJ];have:=tA t;omega
   ·rw [if_neg h5];omega
end Go.Proofs.YtddoehnkgcbboaaGreatDoor
namespace Go.Proofs.YtddoehnkgcbboaaGreatDoor
open Go.RowKit Go.Shelf Go.Sort
theorem Iq {n:Nat} (h:n<10):Lib.decDigits n=[UInt8.ofNat (48+n % 10)]:=by rw [Lib.decDigits_one h,Nat.mod_eq_of_lt h]
theorem Qc {n:Nat} (h:¬n<10):Lib.decDigits n=Lib.decDigits (n / 10)++[UInt8.ofNat (48+n % 10)]:=by rw [Lib.decDigits,dif_neg h]
theorem EM {n:Nat} (h:n≤1000000):(Lib.decDigits n).length≤7:=(fG n).2.2.2 7 (by decide) (by omega)
theorem wO (n:Nat):∀(w:World) (hn:n≤1000000),
 Calls Tryz.prog 240 #[.int .i64 (n:Int)] w fun e w'=>e=.returned (.string (ag (Lib.decDigits n)))∧Below w.heap.size w w':=by
 induction n using Nat.strongRecOn with
 |_ n ih=>
 intro w hn
 obtain ⟨c,hc⟩:∃c:UInt8,UInt8.ofNat (48+n % 10)=c:=⟨_,rfl⟩
 have hct:(c.toNat:Int)=48+(n:Int) % 10:=by
  rw [←hc,UInt8.toNat_ofNat',Nat.mod_eq_of_lt (by omega)];omega
 have hw:IntKind.u8.wrap (48+(n:Int) % 10)=(c.toNat:Int):=by rw [hct,IntKind.wrap_u8];omega
 have hcv:=fun W:World=>O4 W c;by_cases h:n<10
 ·rw [Iq h,hc];clear hc hct ih;go_enter Tryz.func240,Tryz.ntmps240;go_wp2;go_ret;exact ⟨rfl,(af _ _).alloc (aa _) _⟩
 ·have D:=hide (fun W:World=>ih (n / 10) (by omega) W (by omega))
  have hq:((n / 10:Nat):Int)=(n:Int) / 10:=by omega
  rw [hq] at D;have z1:=EM (n:=n / 10) (by omega);have c1:=fun W=>wK (P:=Tryz.prog) (Lib.decDigits (n / 10)) [c] (by show _+1≤_;omega) W;rw [Qc h,hc];have c2:∀W,(Op.stringOp .add (ag (Lib.decDigits (n / 10))) ⟨#[c]⟩).run Tryz.prog W=.ok (.string (ag (Lib.decDigits (n / 10)++[c]))) W:=c1;generalize Lib.decDigits (n / 10)++[c]=T at*;generalize ag (Lib.decDigits (n / 10))=S at*;clear hc hct ih z1 hq c1;go_enter Tryz.func240,Tryz.ntmps240;go_wp2_with fail;refine (D.o _).mono ?_;rintro e w1 ⟨rfl,hb⟩;have HB:=hide (((af w.heap.size w).alloc (aa _) (.cells #[.int .u8 (c.toNat:Int)] 5)).trans (hb.mono (by rw [aF];exact Nat.le_succ _)));clear hb;go_wp2;go_ret;exact ⟨rfl,HB.o⟩
def lxV (k:Int) (t:List UInt8) (p:Int):Value:=.agg #[.int .i64 k,.string (ag t),.int .i64 p]
theorem Mp (t:List UInt8):((ag t).toList==[48])=decide (t=[48]):=by
 rw [Lib.toList_data,dD];by_cases h:t=[48]
 ·rw [decide_eq_true h,h];rfl
 ·rw [decide_eq_false h];exact aP.2 h
theorem A_ (k p:Int) (t:List UInt8) (w:World) (hl:t.length≤100000):
 Calls Tryz.prog 212 #[lxV k t p] w fun e w'=>e=.returned (.string (ag (aY k t)))∧Below w.heap.size w w':=by
 unfold lxV;have hz:=aO t;by_cases h3:k=3
 ·subst h3;have DT:=hide (fun W:World=>wO t.length W (by omega));have hd:=EM (n:=t.length) (by omega);have a1:∀W,(Op.stringOp .add (ag (Lib.decDigits t.length)) ⟨#[39,98]⟩).run Tryz.prog W=.ok (.string (ag (Lib.decDigits t.length++[39,98]))) W:=fun W=>wK _ [39,98] (by show _+2≤_;omega) W;have a2:∀W,(Op.stringOp .add (ag (Lib.decDigits t.length++[39,98])) (ag t)).run Tryz.prog W=.ok (.string (ag (Lib.decDigits t.length++[39,98]++t))) W:=fun W=>wK _ t (by rw [aw];show _+2+_≤_;omega) W;have HV:=hide (show aY 3 t=Lib.decDigits t.length++[39,98]++t by rw [nN];simp);generalize Lib.decDigits t.length=D at*;rw [←hz] at DT;generalize D++[39,98]++t=T at*;generalize ag (D++[39,98])=S2 at*;generalize ag D=S1 at*;generalize ag t=s at*
  have hz1:(s.size:Int)≤100000:=by omega
  clear hd hz hl;go_enter Tryz.func212,Tryz.ntmps212;go_wp2_with fail
  obtain ⟨W1,hW1⟩:∃W1,w.alloc (.cells #[.int .i64 3,.string s,.int .i64 p] 66)=W1:=⟨_,rfl⟩
  rw [hW1]
  have hr:Row W1 w.heap.size 66 #[.int .i64 3,.string s,.int .i64 p]:=by rw [←hW1];exact Row.new _ _ _
  have HB:=hide (show Below w.heap.size w W1 by rw [←hW1];exact (af _ _).alloc (aa _) _);have CD:=hide (fun (d:Nat) (os:Array Obj)=>Calls.regrown_of (d:=d) (os:=os) (w:=W1) (DT.o _));have r1:=fun d os=>cell_regrown (hr.cell 1) d os;clear hW1 hr;refine wp_region_quiet_below (by kernel_rfl) (by kernel_rfl) ?_
  repeat (go_big_quiet_step (exact CD.o _ _))
  refine wpQuiet_nil ?_;intro _ hw';obtain ⟨⟨dq,osq⟩,hw''⟩:=hw';subst hw'';go_wp2;go_ret;exact ⟨by rw [HV.o];first|done|rfl,HB.o.trans ((below_regrown _ dq osq).mono HB.o.size)⟩
 have e3:(k==3)=false:=aP.2 h3;by_cases h4:k=4
 ·subst h4;have hb:=Mp t;by_cases h48:t=[48]
  ·rw [decide_eq_true h48] at hb;have HV:=hide (show aY 4 t=[48,46,48] by rw [h48];rfl);clear h48 h3 e3;generalize ag t=s at*;go_enter Tryz.func212,Tryz.ntmps212;go_wp2;go_ret;exact ⟨by rw [HV.o];first|done|rfl,(af _ _).alloc (aa _) _⟩
  ·rw [decide_eq_false h48] at hb;have HV:=ae (aY 4 t=t) (rL h48);clear h48 h3 e3;generalize hs:ag t=s at*;have HS:=hide hs;clear hs;go_enter Tryz.func212,Tryz.ntmps212;go_wp2;go_ret;exact ⟨by rw [HV.o,HS.o];first|done|rfl,(af _ _).alloc (aa _) _⟩
 have e4:(k==4)=false:=aP.2 h4;by_cases h5:k=5
 ·subst h5;have QT:=hide (fun W:World=>Eg t W hl);have HV:=hide (qj t);generalize ag t=s at*;clear h3 h4;go_enter Tryz.func212,Tryz.ntmps212;go_wp2_with fail;refine (QT.o _).mono ?_;rintro e w1 ⟨rfl,hb⟩;have HB:=hide (((af w.heap.size w).alloc (aa _) (.cells #[.int .i64 5,.string s,.int .i64 p] 66)).trans (hb.mono (by rw [aF];exact Nat.le_succ _)));clear hb;go_wp2;go_ret;exact ⟨by rw [HV.o];first|done|rfl,HB.o⟩
 have e5:(k==5)=false:=aP.2 h5;have HV:=hide (show aY k t=t by unfold aY;rw [if_neg h3,if_neg (fun h=>h4 h.1),if_neg h5]);generalize hs:ag t=s at*;have HS:=hide hs;clear h3 h4 h5 hs;go_enter Tryz.func212,Tryz.ntmps212;go_wp2;go_ret;exact ⟨by rw [HV.o,HS.o];first|done|rfl,(af _ _).alloc (aa _) _⟩
theorem Mq {k:Int} {t:List UInt8} {out:List Lx} {a:Nat} {er:Int} (h:df (aY k t)=(out,a,er)) (he:er≠0):eU k t=false:=by
 unfold eU;rw [h,decide_eq_false he];rfl
theorem Ir {k:Int} {t:List UInt8} {out:List Lx} {a:Nat} {er:Int} (h:df (aY k t)=(out,a,er)) (he:out.length≠1):eU k t=false:=by
 unfold eU;rw [h]
 match out,he with
 |[],_=>simp
 |[x],he=>exact absurd rfl he
 |_::_::_,_=>simp
theorem Iu {k:Int} {t:List UInt8} {x:Lx} {a:Nat} (h:df (aY k t)=([x],a,0)):eU k t=(x.kind==k&&x.text==t):=by
 unfold eU;rw [h];simp
theorem Iw (k p:Int) (t:List UInt8) (w:World) (hl:t.length≤10000) (hG:Gl w):
 Calls Tryz.prog 211 #[lxV k t p] w fun e w'=>e=.returned (.bool (eU k t))∧Below w.heap.size w w':=by
 have hfl:=uU k t (by omega);have FO:=hide (fun W:World=>A_ k p t W (by omega))
 obtain ⟨⟨out,a,er⟩,rG⟩:∃q,df (aY k t)=q:=⟨_,rfl⟩
 have LX:=hide (fun (W:World) (hg:Gl W)=>Yy (aY k t) (by omega) out a er rG W hg);unfold lxV at FO⊢;have HL:=hide rG;have HG:=hide hG;have hxt:∀x:Lx,((ag x.text).toList==(ag t).toList)=(x.text==t):=fun x=>Ki _ _;have HXT:=hide hxt;generalize ag (aY k t)=F at*;generalize hs:ag t=s at*;clear hfl rG hG hl hxt hs;go_enter Tryz.func211,Tryz.ntmps211;go_wp2_with fail
 obtain ⟨W1,hW1⟩:∃W1,w.alloc (.cells #[.int .i64 k,.string s,.int .i64 p] 66)=W1:=⟨_,rfl⟩
 rw [hW1];have jx:=hide (show Row W1 w.heap.size 66 #[.int .i64 k,.string s,.int .i64 p] by rw [←hW1];exact Row.new _ _ _);have dX:=hide (show Below w.heap.size w W1 by rw [←hW1];exact (af _ _).alloc (aa _) _);clear hW1;refine (FO.o _).mono ?_;rintro e w2 ⟨rfl,hb⟩;have qG:=ae (Row w2 w.heap.size 66 #[.int .i64 k,.string s,.int .i64 p]) (jx.o.below hb jx.o.lt);have iM:=hide (dX.o.trans (hb.mono dX.o.size));clear hb jx dX;go_wp2_with fail;refine (LX.o _ (HG.o.below iM.o)).mono ?_;rintro e w3 ⟨A,cap,rfl,hsl,hb⟩;have uq:=ae (Row w3 w.heap.size 66 #[.int .i64 k,.string s,.int .i64 p]) (qG.o.below hb qG.o.lt);have nk:=hide (iM.o.trans (hb.mono iM.o.size));have HSL:=hide hsl;clear hb hsl qG iM;by_cases he:er=0;rotate_left
 ·have e1:(er==0)=false:=aP.2 he;have HV:=hide (Mq HL.o he);clear he;go_wp2_with fail;go_quiet (fail);go_wp2;go_ret;exact ⟨by rw [HV.o];first|done|rfl,aX nk.o _⟩
 subst he;by_cases h1:out.length=1;rotate_left
 ·have e1:((out.length:Int)==1)=false:=aP.2 (by omega);have HV:=hide (Ir HL.o h1);generalize out.length=n at*;clear h1;go_wp2_with fail;go_quiet (fail);go_wp2;go_ret;exact ⟨by rw [HV.o];first|done|rfl,aX nk.o _⟩
 obtain ⟨x,rfl⟩:=List.length_eq_one_iff.1 h1;obtain ⟨b,off,rfl,hat⟩:=HSL.o (show 0<1 by decide);obtain ⟨c0,c1,_⟩:=hat 0 (show 0<1 by decide);have hHV:=Iu HL.o
 have q0:w3.cell? ⟨b,off,none⟩=some (.int .i64 x.kind):=by simpa using c0
 have q1:w3.cell? ⟨b,off+1,none⟩=some (.string (ag x.text)):=by simpa using c1
 have r0:=uq.o.cell 0;have r1:=uq.o.cell 1;have hxt:=HXT.o x;have HV:=hide hHV;have el:([x]:List Lx).length=1:=rfl;rw [el];clear hat c0 c1 h1 hHV;generalize ag x.text=sx at*
 cases hk:(x.kind==k) with
 |false=>
  have HV:=hide (show eU k t=false by rw [HV.o,hk];rfl);go_wp2_with fail;go_quiet (fail);go_wp2;go_ret;exact ⟨by rw [HV.o];first|done|rfl,aX nk.o _⟩
 |true=>
  cases ht:(x.text==t) with
  |false=>
   have HV:=hide (show eU k t=false by rw [HV.o,hk,ht];rfl);rw [ht] at hxt;clear ht;go_wp2_with fail;go_quiet (fail);go_wp2;go_ret;exact ⟨by rw [HV.o];first|done|rfl,aX nk.o _⟩
  |true=>
   have HV:=hide (show eU k t=true by rw [HV.o,hk,ht];rfl);rw [ht] at hxt;clear ht;go_wp2_with fail;go_quiet (fail);go_wp2;go_ret;exact ⟨by rw [HV.o];first|done|rfl,aX nk.o _⟩
end Go.Proofs.YtddoehnkgcbboaaGreatDoor
