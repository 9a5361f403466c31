/- Packed by program: a part of the proof; the last file says what is proved. -/
import Derived.Test.YtddoehnkgcbboaaGreatDoorPrZ
import Derived.Test.YtddoehnkgcbboaaGreatDoorPrQ
import Derived.Test.YtddoehnkgcbboaaGreatDoorPrT
import Derived.Test.YtddoehnkgcbboaaGreatDoorPrO
import Derived.Recover
set_option maxHeartbeats 16000000
set_option maxRecDepth 100000
set_option linter.unusedVariables false
set_option linter.unusedSimpArgs false
namespace Go.Proofs.YtddoehnkgcbboaaGreatDoor
open Go.RowKit Go.Shelf Go.Maps
theorem bV.two {C:Nat→Prop} {W W6:World} {base:Nat} {n x:Nd} {cs ou:List Value} (hn:cG (fun b=>C b∨b=W.heap.size) W6 n cs) (hx:cG (fun b=>C b∨b=W.heap.size) W6 x ou) (hW:W6=W.alloc (.cells [cs,ou].flatten.toArray 25)) (hb:base≤W.heap.size) (hC:¬C W.heap.size):
 bV C W6 base W.heap.size 2 2 [n,x] [cs,ou]:=by
 have h1:=hn.len
 have h2:=hx.len
 have RG:[cs,ou].flatten.length=18:=by
  show (cs++(ou++[])).length=18
  rw [List.append_nil,List.length_append];omega
 have hrow:W6.heap[W.heap.size]? =some (.cells [cs,ou].flatten.toArray 25 (0,0)):=by rw [hW];exact heap_alloc_new W _
 refine ⟨⟨RG,.inr ⟨W.heap.size,2,_,rfl,hb,hrow,Nat.le_refl _,by decide,?_,?_⟩⟩,rfl,rfl,fun i hi hi'=>?_,hC⟩
 ·rw [List.size_toArray,RG]
 ·rw [List.toList_toArray];exact List.take_of_length_le (by rw [RG];decide)
 ·match i,hi,hi' with
  |0,_,_=>exact hn
  |1,_,_=>exact hx
  |i+2,hi,_=>exact absurd hi (by simp)
theorem rY {C:Nat→Prop} {p:PS} {w Y:World} {g k k0 gk n c:Nat} {kd pl xa xb xc xd:Int} {ks l:List Nd} {bF:List (List Value)} {v:Value} (hC1:∀b,b≤w.heap.size∨b=g→C b) (hC2:∀b,C b→b<Y.heap.size) (H:bc p w k0) (hg:w.heap.size<g) (ha:bc p Y k) (bS:af (fun c=>c=p.b) w Y) (hres:Row Y w.heap.size 25 bJ)
 (hrow:Row Y g 25 (aw kd pl [] [] xa xb xc xd (.slice none 0 0)).toArray) (hk:bV C Y (w.heap.size+1) gk n c ks bF) (hn:n≤1000) (hw:Nk C Y gk l v):
 ∃vw c' W',(Builtin.append_ #[23,23] 23 #[.slice (some ⟨gk,0,none⟩) n c,v]).run Tryz.prog Y=.ok (.slice (some ⟨vw,0,none⟩) (ks++l).length c') W'∧
  W'.cell? ⟨g,8,none⟩=some (.slice none 0 0)∧W'.frozen? ⟨g,8,none⟩=false∧
  bR p w g (W'.setCell ⟨g,8,none⟩ (.slice (some ⟨vw,0,none⟩) (ks++l).length c')) (.mk kd pl [] [] xa xb xc xd (ks++l)) (aw kd pl [] [] xa xb xc xd (.slice (some ⟨vw,0,none⟩) (ks++l).length c')) k∧
  cG C (W'.setCell ⟨g,8,none⟩ (.slice (some ⟨vw,0,none⟩) (ks++l).length c')) (.mk kd pl [] [] xa xb xc xd (ks++l)) (aw kd pl [] [] xa xb xc xd (.slice (some ⟨vw,0,none⟩) (ks++l).length c'))∧
  Y.grownBy W' (some gk):=by
 have Nl:=hk.num
 have fin:∀{W':World} {gk n c:Nat} {ks:List Nd} {bF:List (List Value)},bc p W' k→af (fun c=>c=p.b) w W'→Row W' w.heap.size 25 bJ→Row W' g 25 (aw kd pl [] [] xa xb xc xd (.slice none 0 0)).toArray→bV C W' (w.heap.size+1) gk n c ks bF→
  bR p w g (W'.setCell ⟨g,8,none⟩ (.slice (some ⟨gk,0,none⟩) ks.length c)) (.mk kd pl [] [] xa xb xc xd ks) (aw kd pl [] [] xa xb xc xd (.slice (some ⟨gk,0,none⟩) ks.length c)) k∧cG C (W'.setCell ⟨g,8,none⟩ (.slice (some ⟨gk,0,none⟩) ks.length c)) (.mk kd pl [] [] xa xb xc xd ks) (aw kd pl [] [] xa xb xc xd (.slice (some ⟨gk,0,none⟩) ks.length c)):=by
  intro W' gk n c ks bF ha bS hres hrow hk
  have e:=hk.num
  subst e
  have hB2:Below w.heap.size W' (W'.setCell ⟨g,8,none⟩ (.slice (some ⟨gk,0,none⟩) ks.length c)):=(Below.refl _ W').setCell (p:=⟨g,8,none⟩) (Nat.le_of_lt hg) _
  have hk2:af C W' (W'.setCell ⟨g,8,none⟩ (.slice (some ⟨gk,0,none⟩) ks.length c)):=(af.refl _ W').set (.inl (hC1 g (.inr rfl))) 8 _
  have h2:=(hk.keep hk2 (fun b hb=>hb)).node kd pl xa xb xc xd [] []
  exact ⟨⟨H.above ha hB2,bS.over hB2,hres.off (by omega) _ _,hrow.bg 8 _,h2.mono hC1⟩,h2⟩
 rcases hw with ⟨rfl,rfl⟩|⟨y,gs,cs,rfl,rfl,Oa,hny⟩
 ·obtain ⟨iN,VC,hz⟩:=Option.map_eq_some_iff.1 E5
  obtain ⟨f1,f2⟩:=fin ha bS hres hrow hk
  refine ⟨gk,c,Y,?_,hrow.cell 8,hrow.frozen 8,?_,?_,⟨rfl,rfl,rfl,Nat.le_refl _,fun _ _ _=>rfl⟩⟩
  ·rw [List.append_nil,Nl]
   exact run_append_owned_none Y (w.heap.size+1) 23 23 25 iN 9 Tryz.underlying23 VC _ n _ hk.own
  ·rw [List.append_nil];exact f1
  ·rw [List.append_nil];exact f2
 ·have hb0:=hk.cur.1
  have hne:g≠gk:=fun e=>hk.not (hC1 gk (.inr e.symm))
  obtain ⟨vw,c',W',cZ,cX,hgr⟩:=hk.app hny Oa (by have:=hres.lt;omega) hC2 (by omega)
  have hB:Below (w.heap.size+1) Y W':=⟨hgr.os,hgr.tape,hgr.output,hgr.size,fun b hb=>hgr.block b (Nat.lt_of_lt_of_le hb (by have:=hres.lt;omega)) (by intro e;cases e;omega)⟩
  have YH:Below w.heap.size Y W':=⟨hB.os,hB.tape,hB.output,hB.size,fun b hb=>hB.block b (Nat.lt_succ_of_lt hb)⟩
  have hrow':=hrow.grown hgr (fun e=>hne (Option.some.inj e))
  obtain ⟨f1,f2⟩:=fin (H.above ha YH) (bS.over YH) (hres.below hB (Nat.lt_succ_self _)) hrow' cX
  refine ⟨vw,c',W',?_,hrow'.cell 8,hrow'.frozen 8,f1,f2,hgr⟩
  rw [List.length_append,Nl]
  exact cZ
theorem GX {p:PS} {w W Y Ya:World} {g3 g5 k k' B:Nat} {n x:Nd} {cs ou:List Value} {kd pl xa xb xc xd:Int} {l:List Nd} {v:Value} (hb:p.b<w.heap.size) (h3:w.heap.size<g3) (h5:w.heap.size<g5) (h:iv p w g3 g5 W n cs kd pl xa xb xc xd k) (hv:VL B W l v) (hB:w.heap.size<B∧g3<B∧g5<B)
 (hY:bc p Y k') (hk:af (fun c=>c=p.b) W Y) (hx:cG (fun b=>b<W.heap.size) Y x ou) (CR:Ya=Y.alloc (.cells [cs,ou].flatten.toArray 25)):
 iv p w g3 g5 Ya n cs kd pl xa xb xc xd k'∧bV (fun b=>(b≤w.heap.size∨b=g5)∨b=g3) Ya (w.heap.size+1) Y.heap.size 2 2 [n,x] [cs,ou]∧Nk (fun b=>(b≤w.heap.size∨b=g5)∨b=g3) Ya Y.heap.size l v:=by
 have hz:=h.res.lt
 have mg:=h.gy.lt
 have hz3:=h.fJ.lt
 have hs:=hk.size
 have ey:=h.keep hb h3 h5 hY hk
 have bd:Below Y.heap.size Y Ya:=by rw [CR];exact (Below.refl _ _).alloc (Nat.le_refl _) _
 have hn:=(ey.nd.ge bd).mono (C':=fun b=>((b≤w.heap.size∨b=g5)∨b=g3)∨b=Y.heap.size) (fun b hb=>by
  rcases hb with hb|rfl
  ·exact .inl hb
  ·exact .inr (Nat.le_refl _))
 have hx2:=(hx.ge bd).mono (C':=fun b=>((b≤w.heap.size∨b=g5)∨b=g3)∨b=Y.heap.size) (fun b hb=>by
  rcases hb with ((hb|rfl)|rfl)|rfl
  ·exact .inl (by show b<W.heap.size;omega)
  ·exact .inl mg
  ·exact .inl hz3
  ·exact .inr (Nat.le_refl _))
 refine ⟨ey.keep hb h3 h5 (hY.below bd) (af.of_below bd (Nat.le_refl _)),bV.two hn hx2 CR (by omega) (by rintro ((h|h)|h)<;>omega),?_⟩
 rcases hv with hv|⟨c,gs,cs',e1,e2,U7,hr,hc⟩
 ·exact .inl hv
 ·have bS:∀b,(fun c=>c=p.b) b→(fun b=>b<B∨b=gs) b:=fun b hb'=>.inl (by have:b=p.b:=hb';show b<B;omega)
  have hr2:=hr.keep hk (by show¬gs=p.b;omega)
  exact .inr ⟨c,gs,cs',e1,e2,hr2.below bd hr2.lt,((hc.keeps (hk.mono bS)).ge bd).mono (fun b hb=>by
   rcases hb with ((hb|rfl)|rfl)|rfl
   ·exact .inl (.inl (by omega))
   ·exact .inl (.inl hB.2.2)
   ·exact .inl (.inl hB.2.1)
   ·exact .inr (Nat.le_refl _))⟩
theorem GY {p:PS} {w W:World} {g3 g5 k k0 A':Nat} {n:Nd} {kd a0 xa xb xc xd:Int} {nm vl:List UInt8} {s:Value} {cs:List Value} (H:bc p w k0) (h3:w.heap.size<g3) (h:bR p w g5 W n (aw kd a0 nm vl xa xb xc xd s) k) (hr:Row W g3 25 cs.toArray) (h9:cs.length=9)
 (hn:cG (fun b=>(b≤w.heap.size∨b=g5)∨b=g3) W n (aw kd a0 nm vl xa xb xc xd s)):
 bR p w g3 (iP W g3 (.int .i64 kd) (.int .i64 a0) (.string (ae nm)) (.string (ae vl)) (.int .i64 xa) (.int .i64 xb) (.int .i64 xc) (.int .i64 xd) s) n (aw kd a0 nm vl xa xb xc xd s) k:=by
 have Rj:=ak (W:=W) (Nat.le_of_lt h3) (.int .i64 kd) (.int .i64 a0) (.string (ae nm)) (.string (ae vl)) (.int .i64 xa) (.int .i64 xb) (.int .i64 xc) (.int .i64 xd) s
 have XO:=ak (W:=W) (Nat.le_refl g3) (.int .i64 kd) (.int .i64 a0) (.string (ae nm)) (.string (ae vl)) (.int .i64 xa) (.int .i64 xb) (.int .i64 xc) (.int .i64 xd) s
 have Pa:=ax (C:=fun b=>(b≤w.heap.size∨b=g5)∨b=g3) (W:=W) (.inr rfl) (.int .i64 kd) (.int .i64 a0) (.string (ae nm)) (.string (ae vl)) (.int .i64 xa) (.int .i64 xb) (.int .i64 xc) (.int .i64 xd) s
 obtain ⟨v0,v1,v2,v3,v4,v5,v6,v7,v8,rfl⟩:∃v0 v1 v2 v3 v4 v5 v6 v7 v8,cs=[v0,v1,v2,v3,v4,v5,v6,v7,v8]:=by
  match cs,h9 with
  |[v0,v1,v2,v3,v4,v5,v6,v7,v8],_=>exact ⟨_,_,_,_,_,_,_,_,_,rfl⟩
 exact ⟨H.above h.at_ Rj,h.keeps.over Rj,h.res.below XO h3,av hr _ _ _ _ _ _ _ _ _,(hn.keeps Pa).mono (fun b hb=>by
  rcases hb with hb|hb
  ·exact .inl (.inl hb)
  ·exact .inr hb)⟩
theorem zX (p:PS) (mA:sq p) (F:Nat) (pat:Nat→PR Nd) (hq:bQ p 25 pat F) (hpg:Prog (fK p.L p.en (bX p) (cM p.L p.en (bX p)) pat)) (Yj:Prog (cF p.L (cM p.L p.en (bX p)))) (hpd:Prog (dP p)):bQ p 43 (Bz p.L p.en (bX p) (cM p.L p.en (bX p)) pat) (F+1):=by
 intro k w hF h
 have aN:p.b<w.heap.size:=h.row.lt
 have hb0:Below w.heap.size w (w.alloc (.cells bJ 25)):=(Below.refl _ _).alloc (Nat.le_refl _) _
 have fO:Row (w.alloc (.cells bJ 25)) w.heap.size 25 bJ:=Row.new _ _ _
 have PL:=aa (fun (k:Nat) (W:World) (h:bc p W k)=>dZ p k W h)
 have AC:=aa (fun (k:Nat) (wd:List UInt8) (W:World) (h:bc p W k)=>cR p k wd W h)
 have DL:=aa (fun (k:Nat) (W:World) (h:bc p W k)=>xZ p k W h)
 have WH:=aa (fun (k:Nat) (W:World) (h:bc p W k)=>x9 p mA k W h)
 have EL:=aa (fun (k':Nat) (W:World) (hk:k≤k') (h:bc p W k')=>rX p mA F pat hq k' W (by omega) h)
 have X:=aa (rX p mA F pat hq k _ hF (h.below hb0))
 have H:=aa h
 have kp:=aa (show pT p w (w.alloc (.cells bJ 25)) k from ⟨h.below hb0,af.of_below hb0 (Nat.le_refl _),fO⟩)
 obtain ⟨cond,Ki⟩:∃c,cM p.L p.en (bX p)=c:=⟨_,rfl⟩
 rw [Ki] at X WH EL hpg Yj⊢
 have EP:=aa hpg
 have WP:=aa Yj
 have DP:=aa hpd
 obtain ⟨RR,jC⟩:∃RR,Bz p.L p.en (bX p) cond pat k=RR:=⟨_,rfl⟩
 rw [jC]
 have fB:=aa (show RR=(fK p.L p.en (bX p) cond pat k).bind fun n k1=>iR p.L p.en (bX p) cond pat (p.L.length+1) n k1 from jC.symm)
 clear hq h hb0 fO jC Ki hpg Yj hpd
 go_enter Tryz.func43,Tryz.ntmps43
 cases hx:fK p.L p.en (bX p) cond pat k with
 |err a er=>
  rw [hx] at X
  have HE:=aa (show RR=.err a er from by rw [fB.out,hx];rfl)
  clear hx
  go_wp2_with fail
  refine X.out.mono ?_
  rintro e nE ⟨rfl,bK⟩
  go_wp2
  exact ⟨rfl,by rw [HE.out];exact ⟨rfl,kp.out.keeps.trans bK⟩⟩
 |ok n1 k1=>
  rw [hx] at X
  have MO:=EP.out _ _ _ hx
  have fP:=aa (show iR p.L p.en (bX p) cond pat (p.L.length+1) n1 k1=RR from by rw [fB.out,hx];rfl)
  clear hx fB
  go_wp2_with fail
  refine X.out.mono ?_
  rintro e w3 ⟨⟨v,rfl,cs,rfl,aB⟩,h3,hk3⟩
  have hr3:Row w3 w.heap.size 25 bJ:=kp.out.res.keep hk3 (by show¬w.heap.size=p.b;omega)
  have hg:w.heap.size<w3.heap.size:=hr3.lt
  have hl3:=bR.new h3 (kp.out.keeps.trans hk3) hr3 aB kp.out.lt
  obtain ⟨kd,a0,nm,vl,xa,xb,xc,xd,A,len,cap,rfl⟩:=aB.nine
  generalize jA:w3.alloc (.cells (aw kd a0 nm vl xa xb xc xd (.slice A len cap)).toArray 25)=W4 at hl3
  have zN:=aa hl3
  have lB:w3.alloc (.cells #[.int .i64 kd,.int .i64 a0,.string (ae nm),.string (ae vl),.int .i64 xa,.int .i64 xb,.int .i64 xc,.int .i64 xd,.slice A len cap] 25)=W4:=jA
  clear h3 hk3 hr3 aB hl3 jA
  unfold aw
  go_wp2_with fail
  clear lB
  go_loopw [] (fun W=>∃n cs k2 m,bR p w w3.heap.size W n cs k2∧iR p.L p.en (bX p) cond pat m n k2=RR∧p.L.length<m+k2∧k≤k2) (fun W=>p.L.length+1-placeOf p W)
  case atStart=>exact ⟨_,_,_,_,zN.out,fP.out,by omega,MO⟩
  case round=>
   obtain ⟨n,cs,k2,m,hat,XQ,hmk,gM⟩:=hrel
   obtain ⟨m',rfl⟩:∃m',m=m'+1:=⟨m-1,by have:=hat.at_.le;omega⟩
   have Pb:=aa hat
   have Vk:=aa XQ
   have hk2:=hat.at_.le
   obtain ⟨kd,a0,nm,vl,xa,xb,xc,xd,A,len,cap,rfl⟩:=hat.nd.nine
   have RH:=aa (PL.out k2 wr hat.at_)
   generalize hpl:dy p.L p.en k2=pl at RH
   have Dr:=aa hpl
   clear hpl hat XQ
   go_wp2_with fail
   refine RH.out.mono ?_
   rintro e W5 ⟨rfl,hb5⟩
   have uT:=aa (Pb.out.below aN hg hb5)
   clear hb5
   have GU:=aa (AC.out k2 [45,62] W5 uT.out.at_)
   cases hJ:bH p.L k2 [45,62] with
   |false=>
    rw [hJ] at GU
    have HE:=aa (show RR=.ok n k2 from by rw [←Vk.out];unfold iR;rw [if_neg (show¬bH p.L k2 om=true from by rw [show bH p.L k2 om=false from hJ];decide)])
    clear hJ
    go_wp2_with fail
    refine GU.out.mono ?_
    rintro e W6 ⟨rfl,h6,lW⟩
    have Dp:=aa (uT.out.keep aN hg (show bc p W6 k2 from h6) lW)
    clear h6 lW
    obtain ⟨vX,bS,hres,hrow,aB⟩:=Dp.out
    obtain ⟨z0,z1,z2,z3,z4,z5,z6,z7,z8⟩:=aj hrow
    obtain ⟨y0,y1,y2,y3,y4,y5,y6,y7,y8⟩:=aj hres
    obtain ⟨zu,zv,zw,zx,zy,zz,zA,zB,zC⟩:=aA hres
    have cN:=aa aB
    clear hrow aB
    go_wp2_with fail
    refine bodyPost_ret (v:=.agg #[.int .i64 kd,.int .i64 a0,.string (ae nm),.string (ae vl),.int .i64 xa,.int .i64 xb,.int .i64 xc,.int .i64 xd,.slice A len cap]) (ag rfl _ _ w.heap.size 25 _ _ _ rfl (av hres _ _ _ _ _ _ _ _ _) Tryz.underlying25 rfl (by kernel_rfl)) rfl ?_
    have hbl:=ak (W:=W6) (Nat.le_refl w.heap.size) (.int .i64 kd) (.int .i64 a0) (.string (ae nm)) (.string (ae vl)) (.int .i64 xa) (.int .i64 xb) (.int .i64 xc) (.int .i64 xd) (.slice A len cap)
    rw [HE.out]
    exact ⟨⟨_,rfl,_,rfl,(cN.out.keeps (ax (C:=fun b=>b≤w.heap.size∨b=w3.heap.size) (.inl (Nat.le_refl _)) _ _ _ _ _ _ _ _ _)).mono (fun b hb'=>.inl (Nat.le_of_lt hb'))⟩,H.out.above vX hbl,bS.over hbl⟩
   |true=>
    rw [hJ] at GU
    have Ln:=aa (show RR=(dP p (k2+1)).bind fun ab k3=>(cF p.L cond k3).bind fun l k4=>(fK p.L p.en (bX p) cond pat k4).bind fun x k5=>iR p.L p.en (bX p) cond pat m' (.mk 45 pl [] [] ab.1 ab.2 0 0 (n::x::l)) k5 from by
     rw [←Vk.out]
     conv=>lhs;unfold iR
     rw [if_pos (show bH p.L k2 om=true from hJ),vg,Dr.out])
    clear hJ
    go_wp2_with fail
    refine GU.out.mono ?_
    rintro e W6 ⟨rfl,h6,lW⟩
    have Co:=uT.out.keep aN hg h6 lW
    have zU:w3.heap.size≠W6.heap.size:=by have:=Co.row.lt;omega
    have jz:w.heap.size<W6.heap.size:=Co.res.lt
    generalize oA:W6.alloc (.cells (aw 45 pl [] [] 0 0 0 0 (.slice none 0 0)).toArray 25)=W7
    have UA:=aa (iv.new Co aN 45 pl oA.symm)
    have YJ:=aa (show W6.alloc (.cells #[.int .i64 45,.int .i64 pl,.string {data:=#[]},.string {data:=#[]},.int .i64 0,.int .i64 0,.int .i64 0,.int .i64 0,.slice none 0 0] 25)=W7 from oA)
    clear h6 lW Co oA
    have X1:=aa (DL.out (k2+1) W7 UA.out.at_)
    cases hD:dP p (k2+1) with
    |err a er=>
     rw [hD] at X1
     have HE:=aa (show RR=.err a er from by rw [Ln.out,show dP p (k2+1)=.err a er from hD];rfl)
     clear hD
     go_wp2_with fail
     rw [YJ.out]
     refine X1.out.mono ?_
     rintro e nE ⟨rfl,bK⟩
     go_wp2
     exact ⟨rfl,by rw [HE.out];exact ⟨rfl,UA.out.keeps.trans bK⟩⟩
    |ok cd k3=>
     rw [hD] at X1
     have qb:=aa (show RR=(cF p.L cond k3).bind fun l k4=>(fK p.L p.en (bX p) cond pat k4).bind fun x k5=>iR p.L p.en (bX p) cond pat m' (.mk 45 pl [] [] cd.1 cd.2 0 0 (n::x::l)) k5 from by rw [Ln.out,show dP p (k2+1)=.ok cd k3 from hD];rfl)
     have Cj:=DP.out _ _ _ hD
     clear hD Ln
     go_wp2_with fail
     rw [YJ.out]
     refine X1.out.mono ?_
     rintro e W8 ⟨⟨v,rfl,rfl⟩,P_,Np⟩
     have zV:=UA.out.keep aN hg jz P_ Np
     clear P_ Np
     obtain ⟨na,nb⟩:=cd
     have aba:W8.cell? ⟨W6.heap.size,4,none⟩=some (.int .i64 0):=zV.gy.cell 4
     have YK:=zV.gy.frozen 4
     have zW:=zV.uC H.out jz zU na
     generalize UB:W8.setCell ⟨W6.heap.size,4,none⟩ (.int .i64 na)=W9 at zW
     have ab_:W9.cell? ⟨W6.heap.size,5,none⟩=some (.int .i64 0):=zW.gy.cell 5
     have abw:=zW.gy.frozen 5
     have yf:=zW.sr H.out jz zU nb
     generalize YO:W9.setCell ⟨W6.heap.size,5,none⟩ (.int .i64 nb)=lO at yf
     have vZ:=aa yf
     clear zV zW yf
     have X2:=aa (WH.out k3 lO vZ.out.at_)
     cases hD:cF p.L cond k3 with
     |err a er=>
      rw [hD] at X2
      have HE:=aa (show RR=.err a er from by rw [qb.out,hD];rfl)
      clear hD
      go_wp2_with fail
      refine X2.out.mono ?_
      rintro e nE ⟨rfl,bK⟩
      go_wp2
      exact ⟨rfl,by rw [HE.out];exact ⟨rfl,vZ.out.keeps.trans bK⟩⟩
     |ok l k4=>
      rw [hD] at X2
      have O3:=aa (show RR=(fK p.L p.en (bX p) cond pat k4).bind fun x k5=>iR p.L p.en (bX p) cond pat m' (.mk 45 pl [] [] na nb 0 0 (n::x::l)) k5 from by rw [qb.out,hD];rfl)
      have eL:=WP.out _ _ _ hD
      clear hD qb
      go_wp2_with fail
      refine X2.out.mono ?_
      rintro e vP ⟨⟨v,rfl,hv⟩,h11,YP⟩
      have pX:=aa (vZ.out.keep aN hg jz h11 YP)
      have HV:=aa hv
      have YQ:w.heap.size<lO.heap.size∧w3.heap.size<lO.heap.size∧W6.heap.size<lO.heap.size:=⟨vZ.out.res.lt,vZ.out.fJ.lt,vZ.out.gy.lt⟩
      clear h11 YP hv UB YO
      obtain ⟨d0,d1,d2,d3,d4,d5,d6,d7,d8⟩:=aj pX.out.fJ
      have CX:=aa (EL.out k4 vP.drew (by omega) (pX.out.at_.below ((Below.refl _ vP).drew)))
      go_wp2_with fail
      cases hy:fK p.L p.en (bX p) cond pat k4 with
      |err a er=>
       rw [hy] at CX
       have sQ:=aa (fun (W:World) (hk:af (fun c=>c=p.b) vP.drew W)=>show bO p w (nh w.heap.size) RR (.panicked [{v:=kE a er,recovered:=false}]) W from by
        rw [O3.out,hy];exact ⟨rfl,(pX.out.keeps.drew).trans hk⟩)
       clear hy
       refine wp_region_any (by kernel_rfl) ?_
       change wpAny _ _ _ _ _ _ _ (World.drew _)
       refine wpAny_take (i:=1) (v:=?_) rfl (by kernel_rfl) (by kernel_rfl) (by kernel_rfl) (fun _ _ _ h=>h) (Or.inl ⟨by rfl,?_⟩) ?_
       rotate_left
       ·intro w;go_simp;with_reducible rfl
       refine wpAny_take (i:=4) (v:=?_) rfl (by kernel_rfl) (by kernel_rfl) (by kernel_rfl) (fun _ _ _ h=>h) (Or.inl ⟨by rfl,?_⟩) ?_
       rotate_left
       ·intro w;go_simp;with_reducible rfl
       refine wpAny_ready (rs:=[0,2]) (by kernel_rfl) (by simp) ?_
       refine AllReady.cons rfl (fun K hK=>?_) (AllReady.cons rfl (fun K hK=>?_) AllReady.nil)
       ·go_simp
        refine hK _ _ ?_
        clear hK K
        refine wpAny_ready (rs:=[2]) (by kernel_rfl) (by simp) ?_
        refine AllReady.cons rfl (fun K hK=>?_) AllReady.nil
        go_simp
        refine CX.out.mono ?_
        rintro e w5 ⟨rfl,hk5⟩
        exact ⟨rfl,sQ.out _ hk5⟩
       ·go_simp
        refine CX.out.mono ?_
        rintro e w5 ⟨rfl,hk5⟩
        exact ⟨rfl,sQ.out _ hk5⟩
      |ok x k5=>
       rw [hy] at CX
       have ab':=EP.out _ _ _ hy
       have QY:=aa (show iR p.L p.en (bX p) cond pat m' (.mk 45 pl [] [] na nb 0 0 (n::x::l)) k5=RR from by rw [O3.out,hy];rfl)
       clear hy O3
       refine wp_region_any (by kernel_rfl) ?_
       change wpAny _ _ _ _ _ _ _ (World.drew _)
       refine wpAny_take (i:=1) (v:=?_) rfl (by kernel_rfl) (by kernel_rfl) (by kernel_rfl) (fun _ _ _ h=>h) (Or.inl ⟨by rfl,?_⟩) ?_
       rotate_left
       ·intro w;go_simp;with_reducible rfl
       refine wpAny_take (i:=4) (v:=?_) rfl (by kernel_rfl) (by kernel_rfl) (by kernel_rfl) (fun _ _ _ h=>h) (Or.inl ⟨by rfl,?_⟩) ?_
       rotate_left
       ·intro w;go_simp;with_reducible rfl
       refine wpAny_ready (rs:=[0,2]) (by kernel_rfl) (by simp) ?_
       refine AllReady.cons rfl (fun K hK=>?_) (AllReady.cons rfl (fun K hK=>?_) AllReady.nil)
       ·go_simp
        refine hK _ _ ?_
        clear hK K
        refine wpAny_ready (rs:=[2]) (by kernel_rfl) (by simp) ?_
        refine AllReady.cons rfl (fun K hK=>?_) AllReady.nil
        go_simp
        refine CX.out.mono ?_
        rintro e Y ⟨⟨vx,rfl,ou,rfl,gO⟩,hY,fg⟩
        refine hK _ _ ?_
        clear hK K
        have nM:af (fun c=>c=p.b) vP Y:=⟨fg.os,fg.tape,fg.output,fg.size,fg.block⟩
        obtain ⟨yk,y0,yn,yv,ya,yb,yc,yd,yA,dW,dp,rfl⟩:=gO.nine
        have kX:=gO
        unfold aw
        refine wpAny_ready (rs:=[3]) (by kernel_rfl) (by simp) ?_
        refine AllReady.cons rfl (fun K hK=>?_) AllReady.nil
        go_simp
        refine hK _ _ ?_
        clear hK K
        generalize CR:World.alloc Y _=Ya
        obtain ⟨eY,kY,vY⟩:=GX aN hg jz pX.out HV.out YQ hY nM kX CR.symm
        have r3:=eY.fJ
        obtain ⟨kq,ck,Yb,cZ,m8,sX,tT,QV,hgr⟩:=rY (C:=fun b=>(b≤w.heap.size∨b=W6.heap.size)∨b=w3.heap.size) (fun b hb=>.inl hb) (fun b hb=>by
         have e1:=eY.res.lt
         have e2:=eY.fJ.lt
         have e3:=eY.gy.lt
         rcases hb with (hb|rfl)|rfl<;>omega) H.out jz eY.at_ eY.keeps eY.res eY.gy kY (by decide) vY
        have JR:=(r3.grown hgr (fun e=>kY.not (.inr (Option.some.inj e).symm))).off zU 8 (.slice (some ⟨kq,0,none⟩) (n::x::l).length ck)
        have cB:(Builtin.append_ #[23,23] 23 #[.slice (some ⟨Y.heap.size,0,none⟩) 2 2,v]).run Tryz.prog Ya=.ok (.slice (some ⟨kq,0,none⟩) (n::x::l).length ck) Yb:=cZ
        have jx:bR p w W6.heap.size (Yb.setCell ⟨W6.heap.size,8,none⟩ (.slice (some ⟨kq,0,none⟩) (n::x::l).length ck)) (.mk 45 pl [] [] na nb 0 0 (n::x::l)) (aw 45 pl [] [] na nb 0 0 (.slice (some ⟨kq,0,none⟩) (n::x::l).length ck)) k5:=tT
        have Fw:cG (fun b=>(b≤w.heap.size∨b=W6.heap.size)∨b=w3.heap.size) (Yb.setCell ⟨W6.heap.size,8,none⟩ (.slice (some ⟨kq,0,none⟩) (n::x::l).length ck)) (.mk 45 pl [] [] na nb 0 0 (n::x::l)) (aw 45 pl [] [] na nb 0 0 (.slice (some ⟨kq,0,none⟩) (n::x::l).length ck)):=QV
        generalize Kj:Yb.setCell ⟨W6.heap.size,8,none⟩ (.slice (some ⟨kq,0,none⟩) (n::x::l).length ck)=Yc at jx Fw JR
        have qa:=aa JR
        have Dt:=aa jx
        have YR:=aa (GY (A':=0) H.out hg jx JR rfl Fw)
        have r5:=jx.row
        obtain ⟨z0,z1,z2,z3,z4,z5,z6,z7,z8⟩:=aj r5
        obtain ⟨o0,o1,o2,o3,o4,o5,o6,o7,o8⟩:=aj JR
        obtain ⟨fo0,fo1,fo2,fo3,fo4,fo5,fo6,fo7,fo8⟩:=aA JR
        clear cZ tT jx QV Fw eY kY vY r3 JR r5 hgr hY nM fg CR gO kX
        generalize hlen:(n::x::l).length=Qy at*
        refine wpAny_ready (rs:=[5]) (by kernel_rfl) (by simp) ?_
        refine AllReady.cons rfl (fun K hK=>?_) AllReady.nil
        refine bp (by kernel_rfl) (.tmp 29) (.tmp 30) 23 rfl rfl rfl cB ?_
        refine hK _ _ ?_
        clear hK K cB
        refine wpAny_ready (rs:=[6]) (by kernel_rfl) (by simp) ?_
        refine AllReady.cons rfl (fun K hK=>?_) AllReady.nil
        go_simp
        refine hK _ _ ?_
        clear hK K
        refine wpAny_ready (rs:=[7]) (by kernel_rfl) (by simp) ?_
        refine AllReady.cons rfl (fun K hK=>?_) AllReady.nil
        go_simp
        refine hK _ _ ?_
        clear hK K
        refine wpAny_done (by kernel_rfl) ?_ _
        clear m8 sX Kj
        go_wp2
        go_roundw
        case rel=>exact ⟨_,_,k5,m',YR.out,QY.out,by omega,by omega⟩
        case measure=>exact Nat.lt_of_le_of_lt (Nat.le_of_eq (congrArg (fun z=>p.L.length+1-z) (bU YR.out.at_))) (by rw [bU Pb.out.at_];omega)
       ·go_simp
        refine CX.out.mono ?_
        rintro e Y ⟨⟨vx,rfl,ou,rfl,gO⟩,hY,fg⟩
        refine hK _ _ ?_
        clear hK K
        have nM:af (fun c=>c=p.b) vP Y:=⟨fg.os,fg.tape,fg.output,fg.size,fg.block⟩
        obtain ⟨yk,y0,yn,yv,ya,yb,yc,yd,yA,dW,dp,rfl⟩:=gO.nine
        have kX:=gO
        unfold aw
        have c0:Y.cell? ⟨w3.heap.size,0,none⟩=some (.int .i64 kd):=(pX.out.keep aN hg jz hY nM).fJ.cell 0
        have c1:Y.cell? ⟨w3.heap.size,1,none⟩=some (.int .i64 a0):=(pX.out.keep aN hg jz hY nM).fJ.cell 1
        have c2:Y.cell? ⟨w3.heap.size,2,none⟩=some (.string (ae nm)):=(pX.out.keep aN hg jz hY nM).fJ.cell 2
        have c3:Y.cell? ⟨w3.heap.size,3,none⟩=some (.string (ae vl)):=(pX.out.keep aN hg jz hY nM).fJ.cell 3
        have c4:Y.cell? ⟨w3.heap.size,4,none⟩=some (.int .i64 xa):=(pX.out.keep aN hg jz hY nM).fJ.cell 4
        have c5:Y.cell? ⟨w3.heap.size,5,none⟩=some (.int .i64 xb):=(pX.out.keep aN hg jz hY nM).fJ.cell 5
        have c6:Y.cell? ⟨w3.heap.size,6,none⟩=some (.int .i64 xc):=(pX.out.keep aN hg jz hY nM).fJ.cell 6
        have c7:Y.cell? ⟨w3.heap.size,7,none⟩=some (.int .i64 xd):=(pX.out.keep aN hg jz hY nM).fJ.cell 7
        have c8:Y.cell? ⟨w3.heap.size,8,none⟩=some (.slice A len cap):=(pX.out.keep aN hg jz hY nM).fJ.cell 8
        refine wpAny_ready (rs:=[0]) (by kernel_rfl) (by simp) ?_
        refine AllReady.cons rfl (fun K hK=>?_) AllReady.nil
        go_simp
        refine hK _ _ ?_
        clear hK K
        refine wpAny_ready (rs:=[3]) (by kernel_rfl) (by simp) ?_
        refine AllReady.cons rfl (fun K hK=>?_) AllReady.nil
        go_simp
        refine hK _ _ ?_
        clear hK K
        generalize CR:World.alloc Y _=Ya
        obtain ⟨eY,kY,vY⟩:=GX aN hg jz pX.out HV.out YQ hY nM kX CR.symm
        have r3:=eY.fJ
        obtain ⟨kq,ck,Yb,cZ,m8,sX,tT,QV,hgr⟩:=rY (C:=fun b=>(b≤w.heap.size∨b=W6.heap.size)∨b=w3.heap.size) (fun b hb=>.inl hb) (fun b hb=>by
         have e1:=eY.res.lt
         have e2:=eY.fJ.lt
         have e3:=eY.gy.lt
         rcases hb with (hb|rfl)|rfl<;>omega) H.out jz eY.at_ eY.keeps eY.res eY.gy kY (by decide) vY
        have JR:=(r3.grown hgr (fun e=>kY.not (.inr (Option.some.inj e).symm))).off zU 8 (.slice (some ⟨kq,0,none⟩) (n::x::l).length ck)
        have cB:(Builtin.append_ #[23,23] 23 #[.slice (some ⟨Y.heap.size,0,none⟩) 2 2,v]).run Tryz.prog Ya=.ok (.slice (some ⟨kq,0,none⟩) (n::x::l).length ck) Yb:=cZ
        have jx:bR p w W6.heap.size (Yb.setCell ⟨W6.heap.size,8,none⟩ (.slice (some ⟨kq,0,none⟩) (n::x::l).length ck)) (.mk 45 pl [] [] na nb 0 0 (n::x::l)) (aw 45 pl [] [] na nb 0 0 (.slice (some ⟨kq,0,none⟩) (n::x::l).length ck)) k5:=tT
        have Fw:cG (fun b=>(b≤w.heap.size∨b=W6.heap.size)∨b=w3.heap.size) (Yb.setCell ⟨W6.heap.size,8,none⟩ (.slice (some ⟨kq,0,none⟩) (n::x::l).length ck)) (.mk 45 pl [] [] na nb 0 0 (n::x::l)) (aw 45 pl [] [] na nb 0 0 (.slice (some ⟨kq,0,none⟩) (n::x::l).length ck)):=QV
        generalize Kj:Yb.setCell ⟨W6.heap.size,8,none⟩ (.slice (some ⟨kq,0,none⟩) (n::x::l).length ck)=Yc at jx Fw JR
        have qa:=aa JR
        have Dt:=aa jx
        have YR:=aa (GY (A':=0) H.out hg jx JR rfl Fw)
        have r5:=jx.row
        obtain ⟨z0,z1,z2,z3,z4,z5,z6,z7,z8⟩:=aj r5
        obtain ⟨o0,o1,o2,o3,o4,o5,o6,o7,o8⟩:=aj JR
        obtain ⟨fo0,fo1,fo2,fo3,fo4,fo5,fo6,fo7,fo8⟩:=aA JR
        clear cZ tT jx QV Fw eY kY vY r3 JR r5 hgr hY nM fg CR gO kX
        generalize hlen:(n::x::l).length=Qy at*
        refine wpAny_ready (rs:=[5]) (by kernel_rfl) (by simp) ?_
        refine AllReady.cons rfl (fun K hK=>?_) AllReady.nil
        refine bp (by kernel_rfl) (.tmp 29) (.tmp 30) 23 rfl rfl rfl cB ?_
        refine hK _ _ ?_
        clear hK K cB
        refine wpAny_ready (rs:=[6]) (by kernel_rfl) (by simp) ?_
        refine AllReady.cons rfl (fun K hK=>?_) AllReady.nil
        go_simp
        refine hK _ _ ?_
        clear hK K
        refine wpAny_ready (rs:=[7]) (by kernel_rfl) (by simp) ?_
        refine AllReady.cons rfl (fun K hK=>?_) AllReady.nil
        go_simp
        refine hK _ _ ?_
        clear hK K
        refine wpAny_done (by kernel_rfl) ?_ _
        clear m8 sX Kj
        go_wp2
        go_roundw
        case rel=>exact ⟨_,_,k5,m',YR.out,QY.out,by omega,by omega⟩
        case measure=>exact Nat.lt_of_le_of_lt (Nat.le_of_eq (congrArg (fun z=>p.L.length+1-z) (bU YR.out.at_))) (by rw [bU Pb.out.at_];omega)
end Go.Proofs.YtddoehnkgcbboaaGreatDoor
namespace Go.Proofs.YtddoehnkgcbboaaGreatDoor
open Go.RowKit Go.Shelf
theorem Prog.then {α β:Type} {f:Nat→PR α} {g:α→Nat→PR β} {k:Nat} (hf:Prog f) (hg:∀x,Prog (g x)) (j:Nat) (hj:j≤k):∀x k',(f k).bind g=.ok x k'→j≤k':=by
 intro x k' h
 cases hx:f k with
 |err a e=>rw [hx] at h;cases h
 |ok y k1=>
  rw [hx] at h
  have h1:=hf _ _ _ hx
  have h2:=hg y _ _ _ h
  omega
theorem Prog.seq {α β:Type} {f:Nat→PR α} {g:α→Nat→PR β} (hf:Prog f) (hg:∀x,Prog (g x)):Prog fun k=>(f k).bind g:=fun k x k' h=>Prog.then hf hg k (Nat.le_refl _) x k' h
theorem Prog.ok {α:Type} (x:α):Prog (fun k=>PR.ok x k):=fun k y k' h=>by cases h;exact Nat.le_refl _
theorem Prog.exp {L:List Lx} {en:Int} (wd:List UInt8):Prog (fun k=>ah L en k wd):=fun k x k' h=>Fh h
theorem Prog.num {L:List Lx} {en:Int} (most:Int):Prog (fun k=>eC L en k most):=fun k x k' h=>by
 simp only [eC] at h
 split at h
 ·split at h
  ·cases h
  ·cases h;exact Nat.le_succ _
 ·cases h
theorem Prog.time {L:List Lx} {en:Int} {rd:List UInt8→Int×Int}:Prog (fun k=>aP L en rd k):=fun k x k' h=>by
 simp only [aP] at h
 split at h
 ·split at h
  ·cases h;exact Nat.le_succ _
  ·cases h
 ·exact Prog.num 1099511627776 k x k' h
theorem Prog.succ {α:Type} {f:Nat→PR α} (hf:Prog f):Prog (fun k=>f (k+1)):=fun k x k' h=>by
 have:=hf _ _ _ h
 omega
theorem CV (p:PS):Prog (dP p):=
 Prog.seq (Prog.exp _) fun _=>Prog.seq Prog.time fun a=>Prog.seq (Prog.exp _) fun _=>Prog.seq Prog.time fun b=>Prog.seq (Prog.exp _) fun _=>Prog.ok _
theorem CY (p:PS) (mA:sq p):∀F:Nat,bQ p 25 (nC p.L p.en (bX p) F) F
 |0=>.zero
 |F+1=>BJ p (F+1) _ (zX p mA F _ (CY p mA F) (lG gQ (kO F)) (jT gQ) (CV p)) (qR gQ (kO F))
theorem Nt (p:PS) (mA:sq p) (k:Nat) (W:World) (h:bc p W k):Calls Tryz.prog 25 #[.pointer (some ⟨p.b,0,none⟩)] W (bO p W (nh W.heap.size) (IW p.L p.en (bX p) k)):=
 CY p mA (p.L.length+1) k W (by omega) h
structure ep (W:World) (r:Nat) (cs:Array Value) (a er:Int):Prop where
 nd:Row W r 25 cs
 at_:Row W (r+1) 3 #[.int .i64 a]
 er:Row W (r+1+1) 26 #[.int .i64 er]
theorem ep.keep {W W':World} {r:Nat} {cs:Array Value} {a er:Int} (h:ep W r cs a er) {C:Nat→Prop} (hk:af C W W') (h0:¬C r) (h1:¬C (r+1)) (h2:¬C (r+1+1)):ep W' r cs a er:=
 ⟨h.nd.keep hk h0,h.at_.keep hk h1,h.er.keep hk h2⟩
def Fx (r:Nat):Nat→Prop:=fun b=>b=r∨b=r+1∨b=r+1+1
theorem v_ (r:Nat) (a er x y:Int) (v0 v1 v2 v3 v4 v5 v6 v7 v8:Value) (RQ:List PanicEntry) (w:World) (h:ep w r #[v0,v1,v2,v3,v4,v5,v6,v7,v8] x y):
 CallsD Tryz.prog 31 #[.pointer (some ⟨r,0,none⟩),.pointer (some ⟨r+1,0,none⟩),.pointer (some ⟨r+1+1,0,none⟩)] (.panicking ({v:=kE a er,recovered:=false}::RQ)) w fun e u' w'=>
  e=.returned (.tuple #[])∧u'=.panicking ({v:=kE a er,recovered:=true}::RQ)∧ep w' r bJ a er∧af (Fx r) w w':=by
 obtain ⟨c0,c1,c2,c3,c4,c5,c6,c7,c8⟩:=aj h.nd
 have ca:w.cell? ⟨r+1,0,none⟩=some (.int .i64 x):=h.at_.cell 0
 have ce:w.cell? ⟨r+1+1,0,none⟩=some (.int .i64 y):=h.er.cell 0
 obtain ⟨f0,f1,f2,f3,f4,f5,f6,f7,f8⟩:=aA h.nd
 have fa:=h.at_.frozen 0
 have fe:=h.er.frozen 0
 have hz0:r<w.heap.size:=h.nd.lt
 have hz1:r+1<w.heap.size:=h.at_.lt
 have hz2:r+1+1<w.heap.size:=h.er.lt
 have H:=aa h
 clear h
 refine callsD_of_wpS Tryz.func31 rfl fun c₀ cs hu=>?_
 apply wpS_seq
 apply wpS_region
 unfold kE at hu⊢
 have ZK:∀(v:Value) (W:World),(Instr.typeAssert (.iface 58 v) 20 58 true).run Tryz.prog W=.ok (.tuple #[v,.bool true]) W:=fun v W=>by kernel_rfl
 simp [wpOpsS,go_sem,recoverD,hu,Tryz.ntmps31,Exit.thenS]
 refine wpS_of_wp ?_
 simp only [List.size_toArray,List.length_cons,List.length_nil,Nat.reduceAdd,Nat.reduceSub,Array.replicate_succ,Array.replicate_zero,List.push_toArray,List.append_toArray,List.nil_append,List.cons_append,List.setIfInBounds_toArray,List.set_cons_zero,List.set_cons_succ]
 go_wp2_with fail
 go_region
 go_wp2
 have k9:=av H.out.nd (.int .i64 0) (.int .i64 0) (.string {data:=#[]}) (.string {data:=#[]}) (.int .i64 0) (.int .i64 0) (.int .i64 0) (.int .i64 0) (.slice none 0 0)
 have q9:=ax (C:=fun b=>b=r) (W:=w) (g:=r) rfl (.int .i64 0) (.int .i64 0) (.string {data:=#[]}) (.string {data:=#[]}) (.int .i64 0) (.int .i64 0) (.int .i64 0) (.int .i64 0) (.slice none 0 0)
 have q8:=ax (C:=Fx r) (W:=w) (g:=r) (.inl rfl) (.int .i64 0) (.int .i64 0) (.string {data:=#[]}) (.string {data:=#[]}) (.int .i64 0) (.int .i64 0) (.int .i64 0) (.int .i64 0) (.slice none 0 0)
 refine ⟨rfl,_,rfl,.tuple #[],results_none rfl _ _ _,rfl,rfl,⟨?_,?_,?_⟩,?_⟩
 ·exact (((k9.off (by omega) 0 _).off (by omega) 0 _).alloc _).drew
 ·exact ((((H.out.at_.keep q9 (by show¬r+1=r;omega)).bg 0 (.int .i64 a)).off (by omega) 0 _).alloc _).drew
 ·exact ((((H.out.er.keep q9 (by show¬r+1+1=r;omega)).off (by omega) 0 _).bg 0 (.int .i64 er)).alloc _).drew
 ·exact (((q8.set (.inl (.inr (.inl rfl))) 0 _).set (.inl (.inr (.inr rfl))) 0 _).alloc _).drew
theorem Fy (p q s:Value) (w:World):
 CallsD Tryz.prog 31 #[p,q,s] .returning w fun e u' w'=>e=.returned (.tuple #[])∧u'=.returning∧w'=w:=by
 refine callsD_of_wpS Tryz.func31 rfl fun c₀ cs hu=>?_
 apply wpS_seq
 apply wpS_region
 simp [wpOpsS,go_sem,recoverD,hu,Tryz.ntmps31,Exit.thenS]
 refine wpS_of_wp ?_
 simp only [List.size_toArray,List.length_cons,List.length_nil,Nat.reduceAdd,Nat.reduceSub,Array.replicate_succ,Array.replicate_zero,List.push_toArray,List.append_toArray,List.nil_append,List.cons_append,List.setIfInBounds_toArray,List.set_cons_zero,List.set_cons_succ]
 go_wp2
 exact ⟨rfl,.returning,by rw [←hu],.tuple #[],results_none rfl _ _ _,rfl,rfl,rfl⟩
def mO (R:List Lx→Int→(List UInt8→Int×Int)→Nat→PR Nd) (t:List UInt8) (ok:Bool) (rd:List UInt8→Int×Int):Nd×Int×Int:=
 if ok then (if (eo t).2.2=0 then EG (eo t).1 (t.length:Int) (R (eo t).1 (t.length:Int) rd 0) else (jy,((eo t).2.1:Int),(eo t).2.2)) else (jy,0,1)
theorem CZ (t:List UInt8) (ok:Bool) (rd:List UInt8→Int×Int):lu false t ok rd=mO cM t ok rd:=rfl
theorem Fz (t:List UInt8) (ok:Bool) (rd:List UInt8→Int×Int):lu true t ok rd=mO IW t ok rd:=rfl
def lH (R:Nd×Int×Int) (w:World) (e:Ending) (w':World):Prop:=
 (∃cs:List Value,e=.returned (.tuple #[.agg cs.toArray,.int .i64 R.2.1,.int .i64 R.2.2])∧cG (fun b=>b<w.heap.size) w' R.1 cs∧aS R.1≤513)∧Below w.heap.size w w'
theorem Nu {W:World} {base:Nat} {v:Value} {out:List Lx} (h:W.ownsRow base 66 3 v out.length (dK out)):
 ∃A cap,v=.slice A out.length cap∧pC W A out∧∀a,A=some a→base≤a.block∧a.block<W.heap.size:=by
 obtain ⟨A,cap,rfl,hs⟩:=Lp h
 refine ⟨A,cap,rfl,hs,fun a ha=>?_⟩
 subst ha
 rcases id h.2 with ⟨h1,_⟩|⟨g,c,cs,h1,h0,h2,_⟩
 ·cases h1
 ·cases h1
  exact ⟨h0,(Array.getElem?_eq_some_iff.1 h2).1⟩
theorem bc.YS {p:PS} {C:Nat→Prop} {W W':World} {k:Nat} (h:bc p W k) (hk:af C W W') (hb:¬C p.b) (hA:∀a,p.A=some a→¬C a.block) (hg:¬C 3∧¬C 2):bc p W' k:=by
 refine ⟨h.row.keep hk hb,fun hp=>?_,h.ne,h.le,h.small,h.gl.keep (fun c hz he=>hk.block c hz (by rcases he with rfl|rfl;exact hg.1;exact hg.2)),h.gb,h.good⟩
 obtain ⟨bl,off,YT,hat⟩:=h.lx hp
 have hf:∀o v,W.cell? ⟨bl,o,none⟩=some v→W'.cell? ⟨bl,o,none⟩=some v:=fun o v hv=>(hk.cell (p:=⟨bl,o,none⟩) (World.block_lt_of_cell? W _ hv) (show¬C bl from hA _ YT)).trans hv
 exact ⟨bl,off,YT,fun i hi=>⟨hf _ _ (hat i hi).1,hf _ _ (hat i hi).2.1,hf _ _ (hat i hi).2.2⟩⟩
theorem jb {W:World} {r:Nat} {cs:Array Value} {a er:Int} (h:ep W r cs a er) (hz:cs.size=9) (tmps:Array Value) (h6:tmps.getD 6 undef=.pointer (some ⟨r,0,none⟩)) (h7:tmps.getD 7 undef=.pointer (some ⟨r+1,0,none⟩)) (h8:tmps.getD 8 undef=.pointer (some ⟨r+1+1,0,none⟩)):
 (results Tryz.f16 tmps).run Tryz.prog W=.ok (.tuple #[.agg cs,.int .i64 a,.int .i64 er]) W:=
 gX rfl tmps W _ _ _ _ _ _ h6 h7 h8 (run_loadVar_row W r _ 25 cs _ _ h.nd Tryz.underlying25 rfl (by rw [hz];kernel_rfl)) (bf W _ 3 _ _ (h.at_.cell 0) Tryz.underlying3 rfl) (bf W _ 26 _ _ (h.er.cell 0) Tryz.underlying26 rfl)
theorem C_ (w:World) (a er:Int):ep (((w.alloc (.cells bJ 25)).alloc (.cells #[.int .i64 a] 3)).alloc (.cells #[.int .i64 er] 26)) w.heap.size bJ a er:=by
 have r2:=Row.new (w.alloc (.cells bJ 25)) 3 #[.int .i64 a]
 have r3:=Row.new ((w.alloc (.cells bJ 25)).alloc (.cells #[.int .i64 a] 3)) 26 #[.int .i64 er]
 simp only [World.size_alloc] at r2 r3
 exact ⟨((Row.new w 25 bJ).alloc _).alloc _,r2.alloc _,r3⟩
theorem vh (w:World) (a er:Int):Below w.heap.size w (((w.alloc (.cells bJ 25)).alloc (.cells #[.int .i64 a] 3)).alloc (.cells #[.int .i64 er] 26)):=
 (((Below.refl _ w).alloc (Nat.le_refl _) _).alloc (by simp) _).alloc (by simp;omega) _
theorem kV (C:Nat→Prop) (W:World):cG C W jy bJ.toList:=cG.leaf C W 0 0 [] [] 0 0 0 0 none 0
theorem ep.Iz {W:World} {r:Nat} {cs:Array Value} {a er:Int} (h:ep W r cs a er) (a' YU:Int):ep ((W.setCell ⟨r+1,0,none⟩ (.int .i64 a')).setCell ⟨r+1+1,0,none⟩ (.int .i64 YU)) r cs a' YU:=
 ⟨(h.nd.off (by omega) _ _).off (by omega) _ _,(h.at_.bg 0 (.int .i64 a')).off (by omega) _ _,(h.er.off (by omega) _ _).bg 0 (.int .i64 YU)⟩
theorem ep.low {w W:World} {r:Nat} (h:Below r w W) (x y:Value):Below r w ((W.setCell ⟨r+1,0,none⟩ x).setCell ⟨r+1+1,0,none⟩ y):=
 (h.setCell (p:=⟨r+1,0,none⟩) (by show r≤r+1;omega) x).setCell (p:=⟨r+1+1,0,none⟩) (by show r≤r+1+1;omega) y
theorem ep.drew {W:World} {r:Nat} {cs:Array Value} {a er:Int} (h:ep W r cs a er):ep W.drew r cs a er:=⟨h.nd,h.at_,h.er⟩
theorem ep.under {W W':World} {r:Nat} {cs:Array Value} {a er:Int} (h:ep W r cs a er) (hb:Below W.heap.size W W'):ep W' r cs a er:=h.keep (C:=fun _=>False) (af.of_below hb (Nat.le_refl _)) id id id
theorem ep.Qz {W:World} {r:Nat} {x0 x1 x2 x3 x4 x5 x6 x7 x8:Value} {a er:Int} (h:ep W r #[x0,x1,x2,x3,x4,x5,x6,x7,x8] a er) (a0 a1 a2 a3 a4 a5 a6 a7 a8:Value):ep (iP W r a0 a1 a2 a3 a4 a5 a6 a7 a8) r #[a0,a1,a2,a3,a4,a5,a6,a7,a8] a er:=by
 have q9:=ax (C:=fun b=>b=r) (W:=W) (g:=r) rfl a0 a1 a2 a3 a4 a5 a6 a7 a8
 exact ⟨av h.nd _ _ _ _ _ _ _ _ _,h.at_.keep q9 (by show¬r+1=r;omega),h.er.keep q9 (by show¬r+1+1=r;omega)⟩
structure abe (W:World) (r:Nat) (x0 x1 x2 x3 x4 x5 x6 x7 x8:Value) (a er:Int):Prop where
 c0:W.cell? ⟨r,0,none⟩=some x0
 c1:W.cell? ⟨r,1,none⟩=some x1
 c2:W.cell? ⟨r,2,none⟩=some x2
 c3:W.cell? ⟨r,3,none⟩=some x3
 c4:W.cell? ⟨r,4,none⟩=some x4
 c5:W.cell? ⟨r,5,none⟩=some x5
 c6:W.cell? ⟨r,6,none⟩=some x6
 c7:W.cell? ⟨r,7,none⟩=some x7
 c8:W.cell? ⟨r,8,none⟩=some x8
 ca:W.cell? ⟨r+1,0,none⟩=some (.int .i64 a)
 ce:W.cell? ⟨r+1+1,0,none⟩=some (.int .i64 er)
 f0:W.frozen? ⟨r,0,none⟩=false
 f1:W.frozen? ⟨r,1,none⟩=false
 f2:W.frozen? ⟨r,2,none⟩=false
 f3:W.frozen? ⟨r,3,none⟩=false
 f4:W.frozen? ⟨r,4,none⟩=false
 f5:W.frozen? ⟨r,5,none⟩=false
 f6:W.frozen? ⟨r,6,none⟩=false
 f7:W.frozen? ⟨r,7,none⟩=false
 f8:W.frozen? ⟨r,8,none⟩=false
 fa:W.frozen? ⟨r+1,0,none⟩=false
 fe:W.frozen? ⟨r+1+1,0,none⟩=false
theorem ep.facts {W:World} {r:Nat} {x0 x1 x2 x3 x4 x5 x6 x7 x8:Value} {a er:Int} (h:ep W r #[x0,x1,x2,x3,x4,x5,x6,x7,x8] a er):abe W r x0 x1 x2 x3 x4 x5 x6 x7 x8 a er:=
 ⟨h.nd.cell 0,h.nd.cell 1,h.nd.cell 2,h.nd.cell 3,h.nd.cell 4,h.nd.cell 5,h.nd.cell 6,h.nd.cell 7,h.nd.cell 8,h.at_.cell 0,h.er.cell 0,h.nd.frozen 0,h.nd.frozen 1,h.nd.frozen 2,h.nd.frozen 3,h.nd.frozen 4,h.nd.frozen 5,h.nd.frozen 6,h.nd.frozen 7,h.nd.frozen 8,h.at_.frozen 0,h.er.frozen 0⟩
abbrev Nv (r:Nat):Deferred:={target:=.fn (.func 31) #[.pointer (some ⟨r,0,none⟩),.pointer (some ⟨r+1,0,none⟩),.pointer (some ⟨r+1+1,0,none⟩)],args:=#[]}
theorem pY {w w4:World} {PP:Nd×Int×Int} {a er x y:Int} {v0 v1 v2 v3 v4 v5 v6 v7 v8:Value} {tmps:Array Value} (h:ep w4 w.heap.size #[v0,v1,v2,v3,v4,v5,v6,v7,v8] x y) (hb:Below w.heap.size w w4) (hP:PP=(jy,a,er))
 (h6:tmps.getD 6 undef=.pointer (some ⟨w.heap.size,0,none⟩)) (h7:tmps.getD 7 undef=.pointer (some ⟨w.heap.size+1,0,none⟩)) (h8:tmps.getD 8 undef=.pointer (some ⟨w.heap.size+1+1,0,none⟩)):
 Leaves Tryz.prog Tryz.f16 tmps (lH PP w) [Nv w.heap.size] (.panicking [{v:=kE a er,recovered:=false}]) w4:=by
 refine leaves_cons (f:=31) (args:=#[.pointer (some ⟨w.heap.size,0,none⟩),.pointer (some ⟨w.heap.size+1,0,none⟩),.pointer (some ⟨w.heap.size+1+1,0,none⟩)]) (by simp) (by simp [go_sem]) ?_
 refine (v_ w.heap.size a er x y _ _ _ _ _ _ _ _ _ [] w4 h).mono ?_
 rintro e u' w5 ⟨rfl,rfl,h5,hk5⟩
 refine ⟨_,jb h5 rfl tmps h6 h7 h8,?_⟩
 rw [hP]
 exact ⟨⟨bJ.toList,rfl,kV _ _,show aS jy≤513 by decide⟩,hb.trans (hk5.below (fun b hb=>by unfold Fx at hb;omega) hb.size)⟩
theorem vk {w w4:World} {PP:Nd×Int×Int} {n:Nd} {cs:List Value} {a er:Int} {tmps:Array Value} (h:ep w4 w.heap.size cs.toArray a er) (hb:Below w.heap.size w w4) (hP:PP=(n,a,er)) (hn:cG (fun b=>b<w.heap.size) w4 n cs) (hc:aS n≤513)
 (h6:tmps.getD 6 undef=.pointer (some ⟨w.heap.size,0,none⟩)) (h7:tmps.getD 7 undef=.pointer (some ⟨w.heap.size+1,0,none⟩)) (h8:tmps.getD 8 undef=.pointer (some ⟨w.heap.size+1+1,0,none⟩)):
 Leaves Tryz.prog Tryz.f16 tmps (lH PP w) [Nv w.heap.size] .returning w4:=by
 refine leaves_cons (f:=31) (args:=#[.pointer (some ⟨w.heap.size,0,none⟩),.pointer (some ⟨w.heap.size+1,0,none⟩),.pointer (some ⟨w.heap.size+1+1,0,none⟩)]) (by simp) (by simp [go_sem]) ?_
 refine (Fy _ _ _ w4).mono ?_
 rintro e u' w5 ⟨rfl,rfl,rfl⟩
 refine ⟨_,jb h (by have:=hn.len;simpa using this) tmps h6 h7 h8,?_⟩
 rw [hP]
 exact ⟨⟨cs,rfl,hn,hc⟩,hb⟩
section
variable (NZ : FuncId) (R : List Lx → Int → (List UInt8 → Int × Int) → Nat → PR Nd)
theorem yg (FF:∀args W,(callFunc NZ args).run Tryz.prog W=.ok (.enter NZ args) W)
 (hr:∀(p:PS),sq p→∀k W,bc p W k→Calls Tryz.prog NZ #[.pointer (some ⟨p.b,0,none⟩)] W (bO p W (nh W.heap.size) (R p.L p.en (bX p) k)))
 (hc:∀L en rd,kP (R L en rd)) (l:List UInt8) (hl:l.length≤1000000) (sc:Int) (w:World) (hG:Gl w):
 Calls Tryz.prog 16 #[.string (ae l),.int .i64 sc,.func (.func NZ) #[] #[]] w (lH (mO R l (gS sc) (fun t=>dI (ae t) sc)) w):=by
 have Zx:∀(fn:Fn) (first cap:Array Value) (w:World),(Instr.makeFunc fn first cap).run Tryz.prog w=.ok (.func fn first cap) w:=fun _ _ _ _=>rfl
 have VA:=aa (fun W:World=>uL sc W)
 have R0:=aa (C_ w 0 0)
 have B0:=aa (vh w 0 0)
 obtain ⟨PP,VN⟩:∃PP,mO R l (gS sc) (fun t=>dI (ae t) sc)=PP:=⟨_,rfl⟩
 have GZ:=aa VN
 rw [VN]
 clear VN
 cases hv:gS sc with
 |false=>
  rw [hv] at VA GZ
  have HP:=aa (show PP=(jy,0,1) from GZ.out.symm)
  have R1:=aa (C_ w 0 1)
  have B1:=aa (vh w 0 1)
  clear hv hr hc FF hG Zx
  go_enter_defers Tryz.func16,Tryz.ntmps16
  go_wp2_with fail
  refine (VA.out _).mono ?_
  rintro e w1 ⟨rfl,rfl⟩
  go_wp2
  exact ⟨_,jb R1.out rfl _ rfl rfl rfl,by rw [HP.out];exact ⟨⟨bJ.toList,rfl,kV _ _,by decide⟩,B1.out⟩⟩
 |true=>
  rw [hv] at VA GZ
  obtain ⟨⟨out,a,er⟩,hp⟩:∃q,eo l=q:=⟨_,rfl⟩
  have LX:=aa (fun (W:World) (hg:Gl W)=>show Calls Tryz.prog 30 #[.string (ae l)] W fun e w'=>∃A cap,e=.returned (.tuple #[.slice A out.length cap,.int .i64 (a:Int),.int .i64 er])∧pC w' A out∧(∀a,A=some a→W.heap.size≤a.block∧a.block<w'.heap.size)∧Below W.heap.size W w' from
   (sM l hl W hg).mono (by
    rintro e w' ⟨v,rfl,ho,hb⟩
    rw [hp] at ho
    obtain ⟨A,cap,rfl,hs,hA⟩:=Nu (out:=out) ho
    exact ⟨A,cap,by rw [hp],hs,hA,hb⟩))
  have G0:=aa (hG.below B0.out)
  have VN:mO R l true (fun t=>dI (ae t) sc)=if er=0 then EG out (l.length:Int) (R out (l.length:Int) (fun t=>dI (ae t) sc) 0) else (jy,(a:Int),er):=by
   unfold mO
   rw [hp,if_pos rfl]
  rw [VN] at GZ
  have Dj:=aa hp
  have hsz:=aD l
  clear hv VN hp
  have HS:=aa hsz
  by_cases vN:er=0
  ·subst vN
   rw [if_pos rfl,←hsz] at GZ
   have sH:=Gi Dj.out
   have RE:=I_ (l:=l) (by rw [Dj.out])
   rw [Dj.out] at RE
   have YV:∀x∈out,LZ x:=RE
   have hsm:=sH.2.1
   have HLX:=aa YV
   have Ra:=aa hsm
   have HR:=aa hr
   have Qm:=aa hc
   have HGL:=aa hG.lt
   generalize ae l=S at*
   clear hr hc RE YV sH hsz hG
   go_enter_defers Tryz.func16,Tryz.ntmps16
   go_wp2_with fail
   refine (VA.out _).mono ?_
   rintro e w1 ⟨rfl,rfl⟩
   go_wp2_with fail
   refine (LX.out _ G0.out).mono ?_
   rintro e w1 ⟨A,cap,rfl,hs,hA,hb1⟩
   have hr1:ep w1 w.heap.size bJ 0 0:=R0.out.under hb1
   have hz0:w.heap.size<w1.heap.size:=hr1.nd.lt
   have hz1:w.heap.size+1<w1.heap.size:=hr1.at_.lt
   have hz2:w.heap.size+1+1<w1.heap.size:=hr1.er.lt
   obtain ⟨p,RT⟩:∃p:PS,p=⟨out,(S.size:Int),sc,A,cap,w1.heap.size⟩:=⟨_,rfl⟩
   have IX:∀x,A=some x→w.heap.size+1+1<x.block∧x.block<w1.heap.size:=fun x hx=>by
    have:=hA x hx
    simp only [World.size_alloc] at this
    omega
   obtain ⟨w2,hw2⟩:∃w2,w2=(w1.setCell ⟨w.heap.size+1,0,none⟩ (.int .i64 (a:Int))).setCell ⟨w.heap.size+1+1,0,none⟩ (.int .i64 0):=⟨_,rfl⟩
   have UF:w2.heap.size=w1.heap.size:=by rw [hw2];simp [World.setCell]
   have hr2:ep w2 w.heap.size bJ (a:Int) 0:=by rw [hw2];exact hr1.Iz _ _
   have vW:af (Fx w.heap.size) w1 w2:=by rw [hw2];exact ((af.refl _ _).set (.inl (.inr (.inl rfl))) 0 _).set (.inl (.inr (.inr rfl))) 0 _
   have hB2:Below w.heap.size w w2:=by rw [hw2];exact ep.low (B0.out.trans (hb1.mono B0.out.size)) _ _
   have hG1:Gl w1:=G0.out.below hb1
   have W_:Gl w2:=hG1.keep (fun b hz he=>vW.block b hz (by unfold Fx;have:=HGL.out;rcases he with rfl|rfl<;>omega))
   have hs2:pC w2 A out:=fun KC=>by
    obtain ⟨bl,off,YT,hat⟩:=hs KC
    have hbl:=IX _ YT
    have aca:w.heap.size+1+1<bl:=hbl.1
    have hf:∀o v,w1.cell? ⟨bl,o,none⟩=some v→w2.cell? ⟨bl,o,none⟩=some v:=fun o v hv=>(vW.cell (p:=⟨bl,o,none⟩) (World.block_lt_of_cell? w1 _ hv) (by show¬Fx _ bl;unfold Fx;omega)).trans hv
    exact ⟨bl,off,YT,fun i hi=>⟨hf _ _ (hat i hi).1,hf _ _ (hat i hi).2.1,hf _ _ (hat i hi).2.2⟩⟩
   obtain ⟨o3,ho3⟩:∃o3:Obj,o3=.cells #[.slice A out.length cap,.int .i64 0,.int .i64 (S.size:Int),.int .i64 sc] 60:=⟨_,rfl⟩
   have hb3:Below w2.heap.size w2 (w2.alloc o3):=(Below.refl _ _).alloc (Nat.le_refl _) _
   have hrow:Row (w2.alloc o3) w1.heap.size 60 #[.slice A out.length cap,.int .i64 0,.int .i64 (S.size:Int),.int .i64 sc]:=by
    rw [ho3,←UF];exact Row.new _ _ _
   have hPA:bc p (w2.alloc o3) 0:=by
    rw [RT]
    exact ⟨hrow,hs2.below hb3,fun x hx e=>by have:=IX x hx;rw [e] at this;exact absurd this.2 (Nat.lt_irrefl _),Nat.zero_le _,Ra.out,W_.below hb3,by have:=HGL.out;constructor<;>(show _≠w1.heap.size;omega),HLX.out⟩
   have VF:p.b=w1.heap.size:=by rw [RT]
   have Z':p.L=out:=by rw [RT]
   have Da:p.en=(S.size:Int):=by rw [RT]
   have hpA:p.A=A:=by rw [RT]
   have Rw:p.cap=cap:=by rw [RT]
   have Ym:bX p=fun t=>dI (ae t) sc:=by rw [RT];rfl
   have HC:=aa (show Calls Tryz.prog NZ #[.pointer (some ⟨w1.heap.size,0,none⟩)] (w2.alloc o3) (bO p (w2.alloc o3) (nh (w2.alloc o3).heap.size) (R out (S.size:Int) (fun t=>dI (ae t) sc) 0)) from by
    have:=HR.out p (Ps (by rw [Z'];exact HLX.out)) 0 _ hPA
    rw [Z',Da,Ym,VF] at this
    exact this)
   have hr3:ep (w2.alloc o3) w.heap.size bJ (a:Int) 0:=hr2.under hb3
   have E8:Below w.heap.size w (w2.alloc o3):=hB2.trans (hb3.mono hB2.size)
   have hz3:(w2.alloc o3).heap.size=w1.heap.size+1:=by rw [World.size_alloc,UF]
   obtain ⟨w3,hw3⟩:∃w3,w3=w2.alloc o3:=⟨_,rfl⟩
   rw [←hw3] at HC hr3 E8 hz3 hPA
   have CB:((w1.setCell ⟨w.heap.size+1,0,none⟩ (.int .i64 (a:Int))).setCell ⟨w.heap.size+1+1,0,none⟩ (.int .i64 0)).alloc (.cells #[.slice A out.length cap,.int .i64 0,.int .i64 (S.size:Int),.int .i64 sc] 60)=w3:=by rw [hw3,ho3,hw2]
   obtain ⟨c0,c1,c2,c3,c4,c5,c6,c7,c8,ca,ce,f0,f1,f2,f3,f4,f5,f6,f7,f8,fa,fe⟩:=hr1.facts
   have qa:=aa hr3
   have g_:=aa E8
   have Dr:=aa Z'
   have Fi:=aa VF
   have HPE:=aa Da
   have Gz:=aa hpA
   have Nw:=aa Rw
   have HA0:=aa IX
   have U0:=aa CB
   have HZ3:=aa hz3
   obtain ⟨rr,Ut⟩:∃rr,R out (S.size:Int) (fun t=>dI (ae t) sc) 0=rr:=⟨_,rfl⟩
   rw [Ut] at GZ HC
   have ze:=aa Ut
   clear hw2 UF hr2 vW hB2 hG1 W_ hs2 ho3 hb3 hrow hPA VF Z' Da hpA Rw Ym hr3 E8 hz3 hw3 CB hs hA hb1 hr1 RT IX Ut
   cases rr with
   |err a' YU=>
    have HP:=aa (show PP=(jy,a',YU) from GZ.out.symm)
    clear GZ
    go_wp2_with fail
    rw [U0.out]
    refine HC.out.mono ?_
    rintro e w4 ⟨rfl,hk4⟩
    have abf:=hk4
    have hr4:ep w4 w.heap.size bJ (a:Int) 0:=qa.out.keep hk4 (by show¬w.heap.size=p.b;have:=Fi.out;omega) (by show¬w.heap.size+1=p.b;have:=Fi.out;omega) (by show¬w.heap.size+1+1=p.b;have:=Fi.out;omega)
    have qD:=aa (show Below w.heap.size w w4 from g_.out.trans (hk4.below (fun b hb=>by have:b=p.b:=hb;have:=Fi.out;omega) g_.out.size))
    have Lg:=aa hr4
    clear hk4 abf hr4
    go_wp2
    exact pY Lg.out qD.out HP.out rfl rfl rfl
   |ok n k'=>
    have Oc:=Qm.out _ _ _ _ _ _ ze.out
    go_wp2_with fail
    rw [U0.out]
    refine HC.out.mono ?_
    rintro e w4 ⟨⟨v,rfl,cs,rfl,aB⟩,h4,hk4⟩
    have hr4:ep w4 w.heap.size bJ (a:Int) 0:=qa.out.keep hk4 (by show¬w.heap.size=p.b;have:=Fi.out;omega) (by show¬w.heap.size+1=p.b;have:=Fi.out;omega) (by show¬w.heap.size+1+1=p.b;have:=Fi.out;omega)
    have hb4:Below w.heap.size w w4:=g_.out.trans (hk4.below (fun b hb=>by have:b=p.b:=hb;have:=Fi.out;omega) g_.out.size)
    obtain ⟨kd,a0,nm,vl,xa,xb,xc,xd,yA,dW,dp,rfl⟩:=aB.nine
    have UG:=h4.le
    have YW:aS n≤513:=by have:=Ra.out;rw [Dr.out] at UG;omega
    obtain ⟨w5,UH⟩:∃w5,w5=iP w4 w.heap.size (.int .i64 kd) (.int .i64 a0) (.string (ae nm)) (.string (ae vl)) (.int .i64 xa) (.int .i64 xb) (.int .i64 xc) (.int .i64 xd) (.slice yA dW dp):=⟨_,rfl⟩
    have lV:ep w5 w.heap.size #[.int .i64 kd,.int .i64 a0,.string (ae nm),.string (ae vl),.int .i64 xa,.int .i64 xb,.int .i64 xc,.int .i64 xd,.slice yA dW dp] (a:Int) 0:=by rw [UH];exact hr4.Qz _ _ _ _ _ _ _ _ _
    have hb5:Below w.heap.size w w5:=by rw [UH];exact hb4.trans (ak (Nat.le_refl _) _ _ _ _ _ _ _ _ _)
    have hk5:af (fun b=>b=w.heap.size) w4 w5:=by rw [UH];exact ax (C:=fun b=>b=w.heap.size) rfl _ _ _ _ _ _ _ _ _
    have h5:bc p w5 k':=h4.YS hk5 (by show¬p.b=w.heap.size;have:=Fi.out;omega) (fun x hx=>by rw [Gz.out] at hx;have:=HA0.out x hx;show¬x.block=w.heap.size;omega) (by have:=HGL.out;constructor<;>(show¬_=w.heap.size;omega))
    have YX:cG (fun b=>b<w3.heap.size) w5 n (aw kd a0 nm vl xa xb xc xd (.slice yA dW dp)):=aB.keeps (hk5.mono (fun b hb=>by have:b=w.heap.size:=hb;show b<w3.heap.size;have:=HZ3.out;omega))
    have abg:=aa UH.symm
    obtain ⟨c0,c1,c2,c3,c4,c5,c6,c7,c8,ca,ce,f0,f1,f2,f3,f4,f5,f6,f7,f8,fa,fe⟩:=hr4.facts
    have Il:=aa lV
    have iA:=aa hb5
    have H5:=aa h5
    have YY:=aa YX
    have FC:=aa UG
    have YZ:=aa YW
    clear aB h4 hk4 hr4 hb4 UG UH lV hb5 hk5 h5 YX Oc YW
    unfold aw
    go_wp2_with fail
    have e5:=abg.out
    unfold iP at e5
    rw [e5]
    clear e5 c0 c1 c2 c3 c4 c5 c6 c7 c8 ca ce f0 f1 f2 f3 f4 f5 f6 f7 f8 fa fe
    obtain ⟨d0,d1,_,_,_⟩:=H5.out.cells
    rw [Fi.out,Gz.out,Nw.out,Dr.out] at d0
    rw [Fi.out] at d1
    have hle:k'≤out.length:=by have:=FC.out;rw [Dr.out] at this;exact this
    have hl5:=Ra.out
    by_cases hk:k'<out.length
    ·have fo:(k':Int)<(out.length:Int):=by omega
     have HP:=aa (show PP=(jy,dy out (S.size:Int) k',3) from by rw [←GZ.out];show (if k'<out.length then _ else _)=_;rw [if_pos hk])
     have FL:=aa (fun (W:World) (h:bc p W k')=>show Calls Tryz.prog 32 #[.pointer (some ⟨w1.heap.size,0,none⟩)] W fun e w'=>L0 (dy out (S.size:Int) k') 3 e∧Below W.heap.size W w' from by
      have:=my p k' W h
      rw [Fi.out,Dr.out,HPE.out] at this
      exact this)
     clear GZ hk
     go_quiet (fail)
     go_wp2_with fail
     refine (FL.out _ (H5.out.below (aq (Below.refl _ _) _))).mono ?_
     rintro e w6 ⟨rfl,bA⟩
     have Dn:=aa ((Il.out.under (aq (Below.refl _ _) _)).under bA)
     have nH:=aa ((aq iA.out _).trans (bA.mono iA.out.size))
     clear bA
     go_wp2
     exact pY Dn.out nH.out HP.out rfl rfl rfl
    ·have fo:¬(k':Int)<(out.length:Int):=by omega
     have hw:=GZ.out
     have hw:(if k'<out.length then (jy,dy out (S.size:Int) k',3) else if 32<iE n then (jy,0,9) else (n,0,0))=PP:=hw
     rw [if_neg hk] at hw
     have QA:=aa hw
     have LV:=aa (fun (W:World) (h:cG (fun b=>b<w3.heap.size) W n (aw kd a0 nm vl xa xb xc xd (.slice yA dW dp)))=>show Calls Tryz.prog 33 #[.agg #[.int .i64 kd,.int .i64 a0,.string (ae nm),.string (ae vl),.int .i64 xa,.int .i64 xb,.int .i64 xc,.int .i64 xd,.slice yA dW dp]] W fun e w'=>e=.returned (.int .i64 (iE n:Int))∧Below W.heap.size W w' from
      q_ 513 n _ _ W YZ.out (by decide) h)
     obtain ⟨g0,g1,g2,g3,g4,g5,g6,g7,g8,ga,ge,_,_,_,_,_,_,_,_,_,_,_⟩:=Il.out.facts
     clear GZ hk hw hle
     go_quiet (fail)
     go_wp2_with fail
     refine (LV.out _ (YY.out.keeps ((af.refl _ _).drewN _))).mono ?_
     rintro e w6 ⟨rfl,bA⟩
     have lA:=(Il.out.under (aq (Below.refl _ _) _)).under bA
     have Dn:=aa lA
     have nH:=aa ((aq iA.out _).trans (bA.mono iA.out.size))
     have abh:=aa ((YY.out.keeps ((af.refl _ _).drewN _)).keeps (af.of_below bA (Nat.le_refl _)))
     obtain ⟨c0,c1,c2,c3,c4,c5,c6,c7,c8,ca,ce,f0,f1,f2,f3,f4,f5,f6,f7,f8,fa,fe⟩:=lA.facts
     clear bA lA g0 g1 g2 g3 g4 g5 g6 g7 g8 ga ge d0 d1
     by_cases Rl:32<iE n
     ·have HP:=aa (show PP=(jy,0,9) from by rw [←QA.out,if_pos Rl])
      have vz:(32:Int)<(iE n:Int):=by omega
      generalize iE n=lv at*
      clear QA Rl
      go_wp2
      exact vk (cs:=bJ.toList) ((Dn.out.Qz _ _ _ _ _ _ _ _ _).Iz 0 9) (ep.low (nH.out.trans (ak (Nat.le_refl _) _ _ _ _ _ _ _ _ _)) _ _) HP.out (kV _ _) (by decide) rfl rfl rfl
     ·have HP:=aa (show PP=(n,0,0) from by rw [←QA.out,if_neg Rl])
      have vz:¬(32:Int)<(iE n:Int):=by omega
      have HC6:=aa (show aS n≤513 from YZ.out)
      generalize iE n=lv at*
      clear QA Rl
      go_wp2
      have hz:=HZ3.out
      refine vk (cs:=aw kd a0 nm vl xa xb xc xd (.slice yA dW dp)) ((Dn.out.Qz _ _ _ _ _ _ _ _ _).Iz 0 0) (ep.low (nH.out.trans (ak (Nat.le_refl _) _ _ _ _ _ _ _ _ _)) _ _) HP.out ?_ HC6.out rfl rfl rfl
      refine (abh.out.keeps (((ax (C:=fun b=>b<w3.heap.size) (W:=w6) (g:=w.heap.size) (by show w.heap.size<w3.heap.size;omega) _ _ _ _ _ _ _ _ _).set (.inl (by show w.heap.size+1<w3.heap.size;omega)) 0 _).set (.inl (by show w.heap.size+1+1<w3.heap.size;omega)) 0 _)).mono (fun b hb=>by show b<w3.heap.size;have:b<w.heap.size:=hb;omega)
  ·have e1:(er==0)=false:=beq_eq_false_iff_ne.2 vN
   have e2:(er !=0)=true:=by rw [bne,e1];rfl
   have HP:=aa (show PP=(jy,(a:Int),er) from by rw [←GZ.out,if_neg vN])
   clear GZ hr hc FF Zx hG
   generalize ae l=S at*
   go_enter_defers Tryz.func16,Tryz.ntmps16
   go_wp2_with fail
   refine (VA.out _).mono ?_
   rintro e w1 ⟨rfl,rfl⟩
   go_wp2_with fail
   refine (LX.out _ G0.out).mono ?_
   rintro e w1 ⟨A,cap,rfl,_,_,hb1⟩
   have hr1:ep w1 w.heap.size bJ 0 0:=R0.out.under hb1
   have fu:=aa (B0.out.trans (hb1.mono B0.out.size))
   have gJ:=aa hr1
   obtain ⟨c0,c1,c2,c3,c4,c5,c6,c7,c8,ca,ce,f0,f1,f2,f3,f4,f5,f6,f7,f8,fa,fe⟩:=hr1.facts
   have hz0:w.heap.size<w1.heap.size:=hr1.nd.lt
   have hz1:w.heap.size+1<w1.heap.size:=hr1.at_.lt
   have hz2:w.heap.size+1+1<w1.heap.size:=hr1.er.lt
   clear hb1 hr1
   go_wp2_with fail
   go_region
   go_wp2
   have q1:=gJ.out.Iz (a:Int) er
   have q2:=ep.Qz (by exact q1) (.int .i64 0) (.int .i64 0) (.string {data:=#[]}) (.string {data:=#[]}) (.int .i64 0) (.int .i64 0) (.int .i64 0) (.int .i64 0) (.slice none 0 0)
   have q3:=(q2.Iz (a:Int) er).drew
   exact ⟨_,jb q3 rfl _ rfl rfl rfl,by rw [HP.out];exact ⟨⟨bJ.toList,rfl,kV _ _,show aS jy≤513 by decide⟩,(ep.low ((ep.low fu.out _ _).trans (ak (Nat.le_refl _) _ _ _ _ _ _ _ _ _)) _ _).drew⟩⟩
end
end Go.Proofs.YtddoehnkgcbboaaGreatDoor
