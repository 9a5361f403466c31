/- Packed by program: a part of the proof; the last file says what is proved. -/
import Derived.Test.YtddoehnkgcbboaaGreatDoorPrF
import Derived.Deep.DeepCutAuto
import Derived.Deep.RegionHeld3
import Derived.Lib.AppendStr
import Derived.Laws.ResultCell
set_option maxHeartbeats 16000000
set_option maxRecDepth 100000
set_option linter.unusedVariables false
set_option linter.unusedSimpArgs false
namespace Go
theorem bY {P:Program} {fn:Func} {p u:Tmp} {ty:TypeId} (h:fn.results=#[.cell p ty,.tmp u]) (tmps:Array Value) (w:World) (g:Nat) (t:TypeId) (cs:Array Value) (fr:Nat×Nat) (d:TypeDesc)
 (v:Value) (hv:tmps.getD u undef=v) (hp:tmps.getD p undef=.pointer (some ⟨g,0,none⟩)) (hg:w.heap[g]? =some (.cells cs t fr))
 (hu:P.underlying ty=some d) (hd:(match d with|.struct _|.array _ _=>true|_=>false)=true) (hi:(P.info? ty).map (·.size)=some cs.size):
 (results fn tmps).run P w=.ok (.tuple #[.agg cs,v]) w:=by
 subst hv
 have hp':tmps[p]?.getD undef=.pointer (some ⟨g,0,none⟩):=by simpa using hp
 rw [results_cell_tmp h]
 simp [hp',asAddr,Result.andThen,run_loadVar_row w g t ty cs fr d hg hu hd hi]
end Go
namespace Go.Proofs.YtddoehnkgcbboaaGreatDoor
open Go.RowKit Go.Shelf Go.Sort
theorem fU {w w':World} {base b:Nat} {e:TypeId} {size:Nat} {v:Value} {n:Nat} {xs:List Value} (h:w.ownsRow base e size v n xs) (hk:af (fun c=>c=b) w w') (hb:b<base):w'.ownsRow base e size v n xs:=
 World.ownsRow.kept (row:=some b) h ⟨hk.os,hk.tape,hk.output,hk.size,fun k hz hne=>hk.block k hz (fun e=>hne (by rw [e]))⟩ (by
  cases ho:v.ownBlock with
  |none=>simp
  |some g=>have:=(World.ownsRow.lt h g ho).1;simp;omega)
theorem fV (c:UInt8) (r:List UInt8):yD [c] r=decide (r.head? =some c):=by
 unfold yD
 cases h:r.head? with
 |none=>rfl
 |some x=>
  rw [Bool.eq_iff_iff,decide_eq_true_eq]
  simp
theorem A4 (c d:UInt8) (r:List UInt8):yD [c,d] r=decide (r.head? =some c∨r.head? =some d):=by
 unfold yD
 cases h:r.head? with
 |none=>simp
 |some x=>
  rw [Bool.eq_iff_iff,decide_eq_true_eq]
  simp
structure nB (W:World) (B:Nat) (w:World) (l:List UInt8) (k:Nat) (neg:Bool) (dv:Value) (Ds:List UInt8) (ex:Int):Prop where
 at_:At W (B+3) B k l
 num:Row W (B+2) 131 #[.bool neg,dv,.int .i64 ex]
 res:Row W (B+1) 131 #[.bool false,.slice none 0 0,.int .i64 0]
 own:W.ownsRow (B+4) 5 1 dv Ds.length (NQ Ds)
 Ij:Below B w W
 big:B+4≤W.heap.size
theorem nB.below {W W':World} {B:Nat} {w:World} {l:List UInt8} {k:Nat} {neg:Bool} {dv:Value} {Ds:List UInt8} {ex:Int} (h:nB W B w l k neg dv Ds ex) (hb:Below W.heap.size W W'):nB W' B w l k neg dv Ds ex:=
 ⟨⟨h.at_.pos.below hb h.at_.pos.lt,h.at_.txt.below hb h.at_.txt.lt⟩,h.num.below hb h.num.lt,h.res.below hb h.res.lt,ft h.own hb,h.Ij.trans (hb.mono (Nat.le_trans (by omega) h.big)),Nat.le_trans h.big hb.size⟩
theorem nB.turn {W W':World} {B:Nat} {w:World} {l:List UInt8} {k k':Nat} {neg:Bool} {dv:Value} {Ds:List UInt8} {ex:Int} (h:nB W B w l k neg dv Ds ex) (ha:At W' (B+3) B k' l) (hk:af (fun c=>c=B+3) W W'):nB W' B w l k' neg dv Ds ex:=
 ⟨ha,h.num.keep hk (by omega),h.res.keep hk (by omega),fU h.own hk (by omega),h.Ij.trans (hk.below (by rintro c rfl;omega) (Nat.le_trans (by omega) h.big)),Nat.le_trans h.big hk.size⟩
theorem nB.aat {W:World} {B:Nat} {w:World} {l:List UInt8} {k:Nat} {neg:Bool} {dv:Value} {Ds:List UInt8} {ex:Int} (h:nB W B w l k neg dv Ds ex) (Ii:Bool):nB (W.setCell ⟨B+2,0,none⟩ (.bool Ii)) B w l k Ii dv Ds ex:=
 ⟨⟨h.at_.pos.off (by omega) _ _,h.at_.txt.off (by omega) _ _⟩,h.num.bg 0 _,h.res.off (by omega) _ _,fU h.own ((af.refl (fun c=>c=B+2) W).set (.inl rfl) 0 _) (by omega),h.Ij.setCell (p:=⟨B+2,0,none⟩) (show B≤B+2 by omega) _,by simpa [World.setCell] using h.big⟩
theorem nB.SQ {W:World} {B:Nat} {w:World} {l:List UInt8} {k:Nat} {neg:Bool} {dv:Value} {Ds:List UInt8} {ex:Int} (h:nB W B w l k neg dv Ds ex) (U6:Int):nB (W.setCell ⟨B+2,2,none⟩ (.int .i64 U6)) B w l k neg dv Ds U6:=
 ⟨⟨h.at_.pos.off (by omega) _ _,h.at_.txt.off (by omega) _ _⟩,h.num.bg 2 _,h.res.off (by omega) _ _,fU h.own ((af.refl (fun c=>c=B+2) W).set (.inl rfl) 2 _) (by omega),h.Ij.setCell (p:=⟨B+2,2,none⟩) (show B≤B+2 by omega) _,by simpa [World.setCell] using h.big⟩
theorem nB.grow {W W':World} {B:Nat} {w:World} {l:List UInt8} {k:Nat} {neg:Bool} {dv dv':Value} {Ds Ds':List UInt8} {ex:Int} (h:nB W B w l k neg dv Ds ex) (hown:W'.ownsRow (B+4) 5 1 dv' Ds'.length (NQ Ds')) (hg:W.grownBy W' dv.ownBlock):nB (W'.setCell ⟨B+2,1,none⟩ dv') B w l k neg dv' Ds' ex:=by
 have hne:∀g,dv.ownBlock=some g→B+4≤g:=fun g hg=>(World.ownsRow.lt h.own g hg).1
 have f:∀b,b<B+4→some b≠dv.ownBlock:=fun b hb e=>by have:=hne b e.symm;omega
 refine ⟨⟨(h.at_.pos.grown hg (f _ (by omega))).off (by omega) _ _,(h.at_.txt.grown hg (f _ (by omega))).off (by omega) _ _⟩,(h.num.grown hg (f _ (by omega))).bg 1 _,(h.res.grown hg (f _ (by omega))).off (by omega) _ _,fU hown ((af.refl (fun c=>c=B+2) W').set (.inl rfl) 1 _) (by omega),(h.Ij.grown hg (Nat.le_trans (by omega) h.big) (fun j hj=>Nat.le_trans (by omega) (hne j hj))).setCell (p:=⟨B+2,1,none⟩) (show B≤B+2 by omega) _,?_⟩
 have:=Nat.le_trans h.big hg.size
 simpa [World.setCell] using this
theorem nB.je {W W':World} {B:Nat} {w:World} {l:List UInt8} {k:Nat} {neg:Bool} {dv:Value} {Ds:List UInt8} {ex:Int} (h:nB W B w l k neg dv Ds ex) (hg:W.grownBy W' dv.ownBlock):Row W' (B+2) 131 #[.bool neg,dv,.int .i64 ex]:=
 h.num.grown hg (fun e=>by have:=(World.ownsRow.lt h.own (B+2) e.symm).1;omega)
theorem nB.fail {W:World} {B:Nat} {w:World} {l:List UInt8} {k:Nat} {neg:Bool} {dv:Value} {Ds:List UInt8} {ex:Int} (h:nB W B w l k neg dv Ds ex):
 Row (((W.setCell ⟨B+1,0,none⟩ (.bool neg)).setCell ⟨B+1,1,none⟩ dv).setCell ⟨B+1,2,none⟩ (.int .i64 ex)) (B+1) 131 #[.bool neg,dv,.int .i64 ex]∧
 Below B w (((W.setCell ⟨B+1,0,none⟩ (.bool neg)).setCell ⟨B+1,1,none⟩ dv).setCell ⟨B+1,2,none⟩ (.int .i64 ex)):=
 ⟨((h.res.bg 0 (.bool neg)).bg 1 dv).bg 2 (.int .i64 ex),((h.Ij.setCell (p:=⟨B+1,0,none⟩) (Nat.le_succ _) _).setCell (p:=⟨B+1,1,none⟩) (Nat.le_succ _) _).setCell (p:=⟨B+1,2,none⟩) (Nat.le_succ _) _⟩
theorem nB.form {W:World} {B:Nat} {w:World} {l:List UInt8} {k:Nat} {neg:Bool} {dv:Value} {Ds:List UInt8} {ex:Int} (h:nB W B w l k neg dv Ds ex):∃A cap,dv=.slice A Ds.length cap∧Sl j_ W A Ds∧Ds.length≤cap∧cap≤maxLen:=by
 obtain ⟨A,cap,hv,pn,_⟩:=RY (f:=j_) (xs:=Ds) (n:=Ds.length) (by exact h.own) rfl
 refine ⟨A,cap,hv,pn,?_,?_⟩
 ·rcases h.own.2 with ⟨h0,h1⟩|⟨g',cap',cur,hv',_,_,hle,_⟩
  ·rw [hv] at h0;injection h0 with _ h2 h3;omega
  ·rw [hv] at hv';injection hv' with _ _ h3;omega
 ·rcases h.own.2 with ⟨h0,h1⟩|⟨g',cap',cur,hv',_,_,hle,hm,_⟩
  ·rw [hv] at h0;injection h0 with _ h2 h3;unfold maxLen;omega
  ·rw [hv] at hv';injection hv' with _ _ h3;omega
theorem SR {W W':World} {A:Option Addr} {l:List UInt8} {g:Nat} {t:TypeId} {cs:Array Value} (h:Sl j_ W A l) (hr:Row W g t cs) (hcs:∀(i:Nat) (c:UInt8),cs[i]? ≠some (j_ c)) (hk:af (fun c=>c=g) W W'):Sl j_ W' A l:=by
 intro hp
 obtain ⟨b,off,rfl,hat⟩:=h hp
 have hne:b≠g:=fun e=>by
  have:=hat 0 hp
  rw [e,hr.cell] at this
  exact hcs _ _ this
 exact ⟨b,off,rfl,fun i hi=>(hk.cell (p:=⟨b,off+i,none⟩) (World.block_lt_of_cell? W _ (hat i hi)) hne).trans (hat i hi)⟩
def A5 (l:List UInt8) (B:Nat) (w:World) (e:Ending) (w':World):Prop:=
 Below B w w'∧∃neg A n cap ex ok,e=.returned (.tuple #[gm neg A n cap ex,.bool ok])∧(dh l=none→ok=false)∧
  ∀p,dh l=some p→ok=true∧n=(aO (p.2.1++p.2.2.1)).length∧Sl j_ w' A (aO (p.2.1++p.2.2.1))∧n≤cap∧cap≤maxLen∧
   (aO (p.2.1++p.2.2.1)≠[]→neg=p.1∧ex+n-1=(p.2.1.length:Int)-1-jJ (p.2.1++p.2.2.1)+jY p.2.2.2.1 (gY 1048576 p.2.2.2.2))∧(aO (p.2.1++p.2.2.1)=[]→ex=0)
theorem yF:(Tryz.prog.info? 5).map (fun i=>(i.zero,i.size,i.bytes))=some (some (.int .u8 0),1,1):=by kernel_rfl
theorem nB.start (w:World) (l:List UInt8):nB ((((w.alloc (.cells #[.string (br l)] 9)).alloc (.cells #[.bool false,.slice none 0 0,.int .i64 0] 131)).alloc (.cells #[.bool false,.slice none 0 0,.int .i64 0] 131)).alloc (.cells #[.int .i64 0] 3)) w.heap.size w l 0 false (.slice none 0 0) [] 0:=by
 have r1:=Row.new w 9 #[.string (br l)]
 have r2:=Row.new (w.alloc (.cells #[.string (br l)] 9)) 131 #[.bool false,.slice none 0 0,.int .i64 0]
 have r3:=Row.new ((w.alloc (.cells #[.string (br l)] 9)).alloc (.cells #[.bool false,.slice none 0 0,.int .i64 0] 131)) 131 #[.bool false,.slice none 0 0,.int .i64 0]
 have r4:=Row.new (((w.alloc (.cells #[.string (br l)] 9)).alloc (.cells #[.bool false,.slice none 0 0,.int .i64 0] 131)).alloc (.cells #[.bool false,.slice none 0 0,.int .i64 0] 131)) 3 #[.int .i64 0]
 simp only [World.size_alloc] at r2 r3 r4
 exact ⟨⟨r4,((r1.alloc _).alloc _).alloc _⟩,r3.alloc _,(r2.alloc _).alloc _,World.ownsRow_nil _ _ _ _,
  ((((Below.refl _ _).alloc (Nat.le_refl _) _).alloc (by simp only [World.size_alloc];omega) _).alloc (by simp only [World.size_alloc];omega) _).alloc (by simp only [World.size_alloc];omega) _,by simp only [World.size_alloc];omega⟩
theorem wL (l:List UInt8):(bq l).2=l.drop (if l.head? =some 45∨l.head? =some 43 then 1 else 0)∧(bq l).1=decide (l.head? =some 45):=by
 unfold bq
 by_cases h1:l.head? =some 45
 ·rw [if_pos h1,if_pos (.inl h1),decide_eq_true h1];exact ⟨by simp,rfl⟩
 ·rw [if_neg h1,decide_eq_false h1]
  by_cases h2:l.head? =some 43
  ·rw [if_pos h2,if_pos (.inr h2)];exact ⟨by simp,rfl⟩
  ·rw [if_neg h2,if_neg (by rintro (h|h);exact h1 h;exact h2 h)];exact ⟨rfl,rfl⟩
theorem l_ {s:ByteArray} (h:0<s.size):¬s.toList=[]∧s.toList.isEmpty=false:=by
 cases hl:s.toList with
 |nil=>rw [Lib.toList_data] at hl;rw [Lib.size_eq,hl] at h;simp at h
 |cons a t=>simp
theorem jm {l:List UInt8} {c:UInt8} (h:l.head? =some c):1≤l.length:=by
 cases l with
 |nil=>cases h
 |cons a t=>simp
theorem A6 (l:List UInt8) (w:World) (hz:l.length≤1000000):
 Calls Tryz.prog 144 #[.string (br l)] w (A5 l w.heap.size w):=by
 have Dm:=dx l
 by_cases h64:64<l.length
 ·have hI:(64:Int)<((br l).size:Int):=by omega
  have hN:dh l=none:=by unfold dh;rw [if_pos (.inl h64)]
  have hrow:Row (((w.alloc (.cells #[.string (br l)] 9)).alloc (.cells #[.bool false,.slice none 0 0,.int .i64 0] 131)).alloc (.cells #[.bool false,.slice none 0 0,.int .i64 0] 131)) (w.heap.size+1) 131 #[.bool false,.slice none 0 0,.int .i64 0]:=by
   have:=(Row.new (w.alloc (.cells #[.string (br l)] 9)) 131 #[.bool false,.slice none 0 0,.int .i64 0]).alloc (.cells #[.bool false,.slice none 0 0,.int .i64 0] 131)
   simp only [World.size_alloc] at this
   exact this
  have ny:=aa hrow
  clear Dm hrow
  generalize br l=lb at*
  go_enter Tryz.func144,Tryz.ntmps144
  go_wp2
  exact bodyPost_ret (v:=.tuple #[.agg #[.bool false,.slice none 0 0,.int .i64 0],.bool false]) (bY rfl _ _ (w.heap.size+1) 131 _ _ _ (.bool false) rfl rfl ny.out Tryz.underlying131 rfl (by kernel_rfl)) rfl
   ⟨(((Below.refl _ _).alloc (Nat.le_refl _) _).alloc (by simp only [World.size_alloc];omega) _).alloc (by simp only [World.size_alloc];omega) _,false,none,0,0,0,false,rfl,fun _=>rfl,fun p hp=>by rw [hN] at hp;cases hp⟩
 ·have hI:((br l).size:Int)≤64:=by omega
  have O1:=aa (fun (set:List UInt8) (k:Nat) (W:World) (h8:set.length≤8) (hk:k≤l.length) (h:At W (w.heap.size+3) w.heap.size k l)=>OO set l (w.heap.size+3) w.heap.size k W (by omega) h8 hz hk h)
  have DG:=aa (fun (k:Nat) (W:World) (hk:k≤l.length) (h:At W (w.heap.size+3) w.heap.size k l)=>Ea l (w.heap.size+3) w.heap.size k W (by omega) hz hk h)
  obtain ⟨NW,K8⟩:=wL l
  have S0:=aa (nB.start w l)
  go_enter Tryz.func144,Tryz.ntmps144
  go_wp2_with fail
  refine (O1.out [45] 0 _ (by decide) (Nat.zero_le _) S0.out.at_).mono ?_
  rintro e w2 ⟨rfl,hat,bS⟩
  rw [fV,List.drop_zero] at hat
  rw [fV,List.drop_zero]
  have S2:=aa (S0.out.turn hat bS)
  clear hat bS S0
  go_upto_if 22 with fail
  go_cut [25] (fun v wx=>∃k1,k1≤l.length∧(bq l).2=l.drop k1∧nB wx w.heap.size w l k1 (bq l).1 (.slice none 0 0) [] 0)
  case first=>
   by_cases oG:l.head? =some 45
   ·rw [decide_eq_true oG] at S2⊢
    rw [if_pos (.inl oG)] at NW
    rw [decide_eq_true oG] at K8
    have U2:=jm oG
    have hc:w2.cell? ⟨w.heap.size+2,0,none⟩=some (.bool false):=S2.out.num.cell 0
    have hf:w2.frozen? ⟨w.heap.size+2,0,none⟩=false:=S2.out.num.frozen 0
    clear oG
    go_wp2_with fail
    go_meet
    rw [K8]
    exact ⟨1,U2,NW,S2.out.aat true⟩
   ·rw [decide_eq_false oG] at S2⊢
    rw [decide_eq_false oG] at K8
    go_wp2_with fail
    refine (O1.out [43] 0 _ (by decide) (Nat.zero_le _) S2.out.at_).mono ?_
    rintro e w3 ⟨rfl,hat,bS⟩
    rw [fV,List.drop_zero] at hat
    have S3:=aa (S2.out.turn hat bS)
    clear hat bS S2
    go_wp2_with fail
    go_meet
    rw [K8]
    by_cases FH:l.head? =some 43
    ·rw [decide_eq_true FH] at S3
     rw [if_pos (.inr FH)] at NW
     exact ⟨1,jm FH,NW,S3.out⟩
    ·rw [decide_eq_false FH] at S3
     rw [if_neg (by rintro (h|h);exact oG h;exact FH h)] at NW
     exact ⟨0,Nat.zero_le _,NW,S3.out⟩
  case rest=>
  obtain ⟨k1,fo,NN,hS⟩:=hcut
  have S1:=aa hS
  clear hS NW K8
  obtain ⟨iu,hiu,F3,hu1,hu2⟩:=info_parts yF
  have Ze:=aa hiu
  have Zf:=aa F3
  have U4:=aa hu1
  have Zg:=aa hu2
  clear hiu F3 hu1 hu2
  obtain ⟨neg,K9⟩:∃neg,(bq l).1=neg:=⟨_,rfl⟩
  rw [K9] at S1
  obtain ⟨r,hr⟩:∃r,l.drop k1=r:=⟨_,rfl⟩
  have hrl:r.length=l.length-k1:=by rw [←hr,List.length_drop]
  rw [hr] at NN
  have wM:dh l=if nd r=0 then none else (jI (r.drop (nd r))).bind fun f=>(oZ f.2).bind fun x=>if x.2.2=[] then some (neg,r.take (nd r),f.1,x.1,x.2.1) else none:=by
   unfold dh
   rw [NN,K9]
   by_cases h0:nd r=0
   ·rw [if_pos (.inr h0),if_pos h0]
   ·rw [if_neg (by omega),if_neg h0]
  have tK:=aa wM
  clear wM K9 NN
  go_wp2_with fail
  refine (DG.out k1 _ fo S1.out.at_).mono ?_
  rintro e w4 ⟨rfl,hat,bS⟩
  rw [hr] at hat
  rw [hr]
  have S3:=aa (S1.out.turn hat bS)
  clear hat bS S1
  have hnl:=tq r
  obtain ⟨N,hN⟩:∃N,nd r=N:=⟨_,rfl⟩
  rw [hN] at S3 tK hnl⊢
  obtain ⟨Wd,Wv⟩:∃Wd,r.take N=Wd:=⟨_,rfl⟩
  have hWl:Wd.length=N:=by rw [←Wv,List.length_take];omega
  have hWs:=dx Wd
  rw [Wv] at tK⊢
  have hk2:k1+N≤l.length:=by omega
  have hr2:r.drop N=l.drop (k1+N):=by rw [←hr,List.drop_drop]
  rw [hr2] at tK
  obtain ⟨k2,aau⟩:∃k2,k1+N=k2:=⟨_,rfl⟩
  rw [aau] at S3 tK hk2
  clear hr2 Wv hN hr hrl hnl
  by_cases h0:N=0
  ·have hW0:Wd=[]:=List.eq_nil_of_length_eq_zero (by omega)
   subst hW0
   have Ww:br []=⟨#[]⟩:=rfl
   rw [Ww]
   have fl:=S3.out.fail
   have HF:=aa fl
   have q0:=S3.out.num.cell 0
   have q1:=S3.out.num.cell 1
   have q2:=S3.out.num.cell 2
   have g0:=S3.out.res.cell 0
   have g1:=S3.out.res.cell 1
   have g2:=S3.out.res.cell 2
   have f0:=S3.out.res.frozen 0
   have f1:=S3.out.res.frozen 1
   have f2:=S3.out.res.frozen 2
   have hN:=aa (show dh l=none from by rw [tK.out,if_pos h0])
   clear fl
   go_wp2
   exact bodyPost_ret (v:=.tuple #[.agg #[_,_,_],.bool false]) (bY rfl _ _ (w.heap.size+1) 131 _ _ _ (.bool false) rfl rfl HF.out.1 Tryz.underlying131 rfl (by kernel_rfl)) rfl
    ⟨HF.out.2,_,none,_,0,_,false,rfl,fun _=>rfl,fun p hp=>by rw [hN.out] at hp;cases hp⟩
  ·have wM:=tK.out
   rw [if_neg h0] at wM
   have Eb:=aa wM
   have KC:0<(br Wd).size:=by omega
   obtain ⟨hWn,Zk⟩:=l_ KC
   have Wx:(!(br Wd).toList.isEmpty)=true:=by rw [Zk];rfl
   have q1:=S3.out.num.cell 1
   have f1:=S3.out.num.frozen 1
   clear wM tK
   go_upto_region 14 with (at_builtin;refine Lib.wpList_append_own_string _ rfl _ _ 75 9 rfl (w.heap.size+4) 5 iu Tryz.underlying75 Tryz.underlying9 Ze.out Zf.out U4.out Zg.out (.slice none 0 0) 0 [] rfl S3.out.own (br Wd) rfl (by unfold maxLen;omega) (by omega) (Nat.le_trans (by omega) S3.out.big) ?_;intro v4 w5 jk fp _;obtain ⟨g4,D9,rfl,_⟩:=World.ownsRow.form jk (by omega);have qg1:=(S3.out.je fp).cell 1;have fg1:=(S3.out.je fp).frozen 1)
   have S4:=aa (show nB (w5.setCell ⟨w.heap.size+2,1,none⟩ (.slice (some ⟨g4,0,none⟩) (0+(br Wd).size) D9)) w.heap.size w l k2 neg (.slice (some ⟨g4,0,none⟩) (0+(br Wd).size) D9) (Wd) 0 from S3.out.grow (by
    have e1:0+(br Wd).size=(Wd).length:=by rw [dx];simp
    have e2:[]++Lib.strCells (br Wd)=NQ (Wd):=by first|rfl|(rw [tz];rfl)
    rw [←e1,←e2];exact jk) fp)
   clear jk fp qg1 fg1
   clear q1 f1
   rw [show 0+(br Wd).size=N by omega] at S4
   go_wp2_with fail
   refine (O1.out [46] k2 _ (by decide) hk2 S4.out.at_).mono ?_
   rintro e w6 ⟨rfl,hat,bS⟩
   rw [fV] at hat
   rw [fV]
   obtain ⟨b46,OS⟩:∃b,decide ((l.drop k2).head? =some 46)=b:=⟨_,rfl⟩
   rw [OS] at hat
   rw [OS]
   have U8:=aa OS
   have S5:=aa (S4.out.turn hat bS)
   clear hat bS S4 S3 S2 OS
   go_upto_if 37 with fail
   go_cut [9] (fun v wx=>∃k3 F dv,jI (l.drop k2)=some (F,l.drop k3)∧k3≤l.length∧F.length≤l.length∧nB wx w.heap.size w l k3 neg dv (Wd++F) (-(F.length:Int)))
   case first=>
    cases b46 with
    |true=>
     have sJ:=of_decide_eq_true U8.out
     have aav:k2+1≤l.length:=by have:=jm sJ;rw [List.length_drop] at this;omega
     have S5':=aa (show nB w6 w.heap.size w l (k2+1) neg (.slice (some ⟨g4,0,none⟩) N D9) Wd 0 from S5.out)
     obtain ⟨r2,hr2⟩:∃r2,l.drop (k2+1)=r2:=⟨_,rfl⟩
     have D6:(l.drop k2).tail=r2:=by rw [←hr2,List.tail_drop]
     clear U8
     have hfr:jI (l.drop k2)=if nd r2=0 then none else some (r2.take (nd r2),r2.drop (nd r2)):=by
      unfold jI;rw [if_pos sJ,D6]
     have OT:=aa hfr
     have hrl:r2.length=l.length-(k2+1):=by rw [←hr2,List.length_drop]
     clear hfr D6 sJ S5
     go_wp2_with fail
     refine (DG.out (k2+1) _ aav S5'.out.at_).mono ?_
     rintro e w7 ⟨rfl,hat,bS⟩
     rw [hr2] at hat
     rw [hr2]
     have S6:=aa (S5'.out.turn hat bS)
     clear hat bS S5'
     have hnl:=tq r2
     obtain ⟨N2,hN2⟩:∃N2,nd r2=N2:=⟨_,rfl⟩
     rw [hN2] at S6 OT hnl⊢
     obtain ⟨F,hF⟩:∃F,r2.take N2=F:=⟨_,rfl⟩
     have Wy:F.length=N2:=by rw [←hF,List.length_take];omega
     have hFs:=dx F
     rw [hF] at OT⊢
     have hr3:r2.drop N2=l.drop (k2+1+N2):=by rw [←hr2,List.drop_drop]
     rw [hr3] at OT
     obtain ⟨k3,aaw⟩:∃k3,k2+1+N2=k3:=⟨_,rfl⟩
     have hk3:k3≤l.length:=by omega
     rw [aaw] at S6 OT
     clear hr3 hF hN2 hr2 hrl hnl hWn Zk Wx
     by_cases WA:N2=0
     ·have Y':F=[]:=List.eq_nil_of_length_eq_zero (by omega)
      subst Y'
      have Ww:br []=⟨#[]⟩:=rfl
      rw [Ww]
      have fl:=S6.out.fail
      have HF:=aa fl
      have q0:=S6.out.num.cell 0
      have q1:=S6.out.num.cell 1
      have q2:=S6.out.num.cell 2
      have g0:=S6.out.res.cell 0
      have g1:=S6.out.res.cell 1
      have g2:=S6.out.res.cell 2
      have f0:=S6.out.res.frozen 0
      have f1:=S6.out.res.frozen 1
      have f2:=S6.out.res.frozen 2
      have hN:=aa (show dh l=none from by rw [Eb.out,OT.out,if_pos WA];rfl)
      clear fl
      go_wp2
      exact bodyPost_ret (v:=.tuple #[.agg #[_,_,_],.bool false]) (bY rfl _ _ (w.heap.size+1) 131 _ _ _ (.bool false) rfl rfl HF.out.1 Tryz.underlying131 rfl (by kernel_rfl)) rfl
       ⟨HF.out.2,_,some ⟨g4,0,none⟩,N,D9,_,false,rfl,fun _=>rfl,fun p hp=>by rw [hN.out] at hp;cases hp⟩
     ·have hfr:=OT.out
      rw [if_neg WA] at hfr
      have aax:=aa hfr
      have WC:0<(br F).size:=by omega
      obtain ⟨hWn,Zk⟩:=l_ WC
      have Wx:(!(br F).toList.isEmpty)=true:=by rw [Zk];rfl
      have q1:=S6.out.num.cell 1
      have f1:=S6.out.num.frozen 1
      have hWN:N+(br F).size=(Wd++F).length:=by rw [List.length_append];omega
      have WE:=fun (W:World) (v:Value) (h:W.ownsRow (w.heap.size+4) 5 1 v (N+(br F).size) (NQ Wd++Lib.strCells (br F)))=>(show W.ownsRow (w.heap.size+4) 5 1 v (Wd++F).length (NQ (Wd++F)) from by rw [tz,←hWN];exact h)
      have aay:=aa WE
      have oS6:w7.ownsRow (w.heap.size+4) 5 1 (.slice (some ⟨g4,0,none⟩) N D9) N (NQ Wd):=by have:=S6.out.own;rw [hWl] at this;exact this
      have OS6:=aa oS6
      clear hfr OT WE oS6
      go_upto_region 19 with (at_builtin;refine Lib.wpList_append_own_string _ rfl _ _ 75 9 rfl (w.heap.size+4) 5 iu Tryz.underlying75 Tryz.underlying9 Ze.out Zf.out U4.out Zg.out (.slice (some ⟨g4,0,none⟩) N D9) N (NQ Wd) rfl OS6.out (br F) rfl (by unfold maxLen;omega) (by omega) (Nat.le_trans (by omega) S6.out.big) ?_;intro v8 w8 K_ qB _;obtain ⟨g8,WI,rfl,_⟩:=World.ownsRow.form K_ (by omega);have qg1:=(S6.out.je qB).cell 1;have fg1:=(S6.out.je qB).frozen 1)
      have S7:=aa (show nB (w8.setCell ⟨w.heap.size+2,1,none⟩ (.slice (some ⟨g8,0,none⟩) (N+(br F).size) WI)) w.heap.size w l k3 neg (.slice (some ⟨g8,0,none⟩) (N+(br F).size) WI) (Wd++F) 0 from S6.out.grow (aay.out _ _ K_) qB)
      rw [show (br F).size=N2 by omega] at S7
      have qe:=S7.out.num.cell 2
      have fe:=S7.out.num.frozen 2
      have S8:=aa (S7.out.SQ (-(F.length:Int)))
      have qg2:=(S6.out.je qB).cell 2
      have fg2:=(S6.out.je qB).frozen 2
      have aaz:F.length≤l.length:=by omega
      have hFb:(F.length:Int)≤1000000:=by omega
      have hbF:((br F).size:Int)=(F.length:Int):=by rw [hFs]
      clear K_ qB q1 f1 qe fe Wy hFs
      go_wp2_with fail
      go_meet
      exact ⟨k3,F,_,aax.out,hk3,aaz,S8.out⟩
    |false=>
     have sJ:=of_decide_eq_false U8.out
     have hfr:jI (l.drop k2)=some ([],l.drop k2):=by unfold jI;rw [if_neg sJ]
     have OT:=aa hfr
     clear sJ U8 hfr
     go_wp2_with fail
     go_meet
     exact ⟨k2,[],_,OT.out,hk2,Nat.zero_le _,by have:=S5.out;rw [List.append_nil];exact this⟩
   case rest=>
   obtain ⟨k3,F,dv,hfr,hk3,Wy,hS⟩:=hcut
   have S6:=aa hS
   have hsc:=Eb.out
   rw [hfr] at hsc
   have Ec:=aa (show dh l=(oZ (l.drop k3)).bind fun x=>if x.2.2=[] then some (neg,Wd,F,x.1,x.2.1) else none from hsc)
   clear hS hfr hsc Eb S5 U8
   go_wp2_with fail
   refine (O1.out [101,69] k3 _ (by decide) hk3 S6.out.at_).mono ?_
   rintro e w7 ⟨rfl,hat,bS⟩
   rw [A4] at hat
   rw [A4]
   obtain ⟨bE,Zl⟩:∃b,decide ((l.drop k3).head? =some 101∨(l.drop k3).head? =some 69)=b:=⟨_,rfl⟩
   rw [Zl] at hat
   rw [Zl]
   have HE:=aa Zl
   have S7:=aa (S6.out.turn hat bS)
   clear hat bS S6 Zl
   go_upto_if 53 with fail
   go_cut [12] (fun v wx=>∃k4 down ds,oZ (l.drop k3)=some (down,ds,l.drop k4)∧k4≤l.length∧nB wx w.heap.size w l k4 neg dv (Wd++F) (-(F.length:Int)+jY down (gY 1048576 ds)))
   case first=>
    cases bE with
    |true=>
     have hE:=of_decide_eq_true HE.out
     have La:k3+1≤l.length:=by
      have:1≤(l.drop k3).length:=by rcases hE with h|h;exact jm h;exact jm h
      rw [List.length_drop] at this;omega
     have S7':=aa (show nB w7 w.heap.size w l (k3+1) neg dv (Wd++F) (-(F.length:Int)) from S7.out)
     obtain ⟨r3,hr3⟩:∃r3,l.drop (k3+1)=r3:=⟨_,rfl⟩
     have D6:(l.drop k3).tail=r3:=by rw [←hr3,List.tail_drop]
     have hex:oZ (l.drop k3)=if nd (bq r3).2=0 then none else some ((bq r3).1,(bq r3).2.take (nd (bq r3).2),(bq r3).2.drop (nd (bq r3).2)):=by
      unfold oZ;rw [if_pos hE,D6]
     have WJ:=aa hex
     obtain ⟨NW,K8⟩:=wL r3
     clear hex D6 hE HE S7
     go_wp2_with fail
     refine (O1.out [45] (k3+1) _ (by decide) La S7'.out.at_).mono ?_
     rintro e w8 ⟨rfl,hat,bS⟩
     rw [fV,hr3,←K8] at hat
     rw [fV,hr3,←K8]
     have S8:=aa (S7'.out.turn hat bS)
     obtain ⟨down,hdn⟩:∃down,(bq r3).1=down:=⟨_,rfl⟩
     rw [hdn] at S8 WJ K8
     rw [hdn]
     have SS:=aa K8
     have OU:=aa NW
     clear hat bS S7' hdn NW K8
     go_upto_if 57 with fail
     go_cut [59] (fun v wx=>∃k5,(bq r3).2=l.drop k5∧k5≤l.length∧nB wx w.heap.size w l k5 neg dv (Wd++F) (-(F.length:Int)))
     case first=>
      cases down with
      |true=>
       have oG:=of_decide_eq_true SS.out.symm
       have hk5:k3+1+1≤l.length:=by have:=jm oG;rw [←hr3,List.length_drop] at this;omega
       have hs5:(bq r3).2=l.drop (k3+1+1):=by
        rw [OU.out,if_pos (.inl oG),←hr3,List.drop_drop]
       have Hs5:=aa hs5
       clear oG hs5
       go_wp2_with fail
       go_meet
       exact ⟨k3+1+1,Hs5.out,hk5,S8.out⟩
      |false=>
       have oG:=of_decide_eq_false SS.out.symm
       have H45:=aa oG
       have S8':=aa (show nB w8 w.heap.size w l (k3+1) neg dv (Wd++F) (-(F.length:Int)) from S8.out)
       clear oG S8
       go_wp2_with fail
       refine (O1.out [43] (k3+1) _ (by decide) La S8'.out.at_).mono ?_
       rintro e w9 ⟨rfl,hat,bS⟩
       rw [fV,hr3] at hat
       rw [fV,hr3]
       obtain ⟨b43,OV⟩:∃b,decide (r3.head? =some 43)=b:=⟨_,rfl⟩
       rw [OV] at hat
       rw [OV]
       have H43:=aa OV
       have S9:=aa (S8'.out.turn hat bS)
       clear hat bS OV S8'
       go_wp2_with fail
       go_meet
       cases b43 with
       |true=>
        have FH:=of_decide_eq_true H43.out
        have hk5:k3+1+1≤l.length:=by have:=jm FH;rw [←hr3,List.length_drop] at this;omega
        exact ⟨k3+1+1,by rw [OU.out,if_pos (.inr FH),←hr3,List.drop_drop],hk5,S9.out⟩
       |false=>
        have FH:=of_decide_eq_false H43.out
        exact ⟨k3+1,by rw [OU.out,if_neg (by rintro (h|h);exact H45.out h;exact FH h),List.drop_zero,hr3],La,S9.out⟩
     case rest=>
     obtain ⟨k5,hs5,hk5,hS⟩:=hcut
     have S9:=aa hS
     obtain ⟨r4,hr4⟩:∃r4,l.drop k5=r4:=⟨_,rfl⟩
     have hex:=WJ.out
     rw [hs5,hr4] at hex
     have Ed:=aa hex
     have aaA:r4.length=l.length-k5:=by rw [←hr4,List.length_drop]
     clear hS S8 hex WJ OU SS hs5 hr3
     go_wp2_with fail
     refine (DG.out k5 _ hk5 S9.out.at_).mono ?_
     rintro e sK ⟨rfl,hat,bS⟩
     rw [hr4] at hat
     rw [hr4]
     have Ee:=aa (S9.out.turn hat bS)
     clear hat bS S9
     have WL:=tq r4
     have Lb:=tr r4
     obtain ⟨N4,hN4⟩:∃N4,nd r4=N4:=⟨_,rfl⟩
     rw [hN4] at Ee Ed WL Lb⊢
     obtain ⟨ds,NR⟩:∃ds,r4.take N4=ds:=⟨_,rfl⟩
     have Ic:ds.length=N4:=by rw [←NR,List.length_take];omega
     have hdd:∀c∈ds,iL c=true:=fun c hc=>by
      obtain ⟨j,hj,rfl⟩:=List.mem_iff_getElem.1 hc
      have U9:j<r4.length:=by omega
      have e:ds[j]=r4[j]:=by
       have:(r4.take N4)[j]'(by rw [NR];exact hj)=r4[j]:=List.getElem_take
       rw [←this];congr 1;exact NR.symm
      rw [e];exact Lb j U9 (by omega)
     have hdS:=dx ds
     rw [NR] at Ed⊢
     have lV:r4.drop N4=l.drop (k5+N4):=by rw [←hr4,List.drop_drop]
     rw [lV] at Ed
     obtain ⟨k4,aaB⟩:∃k4,k5+N4=k4:=⟨_,rfl⟩
     have hk4:k4≤l.length:=by omega
     rw [aaB] at Ee Ed
     have Hdd:=aa hdd
     clear lV NR hN4 hr4 aaA WL Lb hdd
     by_cases WA:N4=0
     ·have QJ:ds=[]:=List.eq_nil_of_length_eq_zero (by omega)
      subst QJ
      have Ww:br []=⟨#[]⟩:=rfl
      rw [Ww]
      obtain ⟨Af,aaC,WM,_,_,_⟩:=Ee.out.form
      obtain ⟨nf,hnf⟩:∃nf,(Wd++F).length=nf:=⟨_,rfl⟩
      rw [hnf] at WM
      subst WM
      clear hnf
      have fl:=Ee.out.fail
      have HF:=aa fl
      have q0:=Ee.out.num.cell 0
      have q1:=Ee.out.num.cell 1
      have q2:=Ee.out.num.cell 2
      have g0:=Ee.out.res.cell 0
      have g1:=Ee.out.res.cell 1
      have g2:=Ee.out.res.cell 2
      have f0:=Ee.out.res.frozen 0
      have f1:=Ee.out.res.frozen 1
      have f2:=Ee.out.res.frozen 2
      have hN:=aa (show dh l=none from by rw [Ec.out,Ed.out,if_pos WA];rfl)
      clear fl
      go_wp2
      exact bodyPost_ret (v:=.tuple #[.agg #[_,_,_],.bool false]) (bY rfl _ _ (w.heap.size+1) 131 _ _ _ (.bool false) rfl rfl HF.out.1 Tryz.underlying131 rfl (by kernel_rfl)) rfl
       ⟨HF.out.2,_,Af,_,aaC,_,false,rfl,fun _=>rfl,fun p hp=>by rw [hN.out] at hp;cases hp⟩
     ·have hex:=Ed.out
      rw [if_neg WA] at hex
      have WN:=aa hex
      have WO:0<(br ds).size:=by omega
      obtain ⟨abL,WQ⟩:=l_ WO
      have abM:(!(br ds).toList.isEmpty)=true:=by rw [WQ];rfl
      clear hex Ed
      have hcv:=Lib.run_convert_string_bytes (P:=Tryz.prog) sK 9 75 5 (br ds) Tryz.underlying9 Tryz.underlying75 Tryz.underlying5
      have hW0:Below sK.heap.size sK (Lib.bytesWorld sK 5 (br ds)):=⟨rfl,rfl,rfl,by rw [Lib.bytesWorld_size];omega,fun k hk=>Lib.bytesWorld_at_old sK _ _ k hk⟩
      have hWc:∀j,∀hj:j<ds.length,(Lib.bytesWorld sK 5 (br ds)).cell? ⟨sK.heap.size,j,none⟩=some (.int .u8 ((ds[j]'hj).toNat:Int)):=fun j hj=>by
       rw [Lib.bytesWorld_cell sK _ (br ds) j (by omega),List.getD_eq_getElem?_getD,dQ,List.getElem?_eq_getElem hj];rfl
      generalize Lib.bytesWorld sK 5 (br ds)=wB at hcv hW0 hWc
      have HWc:=aa hWc
      have Zm:=aa (Ee.out.below hW0)
      clear hW0 hWc Ee
      go_wp2
      clear hcv
      go_loop [12,68] (fun v vi=>∃i:Nat,vi=.int .i64 i∧i≤ds.length∧v=.int .i64 ((gY 1048576 (ds.take i):Nat):Int)) (fun _ vi=>ds.length-(intOf vi).toNat)
      case atStart=>exact ⟨0,rfl,Nat.zero_le _,rfl⟩
      case round=>
       obtain ⟨i,rfl,hi,rfl⟩:=hrel
       have SU:gY 1048576 (ds.take i)≤1048576:=by rw [mU];exact Nat.min_le_left _ _
       by_cases hlt:i<ds.length
       ·have hcell:=HWc.out i hlt
        have SV:=Hdd.out _ (List.getElem_mem hlt)
        have hes:gY 1048576 (ds.take (i+1))=min 1048576 (10*gY 1048576 (ds.take i)+((ds[i]'hlt).toNat-48)):=by
         rw [List.take_succ_eq_append_getElem hlt]
         unfold gY
         rw [List.foldl_append];rfl
        obtain ⟨c,hc⟩:∃c,ds[i]'hlt=c:=⟨_,rfl⟩
        rw [hc] at hcell SV hes
        simp only [iL,decide_eq_true_eq] at SV
        obtain ⟨E,hE⟩:∃E,gY 1048576 (ds.take i)=E:=⟨_,rfl⟩
        rw [hE] at hes SU⊢
        have hu8:IntKind.u8.wrap ((c.toNat:Int)-48)=(c.toNat:Int)-48:=IntWalk.u8_in _ (by omega)
        have abN:(E:Int)≤1048576:=by omega
        have hc1:(48:Int)≤(c.toNat:Int):=by omega
        have hc2:(c.toNat:Int)≤57:=by omega
        have WR:min (1048576:Int) (10*(E:Int)+((c.toNat:Int)-48))=((gY 1048576 (ds.take (i+1)):Nat):Int):=by rw [hes];omega
        have aaD:=aa WR
        clear hc hes SV hE WR
        go_wp2
        go_round
        case rel=>exact ⟨i+1,by go_num,by omega,by rw [aaD.out]⟩
        case measure=>simp [intOf];omega
       ·obtain rfl:i=ds.length:=by omega
        rw [List.take_length] at SU⊢
        obtain ⟨E,hE⟩:∃E,gY 1048576 ds=E:=⟨_,rfl⟩
        rw [hE] at SU⊢
        have hEb:(E:Int)≤1048576:=by omega
        have qe:=Zm.out.num.cell 2
        have fe:=Zm.out.num.frozen 2
        have hFb:(F.length:Int)≤1000000:=by omega
        cases down with
        |true=>
         have S12:=aa (Zm.out.SQ (-(F.length:Int)+ -(E:Int)))
         have WT:=aa (show (-(F.length:Int)+ -(E:Int))=-(F.length:Int)+jY true (gY 1048576 ds) by rw [hE];rfl)
         clear hE
         go_wp2_with fail
         go_meet
         exact ⟨k4,true,ds,WN.out,hk4,by rw [←WT.out];exact S12.out⟩
        |false=>
         have S12:=aa (Zm.out.SQ (-(F.length:Int)+(E:Int)))
         have WT:=aa (show (-(F.length:Int)+(E:Int))=-(F.length:Int)+jY false (gY 1048576 ds) by rw [hE];rfl)
         clear hE
         go_wp2_with fail
         go_meet
         exact ⟨k4,false,ds,WN.out,hk4,by rw [←WT.out];exact S12.out⟩
    |false=>
     have hE:=of_decide_eq_false HE.out
     have hex:oZ (l.drop k3)=some (false,[],l.drop k3):=by unfold oZ;rw [if_neg hE]
     have WJ:=aa hex
     have hz0:-(F.length:Int)+jY false (gY 1048576 [])=-(F.length:Int):=by
      have:jY false (gY 1048576 [])=0:=rfl
      rw [this,Int.add_zero]
     have Zn:=aa hz0
     clear hE HE hex hz0
     go_wp2_with fail
     go_meet
     exact ⟨k3,false,[],WJ.out,hk3,by rw [Zn.out];exact S7.out⟩
   case rest=>
   obtain ⟨k4,down,ds,hex,hk4,hS⟩:=hcut
   have hsc:=Ec.out
   rw [hex] at hsc
   have WU:dh l=if l.drop k4=[] then some (neg,Wd,F,down,ds) else none:=hsc
   have S8:=aa hS
   have hFb:(F.length:Int)≤1000000:=by omega
   have abO:gY 1048576 ds≤1048576:=by rw [mU];exact Nat.min_le_left _ _
   obtain ⟨X,hX⟩:∃X,-(F.length:Int)+jY down (gY 1048576 ds)=X:=⟨_,rfl⟩
   have hX1:-1000000000≤X:=by rw [←hX];unfold jY;split<;>omega
   have hX2:X≤1000000000:=by rw [←hX];unfold jY;split<;>omega
   rw [hX] at S8
   obtain ⟨A,cap,WM,pn,QO,hcm⟩:=S8.out.form
   obtain ⟨n,hn⟩:∃n,(Wd++F).length=n:=⟨_,rfl⟩
   have hnz:n≤1000000:=by rw [←hn,List.length_append];omega
   rw [hn] at WM QO
   subst WM
   have HSl:=aa pn
   have TR:=aa (fun (W:World) (h:Sl j_ W A (Wd++F))=>K6 neg A n cap (Wd++F) X W hn.symm (by omega) QO hcm hX1 hX2 h)
   have q0:wc.cell? ⟨w.heap.size+2,0,none⟩=some (.bool neg):=S8.out.num.cell 0
   have q1:wc.cell? ⟨w.heap.size+2,1,none⟩=some (.slice A n cap):=S8.out.num.cell 1
   have q2:wc.cell? ⟨w.heap.size+2,2,none⟩=some (.int .i64 X):=S8.out.num.cell 2
   have q3:wc.cell? ⟨w.heap.size+3,0,none⟩=some (.int .i64 (k4:Int)):=S8.out.at_.pos.cell 0
   have q4:wc.cell? ⟨w.heap.size,0,none⟩=some (.string (br l)):=S8.out.at_.txt.cell 0
   have Hn:=aa hn
   have HX:=aa hX
   have HSc:=aa WU
   have hbig:=S8.out.big
   unfold gm at TR
   clear hS hex hsc WU Ec S7 HE hn hX pn
   go_upto_region 36 with fail
   go_region_held3 (fun w'=>w'.cell? ⟨w.heap.size+2,0,none⟩=some (.bool neg)∧w'.cell? ⟨w.heap.size+2,1,none⟩=some (.slice A n cap)∧w'.cell? ⟨w.heap.size+2,2,none⟩=some (.int .i64 X)∧w'.cell? ⟨w.heap.size+3,0,none⟩=some (.int .i64 (k4:Int))∧w'.cell? ⟨w.heap.size,0,none⟩=some (.string (br l)))
    (first|exact ⟨y0,y1,y2,y3,y4⟩|go_keep)
    ((go_at_call 178;refine (TR.out _ (HSl.out.below (Below.refl _ _).drew)).mono ?_;rintro e wT ⟨A2,nA,yG,NX,rfl,hs2,hc2,rq,hb2,ht2,ht3⟩;have y0:=(hb2.cell (p:=⟨w.heap.size+2,0,none⟩) (show w.heap.size+2<wc.heap.size by omega)).trans q0;have y1:=(hb2.cell (p:=⟨w.heap.size+2,1,none⟩) (show w.heap.size+2<wc.heap.size by omega)).trans q1;have y2:=(hb2.cell (p:=⟨w.heap.size+2,2,none⟩) (show w.heap.size+2<wc.heap.size by omega)).trans q2;have y3:=(hb2.cell (p:=⟨w.heap.size+3,0,none⟩) (show w.heap.size+3<wc.heap.size by omega)).trans q3;have y4:=(hb2.cell (p:=⟨w.heap.size,0,none⟩) (show w.heap.size<wc.heap.size by omega)).trans q4;have yr:Row wT (w.heap.size+1) 131 #[.bool false,.slice none 0 0,.int .i64 0]:=S8.out.res.drew.below hb2 (show w.heap.size+1<wc.heap.size by omega);have z0:wT.cell? ⟨w.heap.size+1,0,none⟩=some (.bool false):=yr.cell 0;have z1:wT.cell? ⟨w.heap.size+1,1,none⟩=some (.slice none 0 0):=yr.cell 1;have z2:wT.cell? ⟨w.heap.size+1,2,none⟩=some (.int .i64 0):=yr.cell 2;have f0:wT.frozen? ⟨w.heap.size+1,0,none⟩=false:=yr.frozen 0;have f1:wT.frozen? ⟨w.heap.size+1,1,none⟩=false:=yr.frozen 1;have f2:wT.frozen? ⟨w.heap.size+1,2,none⟩=false:=yr.frozen 2))
   have hb3:Below w.heap.size w wT:=S8.out.Ij.trans ((show Below wc.heap.size wc wT from ⟨hb2.os,hb2.tape,hb2.output,hb2.size,hb2.block⟩).mono (Nat.le_trans (by omega) hbig))
   have bS:af (fun c=>c=w.heap.size+1) wT (((wT.setCell ⟨w.heap.size+1,0,none⟩ (.bool yG)).setCell ⟨w.heap.size+1,1,none⟩ (.slice A2 (aO (Wd++F)).length nA)).setCell ⟨w.heap.size+1,2,none⟩ (.int .i64 NX)):=(((af.refl (fun c=>c=w.heap.size+1) wT).set (.inl rfl) 0 _).set (.inl rfl) 1 _).set (.inl rfl) 2 _
   have WV:=SR hs2 yr (by
    intro i c
    match i with
    |0=>intro h;cases h
    |1=>intro h;cases h
    |2=>intro h;cases h
    |i+3=>intro h;cases h) bS
   have QP:Row (((wT.setCell ⟨w.heap.size+1,0,none⟩ (.bool yG)).setCell ⟨w.heap.size+1,1,none⟩ (.slice A2 (aO (Wd++F)).length nA)).setCell ⟨w.heap.size+1,2,none⟩ (.int .i64 NX)) (w.heap.size+1) 131 #[.bool yG,.slice A2 (aO (Wd++F)).length nA,.int .i64 NX]:=((yr.bg 0 (.bool yG)).bg 1 (.slice A2 (aO (Wd++F)).length nA)).bg 2 (.int .i64 NX)
   have hbF:=((hb3.setCell (p:=⟨w.heap.size+1,0,none⟩) (Nat.le_succ _) (.bool yG)).setCell (p:=⟨w.heap.size+1,1,none⟩) (Nat.le_succ _) (.slice A2 (aO (Wd++F)).length nA)).setCell (p:=⟨w.heap.size+1,2,none⟩) (Nat.le_succ _) (.int .i64 NX)
   have Ik:A5 l w.heap.size w (.returned (.tuple #[gm yG A2 (aO (Wd++F)).length nA NX,.bool ((k4:Int)==(l.length:Int))])) (((wT.setCell ⟨w.heap.size+1,0,none⟩ (.bool yG)).setCell ⟨w.heap.size+1,1,none⟩ (.slice A2 (aO (Wd++F)).length nA)).setCell ⟨w.heap.size+1,2,none⟩ (.int .i64 NX)):=by
    refine ⟨hbF,yG,A2,_,nA,NX,_,rfl,fun hnone=>?_,fun p hp=>?_⟩
    ·rw [HSc.out] at hnone
     refine beq_eq_false_iff_ne.2 (fun e=>?_)
     have:l.drop k4=[]:=List.drop_eq_nil_of_le (by omega)
     rw [if_pos this] at hnone;cases hnone
    ·rw [HSc.out] at hp
     split at hp
     ·rename_i hd
      cases hp
      have JZ:k4=l.length:=by
       have:=congrArg List.length hd
       rw [List.length_drop] at this
       simp at this;omega
      refine ⟨by rw [JZ];simp,rfl,WV,hc2,rq,fun hne=>?_,fun h=>(ht3 h).2⟩
      obtain ⟨e1,e2⟩:=ht2 hne
      refine ⟨e1,?_⟩
      have hlen:((Wd++F).dropWhile (·==48)).length+jJ (Wd++F)=(Wd++F).length:=by
       unfold jJ
       have:=congrArg List.length (List.takeWhile_append_dropWhile (p:=(·==(48:UInt8))) (l:=Wd++F))
       rw [List.length_append] at this;omega
      rw [List.length_append] at hlen
      have hXo:=HX.out
      rw [e2]
      simp only
      omega
     ·cases hp
   have aaE:=aa Ik
   have WW:=aa QP
   clear Ik QP hbF WV bS hb3 ht2 ht3 hs2 hc2 rq hb2 y0 y1 y2 y3 y4 yr z0 z1 z2 f0 f1 f2 HSl TR q0 q1 q2 q3 q4 HSc HX Hn
   go_wp2
   exact bodyPost_ret (v:=.tuple #[gm yG A2 (aO (Wd++F)).length nA NX,.bool ((k4:Int)==(l.length:Int))]) (bY rfl _ _ (w.heap.size+1) 131 _ _ _ (.bool ((k4:Int)==(l.length:Int))) rfl rfl WW.out Tryz.underlying131 rfl (by kernel_rfl)) rfl aaE.out
end Go.Proofs.YtddoehnkgcbboaaGreatDoor
namespace Go.Proofs.YtddoehnkgcbboaaGreatDoor
open Go.RowKit Go.Shelf Go.Sort
theorem F_ {W:World} {A:Option Addr} {l:List UInt8} (cap:Nat) (h:Sl j_ W A l) (hp:0<l.length):(convert 75 9 (.slice A l.length cap)).run Tryz.prog W=.ok (.string (br l)) W:=by
 obtain ⟨b,off,rfl,hat⟩:=h hp
 refine run_convert_bytes_back W _ _ 5 ⟨b,off,none⟩ cap l (by kernel_rfl) (by kernel_rfl) (by kernel_rfl) (fun j hj=>?_)
 have hadd:(⟨b,off,none⟩:Addr).add j=⟨b,off+j,none⟩:=by unfold Addr.add;split<;>simp_all
 rw [hadd]
 exact hat j hj
theorem tL (a b:List UInt8):br a++br b=br (a++b):=by
 apply Go.WideShapes.bytes_inj
 rw [o_,dQ,dQ,dQ]
theorem tM (neg:Bool) (A:Option Addr) (n cap:Nat) (T:List UInt8) (ex:Int) (w:World) (hn:n=T.length) (hz:T.length≤1000000) (hc:n≤cap) (hcm:cap≤maxLen) (h0:-1000000000≤ex) (h1:ex≤1000000000) (hs:Sl j_ w A T) (hg:Gl w):
 Calls Tryz.prog 145 #[gm neg A n cap ex] w fun e w'=>e=.returned (.tuple #[.string (aX neg T (ex+n-1)).1,.int .i64 (aX neg T (ex+n-1)).2])∧Below w.heap.size w w':=by
 subst hn
 have FR:=aa (fun W:World=>yC neg A T.length cap ex W hz h0 h1)
 have Hs:=aa hs
 have G:=aa hg
 clear hs hg
 unfold gm at FR⊢
 obtain ⟨fi,Aj⟩:∃fi,ex+(T.length:Int)-1=fi:=⟨_,rfl⟩
 rw [Aj] at FR⊢
 have hrow:=Row.new w 131 #[.bool neg,.slice A T.length cap,.int .i64 ex]
 have hbl:=(Below.refl w.heap.size w).alloc (Nat.le_refl _) (.cells #[.bool neg,.slice A T.length cap,.int .i64 ex] 131)
 have R0:=aa hrow
 have B0:=aa hbl
 clear hrow hbl
 by_cases hT:T.length=0
 ·have NV:T=[]:=List.eq_nil_of_length_eq_zero hT
  have hR:aX neg T fi=(⟨#[48]⟩,0):=by unfold aX;rw [if_pos NV]
  rw [hR]
  have hTI:(T.length:Int)=0:=by omega
  clear NV hR
  go_enter Tryz.func145,Tryz.ntmps145
  go_wp2
  go_ret2
  exact ⟨rfl,(Below.refl _ _).alloc (Nat.le_refl _) _⟩
 ·have OW:T≠[]:=fun e=>hT (by rw [e];rfl)
  have hTI:(T.length:Int)≠0:=by omega
  by_cases U_:17<T.length
  ·have hR:aX neg T fi=(⟨#[]⟩,9):=by unfold aX;rw [if_neg OW,if_pos (.inl U_)]
   rw [hR]
   have aaF:(17:Int)<(T.length:Int):=by omega
   clear hR
   go_enter Tryz.func145,Tryz.ntmps145
   go_wp2
   go_ret2
   exact ⟨rfl,B0.out⟩
  ·have aaF:¬(17:Int)<(T.length:Int):=by omega
   by_cases hlo:fi< -400
   ·have hR:aX neg T fi=(⟨#[]⟩,9):=by unfold aX;rw [if_neg OW,if_pos (.inr (.inl hlo))]
    rw [hR]
    clear hR
    go_enter Tryz.func145,Tryz.ntmps145
    go_wp2_with fail
    refine (FR.out _).mono ?_
    rintro e w1 ⟨rfl,hb⟩
    have B1:=aa (B0.out.trans (hb.mono B0.out.size))
    clear hb
    go_wp2
    go_ret2
    exact ⟨rfl,B1.out⟩
   ·by_cases hhi:400<fi
    ·have hR:aX neg T fi=(⟨#[]⟩,9):=by unfold aX;rw [if_neg OW,if_pos (.inr (.inr hhi))]
     rw [hR]
     clear hR
     go_enter Tryz.func145,Tryz.ntmps145
     go_wp2_with fail
     refine (FR.out _).mono ?_
     rintro e w1 ⟨rfl,hb⟩
     have B1:=aa (B0.out.trans (hb.mono B0.out.size))
     have R1:=aa (R0.out.below hb R0.out.lt)
     have q0:w1.cell? ⟨w.heap.size,0,none⟩=some (.bool neg):=R1.out.cell 0
     have q1:w1.cell? ⟨w.heap.size,1,none⟩=some (.slice A T.length cap):=R1.out.cell 1
     have q2:w1.cell? ⟨w.heap.size,2,none⟩=some (.int .i64 ex):=R1.out.cell 2
     clear hb
     go_wp2_with fail
     refine (FR.out _).mono ?_
     rintro e w2 ⟨rfl,hb⟩
     have B2:=aa (B1.out.trans (hb.mono B1.out.size))
     clear hb
     go_wp2
     go_ret2
     exact ⟨rfl,B2.out⟩
    ·have hR:aX neg T fi=(br ((if neg then [45] else [])++(T.take 1++(if 1<T.length then 46::T.drop 1 else [])))++⟨#[101]⟩++k_ fi,0):=by
      unfold aX;rw [if_neg OW,if_neg (by omega)]
     rw [hR]
     have IT:=aa (fun (W:World) (h:Gl W)=>Kz fi W (by omega) (by omega) h)
     have ht1:(T.take 1).length=1:=by rw [List.length_take];omega
     have Ic:(T.drop 1).length=T.length-1:=List.length_drop
     obtain ⟨t1,SZ⟩:∃t1,T.take 1=t1:=⟨_,rfl⟩
     obtain ⟨td,Zj⟩:∃td,T.drop 1=td:=⟨_,rfl⟩
     rw [SZ] at ht1⊢
     rw [Zj] at Ic⊢
     obtain ⟨Rb,hRb⟩:∃Rb,br ((if neg then [45] else [])++(t1++(if 1<T.length then 46::td else [])))++⟨#[101]⟩++k_ fi=Rb:=⟨_,rfl⟩
     rw [hRb]
     have HRb:=aa hRb
     have Ht1:=aa SZ
     have Htd:=aa Zj
     have WY:=aa Ic
     have hzd:(k_ fi).size≤21:=by
      have:=Lib.itoa_length_le fi (by omega) (by omega)
      show (Lib.itoa fi).toArray.size≤21
      simpa using this
     clear hR SZ Zj Ic hRb
     go_enter Tryz.func145,Tryz.ntmps145
     go_wp2_with fail
     refine (FR.out _).mono ?_
     rintro e w1 ⟨rfl,hb⟩
     have B1:=aa (B0.out.trans (hb.mono B0.out.size))
     have R1:=aa (R0.out.below hb R0.out.lt)
     have q0:w1.cell? ⟨w.heap.size,0,none⟩=some (.bool neg):=R1.out.cell 0
     have q1:w1.cell? ⟨w.heap.size,1,none⟩=some (.slice A T.length cap):=R1.out.cell 1
     have q2:w1.cell? ⟨w.heap.size,2,none⟩=some (.int .i64 ex):=R1.out.cell 2
     clear hb
     go_wp2_with fail
     refine (FR.out _).mono ?_
     rintro e w2 ⟨rfl,hb⟩
     have B2:=aa (B1.out.trans (hb.mono B1.out.size))
     have R2:=aa (R1.out.below hb R1.out.lt)
     clear hb q0 q1 q2
     have q0:w2.cell? ⟨w.heap.size,0,none⟩=some (.bool neg):=R2.out.cell 0
     have q1:w2.cell? ⟨w.heap.size,1,none⟩=some (.slice A T.length cap):=R2.out.cell 1
     have q2:w2.cell? ⟨w.heap.size,2,none⟩=some (.int .i64 ex):=R2.out.cell 2
     have S2:=Hs.out.below B2.out
     have hSt:=F8 S2 1
     rw [Ht1.out] at hSt
     have WZ:=F_ cap hSt (by omega)
     rw [ht1] at WZ
     clear hSt
     obtain ⟨b,off,hA,hat⟩:=S2 (by omega)
     subst hA
     have hS1:=F7 hat 1
     rw [Htd.out] at hS1
     obtain ⟨tl,D6⟩:∃tl,(if 1<T.length then 46::td else [])=tl:=⟨_,rfl⟩
     have hcI:(1:Int)≤(cap:Int):=by omega
     have hTc:(T.length:Int)≤(cap:Int):=by omega
     have hT1:(1:Int)≤(T.length:Int):=by omega
     go_upto_if 30 with fail
     go_cut [4] (fun v wx=>v=.string (br (t1++tl))∧wx=w2)
     case first=>
      by_cases h1T:1<T.length
      ·have h1I:(1:Int)<(T.length:Int):=by omega
       have cI:¬cap=1:=by omega
       have aaG:=F_ (cap-1) hS1 (by have:=WY.out;omega)
       rw [WY.out] at aaG
       have abl:¬cap-1=0:=by omega
       rw [if_pos h1T] at D6
       have d1:=fun W=>oY (P:=Tryz.prog) ⟨#[46]⟩ (br (td)) (by have:=WY.out;rw [dx];show 1+_≤1000;omega) W
       have e1:(⟨#[46]⟩:ByteArray)++br (td)=br (46::td):=tL [46] (td)
       rw [e1,D6] at d1
       have abP:tl.length≤20:=by have:=WY.out;rw [←D6,List.length_cons];omega
       have d2:=fun W=>oY (P:=Tryz.prog) (br (t1)) (br tl) (by rw [dx,dx];omega) W
       rw [tL] at d2
       clear e1
       go_wp2_with fail
       go_meet
       exact ⟨rfl,rfl⟩
      ·have h1I:¬(1:Int)<(T.length:Int):=by omega
       rw [if_neg h1T] at D6
       subst D6
       go_wp2_with fail
       go_meet
       exact ⟨by rw [List.append_nil],rfl⟩
     case rest=>
     obtain ⟨rfl,rfl⟩:=hcut
     obtain ⟨m,hm⟩:∃m,t1++tl=m:=⟨_,rfl⟩
     have QM:m.length≤30:=by
      rw [←hm,List.length_append,←D6]
      have:=WY.out
      split
      ·rw [List.length_cons];omega
      ·show _+0≤30;omega
     rw [hm]
     have Hm:=aa hm
     have Htl:=aa D6
     clear WZ hS1 hat D6 hm ht1
     go_upto_if 39 with fail
     go_cut [4] (fun v wx=>v=.string (br ((if neg then [45] else [])++m))∧wx=wc)
     case first=>
      cases neg with
      |true=>
       have d1:=fun W=>oY (P:=Tryz.prog) ⟨#[45]⟩ (br m) (by rw [dx];show 1+_≤1000;omega) W
       have e1:(⟨#[45]⟩:ByteArray)++br m=br (45::m):=tL [45] m
       rw [e1] at d1
       clear e1
       go_wp2_with fail
       go_meet
       exact ⟨rfl,rfl⟩
      |false=>
       go_wp2_with fail
       go_meet
       exact ⟨rfl,rfl⟩
     case rest=>
     obtain ⟨rfl,hwx⟩:=hcut
     obtain ⟨M,hM⟩:∃M,(if neg then [45] else [])++m=M:=⟨_,rfl⟩
     have hMz:M.length≤31:=by
      rw [←hM,List.length_append]
      have:(if neg then [45] else []:List UInt8).length≤1:=by split<;>simp
      omega
     rw [hM]
     subst hwx
     have d1:=fun W=>oY (P:=Tryz.prog) (br M) ⟨#[101]⟩ (by rw [dx];show _+1≤1000;omega) W
     have d2:=fun W=>oY (P:=Tryz.prog) (br M++⟨#[101]⟩) (k_ fi) (by rw [ByteArray.size_append,dx];show _+1+_≤1000;omega) W
     have HM:=aa hM
     clear hM
     go_wp2_with fail
     refine (FR.out _).mono ?_
     rintro e w3 ⟨rfl,hb⟩
     have B3:=aa (B2.out.trans (hb.mono B2.out.size))
     clear hb
     go_wp2_with fail
     refine (IT.out _ (G.out.below B3.out)).mono ?_
     rintro e w4 ⟨rfl,hb⟩
     have B4:=aa (B3.out.trans (hb.mono B3.out.size))
     clear hb
     have he:br M++⟨#[101]⟩++k_ fi=Rb:=by rw [←HM.out,←Hm.out,←Htl.out];exact HRb.out
     have He:=aa he
     clear he
     go_wp2
     go_ret2
     exact ⟨by rw [←He.out];rfl,B4.out⟩
theorem Ef (a b:ByteArray):(a.toList==b.toList)=decide (a=b):=by
 rw [Bool.eq_iff_iff,beq_iff_eq,decide_eq_true_eq]
 constructor
 ·intro h;exact Go.WideShapes.bytes_inj (by rw [←Lib.toList_data,←Lib.toList_data,h])
 ·intro h;rw [h]
theorem lj (neg:Bool) (a b:Int):aX neg [] a=aX false [] b:=by unfold aX;rw [if_pos rfl,if_pos rfl]
theorem py {l:List UInt8} {p:Bool×List UInt8×List UInt8×Bool×List UInt8} {neg:Bool} {n:Nat} {ex:Int} (hp:dh l=some p) (hn:n=(aO (p.2.1++p.2.2.1)).length)
 (h:aO (p.2.1++p.2.2.1)≠[]→neg=p.1∧ex+n-1=(p.2.1.length:Int)-1-jJ (p.2.1++p.2.2.1)+jY p.2.2.2.1 (gY 1048576 p.2.2.2.2)):
 aY 100000 l=aX neg (aO (p.2.1++p.2.2.1)) (ex+n-1):=by
 rw [←DO]
 unfold aY
 rw [hp]
 show G' 1048576 p=_
 unfold G'
 by_cases hT:aO (p.2.1++p.2.2.1)=[]
 ·rw [hT]
  exact (lj _ _ 0).trans (lj _ _ 0).symm
 ·obtain ⟨h1,h2⟩:=h hT
  rw [h1,h2]
theorem qC {l:List UInt8} {p:Bool×List UInt8×List UInt8×Bool×List UInt8} (hp:dh l=some p):(aO (p.2.1++p.2.2.1)).length≤128:=by
 obtain ⟨_,h2,h3,_⟩:=qh hp
 have h4:=(A0 ((p.2.1++p.2.2.1).dropWhile (·==48))).1
 have h5:=(List.dropWhile_suffix (p:=(·==(48:UInt8))) (l:=p.2.1++p.2.2.1)).length_le
 rw [List.length_append] at h5
 rw [px]
 omega
theorem wN {l:List UInt8} {p:Bool×List UInt8×List UInt8×Bool×List UInt8} {neg:Bool} {n:Nat} {ex:Int} (hp:dh l=some p) (hn:n=(aO (p.2.1++p.2.2.1)).length)
 (h:aO (p.2.1++p.2.2.1)≠[]→neg=p.1∧ex+n-1=(p.2.1.length:Int)-1-jJ (p.2.1++p.2.2.1)+jY p.2.2.2.1 (gY 1048576 p.2.2.2.2)) (h0:aO (p.2.1++p.2.2.1)=[]→ex=0):
 -1000000000≤ex∧ex≤1000000000:=by
 obtain ⟨_,h2,h3,_⟩:=qh hp
 have hs:=qC hp
 have hl:=AA (p.2.1++p.2.2.1)
 rw [List.length_append] at hl
 have he:gY 1048576 p.2.2.2.2≤1048576:=by rw [mU];exact Nat.min_le_left _ _
 by_cases hT:aO (p.2.1++p.2.2.1)=[]
 ·rw [h0 hT];decide
 ·obtain ⟨_,h1⟩:=h hT
  unfold jY at h1
  split at h1<;>omega
theorem yH (l:List UInt8) (w:World) (hz:l.length≤1000000) (hg:Gl w):
 Calls Tryz.prog 160 #[.string (br l)] w fun e w'=>e=.returned (.tuple #[.string (aY 100000 l).1,.int .i64 (aY 100000 l).2])∧Below w.heap.size w w':=by
 have SC:=aa (A6 l w hz)
 have G:=aa hg
 clear hg
 obtain ⟨R,hR⟩:∃R,aY 100000 l=R:=⟨_,rfl⟩
 have HR:=aa hR
 rw [hR]
 clear hR
 generalize br l=lb at*
 go_enter Tryz.func160,Tryz.ntmps160
 go_wp2_with fail
 refine SC.out.mono ?_
 rintro e w1 ⟨hb,neg,A,n,cap,ex,ok,rfl,hno,Lc⟩
 have B1:=aa hb
 have Ld:=aa Lc
 have QN:=aa hno
 clear hb Lc hno
 unfold gm
 cases hsc:dh l with
 |none=>
  obtain rfl:=QN.out hsc
  have Zo:R=(⟨#[]⟩,3):=by rw [←HR.out];unfold aY;rw [hsc]
  subst Zo
  clear hsc
  go_wp2
  go_ret2
  exact ⟨rfl,B1.out.alloc B1.out.size _⟩
 |some p=>
  obtain ⟨rfl,hn,pn,QO,hcm,h1,h2⟩:=Ld.out p hsc
  have heq:=py hsc hn h1
  obtain ⟨x1,x2⟩:=wN hsc hn h1 h2
  have S_:=qC hsc
  obtain ⟨T,hT⟩:∃T,aO (p.2.1++p.2.2.1)=T:=⟨_,rfl⟩
  rw [hT] at hn pn heq S_
  have TX:=aa (fun (W:World) (h:Sl j_ W A T) (hg:Gl W)=>tM neg A n cap T ex W hn (by omega) QO hcm x1 x2 h hg)
  rw [←heq,HR.out] at TX
  have U5:=aa (pn.below ((Below.refl w1.heap.size w1).alloc (Nat.le_refl _) (.cells #[.bool neg,.slice A n cap,.int .i64 ex] 131)))
  have B2:=aa (B1.out.alloc B1.out.size (.cells #[.bool neg,.slice A n cap,.int .i64 ex] 131))
  unfold gm at TX
  clear hsc hn pn heq h1 h2 hT Ld QN
  go_wp2_with fail
  refine (TX.out _ U5.out (G.out.below B2.out)).mono ?_
  rintro e w2 ⟨rfl,hb⟩
  have B3:=aa (B2.out.trans (hb.mono B2.out.size))
  clear hb
  go_wp2
  go_ret2
  exact ⟨rfl,B3.out⟩
theorem Eg (l:List UInt8):ku l=(decide ((aY 100000 l).2=0)&&decide ((aY 100000 l).1=br l)):=by
 unfold ku
 rw [Bool.eq_iff_iff,Bool.and_eq_true,decide_eq_true_eq,decide_eq_true_eq,decide_eq_true_eq]
 constructor
 ·rintro ⟨h1,h2⟩;exact ⟨h1,Go.WideShapes.bytes_inj (by rw [h2,dQ])⟩
 ·rintro ⟨h1,h2⟩;exact ⟨h1,by rw [h2,dQ]⟩
end Go.Proofs.YtddoehnkgcbboaaGreatDoor
namespace Go.Proofs.YtddoehnkgcbboaaGreatDoor
open Go.RowKit Go.Shelf
def fq:List (List UInt8)→List UInt8→Nat
 |[],_=>0
 |u::us,t=>if Lib.hasPrefix t u=true then u.length else fq us t
def fW (t:List UInt8):Nat:=fq cq t
def jB (l:List UInt8) (n:Nat):Nat:=
 match l.drop n with
 |46::c::_=>if aZ c then n+1+aQ aZ (l.drop (n+1)) else n
 |_=>n
def cz (t:List UInt8):List UInt8×Int:=((aY 100000 t).1.data.toList,(aY 100000 t).2)
def tN (l:List UInt8) (n C e2 k:Nat):Wq:=
 if 0<C then (if bC l C then ⟨3,(dB (l.take C)).1,C,(dB (l.take C)).2⟩ else cn 3)
 else if n<e2 then (if bC l e2 then ⟨4,(cz (l.take e2)).1,e2,(cz (l.take e2)).2⟩ else cn 3)
 else if bC l (n+k)=false then cn 3
 else if 15<(bI (l.take n)).length then cn 9
 else lX (if k=0 then 1 else 2) (bI (l.take n)++(l.drop n).take k) (n+k)
def dE (l:List UInt8):Wq:=tN l (aQ aZ l) (bN l (aQ aZ l)) (fC l (jB l (aQ aZ l))) (fW (l.drop (aQ aZ l)))
def yI (l:List UInt8) (n:Nat):Bool:=match l.drop n with|46::c::_=>aZ c|_=>false
theorem S' (l:List UInt8) (n:Nat):jB l n=if yI l n then n+1+aQ aZ (l.drop (n+1)) else n:=by
 unfold jB yI
 split
 ·next c t e=>rfl
 ·rfl
theorem Le {l:List UInt8} {n:Nat} (h:l.length≤n+1):yI l n=false:=by
 unfold yI
 split
 ·next c t e=>
  have:=congrArg List.length e
  rw [List.length_drop,List.length_cons,List.length_cons] at this
  omega
 ·rfl
theorem OX {l:List UInt8} {n:Nat} (h:n<l.length) (hc:l[n]≠46):yI l n=false:=by
 unfold yI
 rw [List.drop_eq_getElem_cons h]
 split
 ·next c t e=>rw [List.cons.injEq] at e;exact absurd e.1 hc
 ·rfl
theorem Lf {l:List UInt8} {n:Nat} (h:n+1<l.length) (hc:l[n]=46):yI l n=aZ l[n+1]:=by
 unfold yI
 rw [mS h,hc]
 rfl
theorem A7 {l:List UInt8} {n:Nat} (h:l.length≤n+1):jB l n=n:=by
 unfold jB
 split
 ·next c t e=>
  have:=congrArg List.length e
  rw [List.length_drop,List.length_cons,List.length_cons] at this
  omega
 ·rfl
theorem yJ {l:List UInt8} {n:Nat} (h:n<l.length) (hc:l[n]≠46):jB l n=n:=by
 unfold jB
 rw [List.drop_eq_getElem_cons h]
 split
 ·next c t e=>rw [List.cons.injEq] at e;exact absurd e.1 hc
 ·rfl
theorem tO {l:List UInt8} {n:Nat} (h:n+1<l.length) (hc:l[n]=46):jB l n=if aZ l[n+1] then n+1+aQ aZ (l.drop (n+1)) else n:=by
 unfold jB
 rw [mS h,hc]
 rfl
theorem wO (l:List UInt8) (n:Nat):bN l n≤l.length:=by
 unfold bN
 split
 ·next b t e=>
  split
  ·exact Nat.zero_le _
  ·split
   ·exact Nat.zero_le _
   ·have h1:=congrArg List.length e
    rw [List.length_drop,List.length_cons,List.length_cons] at h1
    have:=dz (p_ (aU b)) t
    omega
 ·exact Nat.zero_le _
theorem Ga {l:List UInt8} {n:Nat} (hn:n≤l.length):n≤jB l n∧jB l n≤l.length:=by
 by_cases h1:l.length≤n+1
 ·rw [A7 h1];exact ⟨Nat.le_refl _,hn⟩
 ·by_cases h2:l[n]'(by omega)=46
  ·rw [tO (by omega) h2]
   split
   ·have:=dz aZ (l.drop (n+1))
    rw [List.length_drop] at this
    omega
   ·exact ⟨Nat.le_refl _,hn⟩
  ·rw [yJ (by omega) h2];exact ⟨Nat.le_refl _,hn⟩
theorem Gb {l:List UInt8} {n:Nat} (hn:n≤l.length):n≤fC l n∧fC l n≤l.length:=by
 by_cases h1:l.length≤n
 ·rw [oP h1];exact ⟨Nat.le_refl _,hn⟩
 ·by_cases h2:aU (l[n]'(by omega))=101
  ·rw [oQ (by omega) h2 _ rfl]
   generalize hm:(if (l.drop (n+1)).head? =some 43∨(l.drop (n+1)).head? =some 45 then n+2 else n+1)=m
   split
   ·have h3:=dz aZ (l.drop m)
    rw [List.length_drop] at h3
    have:n+1≤m:=by rw [←hm];split<;>omega
    omega
   ·exact ⟨Nat.le_refl _,hn⟩
  ·rw [sG (by omega) h2];exact ⟨Nat.le_refl _,hn⟩
theorem wP:∀(us:List (List UInt8)) (t:List UInt8) (k:Nat),(∀u∈us,u.length≤k)→fq us t≤k∧fq us t≤t.length
 |[],t,k,_=>⟨Nat.zero_le _,Nat.zero_le _⟩
 |u::us,t,k,h=>by
  unfold fq
  split
  ·rename_i hp
   refine ⟨h u List.mem_cons_self,?_⟩
   unfold Lib.hasPrefix at hp
   first
    |exact (List.isPrefixOf_iff_prefix.1 hp).length_le
    |(simp only [Bool.and_eq_true,decide_eq_true_eq,beq_iff_eq] at hp;omega)
    |skip
  ·exact wP us t k (fun v hv=>h v (List.mem_cons_of_mem _ hv))
theorem pz (t:List UInt8):fW t≤2∧fW t≤t.length:=wP cq t 2 (by decide)
end Go.Proofs.YtddoehnkgcbboaaGreatDoor
