/- A part of the proof that the last file tells. -/
import Derived.Test.YtddoehnkgcbboaaGreatDoorAgF
import Derived.Laws.ResultCell
set_option maxHeartbeats 16000000
set_option maxRecDepth 100000
set_option linter.unusedVariables false
set_option linter.unusedSimpArgs false
namespace Go
theorem dx {P:Program} {fn:Func} {p u:Tmp} {ty:TypeId} (h:fn.results=#[.cell p ty,.tmp u]) (tmps:Array Value) (w:World) (g:Nat) (t:TypeId) (cs:Array Value) (fr:Nat×Nat) (d:TypeDesc)
 (v:Value) (hv:tmps.getD u undef=v) (hp:tmps.getD p undef=.pointer (some ⟨g,0,none⟩)) (hg:w.heap[g]? =some (.cells cs t fr))
 (hu:P.underlying ty=some d) (hd:(match d with|.struct _|.array _ _=>true|_=>false)=true) (hi:(P.info? ty).map (·.size)=some cs.size):
 (results fn tmps).run P w=.ok (.tuple #[.agg cs,v]) w:=by
 subst hv
 have hp':tmps[p]?.getD undef=.pointer (some ⟨g,0,none⟩):=by simpa using hp
 rw [results_cell_tmp h];simp [hp',asAddr,Result.andThen,run_loadVar_row w g t ty cs fr d hg hu hd hi]
end Go
namespace Go.Proofs.YtddoehnkgcbboaaGreatDoor
open Go.RowKit Go.Shelf Go.Sort
theorem jb {w w':World} {base b:Nat} {e:TypeId} {size:Nat} {v:Value} {n:Nat} {xs:List Value} (h:w.ownsRow base e size v n xs) (hk:ah (fun c=>c=b) w w') (hb:b<base):w'.ownsRow base e size v n xs:=
 World.ownsRow.kept (row:=some b) h ⟨hk.os,hk.tape,hk.output,hk.size,fun k hz hne=>hk.block k hz (fun e=>hne (by rw [e]))⟩ (by
  cases ho:v.ownBlock with
  |none=>simp
  |some g=>have:=(World.ownsRow.lt h g ho).1;simp;omega)
theorem jc (c:UInt8) (r:List UInt8):Cm [c] r=decide (r.head? =some c):=by
 unfold Cm
 cases h:r.head? with
 |none=>rfl
 |some x=>
  rw [Bool.eq_iff_iff,decide_eq_true_eq];simp
theorem Em (c d:UInt8) (r:List UInt8):Cm [c,d] r=decide (r.head? =some c∨r.head? =some d):=by
 unfold Cm
 cases h:r.head? with
 |none=>simp
 |some x=>
  rw [Bool.eq_iff_iff,decide_eq_true_eq];simp
structure qH (W:World) (B:Nat) (w:World) (l:List UInt8) (k:Nat) (neg:Bool) (dv:Value) (Ds:List UInt8) (ex:Int):Prop where
 at_:At W (B+3) B k l
 num:Row W (B+2) 131 #[.bool neg,dv,.int .i64 ex]
 res:Row W (B+1) 131 #[.bool false,.slice none 0 0,.int .i64 0]
 own:W.ownsRow (B+4) 5 1 dv Ds.length (S_ Ds)
 Ka:Below B w W
 big:B+4≤W.heap.size
theorem qH.below {W W':World} {B:Nat} {w:World} {l:List UInt8} {k:Nat} {neg:Bool} {dv:Value} {Ds:List UInt8} {ex:Int} (h:qH W B w l k neg dv Ds ex) (hb:Below W.heap.size W W'):qH W' B w l k neg dv Ds ex:=
 ⟨⟨h.at_.pos.below hb h.at_.pos.lt,h.at_.txt.below hb h.at_.txt.lt⟩,h.num.below hb h.num.lt,h.res.below hb h.res.lt,iC h.own hb,h.Ka.trans (hb.mono (br (by omega) h.big)),br h.big hb.size⟩
theorem qH.turn {W W':World} {B:Nat} {w:World} {l:List UInt8} {k k':Nat} {neg:Bool} {dv:Value} {Ds:List UInt8} {ex:Int} (h:qH W B w l k neg dv Ds ex) (ha:At W' (B+3) B k' l) (hk:ah (fun c=>c=B+3) W W'):qH W' B w l k' neg dv Ds ex:=
 ⟨ha,h.num.keep hk (by omega),h.res.keep hk (by omega),jb h.own hk (by omega),h.Ka.trans (hk.below (by rintro c rfl;omega) (br (by omega) h.big)),br h.big hk.size⟩
theorem qH.aci {W:World} {B:Nat} {w:World} {l:List UInt8} {k:Nat} {neg:Bool} {dv:Value} {Ds:List UInt8} {ex:Int} (h:qH W B w l k neg dv Ds ex) (LU:Bool):qH (W.setCell ⟨B+2,0,none⟩ (.bool LU)) B w l k LU dv Ds ex:=
 ⟨⟨h.at_.pos.off (by omega) _ _,h.at_.txt.off (by omega) _ _⟩,h.num.bU 0 _,h.res.off (by omega) _ _,jb h.own ((ah.refl (fun c=>c=B+2) W).set (.inl rfl) 0 _) (by omega),h.Ka.setCell (p:=⟨B+2,0,none⟩) (show B≤B+2 by omega) _,by simpa [World.setCell] using h.big⟩
theorem qH.Ye {W:World} {B:Nat} {w:World} {l:List UInt8} {k:Nat} {neg:Bool} {dv:Value} {Ds:List UInt8} {ex:Int} (h:qH W B w l k neg dv Ds ex) (ex':Int):qH (W.setCell ⟨B+2,2,none⟩ (.int .i64 ex')) B w l k neg dv Ds ex':=
 ⟨⟨h.at_.pos.off (by omega) _ _,h.at_.txt.off (by omega) _ _⟩,h.num.bU 2 _,h.res.off (by omega) _ _,jb h.own ((ah.refl (fun c=>c=B+2) W).set (.inl rfl) 2 _) (by omega),h.Ka.setCell (p:=⟨B+2,2,none⟩) (show B≤B+2 by omega) _,by simpa [World.setCell] using h.big⟩
theorem qH.grow {W W':World} {B:Nat} {w:World} {l:List UInt8} {k:Nat} {neg:Bool} {dv dv':Value} {Ds Ds':List UInt8} {ex:Int} (h:qH W B w l k neg dv Ds ex) (hown:W'.ownsRow (B+4) 5 1 dv' Ds'.length (S_ Ds')) (hg:W.grownBy W' dv.ownBlock):qH (W'.setCell ⟨B+2,1,none⟩ dv') B w l k neg dv' Ds' ex:=by
 have hne:∀g,dv.ownBlock=some g→B+4≤g:=fun g hg=>(World.ownsRow.lt h.own g hg).1
 have f:∀b,b<B+4→some b≠dv.ownBlock:=fun b hb e=>by have:=hne b e.symm;omega
 refine ⟨⟨(h.at_.pos.grown hg (f _ (by omega))).off (by omega) _ _,(h.at_.txt.grown hg (f _ (by omega))).off (by omega) _ _⟩,(h.num.grown hg (f _ (by omega))).bU 1 _,(h.res.grown hg (f _ (by omega))).off (by omega) _ _,jb hown ((ah.refl (fun c=>c=B+2) W').set (.inl rfl) 1 _) (by omega),(h.Ka.grown hg (br (by omega) h.big) (fun j hj=>br (by omega) (hne j hj))).setCell (p:=⟨B+2,1,none⟩) (show B≤B+2 by omega) _,?_⟩;have:=br h.big hg.size
 simpa [World.setCell] using this
theorem qH.kS {W W':World} {B:Nat} {w:World} {l:List UInt8} {k:Nat} {neg:Bool} {dv:Value} {Ds:List UInt8} {ex:Int} (h:qH W B w l k neg dv Ds ex) (hg:W.grownBy W' dv.ownBlock):Row W' (B+2) 131 #[.bool neg,dv,.int .i64 ex]:=
 h.num.grown hg (fun e=>by have:=(World.ownsRow.lt h.own (B+2) e.symm).1;omega)
theorem qH.fail {W:World} {B:Nat} {w:World} {l:List UInt8} {k:Nat} {neg:Bool} {dv:Value} {Ds:List UInt8} {ex:Int} (h:qH W B w l k neg dv Ds ex):
 Row (((W.setCell ⟨B+1,0,none⟩ (.bool neg)).setCell ⟨B+1,1,none⟩ dv).setCell ⟨B+1,2,none⟩ (.int .i64 ex)) (B+1) 131 #[.bool neg,dv,.int .i64 ex]∧
 Below B w (((W.setCell ⟨B+1,0,none⟩ (.bool neg)).setCell ⟨B+1,1,none⟩ dv).setCell ⟨B+1,2,none⟩ (.int .i64 ex)):=
 ⟨((h.res.bU 0 (.bool neg)).bU 1 dv).bU 2 (.int .i64 ex),((h.Ka.setCell (p:=⟨B+1,0,none⟩) (Nat.le_succ _) _).setCell (p:=⟨B+1,1,none⟩) (Nat.le_succ _) _).setCell (p:=⟨B+1,2,none⟩) (Nat.le_succ _) _⟩
theorem qH.form {W:World} {B:Nat} {w:World} {l:List UInt8} {k:Nat} {neg:Bool} {dv:Value} {Ds:List UInt8} {ex:Int} (h:qH W B w l k neg dv Ds ex):∃A cap,dv=.slice A Ds.length cap∧Sl mh W A Ds∧Ds.length≤cap∧cap≤maxLen:=by
 obtain ⟨A,cap,hv,hsl,_⟩:=XD (f:=mh) (xs:=Ds) (n:=Ds.length) (by exact h.own) rfl;refine ⟨A,cap,hv,hsl,?_,?_⟩
 ·rcases h.own.2 with ⟨h0,h1⟩|⟨g',cap',cur,hv',_,_,hle,_⟩
  ·rw [hv] at h0;injection h0 with _ h2 h3;omega
  ·rw [hv] at hv';injection hv' with _ _ h3;omega
 ·rcases h.own.2 with ⟨h0,h1⟩|⟨g',cap',cur,hv',_,_,hle,hm,_⟩
  ·rw [hv] at h0;injection h0 with _ h2 h3;unfold maxLen;omega
  ·rw [hv] at hv';injection hv' with _ _ h3;omega
theorem Yf {W W':World} {A:Option Addr} {l:List UInt8} {g:Nat} {t:TypeId} {cs:Array Value} (h:Sl mh W A l) (hr:Row W g t cs) (hcs:∀(i:Nat) (c:UInt8),cs[i]? ≠some (mh c)) (hk:ah (fun c=>c=g) W W'):Sl mh W' A l:=by
 intro hp;obtain ⟨b,off,rfl,hat⟩:=h hp
 have hne:b≠g:=fun e=>by
  have:=hat 0 hp;rw [e,hr.cell] at this;exact hcs _ _ this
 exact ⟨b,off,rfl,fun i hi=>(hk.cell (p:=⟨b,off+i,none⟩) (World.block_lt_of_cell? W _ (hat i hi)) hne).trans (hat i hi)⟩
def En (l:List UInt8) (B:Nat) (w:World) (e:Ending) (w':World):Prop:=
 Below B w w'∧∃neg A n cap ex ok,e=.returned (.tuple #[jo neg A n cap ex,.bool ok])∧(fh l=none→ok=false)∧
  ∀p,fh l=some p→ok=true∧n=(bh (p.2.1++p.2.2.1)).length∧Sl mh w' A (bh (p.2.1++p.2.2.1))∧n≤cap∧cap≤maxLen∧
   (bh (p.2.1++p.2.2.1)≠[]→neg=p.1∧ex+n-1=(p.2.1.length:Int)-1-lW (p.2.1++p.2.2.1)+mf p.2.2.2.1 (jQ 1048576 p.2.2.2.2))∧(bh (p.2.1++p.2.2.1)=[]→ex=0)
theorem Co:(Tryz.prog.info? 5).map (fun i=>(i.zero,i.size,i.bytes))=some (some (.int .u8 0),1,1):=by kernel_rfl
theorem qH.start (w:World) (l:List UInt8):qH ((((w.alloc (.cells #[.string (cf l)] 9)).alloc (.cells #[.bool false,.slice none 0 0,.int .i64 0] 131)).alloc (.cells #[.bool false,.slice none 0 0,.int .i64 0] 131)).alloc (.cells #[.int .i64 0] 3)) w.heap.size w l 0 false (.slice none 0 0) [] 0:=by
 have r1:=Row.new w 9 #[.string (cf l)];have r2:=Row.new (w.alloc (.cells #[.string (cf l)] 9)) 131 #[.bool false,.slice none 0 0,.int .i64 0];have r3:=Row.new ((w.alloc (.cells #[.string (cf l)] 9)).alloc (.cells #[.bool false,.slice none 0 0,.int .i64 0] 131)) 131 #[.bool false,.slice none 0 0,.int .i64 0];have r4:=Row.new (((w.alloc (.cells #[.string (cf l)] 9)).alloc (.cells #[.bool false,.slice none 0 0,.int .i64 0] 131)).alloc (.cells #[.bool false,.slice none 0 0,.int .i64 0] 131)) 3 #[.int .i64 0];simp only [aF] at r2 r3 r4
 exact ⟨⟨r4,((r1.alloc _).alloc _).alloc _⟩,r3.alloc _,(r2.alloc _).alloc _,World.ownsRow_nil _ _ _ _,
  ((((af _ _).alloc (aa _) _).alloc (by simp only [aF];omega) _).alloc (by simp only [aF];omega) _).alloc (by simp only [aF];omega) _,by simp only [aF];omega⟩
theorem AU (l:List UInt8):(bZ l).2=l.drop (if l.head? =some 45∨l.head? =some 43 then 1 else 0)∧(bZ l).1=decide (l.head? =some 45):=by
 unfold bZ;by_cases h1:l.head? =some 45
 ·rw [if_pos h1,if_pos (.inl h1),decide_eq_true h1];exact ⟨by simp,rfl⟩
 ·rw [if_neg h1,decide_eq_false h1];by_cases h2:l.head? =some 43
  ·rw [if_pos h2,if_pos (.inr h2)];exact ⟨by simp,rfl⟩
  ·rw [if_neg h2,if_neg (by rintro (h|h);exact h1 h;exact h2 h)];exact ⟨rfl,rfl⟩
theorem pd {s:ByteArray} (h:0<s.size):¬s.toList=[]∧s.toList.isEmpty=false:=by
 cases hl:s.toList with
 |nil=>rw [Lib.toList_data] at hl;rw [Lib.size_eq,hl] at h;simp at h
 |cons a t=>simp
theorem lj {l:List UInt8} {c:UInt8} (h:l.head? =some c):1≤l.length:=by
 cases l with
 |nil=>cases h
 |cons a t=>simp
theorem Eo (l:List UInt8) (w:World) (hz:l.length≤1000000):
 Calls Tryz.prog 144 #[.string (cf l)] w (En l w.heap.size w):=by
 have Gs:=fH l;by_cases h64:64<l.length
 ·have hI:(64:Int)<((cf l).size:Int):=by omega
  have hN:fh l=none:=by unfold fh;rw [if_pos (.inl h64)]
  have hrow:Row (((w.alloc (.cells #[.string (cf l)] 9)).alloc (.cells #[.bool false,.slice none 0 0,.int .i64 0] 131)).alloc (.cells #[.bool false,.slice none 0 0,.int .i64 0] 131)) (w.heap.size+1) 131 #[.bool false,.slice none 0 0,.int .i64 0]:=by
   have:=(Row.new (w.alloc (.cells #[.string (cf l)] 9)) 131 #[.bool false,.slice none 0 0,.int .i64 0]).alloc (.cells #[.bool false,.slice none 0 0,.int .i64 0] 131);simp only [aF] at this;exact this
  have qF:=hide hrow;clear Gs hrow;generalize cf l=lb at*;go_enter Tryz.func144,Tryz.ntmps144;go_wp2
  exact bodyPost_ret (v:=.tuple #[.agg #[.bool false,.slice none 0 0,.int .i64 0],.bool false]) (dx rfl _ _ (w.heap.size+1) 131 _ _ _ (.bool false) rfl rfl qF.o Tryz.underlying131 rfl (by kernel_rfl)) rfl
   ⟨(((af _ _).alloc (aa _) _).alloc (by simp only [aF];omega) _).alloc (by simp only [aF];omega) _,false,none,0,0,0,false,rfl,fun _=>rfl,fun p hp=>by rw [hN] at hp;cases hp⟩
 ·have hI:((cf l).size:Int)≤64:=by omega
  have O1:=hide (fun (set:List UInt8) (k:Nat) (W:World) (h8:set.length≤8) (hk:k≤l.length) (h:At W (w.heap.size+3) w.heap.size k l)=>Un set l (w.heap.size+3) w.heap.size k W (by omega) h8 hz hk h);have DG:=hide (fun (k:Nat) (W:World) (hk:k≤l.length) (h:At W (w.heap.size+3) w.heap.size k l)=>Hu l (w.heap.size+3) w.heap.size k W (by omega) hz hk h);obtain ⟨Te,Po⟩:=AU l;have S0:=hide (qH.start w l);go_enter Tryz.func144,Tryz.ntmps144;go_wp2_with fail;refine (O1.o [45] 0 _ (by decide) (bj _) S0.o.at_).mono ?_;rintro e w2 ⟨rfl,hat,dL⟩;rw [jc,List.drop_zero] at hat;rw [jc,List.drop_zero];have S2:=hide (S0.o.turn hat dL);clear hat dL S0;go_upto_if 22 with fail;go_cut [25] (fun v wx=>∃k1,k1≤l.length∧(bZ l).2=l.drop k1∧qH wx w.heap.size w l k1 (bZ l).1 (.slice none 0 0) [] 0)
  case first=>
   by_cases h45:l.head? =some 45
   ·rw [decide_eq_true h45] at S2⊢;rw [if_pos (.inl h45)] at Te;rw [decide_eq_true h45] at Po;have Tb:=lj h45;have hc:w2.cell? ⟨w.heap.size+2,0,none⟩=some (.bool false):=S2.o.num.cell 0;have hf:w2.frozen? ⟨w.heap.size+2,0,none⟩=false:=S2.o.num.frozen 0;clear h45;go_wp2_with fail;go_meet;rw [Po];exact ⟨1,Tb,Te,S2.o.aci true⟩
   ·rw [decide_eq_false h45] at S2⊢;rw [decide_eq_false h45] at Po;go_wp2_with fail;refine (O1.o [43] 0 _ (by decide) (bj _) S2.o.at_).mono ?_;rintro e w3 ⟨rfl,hat,dL⟩;rw [jc,List.drop_zero] at hat;have S3:=hide (S2.o.turn hat dL);clear hat dL S2;go_wp2_with fail;go_meet;rw [Po];by_cases h43:l.head? =some 43
    ·rw [decide_eq_true h43] at S3;rw [if_pos (.inr h43)] at Te;exact ⟨1,lj h43,Te,S3.o⟩
    ·rw [decide_eq_false h43] at S3;rw [if_neg (by rintro (h|h);exact h45 h;exact h43 h)] at Te;exact ⟨0,bj _,Te,S3.o⟩
  case rest=>
  obtain ⟨k1,hk1,SZ,hS⟩:=hcut;have S1:=hide hS;clear hS Te Po;obtain ⟨iu,hiu,hu0,hu1,hu2⟩:=info_parts Co;have HI1:=hide hiu;have HI2:=hide hu0;have HI3:=hide hu1;have HI4:=hide hu2;clear hiu hu0 hu1 hu2
  obtain ⟨neg,hneg⟩:∃neg,(bZ l).1=neg:=⟨_,rfl⟩
  rw [hneg] at S1
  obtain ⟨r,hr⟩:∃r,l.drop k1=r:=⟨_,rfl⟩
  have hrl:r.length=l.length-k1:=by rw [←hr,aA]
  rw [hr] at SZ
  have hscan:fh l=if nd r=0 then none else (lV (r.drop (nd r))).bind fun f=>(sZ f.2).bind fun x=>if x.2.2=[] then some (neg,r.take (nd r),f.1,x.1,x.2.1) else none:=by
   unfold fh;rw [SZ,hneg];by_cases h0:nd r=0
   ·rw [if_pos (.inr h0),if_pos h0]
   ·rw [if_neg (by omega),if_neg h0]
  have xW:=hide hscan;clear hscan hneg SZ;go_wp2_with fail;refine (DG.o k1 _ hk1 S1.o.at_).mono ?_;rintro e w4 ⟨rfl,hat,dL⟩;rw [hr] at hat;rw [hr];have S3:=hide (S1.o.turn hat dL);clear hat dL S1;have hnl:=xH r
  obtain ⟨N,hN⟩:∃N,nd r=N:=⟨_,rfl⟩
  rw [hN] at S3 xW hnl⊢
  obtain ⟨Wd,hWd⟩:∃Wd,r.take N=Wd:=⟨_,rfl⟩
  have hWl:Wd.length=N:=by rw [←hWd,cr];omega
  have hWs:=fH Wd;rw [hWd] at xW⊢
  have hk2:k1+N≤l.length:=by omega
  have hr2:r.drop N=l.drop (k1+N):=by rw [←hr,dB]
  rw [hr2] at xW
  obtain ⟨k2,acj⟩:∃k2,k1+N=k2:=⟨_,rfl⟩
  rw [acj] at S3 xW hk2;clear hr2 hWd hN hr hrl hnl;by_cases h0:N=0
  ·have hW0:Wd=[]:=gH (by omega);subst hW0;have hbe:cf []=⟨#[]⟩:=rfl;rw [hbe];have fl:=S3.o.fail;have HF:=hide fl;have q0:=S3.o.num.cell 0;have q1:=S3.o.num.cell 1;have q2:=S3.o.num.cell 2;have g0:=S3.o.res.cell 0;have g1:=S3.o.res.cell 1;have g2:=S3.o.res.cell 2;have f0:=S3.o.res.frozen 0;have f1:=S3.o.res.frozen 1;have f2:=S3.o.res.frozen 2;have hN:=ae (fh l=none) (by rw [xW.o,if_pos h0]);clear fl;go_wp2
   exact bodyPost_ret (v:=.tuple #[.agg #[_,_,_],.bool false]) (dx rfl _ _ (w.heap.size+1) 131 _ _ _ (.bool false) rfl rfl HF.o.1 Tryz.underlying131 rfl (by kernel_rfl)) rfl
    ⟨HF.o.2,_,none,_,0,_,false,rfl,fun _=>rfl,fun p hp=>by rw [hN.o] at hp;cases hp⟩
  ·have hscan:=xW.o;rw [if_neg h0] at hscan;have Hv:=hide hscan
   have hpos:0<(cf Wd).size:=by omega
   obtain ⟨hWn,hWe⟩:=pd hpos
   have aay:(!(cf Wd).toList.isEmpty)=true:=by rw [hWe];rfl
   have q1:=S3.o.num.cell 1;have f1:=S3.o.num.frozen 1;clear hscan xW;go_upto_region 14 with (at_builtin;refine Lib.wpList_append_own_string _ rfl _ _ 75 9 rfl (w.heap.size+4) 5 iu Tryz.underlying75 Tryz.underlying9 HI1.o HI2.o HI3.o HI4.o (.slice none 0 0) 0 [] rfl S3.o.own (cf Wd) rfl (by unfold maxLen;omega) (by omega) (br (by omega) S3.o.big) ?_;intro v4 w5 lh iw _;obtain ⟨g4,Ho,rfl,_⟩:=World.ownsRow.form lh (by omega);have qg1:=(S3.o.kS iw).cell 1;have fg1:=(S3.o.kS iw).frozen 1)
   have S4:=ae (qH (w5.setCell ⟨w.heap.size+2,1,none⟩ (.slice (some ⟨g4,0,none⟩) (0+(cf Wd).size) Ho)) w.heap.size w l k2 neg (.slice (some ⟨g4,0,none⟩) (0+(cf Wd).size) Ho) (Wd) 0) (S3.o.grow (by
    have e1:0+(cf Wd).size=(Wd).length:=by rw [fH];simp
    have e2:[]++Lib.strCells (cf Wd)=S_ (Wd):=by first|rfl|(rw [xL];rfl)
    rw [←e1,←e2];exact lh) iw)
   clear lh iw qg1 fg1;clear q1 f1;rw [show 0+(cf Wd).size=N by omega] at S4;go_wp2_with fail;refine (O1.o [46] k2 _ (by decide) hk2 S4.o.at_).mono ?_;rintro e w6 ⟨rfl,hat,dL⟩;rw [jc] at hat;rw [jc]
   obtain ⟨b46,Uq⟩:∃b,decide ((l.drop k2).head? =some 46)=b:=⟨_,rfl⟩
   rw [Uq] at hat;rw [Uq];have Wx:=hide Uq;have S5:=hide (S4.o.turn hat dL);clear hat dL S4 S3 S2 Uq;go_upto_if 37 with fail;go_cut [9] (fun v wx=>∃k3 F dv,lV (l.drop k2)=some (F,l.drop k3)∧k3≤l.length∧F.length≤l.length∧qH wx w.heap.size w l k3 neg dv (Wd++F) (-(F.length:Int)))
   case first=>
    cases b46 with
    |true=>
     have oL:=of_decide_eq_true Wx.o
     have ack:k2+1≤l.length:=by have:=lj oL;rw [aA] at this;omega
     have S5':=ae (qH w6 w.heap.size w l (k2+1) neg (.slice (some ⟨g4,0,none⟩) N Ho) Wd 0) S5.o
     obtain ⟨r2,hr2⟩:∃r2,l.drop (k2+1)=r2:=⟨_,rfl⟩
     have htl:(l.drop k2).tail=r2:=by rw [←hr2,List.tail_drop]
     clear Wx
     have N9:lV (l.drop k2)=if nd r2=0 then none else some (r2.take (nd r2),r2.drop (nd r2)):=by
      unfold lV;rw [if_pos oL,htl]
     have Ur:=hide N9
     have hrl:r2.length=l.length-(k2+1):=by rw [←hr2,aA]
     clear N9 htl oL S5;go_wp2_with fail;refine (DG.o (k2+1) _ ack S5'.o.at_).mono ?_;rintro e w7 ⟨rfl,hat,dL⟩;rw [hr2] at hat;rw [hr2];have S6:=hide (S5'.o.turn hat dL);clear hat dL S5';have hnl:=xH r2
     obtain ⟨N2,hN2⟩:∃N2,nd r2=N2:=⟨_,rfl⟩
     rw [hN2] at S6 Ur hnl⊢
     obtain ⟨F,hF⟩:∃F,r2.take N2=F:=⟨_,rfl⟩
     have Wy:F.length=N2:=by rw [←hF,cr];omega
     have hFs:=fH F;rw [hF] at Ur⊢
     have hr3:r2.drop N2=l.drop (k2+1+N2):=by rw [←hr2,dB]
     rw [hr3] at Ur
     obtain ⟨k3,acm⟩:∃k3,k2+1+N2=k3:=⟨_,rfl⟩
     have hk3:k3≤l.length:=by omega
     rw [acm] at S6 Ur;clear hr3 hF hN2 hr2 hrl hnl hWn hWe aay;by_cases h0':N2=0
     ·have hF0:F=[]:=gH (by omega);subst hF0;have hbe:cf []=⟨#[]⟩:=rfl;rw [hbe];have fl:=S6.o.fail;have HF:=hide fl;have q0:=S6.o.num.cell 0;have q1:=S6.o.num.cell 1;have q2:=S6.o.num.cell 2;have g0:=S6.o.res.cell 0;have g1:=S6.o.res.cell 1;have g2:=S6.o.res.cell 2;have f0:=S6.o.res.frozen 0;have f1:=S6.o.res.frozen 1;have f2:=S6.o.res.frozen 2;have hN:=ae (fh l=none) (by rw [Hv.o,Ur.o,if_pos h0'];rfl);clear fl;go_wp2
      exact bodyPost_ret (v:=.tuple #[.agg #[_,_,_],.bool false]) (dx rfl _ _ (w.heap.size+1) 131 _ _ _ (.bool false) rfl rfl HF.o.1 Tryz.underlying131 rfl (by kernel_rfl)) rfl
       ⟨HF.o.2,_,some ⟨g4,0,none⟩,N,Ho,_,false,rfl,fun _=>rfl,fun p hp=>by rw [hN.o] at hp;cases hp⟩
     ·have N9:=Ur.o;rw [if_neg h0'] at N9;have acn:=hide N9
      have aaz:0<(cf F).size:=by omega
      obtain ⟨hWn,hWe⟩:=pd aaz
      have aay:(!(cf F).toList.isEmpty)=true:=by rw [hWe];rfl
      have q1:=S6.o.num.cell 1;have f1:=S6.o.num.frozen 1
      have hWN:N+(cf F).size=(Wd++F).length:=by rw [aw];omega
      have aaA:=fun (W:World) (v:Value) (h:W.ownsRow (w.heap.size+4) 5 1 v (N+(cf F).size) (S_ Wd++Lib.strCells (cf F)))=>(show W.ownsRow (w.heap.size+4) 5 1 v (Wd++F).length (S_ (Wd++F)) from by rw [xL,←hWN];exact h)
      have aco:=hide aaA
      have oS6:w7.ownsRow (w.heap.size+4) 5 1 (.slice (some ⟨g4,0,none⟩) N Ho) N (S_ Wd):=by have:=S6.o.own;rw [hWl] at this;exact this
      have OS6:=hide oS6;clear N9 Ur aaA oS6;go_upto_region 19 with (at_builtin;refine Lib.wpList_append_own_string _ rfl _ _ 75 9 rfl (w.heap.size+4) 5 iu Tryz.underlying75 Tryz.underlying9 HI1.o HI2.o HI3.o HI4.o (.slice (some ⟨g4,0,none⟩) N Ho) N (S_ Wd) rfl OS6.o (cf F) rfl (by unfold maxLen;omega) (by omega) (br (by omega) S6.o.big) ?_;intro v8 w8 Pp uO _;obtain ⟨g8,aaB,rfl,_⟩:=World.ownsRow.form Pp (by omega);have qg1:=(S6.o.kS uO).cell 1;have fg1:=(S6.o.kS uO).frozen 1);have S7:=ae (qH (w8.setCell ⟨w.heap.size+2,1,none⟩ (.slice (some ⟨g8,0,none⟩) (N+(cf F).size) aaB)) w.heap.size w l k3 neg (.slice (some ⟨g8,0,none⟩) (N+(cf F).size) aaB) (Wd++F) 0) (S6.o.grow (aco.o _ _ Pp) uO);rw [show (cf F).size=N2 by omega] at S7;have qe:=S7.o.num.cell 2;have fe:=S7.o.num.frozen 2;have S8:=hide (S7.o.Ye (-(F.length:Int)));have qg2:=(S6.o.kS uO).cell 2;have fg2:=(S6.o.kS uO).frozen 2
      have acp:F.length≤l.length:=by omega
      have hFb:(F.length:Int)≤1000000:=by omega
      have hbF:((cf F).size:Int)=(F.length:Int):=by rw [hFs]
      clear Pp uO q1 f1 qe fe Wy hFs;go_wp2_with fail;go_meet;exact ⟨k3,F,_,acn.o,hk3,acp,S8.o⟩
    |false=>
     have oL:=of_decide_eq_false Wx.o
     have N9:lV (l.drop k2)=some ([],l.drop k2):=by unfold lV;rw [if_neg oL]
     have Ur:=hide N9;clear oL Wx N9;go_wp2_with fail;go_meet;exact ⟨k2,[],_,Ur.o,hk2,bj _,by have:=S5.o;rw [dH];exact this⟩
   case rest=>
   obtain ⟨k3,F,dv,N9,hk3,Wy,hS⟩:=hcut;have S6:=hide hS;have hsc:=Hv.o;rw [N9] at hsc;have Hw:=ae (fh l=(sZ (l.drop k3)).bind fun x=>if x.2.2=[] then some (neg,Wd,F,x.1,x.2.1) else none) hsc;clear hS N9 hsc Hv S5 Wx;go_wp2_with fail;refine (O1.o [101,69] k3 _ (by decide) hk3 S6.o.at_).mono ?_;rintro e w7 ⟨rfl,hat,dL⟩;rw [Em] at hat;rw [Em]
   obtain ⟨bE,hbE⟩:∃b,decide ((l.drop k3).head? =some 101∨(l.drop k3).head? =some 69)=b:=⟨_,rfl⟩
   rw [hbE] at hat;rw [hbE];have HE:=hide hbE;have S7:=hide (S6.o.turn hat dL);clear hat dL S6 hbE;go_upto_if 53 with fail;go_cut [12] (fun v wx=>∃k4 down ds,sZ (l.drop k3)=some (down,ds,l.drop k4)∧k4≤l.length∧qH wx w.heap.size w l k4 neg dv (Wd++F) (-(F.length:Int)+mf down (jQ 1048576 ds)))
   case first=>
    cases bE with
    |true=>
     have hE:=of_decide_eq_true HE.o
     have Pq:k3+1≤l.length:=by
      have:1≤(l.drop k3).length:=by rcases hE with h|h;exact lj h;exact lj h
      rw [aA] at this;omega
     have S7':=ae (qH w7 w.heap.size w l (k3+1) neg dv (Wd++F) (-(F.length:Int))) S7.o
     obtain ⟨r3,hr3⟩:∃r3,l.drop (k3+1)=r3:=⟨_,rfl⟩
     have htl:(l.drop k3).tail=r3:=by rw [←hr3,List.tail_drop]
     have hex:sZ (l.drop k3)=if nd (bZ r3).2=0 then none else some ((bZ r3).1,(bZ r3).2.take (nd (bZ r3).2),(bZ r3).2.drop (nd (bZ r3).2)):=by
      unfold sZ;rw [if_pos hE,htl]
     have HEx:=hide hex;obtain ⟨Te,Po⟩:=AU r3;clear hex htl hE HE S7;go_wp2_with fail;refine (O1.o [45] (k3+1) _ (by decide) Pq S7'.o.at_).mono ?_;rintro e w8 ⟨rfl,hat,dL⟩;rw [jc,hr3,←Po] at hat;rw [jc,hr3,←Po];have S8:=hide (S7'.o.turn hat dL)
     obtain ⟨down,hdn⟩:∃down,(bZ r3).1=down:=⟨_,rfl⟩
     rw [hdn] at S8 HEx Po;rw [hdn];have Yg:=hide Po;have Us:=hide Te;clear hat dL S7' hdn Te Po;go_upto_if 57 with fail;go_cut [59] (fun v wx=>∃k5,(bZ r3).2=l.drop k5∧k5≤l.length∧qH wx w.heap.size w l k5 neg dv (Wd++F) (-(F.length:Int)))
     case first=>
      cases down with
      |true=>
       have h45:=of_decide_eq_true Yg.o.symm
       have cC:k3+1+1≤l.length:=by have:=lj h45;rw [←hr3,aA] at this;omega
       have hs5:(bZ r3).2=l.drop (k3+1+1):=by
        rw [Us.o,if_pos (.inl h45),←hr3,dB]
       have Hs5:=hide hs5;clear h45 hs5;go_wp2_with fail;go_meet;exact ⟨k3+1+1,Hs5.o,cC,S8.o⟩
      |false=>
       have h45:=of_decide_eq_false Yg.o.symm;have H45:=hide h45;have S8':=ae (qH w8 w.heap.size w l (k3+1) neg dv (Wd++F) (-(F.length:Int))) S8.o;clear h45 S8;go_wp2_with fail;refine (O1.o [43] (k3+1) _ (by decide) Pq S8'.o.at_).mono ?_;rintro e w9 ⟨rfl,hat,dL⟩;rw [jc,hr3] at hat;rw [jc,hr3]
       obtain ⟨b43,Ut⟩:∃b,decide (r3.head? =some 43)=b:=⟨_,rfl⟩
       rw [Ut] at hat;rw [Ut];have H43:=hide Ut;have S9:=hide (S8'.o.turn hat dL);clear hat dL Ut S8';go_wp2_with fail;go_meet
       cases b43 with
       |true=>
        have h43:=of_decide_eq_true H43.o
        have cC:k3+1+1≤l.length:=by have:=lj h43;rw [←hr3,aA] at this;omega
        exact ⟨k3+1+1,by rw [Us.o,if_pos (.inr h43),←hr3,dB],cC,S9.o⟩
       |false=>
        have h43:=of_decide_eq_false H43.o;exact ⟨k3+1,by rw [Us.o,if_neg (by rintro (h|h);exact H45.o h;exact h43 h),List.drop_zero,hr3],Pq,S9.o⟩
     case rest=>
     obtain ⟨k5,hs5,cC,hS⟩:=hcut;have S9:=hide hS
     obtain ⟨r4,hr4⟩:∃r4,l.drop k5=r4:=⟨_,rfl⟩
     have hex:=HEx.o;rw [hs5,hr4] at hex;have H6:=hide hex
     have acr:r4.length=l.length-k5:=by rw [←hr4,aA]
     clear hS S8 hex HEx Us Yg hs5 hr3;go_wp2_with fail;refine (DG.o k5 _ cC S9.o.at_).mono ?_;rintro e rF ⟨rfl,hat,dL⟩;rw [hr4] at hat;rw [hr4];have H7:=hide (S9.o.turn hat dL);clear hat dL S9;have aaC:=xH r4;have Pr:=xI r4
     obtain ⟨N4,hN4⟩:∃N4,nd r4=N4:=⟨_,rfl⟩
     rw [hN4] at H7 H6 aaC Pr⊢
     obtain ⟨ds,hds⟩:∃ds,r4.take N4=ds:=⟨_,rfl⟩
     have LQ:ds.length=N4:=by rw [←hds,cr];omega
     have hdd:∀c∈ds,kq c=true:=fun c hc=>by
      obtain ⟨j,hj,rfl⟩:=List.mem_iff_getElem.1 hc
      have Tf:j<r4.length:=by omega
      have e:ds[j]=r4[j]:=by
       have:(r4.take N4)[j]'(by rw [hds];exact hj)=r4[j]:=List.getElem_take;rw [←this];congr 1;exact hds.symm
      rw [e];exact Pr j Tf (by omega)
     have hdS:=fH ds;rw [hds] at H6⊢
     have oM:r4.drop N4=l.drop (k5+N4):=by rw [←hr4,dB]
     rw [oM] at H6
     obtain ⟨k4,acs⟩:∃k4,k5+N4=k4:=⟨_,rfl⟩
     have hk4:k4≤l.length:=by omega
     rw [acs] at H7 H6;have Hdd:=hide hdd;clear oM hds hN4 hr4 acr aaC Pr hdd;by_cases h0':N4=0
     ·have hd0:ds=[]:=gH (by omega);subst hd0;have hbe:cf []=⟨#[]⟩:=rfl;rw [hbe];obtain ⟨Af,acu,hdv,_,_,_⟩:=H7.o.form
      obtain ⟨nf,hnf⟩:∃nf,(Wd++F).length=nf:=⟨_,rfl⟩
      rw [hnf] at hdv;subst hdv;clear hnf;have fl:=H7.o.fail;have HF:=hide fl;have q0:=H7.o.num.cell 0;have q1:=H7.o.num.cell 1;have q2:=H7.o.num.cell 2;have g0:=H7.o.res.cell 0;have g1:=H7.o.res.cell 1;have g2:=H7.o.res.cell 2;have f0:=H7.o.res.frozen 0;have f1:=H7.o.res.frozen 1;have f2:=H7.o.res.frozen 2;have hN:=ae (fh l=none) (by rw [Hw.o,H6.o,if_pos h0'];rfl);clear fl;go_wp2
      exact bodyPost_ret (v:=.tuple #[.agg #[_,_,_],.bool false]) (dx rfl _ _ (w.heap.size+1) 131 _ _ _ (.bool false) rfl rfl HF.o.1 Tryz.underlying131 rfl (by kernel_rfl)) rfl
       ⟨HF.o.2,_,Af,_,acu,_,false,rfl,fun _=>rfl,fun p hp=>by rw [hN.o] at hp;cases hp⟩
     ·have hex:=H6.o;rw [if_neg h0'] at hex;have aaD:=hide hex
      have aaE:0<(cf ds).size:=by omega
      obtain ⟨adD,aaF⟩:=pd aaE
      have adE:(!(cf ds).toList.isEmpty)=true:=by rw [aaF];rfl
      clear hex H6;have hcv:=Lib.run_convert_string_bytes (P:=Tryz.prog) rF 9 75 5 (cf ds) Tryz.underlying9 Tryz.underlying75 Tryz.underlying5
      have hW0:Below rF.heap.size rF (Lib.bytesWorld rF 5 (cf ds)):=⟨rfl,rfl,rfl,by rw [Lib.bytesWorld_size];omega,fun k hk=>Lib.bytesWorld_at_old rF _ _ k hk⟩
      have hWc:∀j,∀hj:j<ds.length,(Lib.bytesWorld rF 5 (cf ds)).cell? ⟨rF.heap.size,j,none⟩=some (.int .u8 ((ds[j]'hj).toNat:Int)):=fun j hj=>by
       rw [Lib.bytesWorld_cell rF _ (cf ds) j (by omega),List.getD_eq_getElem?_getD,gi,List.getElem?_eq_getElem hj];rfl
      generalize Lib.bytesWorld rF 5 (cf ds)=wB at hcv hW0 hWc;have HWc:=hide hWc;have S11:=hide (H7.o.below hW0);clear hW0 hWc H7;go_wp2;clear hcv
      go_loop [12,68] (fun v vi=>∃i:Nat,vi=.int .i64 i∧i≤ds.length∧v=.int .i64 ((jQ 1048576 (ds.take i):Nat):Int)) (fun _ vi=>ds.length-(intOf vi).toNat)
      case atStart=>exact ⟨0,rfl,bj _,rfl⟩
      case round=>
       obtain ⟨i,rfl,hi,rfl⟩:=hrel
       have Yh:jQ 1048576 (ds.take i)≤1048576:=by rw [qc];exact Nat.min_le_left _ _
       by_cases hlt:i<ds.length
       ·have hcell:=HWc.o i hlt;have hdig:=Hdd.o _ (cI hlt)
        have hes:jQ 1048576 (ds.take (i+1))=min 1048576 (10*jQ 1048576 (ds.take i)+((ds[i]'hlt).toNat-48)):=by
         rw [List.take_succ_eq_append_getElem hlt];unfold jQ;rw [List.foldl_append];rfl
        obtain ⟨c,hc⟩:∃c,ds[i]'hlt=c:=⟨_,rfl⟩
        rw [hc] at hcell hdig hes;simp only [kq,decide_eq_true_eq] at hdig
        obtain ⟨E,hE⟩:∃E,jQ 1048576 (ds.take i)=E:=⟨_,rfl⟩
        rw [hE] at hes Yh⊢;have hu8:IntKind.u8.wrap ((c.toNat:Int)-48)=(c.toNat:Int)-48:=IntWalk.u8_in _ (by omega)
        have adF:(E:Int)≤1048576:=by omega
        have hc1:(48:Int)≤(c.toNat:Int):=by omega
        have hc2:(c.toNat:Int)≤57:=by omega
        have hmin:min (1048576:Int) (10*(E:Int)+((c.toNat:Int)-48))=((jQ 1048576 (ds.take (i+1)):Nat):Int):=by rw [hes];omega
        have acv:=hide hmin;clear hc hes hdig hE hmin;go_wp2;go_round
        case rel=>exact ⟨i+1,by go_num,by omega,by rw [acv.o]⟩
        case measure=>simp [intOf];omega
       ·obtain rfl:i=ds.length:=by omega
        rw [List.take_length] at Yh⊢
        obtain ⟨E,hE⟩:∃E,jQ 1048576 ds=E:=⟨_,rfl⟩
        rw [hE] at Yh⊢
        have hEb:(E:Int)≤1048576:=by omega
        have qe:=S11.o.num.cell 2;have fe:=S11.o.num.frozen 2
        have hFb:(F.length:Int)≤1000000:=by omega
        cases down with
        |true=>
         have S12:=hide (S11.o.Ye (-(F.length:Int)+ -(E:Int)));have LW:=hide (show (-(F.length:Int)+ -(E:Int))=-(F.length:Int)+mf true (jQ 1048576 ds) by rw [hE];rfl);clear hE;go_wp2_with fail;go_meet;exact ⟨k4,true,ds,aaD.o,hk4,by rw [←LW.o];exact S12.o⟩
        |false=>
         have S12:=hide (S11.o.Ye (-(F.length:Int)+(E:Int)));have LW:=hide (show (-(F.length:Int)+(E:Int))=-(F.length:Int)+mf false (jQ 1048576 ds) by rw [hE];rfl);clear hE;go_wp2_with fail;go_meet;exact ⟨k4,false,ds,aaD.o,hk4,by rw [←LW.o];exact S12.o⟩
    |false=>
     have hE:=of_decide_eq_false HE.o
     have hex:sZ (l.drop k3)=some (false,[],l.drop k3):=by unfold sZ;rw [if_neg hE]
     have HEx:=hide hex
     have hz0:-(F.length:Int)+mf false (jQ 1048576 [])=-(F.length:Int):=by
      have:mf false (jQ 1048576 [])=0:=rfl;rw [this,Int.add_zero]
     have Hz0:=hide hz0;clear hE HE hex hz0;go_wp2_with fail;go_meet;exact ⟨k3,false,[],HEx.o,hk3,by rw [Hz0.o];exact S7.o⟩
   case rest=>
   obtain ⟨k4,down,ds,hex,hk4,hS⟩:=hcut;have hsc:=Hw.o;rw [hex] at hsc
   have aaG:fh l=if l.drop k4=[] then some (neg,Wd,F,down,ds) else none:=hsc
   have S8:=hide hS
   have hFb:(F.length:Int)≤1000000:=by omega
   have adG:jQ 1048576 ds≤1048576:=by rw [qc];exact Nat.min_le_left _ _
   obtain ⟨X,hX⟩:∃X,-(F.length:Int)+mf down (jQ 1048576 ds)=X:=⟨_,rfl⟩
   have hX1:-1000000000≤X:=by rw [←hX];unfold mf;split<;>omega
   have hX2:X≤1000000000:=by rw [←hX];unfold mf;split<;>omega
   rw [hX] at S8;obtain ⟨A,cap,hdv,hsl,hnc,hcm⟩:=S8.o.form
   obtain ⟨n,hn⟩:∃n,(Wd++F).length=n:=⟨_,rfl⟩
   have hnz:n≤1000000:=by rw [←hn,aw];omega
   rw [hn] at hdv hnc;subst hdv;have HSl:=hide hsl;have TR:=hide (fun (W:World) (h:Sl mh W A (Wd++F))=>Pm neg A n cap (Wd++F) X W hn.symm (by omega) hnc hcm hX1 hX2 h);have q0:wc.cell? ⟨w.heap.size+2,0,none⟩=some (.bool neg):=S8.o.num.cell 0;have q1:wc.cell? ⟨w.heap.size+2,1,none⟩=some (.slice A n cap):=S8.o.num.cell 1;have q2:wc.cell? ⟨w.heap.size+2,2,none⟩=some (.int .i64 X):=S8.o.num.cell 2;have q3:wc.cell? ⟨w.heap.size+3,0,none⟩=some (.int .i64 (k4:Int)):=S8.o.at_.pos.cell 0;have q4:wc.cell? ⟨w.heap.size,0,none⟩=some (.string (cf l)):=S8.o.at_.txt.cell 0;have Hn:=hide hn;have HX:=hide hX;have HSc:=hide aaG;have hbig:=S8.o.big;unfold jo at TR;clear hS hex hsc aaG Hw S7 HE hn hX hsl;go_upto_region 36 with fail
   go_region_held3 (fun w'=>w'.cell? ⟨w.heap.size+2,0,none⟩=some (.bool neg)∧w'.cell? ⟨w.heap.size+2,1,none⟩=some (.slice A n cap)∧w'.cell? ⟨w.heap.size+2,2,none⟩=some (.int .i64 X)∧w'.cell? ⟨w.heap.size+3,0,none⟩=some (.int .i64 (k4:Int))∧w'.cell? ⟨w.heap.size,0,none⟩=some (.string (cf l)))
    (first|exact ⟨y0,y1,y2,y3,y4⟩|go_keep)
    ((go_at_call 178;refine (TR.o _ (HSl.o.below (af _ _).drew)).mono ?_;rintro e wT ⟨A2,cap2,Cq,Tg,rfl,hs2,hc2,hm2,hb2,ht2,ht3⟩;have y0:=(hb2.cell (p:=⟨w.heap.size+2,0,none⟩) (show w.heap.size+2<wc.heap.size by omega)).trans q0;have y1:=(hb2.cell (p:=⟨w.heap.size+2,1,none⟩) (show w.heap.size+2<wc.heap.size by omega)).trans q1;have y2:=(hb2.cell (p:=⟨w.heap.size+2,2,none⟩) (show w.heap.size+2<wc.heap.size by omega)).trans q2;have y3:=(hb2.cell (p:=⟨w.heap.size+3,0,none⟩) (show w.heap.size+3<wc.heap.size by omega)).trans q3;have y4:=(hb2.cell (p:=⟨w.heap.size,0,none⟩) (show w.heap.size<wc.heap.size by omega)).trans q4;have yr:Row wT (w.heap.size+1) 131 #[.bool false,.slice none 0 0,.int .i64 0]:=S8.o.res.drew.below hb2 (show w.heap.size+1<wc.heap.size by omega);have z0:wT.cell? ⟨w.heap.size+1,0,none⟩=some (.bool false):=yr.cell 0;have z1:wT.cell? ⟨w.heap.size+1,1,none⟩=some (.slice none 0 0):=yr.cell 1;have z2:wT.cell? ⟨w.heap.size+1,2,none⟩=some (.int .i64 0):=yr.cell 2;have f0:wT.frozen? ⟨w.heap.size+1,0,none⟩=false:=yr.frozen 0;have f1:wT.frozen? ⟨w.heap.size+1,1,none⟩=false:=yr.frozen 1;have f2:wT.frozen? ⟨w.heap.size+1,2,none⟩=false:=yr.frozen 2))
   have hb3:Below w.heap.size w wT:=S8.o.Ka.trans ((show Below wc.heap.size wc wT from ⟨hb2.os,hb2.tape,hb2.output,hb2.size,hb2.block⟩).mono (br (by omega) hbig));have dL:ah (fun c=>c=w.heap.size+1) wT (((wT.setCell ⟨w.heap.size+1,0,none⟩ (.bool Cq)).setCell ⟨w.heap.size+1,1,none⟩ (.slice A2 (bh (Wd++F)).length cap2)).setCell ⟨w.heap.size+1,2,none⟩ (.int .i64 Tg)):=(((ah.refl (fun c=>c=w.heap.size+1) wT).set (.inl rfl) 0 _).set (.inl rfl) 1 _).set (.inl rfl) 2 _
   have aaH:=Yf hs2 yr (by
    intro i c
    match i with
    |0=>intro h;cases h
    |1=>intro h;cases h
    |2=>intro h;cases h
    |i+3=>intro h;cases h) dL
   have Wz:Row (((wT.setCell ⟨w.heap.size+1,0,none⟩ (.bool Cq)).setCell ⟨w.heap.size+1,1,none⟩ (.slice A2 (bh (Wd++F)).length cap2)).setCell ⟨w.heap.size+1,2,none⟩ (.int .i64 Tg)) (w.heap.size+1) 131 #[.bool Cq,.slice A2 (bh (Wd++F)).length cap2,.int .i64 Tg]:=((yr.bU 0 (.bool Cq)).bU 1 (.slice A2 (bh (Wd++F)).length cap2)).bU 2 (.int .i64 Tg);have hbF:=((hb3.setCell (p:=⟨w.heap.size+1,0,none⟩) (Nat.le_succ _) (.bool Cq)).setCell (p:=⟨w.heap.size+1,1,none⟩) (Nat.le_succ _) (.slice A2 (bh (Wd++F)).length cap2)).setCell (p:=⟨w.heap.size+1,2,none⟩) (Nat.le_succ _) (.int .i64 Tg)
   have hfin:En l w.heap.size w (.returned (.tuple #[jo Cq A2 (bh (Wd++F)).length cap2 Tg,.bool ((k4:Int)==(l.length:Int))])) (((wT.setCell ⟨w.heap.size+1,0,none⟩ (.bool Cq)).setCell ⟨w.heap.size+1,1,none⟩ (.slice A2 (bh (Wd++F)).length cap2)).setCell ⟨w.heap.size+1,2,none⟩ (.int .i64 Tg)):=by
    refine ⟨hbF,Cq,A2,_,cap2,Tg,_,rfl,fun hnone=>?_,fun p hp=>?_⟩
    ·rw [HSc.o] at hnone;refine aP.2 (fun e=>?_);have:l.drop k4=[]:=dc (by omega);rw [if_pos this] at hnone;cases hnone
    ·rw [HSc.o] at hp
     split at hp
     ·rename_i hd;cases hp
      have hkl:k4=l.length:=by
       have:=congrArg List.length hd;rw [aA] at this;simp at this;omega
      refine ⟨by rw [hkl];simp,rfl,aaH,hc2,hm2,fun hne=>?_,fun h=>(ht3 h).2⟩;obtain ⟨e1,e2⟩:=ht2 hne;refine ⟨e1,?_⟩
      have hlen:((Wd++F).dropWhile (·==48)).length+lW (Wd++F)=(Wd++F).length:=by
       unfold lW;have:=congrArg List.length (List.takeWhile_append_dropWhile (p:=(·==(48:UInt8))) (l:=Wd++F));rw [aw] at this;omega
      rw [aw] at hlen;have hXo:=HX.o;rw [e2];simp only;omega
     ·cases hp
   have acw:=hide hfin;have aaI:=hide Wz;clear hfin Wz hbF aaH dL hb3 ht2 ht3 hs2 hc2 hm2 hb2 y0 y1 y2 y3 y4 yr z0 z1 z2 f0 f1 f2 HSl TR q0 q1 q2 q3 q4 HSc HX Hn;go_wp2;exact bodyPost_ret (v:=.tuple #[jo Cq A2 (bh (Wd++F)).length cap2 Tg,.bool ((k4:Int)==(l.length:Int))]) (dx rfl _ _ (w.heap.size+1) 131 _ _ _ (.bool ((k4:Int)==(l.length:Int))) rfl rfl aaI.o Tryz.underlying131 rfl (by kernel_rfl)) rfl acw.o
end Go.Proofs.YtddoehnkgcbboaaGreatDoor
namespace Go.Proofs.YtddoehnkgcbboaaGreatDoor
open Go.RowKit Go.Shelf Go.Sort
theorem Kb {W:World} {A:Option Addr} {l:List UInt8} (cap:Nat) (h:Sl mh W A l) (hp:0<l.length):(convert 75 9 (.slice A l.length cap)).run Tryz.prog W=.ok (.string (cf l)) W:=by
 obtain ⟨b,off,rfl,hat⟩:=h hp;refine run_convert_bytes_back W _ _ 5 ⟨b,off,none⟩ cap l (by kernel_rfl) (by kernel_rfl) (by kernel_rfl) (fun j hj=>?_)
 have hadd:(⟨b,off,none⟩:Addr).add j=⟨b,off+j,none⟩:=by unfold Addr.add;split<;>simp_all
 rw [hadd];exact hat j hj
theorem xX (a b:List UInt8):cf a++cf b=cf (a++b):=by
 apply Go.WideShapes.bytes_inj;rw [s8,gi,gi,gi]
theorem xY (neg:Bool) (A:Option Addr) (n cap:Nat) (T:List UInt8) (ex:Int) (w:World) (hn:n=T.length) (hz:T.length≤1000000) (hc:n≤cap) (hcm:cap≤maxLen) (h0:-1000000000≤ex) (h1:ex≤1000000000) (hs:Sl mh w A T) (hg:Gl w):
 Calls Tryz.prog 145 #[jo neg A n cap ex] w fun e w'=>e=.returned (.tuple #[.string (bF neg T (ex+n-1)).1,.int .i64 (bF neg T (ex+n-1)).2])∧Below w.heap.size w w':=by
 subst hn;have FR:=hide (fun W:World=>Cl neg A T.length cap ex W hz h0 h1);have Hs:=hide hs;have G:=hide hg;clear hs hg;unfold jo at FR⊢
 obtain ⟨fi,hfi⟩:∃fi,ex+(T.length:Int)-1=fi:=⟨_,rfl⟩
 rw [hfi] at FR⊢;have hrow:=Row.new w 131 #[.bool neg,.slice A T.length cap,.int .i64 ex];have hbl:=(af w.heap.size w).alloc (aa _) (.cells #[.bool neg,.slice A T.length cap,.int .i64 ex] 131);have R0:=hide hrow;have B0:=hide hbl;clear hrow hbl;by_cases hT:T.length=0
 ·have hT0:T=[]:=gH hT
  have hR:bF neg T fi=(⟨#[48]⟩,0):=by unfold bF;rw [if_pos hT0]
  rw [hR]
  have hTI:(T.length:Int)=0:=by omega
  clear hT0 hR;go_enter Tryz.func145,Tryz.ntmps145;go_wp2
  go_ret2
  exact ⟨rfl,(af _ _).alloc (aa _) _⟩
 ·have Uu:T≠[]:=fun e=>hT (by rw [e];rfl)
  have hTI:(T.length:Int)≠0:=by omega
  by_cases Uv:17<T.length
  ·have hR:bF neg T fi=(⟨#[]⟩,9):=by unfold bF;rw [if_neg Uu,if_pos (.inl Uv)]
   rw [hR]
   have acx:(17:Int)<(T.length:Int):=by omega
   clear hR;go_enter Tryz.func145,Tryz.ntmps145;go_wp2
   go_ret2
   exact ⟨rfl,B0.o⟩
  ·have acx:¬(17:Int)<(T.length:Int):=by omega
   by_cases hlo:fi< -400
   ·have hR:bF neg T fi=(⟨#[]⟩,9):=by unfold bF;rw [if_neg Uu,if_pos (.inr (.inl hlo))]
    rw [hR];clear hR;go_enter Tryz.func145,Tryz.ntmps145;go_wp2_with fail;refine (FR.o _).mono ?_;rintro e w1 ⟨rfl,hb⟩;have B1:=hide (B0.o.trans (hb.mono B0.o.size));clear hb;go_wp2
    go_ret2
    exact ⟨rfl,B1.o⟩
   ·by_cases hhi:400<fi
    ·have hR:bF neg T fi=(⟨#[]⟩,9):=by unfold bF;rw [if_neg Uu,if_pos (.inr (.inr hhi))]
     rw [hR];clear hR;go_enter Tryz.func145,Tryz.ntmps145;go_wp2_with fail;refine (FR.o _).mono ?_;rintro e w1 ⟨rfl,hb⟩;have B1:=hide (B0.o.trans (hb.mono B0.o.size));have R1:=hide (R0.o.below hb R0.o.lt);have q0:w1.cell? ⟨w.heap.size,0,none⟩=some (.bool neg):=R1.o.cell 0;have q1:w1.cell? ⟨w.heap.size,1,none⟩=some (.slice A T.length cap):=R1.o.cell 1;have q2:w1.cell? ⟨w.heap.size,2,none⟩=some (.int .i64 ex):=R1.o.cell 2;clear hb;go_wp2_with fail;refine (FR.o _).mono ?_;rintro e w2 ⟨rfl,hb⟩;have B2:=hide (B1.o.trans (hb.mono B1.o.size));clear hb;go_wp2
     go_ret2
     exact ⟨rfl,B2.o⟩
    ·have hR:bF neg T fi=(cf ((if neg then [45] else [])++(T.take 1++(if 1<T.length then 46::T.drop 1 else [])))++⟨#[101]⟩++nA fi,0):=by
      unfold bF;rw [if_neg Uu,if_neg (by omega)]
     rw [hR];have IT:=hide (fun (W:World) (h:Gl W)=>OX fi W (by omega) (by omega) h)
     have ht1:(T.take 1).length=1:=by rw [cr];omega
     have LQ:(T.drop 1).length=T.length-1:=aA
     obtain ⟨t1,ht1'⟩:∃t1,T.take 1=t1:=⟨_,rfl⟩
     obtain ⟨td,htd⟩:∃td,T.drop 1=td:=⟨_,rfl⟩
     rw [ht1'] at ht1⊢;rw [htd] at LQ⊢
     obtain ⟨Rb,hRb⟩:∃Rb,cf ((if neg then [45] else [])++(t1++(if 1<T.length then 46::td else [])))++⟨#[101]⟩++nA fi=Rb:=⟨_,rfl⟩
     rw [hRb];have HRb:=hide hRb;have Ht1:=hide ht1';have Htd:=hide htd;have Hdl:=hide LQ
     have hzd:(nA fi).size≤21:=by
      have:=Lib.itoa_length_le fi (by omega) (by omega);show (Lib.itoa fi).toArray.size≤21
      simpa using this
     clear hR ht1' htd LQ hRb;go_enter Tryz.func145,Tryz.ntmps145;go_wp2_with fail;refine (FR.o _).mono ?_;rintro e w1 ⟨rfl,hb⟩;have B1:=hide (B0.o.trans (hb.mono B0.o.size));have R1:=hide (R0.o.below hb R0.o.lt);have q0:w1.cell? ⟨w.heap.size,0,none⟩=some (.bool neg):=R1.o.cell 0;have q1:w1.cell? ⟨w.heap.size,1,none⟩=some (.slice A T.length cap):=R1.o.cell 1;have q2:w1.cell? ⟨w.heap.size,2,none⟩=some (.int .i64 ex):=R1.o.cell 2;clear hb;go_wp2_with fail;refine (FR.o _).mono ?_;rintro e w2 ⟨rfl,hb⟩;have B2:=hide (B1.o.trans (hb.mono B1.o.size));have R2:=hide (R1.o.below hb R1.o.lt);clear hb q0 q1 q2;have q0:w2.cell? ⟨w.heap.size,0,none⟩=some (.bool neg):=R2.o.cell 0;have q1:w2.cell? ⟨w.heap.size,1,none⟩=some (.slice A T.length cap):=R2.o.cell 1;have q2:w2.cell? ⟨w.heap.size,2,none⟩=some (.int .i64 ex):=R2.o.cell 2;have S2:=Hs.o.below B2.o;have hSt:=J9 S2 1;rw [Ht1.o] at hSt;have aaJ:=Kb cap hSt (by omega);rw [ht1] at aaJ;clear hSt;obtain ⟨b,off,hA,hat⟩:=S2 (by omega);subst hA;have hS1:=J8 hat 1;rw [Htd.o] at hS1
     obtain ⟨tl,htl⟩:∃tl,(if 1<T.length then 46::td else [])=tl:=⟨_,rfl⟩
     have hcI:(1:Int)≤(cap:Int):=by omega
     have hTc:(T.length:Int)≤(cap:Int):=by omega
     have hT1:(1:Int)≤(T.length:Int):=by omega
     go_upto_if 30 with fail;go_cut [4] (fun v wx=>v=.string (cf (t1++tl))∧wx=w2)
     case first=>
      by_cases h1T:1<T.length
      ·have h1I:(1:Int)<(T.length:Int):=by omega
       have hcap:¬cap=1:=by omega
       have acy:=Kb (cap-1) hS1 (by have:=Hdl.o;omega);rw [Hdl.o] at acy
       have adi:¬cap-1=0:=by omega
       rw [if_pos h1T] at htl;have d1:=fun W=>sY (P:=Tryz.prog) ⟨#[46]⟩ (cf (td)) (by have:=Hdl.o;rw [fH];show 1+_≤1000;omega) W;have e1:(⟨#[46]⟩:ByteArray)++cf (td)=cf (46::td):=xX [46] (td);rw [e1,htl] at d1
       have adH:tl.length≤20:=by have:=Hdl.o;rw [←htl,aj];omega
       have d2:=fun W=>sY (P:=Tryz.prog) (cf (t1)) (cf tl) (by rw [fH,fH];omega) W;rw [xX] at d2;clear e1;go_wp2_with fail;go_meet;exact ⟨rfl,rfl⟩
      ·have h1I:¬(1:Int)<(T.length:Int):=by omega
       rw [if_neg h1T] at htl;subst htl;go_wp2_with fail;go_meet;exact ⟨by rw [dH],rfl⟩
     case rest=>
     obtain ⟨rfl,rfl⟩:=hcut
     obtain ⟨m,hm⟩:∃m,t1++tl=m:=⟨_,rfl⟩
     have Wv:m.length≤30:=by
      rw [←hm,aw,←htl];have:=Hdl.o
      split
      ·rw [aj];omega
      ·show _+0≤30;omega
     rw [hm];have Hm:=hide hm;have Htl:=hide htl;clear aaJ hS1 hat htl hm ht1;go_upto_if 39 with fail;go_cut [4] (fun v wx=>v=.string (cf ((if neg then [45] else [])++m))∧wx=wc)
     case first=>
      cases neg with
      |true=>
       have d1:=fun W=>sY (P:=Tryz.prog) ⟨#[45]⟩ (cf m) (by rw [fH];show 1+_≤1000;omega) W;have e1:(⟨#[45]⟩:ByteArray)++cf m=cf (45::m):=xX [45] m;rw [e1] at d1;clear e1;go_wp2_with fail;go_meet;exact ⟨rfl,rfl⟩
      |false=>
       go_wp2_with fail;go_meet;exact ⟨rfl,rfl⟩
     case rest=>
     obtain ⟨rfl,hwx⟩:=hcut
     obtain ⟨M,hM⟩:∃M,(if neg then [45] else [])++m=M:=⟨_,rfl⟩
     have hMz:M.length≤31:=by
      rw [←hM,aw]
      have:(if neg then [45] else []:List UInt8).length≤1:=by split<;>simp
      omega
     rw [hM];subst hwx;have d1:=fun W=>sY (P:=Tryz.prog) (cf M) ⟨#[101]⟩ (by rw [fH];show _+1≤1000;omega) W;have d2:=fun W=>sY (P:=Tryz.prog) (cf M++⟨#[101]⟩) (nA fi) (by rw [ByteArray.size_append,fH];show _+1+_≤1000;omega) W;have HM:=hide hM;clear hM;go_wp2_with fail;refine (FR.o _).mono ?_;rintro e w3 ⟨rfl,hb⟩;have B3:=hide (B2.o.trans (hb.mono B2.o.size));clear hb;go_wp2_with fail;refine (IT.o _ (G.o.below B3.o)).mono ?_;rintro e w4 ⟨rfl,hb⟩;have B4:=hide (B3.o.trans (hb.mono B3.o.size));clear hb
     have he:cf M++⟨#[101]⟩++nA fi=Rb:=by rw [←HM.o,←Hm.o,←Htl.o];exact HRb.o
     have He:=hide he;clear he;go_wp2
     go_ret2
     exact ⟨by rw [←He.o];rfl,B4.o⟩
theorem H9 (a b:ByteArray):(a.toList==b.toList)=decide (a=b):=by
 rw [Bool.eq_iff_iff,beq_iff_eq,decide_eq_true_eq];constructor
 ·intro h;exact Go.WideShapes.bytes_inj (by rw [←Lib.toList_data,←Lib.toList_data,h])
 ·intro h;rw [h]
theorem nI (neg:Bool) (a b:Int):bF neg [] a=bF false [] b:=by unfold bF;rw [if_pos rfl,if_pos rfl]
theorem tE {l:List UInt8} {p:Bool×List UInt8×List UInt8×Bool×List UInt8} {neg:Bool} {n:Nat} {ex:Int} (hp:fh l=some p) (hn:n=(bh (p.2.1++p.2.2.1)).length)
 (h:bh (p.2.1++p.2.2.1)≠[]→neg=p.1∧ex+n-1=(p.2.1.length:Int)-1-lW (p.2.1++p.2.2.1)+mf p.2.2.2.1 (jQ 1048576 p.2.2.2.2)):
 bG 100000 l=bF neg (bh (p.2.1++p.2.2.1)) (ex+n-1):=by
 rw [←GX];unfold bG;rw [hp];show Lr 1048576 p=_;unfold Lr;by_cases hT:bh (p.2.1++p.2.2.1)=[]
 ·rw [hT];exact (nI _ _ 0).trans (nI _ _ 0).symm
 ·obtain ⟨h1,h2⟩:=h hT;rw [h1,h2]
theorem uP {l:List UInt8} {p:Bool×List UInt8×List UInt8×Bool×List UInt8} (hp:fh l=some p):(bh (p.2.1++p.2.2.1)).length≤128:=by
 obtain ⟨_,h2,h3,_⟩:=uA hp;have h4:=(El ((p.2.1++p.2.2.1).dropWhile (·==48))).1;have h5:=(List.dropWhile_suffix (p:=(·==(48:UInt8))) (l:=p.2.1++p.2.2.1)).length_le;rw [aw] at h5;rw [tD];omega
theorem AV {l:List UInt8} {p:Bool×List UInt8×List UInt8×Bool×List UInt8} {neg:Bool} {n:Nat} {ex:Int} (hp:fh l=some p) (hn:n=(bh (p.2.1++p.2.2.1)).length)
 (h:bh (p.2.1++p.2.2.1)≠[]→neg=p.1∧ex+n-1=(p.2.1.length:Int)-1-lW (p.2.1++p.2.2.1)+mf p.2.2.2.1 (jQ 1048576 p.2.2.2.2)) (h0:bh (p.2.1++p.2.2.1)=[]→ex=0):
 -1000000000≤ex∧ex≤1000000000:=by
 obtain ⟨_,h2,h3,_⟩:=uA hp;have hs:=uP hp;have hl:=DZ (p.2.1++p.2.2.1);rw [aw] at hl
 have he:jQ 1048576 p.2.2.2.2≤1048576:=by rw [qc];exact Nat.min_le_left _ _
 by_cases hT:bh (p.2.1++p.2.2.1)=[]
 ·rw [h0 hT];decide
 ·obtain ⟨_,h1⟩:=h hT;unfold mf at h1
  split at h1<;>omega
theorem Cr (l:List UInt8) (w:World) (hz:l.length≤1000000) (hg:Gl w):
 Calls Tryz.prog 160 #[.string (cf l)] w fun e w'=>e=.returned (.tuple #[.string (bG 100000 l).1,.int .i64 (bG 100000 l).2])∧Below w.heap.size w w':=by
 have SC:=hide (Eo l w hz);have G:=hide hg;clear hg
 obtain ⟨R,hR⟩:∃R,bG 100000 l=R:=⟨_,rfl⟩
 have HR:=hide hR;rw [hR];clear hR;generalize cf l=lb at*;go_enter Tryz.func160,Tryz.ntmps160;go_wp2_with fail;refine SC.o.mono ?_;rintro e w1 ⟨hb,neg,A,n,cap,ex,ok,rfl,hno,Ps⟩;have B1:=hide hb;have Pt:=hide Ps;have Ww:=hide hno;clear hb Ps hno;unfold jo
 cases hsc:fh l with
 |none=>
  obtain rfl:=Ww.o hsc
  have hRn:R=(⟨#[]⟩,3):=by rw [←HR.o];unfold bG;rw [hsc]
  subst hRn;clear hsc;go_wp2
  go_ret2
  exact ⟨rfl,B1.o.alloc B1.o.size _⟩
 |some p=>
  obtain ⟨rfl,hn,hsl,hnc,hcm,h1,h2⟩:=Pt.o p hsc;have heq:=tE hsc hn h1;obtain ⟨x1,x2⟩:=AV hsc hn h1 h2;have Yi:=uP hsc
  obtain ⟨T,hT⟩:∃T,bh (p.2.1++p.2.2.1)=T:=⟨_,rfl⟩
  rw [hT] at hn hsl heq Yi;have TX:=hide (fun (W:World) (h:Sl mh W A T) (hg:Gl W)=>xY neg A n cap T ex W hn (by omega) hnc hcm x1 x2 h hg);rw [←heq,HR.o] at TX;have Hsl:=hide (hsl.below ((af w1.heap.size w1).alloc (aa _) (.cells #[.bool neg,.slice A n cap,.int .i64 ex] 131)));have B2:=hide (B1.o.alloc B1.o.size (.cells #[.bool neg,.slice A n cap,.int .i64 ex] 131));unfold jo at TX;clear hsc hn hsl heq h1 h2 hT Pt Ww;go_wp2_with fail;refine (TX.o _ Hsl.o (G.o.below B2.o)).mono ?_;rintro e w2 ⟨rfl,hb⟩;have B3:=hide (B2.o.trans (hb.mono B2.o.size));clear hb;go_wp2
  go_ret2
  exact ⟨rfl,B3.o⟩
theorem H_ (l:List UInt8):lL l=(decide ((bG 100000 l).2=0)&&decide ((bG 100000 l).1=cf l)):=by
 unfold lL;rw [Bool.eq_iff_iff,cS,decide_eq_true_eq,decide_eq_true_eq,decide_eq_true_eq];constructor
 ·rintro ⟨h1,h2⟩;exact ⟨h1,Go.WideShapes.bytes_inj (by rw [h2,gi])⟩
 ·rintro ⟨h1,h2⟩;exact ⟨h1,by rw [h2,gi]⟩
end Go.Proofs.YtddoehnkgcbboaaGreatDoor
namespace Go.Proofs.YtddoehnkgcbboaaGreatDoor
open Go.RowKit Go.Shelf
def gY:List (List UInt8)→List UInt8→Nat
 |[],_=>0
 |u::us,t=>if Lib.hasPrefix t u=true then u.length else gY us t
def iD (t:List UInt8):Nat:=gY cA t
def jS (l:List UInt8) (n:Nat):Nat:=
 match l.drop n with
 |46::c::_=>if bg c then n+1+bf bg (l.drop (n+1)) else n
 |_=>n
def cP (t:List UInt8):List UInt8×Int:=((bG 100000 t).1.data.toList,(bG 100000 t).2)
def tF (l:List UInt8) (n C e2 k:Nat):Wq:=
 if 0<C then (if bB l C then ⟨3,(fD (l.take C)).1,C,(fD (l.take C)).2⟩ else dI 3)
 else if n<e2 then (if bB l e2 then ⟨4,(cP (l.take e2)).1,e2,(cP (l.take e2)).2⟩ else dI 3)
 else if bB l (n+k)=false then dI 3
 else if 15<(bO (l.take n)).length then dI 9
 else ma (if k=0 then 1 else 2) (bO (l.take n)++(l.drop n).take k) (n+k)
def fg (l:List UInt8):Wq:=tF l (bf bg l) (bY l (bf bg l)) (ic l (jS l (bf bg l))) (iD (l.drop (bf bg l)))
def Cs (l:List UInt8) (n:Nat):Bool:=match l.drop n with|46::c::_=>bg c|_=>false
theorem Yj (l:List UInt8) (n:Nat):jS l n=if Cs l n then n+1+bf bg (l.drop (n+1)) else n:=by
 unfold jS Cs
 split
 ·next c t e=>rfl
 ·rfl
theorem Px {l:List UInt8} {n:Nat} (h:l.length≤n+1):Cs l n=false:=by
 unfold Cs
 split
 ·next c t e=>
  have:=congrArg List.length e;rw [aA,aj,aj] at this;omega
 ·rfl
theorem Uw {l:List UInt8} {n:Nat} (h:n<l.length) (hc:l[n]≠46):Cs l n=false:=by
 unfold Cs;rw [cn h]
 split
 ·next c t e=>rw [List.cons.injEq] at e;exact absurd e.1 hc
 ·rfl
theorem Py {l:List UInt8} {n:Nat} (h:n+1<l.length) (hc:l[n]=46):Cs l n=bg l[n+1]:=by
 unfold Cs;rw [qb h,hc];rfl
theorem Ep {l:List UInt8} {n:Nat} (h:l.length≤n+1):jS l n=n:=by
 unfold jS
 split
 ·next c t e=>
  have:=congrArg List.length e;rw [aA,aj,aj] at this;omega
 ·rfl
theorem wY {l:List UInt8} {n:Nat} (h:n<l.length) (hc:l[n]≠46):jS l n=n:=by
 unfold jS;rw [cn h]
 split
 ·next c t e=>rw [List.cons.injEq] at e;exact absurd e.1 hc
 ·rfl
theorem pg {l:List UInt8} {n:Nat} (h:n+1<l.length) (hc:l[n]=46):jS l n=if bg l[n+1] then n+1+bf bg (l.drop (n+1)) else n:=by
 unfold jS;rw [qb h,hc];rfl
theorem AX (l:List UInt8) (n:Nat):bY l n≤l.length:=by
 unfold bY
 split
 ·next b t e=>
  split
  ·exact bj _
  ·split
   ·exact bj _
   ·have h1:=congrArg List.length e;rw [aA,aj,aj] at h1;have:=fA (ra (bp b)) t;omega
 ·exact bj _
theorem Kc {l:List UInt8} {n:Nat} (hn:n≤l.length):n≤jS l n∧jS l n≤l.length:=by
 by_cases h1:l.length≤n+1
 ·rw [Ep h1];exact ⟨aa _,hn⟩
 ·by_cases h2:l[n]'(by omega)=46
  ·rw [pg (by omega) h2]
   split
   ·have:=fA bg (l.drop (n+1));rw [aA] at this;omega
   ·exact ⟨aa _,hn⟩
  ·rw [wY (by omega) h2];exact ⟨aa _,hn⟩
theorem Ke {l:List UInt8} {n:Nat} (hn:n≤l.length):n≤ic l n∧ic l n≤l.length:=by
 by_cases h1:l.length≤n
 ·rw [oX h1];exact ⟨aa _,hn⟩
 ·by_cases h2:bp (l[n]'(by omega))=101
  ·rw [mE (by omega) h2 _ rfl];generalize hm:(if (l.drop (n+1)).head? =some 43∨(l.drop (n+1)).head? =some 45 then n+2 else n+1)=m
   split
   ·have h3:=fA bg (l.drop m);rw [aA] at h3
    have:n+1≤m:=by rw [←hm];split<;>omega
    omega
   ·exact ⟨aa _,hn⟩
  ·rw [sS (by omega) h2];exact ⟨aa _,hn⟩
theorem AY:∀(us:List (List UInt8)) (t:List UInt8) (k:Nat),(∀u∈us,u.length≤k)→gY us t≤k∧gY us t≤t.length
 |[],t,k,_=>⟨bj _,bj _⟩
 |u::us,t,k,h=>by
  unfold gY
  split
  ·rename_i hp;refine ⟨h u bX,?_⟩;unfold Lib.hasPrefix at hp
   first
    |exact (List.isPrefixOf_iff_prefix.1 hp).length_le
    |(simp only [cS,decide_eq_true_eq,beq_iff_eq] at hp;omega)
    |skip
  ·exact AY us t k (fun v hv=>h v (cL _ hv))
theorem pj (t:List UInt8):iD t≤2∧iD t≤t.length:=AY cA t 2 (by decide)
end Go.Proofs.YtddoehnkgcbboaaGreatDoor
