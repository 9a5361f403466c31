/- A part of the proof that the last file tells. -/
import Derived.Test.YtddoehnkgcbboaaGreatDoorAgZA
import Derived.Test.YtddoehnkgcbboaaGreatDoorAgY
import Derived.Recover
set_option maxHeartbeats 16000000
set_option maxRecDepth 100000
set_option linter.unusedVariables false
set_option linter.unusedSimpArgs false
namespace Go.Proofs.YtddoehnkgcbboaaGreatDoor
open Go.RowKit Go.Shelf
structure gL (W:World) (r:Nat) (cs:Array Value) (a er:Int):Prop where
 nd:Row W r 25 cs
 at_:Row W (r+1) 3 #[.int .i64 a]
 er:Row W (r+1+1) 26 #[.int .i64 er]
theorem gL.keep {W W':World} {r:Nat} {cs:Array Value} {a er:Int} (h:gL W r cs a er) {C:Nat→Prop} (hk:ah C W W') (h0:¬C r) (h1:¬C (r+1)) (h2:¬C (r+1+1)):gL W' r cs a er:=
 ⟨h.nd.keep hk h0,h.at_.keep hk h1,h.er.keep hk h2⟩
def Jv (r:Nat):Nat→Prop:=fun b=>b=r∨b=r+1∨b=r+1+1
theorem Ax (r:Nat) (a er x y:Int) (v0 v1 v2 v3 v4 v5 v6 v7 v8:Value) (Xv:List PanicEntry) (w:World) (h:gL w r #[v0,v1,v2,v3,v4,v5,v6,v7,v8] x y):
 CallsD Tryz.prog 31 #[.pointer (some ⟨r,0,none⟩),.pointer (some ⟨r+1,0,none⟩),.pointer (some ⟨r+1+1,0,none⟩)] (.panicking ({v:=ot a er,recovered:=false}::Xv)) w fun e u' w'=>
  e=.returned (.tuple #[])∧u'=.panicking ({v:=ot a er,recovered:=true}::Xv)∧gL w' r cG a er∧ah (Jv r) w w':=by
 obtain ⟨c0,c1,c2,c3,c4,c5,c6,c7,c8⟩:=ak h.nd;have ca:w.cell? ⟨r+1,0,none⟩=some (.int .i64 x):=h.at_.cell 0;have ce:w.cell? ⟨r+1+1,0,none⟩=some (.int .i64 y):=h.er.cell 0;obtain ⟨f0,f1,f2,f3,f4,f5,f6,f7,f8⟩:=aU h.nd;have fa:=h.at_.frozen 0;have fe:=h.er.frozen 0;have hz0:r<w.heap.size:=h.nd.lt;have hz1:r+1<w.heap.size:=h.at_.lt;have hz2:r+1+1<w.heap.size:=h.er.lt;have H:=hide h;clear h;refine callsD_of_wpS Tryz.func31 rfl fun c₀ cs hu=>?_;apply wpS_seq;apply wpS_region;unfold ot at hu⊢
 have hta:∀(v:Value) (W:World),(Instr.typeAssert (.iface 58 v) 20 58 true).run Tryz.prog W=.ok (.tuple #[v,.bool true]) W:=fun v W=>by kernel_rfl
 simp [wpOpsS,go_sem,recoverD,hu,Tryz.ntmps31,Exit.thenS];refine wpS_of_wp ?_;simp only [List.size_toArray,aj,aK,Nat.reduceAdd,Nat.reduceSub,Array.replicate_succ,Array.replicate_zero,List.push_toArray,List.append_toArray,List.nil_append,List.cons_append,GF,GG,List.set_cons_succ];go_wp2_with fail
 go_region
 go_wp2;have k9:=aJ H.o.nd (.int .i64 0) (.int .i64 0) (.string {data:=#[]}) (.string {data:=#[]}) (.int .i64 0) (.int .i64 0) (.int .i64 0) (.int .i64 0) (.slice none 0 0);have q9:=aN (C:=fun b=>b=r) (W:=w) (g:=r) rfl (.int .i64 0) (.int .i64 0) (.string {data:=#[]}) (.string {data:=#[]}) (.int .i64 0) (.int .i64 0) (.int .i64 0) (.int .i64 0) (.slice none 0 0);have q8:=aN (C:=Jv r) (W:=w) (g:=r) (.inl rfl) (.int .i64 0) (.int .i64 0) (.string {data:=#[]}) (.string {data:=#[]}) (.int .i64 0) (.int .i64 0) (.int .i64 0) (.int .i64 0) (.slice none 0 0);refine ⟨rfl,_,rfl,.tuple #[],results_none rfl _ _ _,rfl,rfl,⟨?_,?_,?_⟩,?_⟩
 ·exact (((k9.off (by omega) 0 _).off (by omega) 0 _).alloc _).drew
 ·exact ((((H.o.at_.keep q9 (by show¬r+1=r;omega)).bU 0 (.int .i64 a)).off (by omega) 0 _).alloc _).drew
 ·exact ((((H.o.er.keep q9 (by show¬r+1+1=r;omega)).off (by omega) 0 _).bU 0 (.int .i64 er)).alloc _).drew
 ·exact (((q8.set (.inl (.inr (.inl rfl))) 0 _).set (.inl (.inr (.inr rfl))) 0 _).alloc _).drew
theorem Jw (p q s:Value) (w:World):
 CallsD Tryz.prog 31 #[p,q,s] .returning w fun e u' w'=>e=.returned (.tuple #[])∧u'=.returning∧w'=w:=by
 refine callsD_of_wpS Tryz.func31 rfl fun c₀ cs hu=>?_;apply wpS_seq;apply wpS_region;simp [wpOpsS,go_sem,recoverD,hu,Tryz.ntmps31,Exit.thenS];refine wpS_of_wp ?_;simp only [List.size_toArray,aj,aK,Nat.reduceAdd,Nat.reduceSub,Array.replicate_succ,Array.replicate_zero,List.push_toArray,List.append_toArray,List.nil_append,List.cons_append,GF,GG,List.set_cons_succ];go_wp2;exact ⟨rfl,.returning,by rw [←hu],.tuple #[],results_none rfl _ _ _,rfl,rfl,rfl⟩
def pZ (R:List Lx→Int→(List UInt8→Int×Int)→Nat→PR Nd) (t:List UInt8) (ok:Bool) (rd:List UInt8→Int×Int):Nd×Int×Int:=
 if ok then (if (df t).2.2=0 then yF (df t).1 (t.length:Int) (R (df t).1 (t.length:Int) rd 0) else (np,((df t).2.1:Int),(df t).2.2)) else (np,0,1)
theorem Gg (t:List UInt8) (ok:Bool) (rd:List UInt8→Int×Int):mn false t ok rd=pZ cX t ok rd:=rfl
theorem Jy (t:List UInt8) (ok:Bool) (rd:List UInt8→Int×Int):mn true t ok rd=pZ Mz t ok rd:=rfl
def od (R:Nd×Int×Int) (w:World) (e:Ending) (w':World):Prop:=
 (∃cs:List Value,e=.returned (.tuple #[.agg cs.toArray,.int .i64 R.2.1,.int .i64 R.2.2])∧cK (fun b=>b<w.heap.size) w' R.1 cs∧aC R.1≤513)∧Below w.heap.size w w'
theorem Sz {W:World} {base:Nat} {v:Value} {out:List Lx} (h:W.ownsRow base 66 3 v out.length (f_ out)):
 ∃A cap,v=.slice A out.length cap∧yh W A out∧∀a,A=some a→base≤a.block∧a.block<W.heap.size:=by
 obtain ⟨A,cap,rfl,hs⟩:=PI h;refine ⟨A,cap,rfl,hs,fun a ha=>?_⟩;subst ha
 rcases id h.2 with ⟨h1,_⟩|⟨g,c,cs,h1,h0,h2,_⟩
 ·cases h1
 ·cases h1;exact ⟨h0,(Array.getElem?_eq_some_iff.1 h2).1⟩
theorem bQ.abO {p:PS} {C:Nat→Prop} {W W':World} {k:Nat} (h:bQ p W k) (hk:ah C W W') (hb:¬C p.b) (hA:∀a,p.A=some a→¬C a.block) (hg:¬C 3∧¬C 2):bQ p W' k:=by
 refine ⟨h.row.keep hk hb,fun hp=>?_,h.ne,h.le,h.small,h.gl.keep (fun c hz he=>hk.block c hz (by rcases he with rfl|rfl;exact hg.1;exact hg.2)),h.gb,h.good⟩;obtain ⟨bl,off,hA1,hat⟩:=h.lx hp;have hf:∀o v,W.cell? ⟨bl,o,none⟩=some v→W'.cell? ⟨bl,o,none⟩=some v:=fun o v hv=>(hk.cell (p:=⟨bl,o,none⟩) (World.block_lt_of_cell? W _ hv) (show¬C bl from hA _ hA1)).trans hv;exact ⟨bl,off,hA1,fun i hi=>⟨hf _ _ (hat i hi).1,hf _ _ (hat i hi).2.1,hf _ _ (hat i hi).2.2⟩⟩
theorem kP {W:World} {r:Nat} {cs:Array Value} {a er:Int} (h:gL W r cs a er) (hz:cs.size=9) (tmps:Array Value) (h6:tmps.getD 6 undef=.pointer (some ⟨r,0,none⟩)) (h7:tmps.getD 7 undef=.pointer (some ⟨r+1,0,none⟩)) (h8:tmps.getD 8 undef=.pointer (some ⟨r+1+1,0,none⟩)):
 (results Tryz.f16 tmps).run Tryz.prog W=.ok (.tuple #[.agg cs,.int .i64 a,.int .i64 er]) W:=
 jM rfl tmps W _ _ _ _ _ _ h6 h7 h8 (run_loadVar_row W r _ 25 cs _ _ h.nd Tryz.underlying25 rfl (by rw [hz];kernel_rfl)) (bR W _ 3 _ _ (h.at_.cell 0) Tryz.underlying3 rfl) (bR W _ 26 _ _ (h.er.cell 0) Tryz.underlying26 rfl)
theorem Gh (w:World) (a er:Int):gL (((w.alloc (.cells cG 25)).alloc (.cells #[.int .i64 a] 3)).alloc (.cells #[.int .i64 er] 26)) w.heap.size cG a er:=by
 have r2:=Row.new (w.alloc (.cells cG 25)) 3 #[.int .i64 a];have r3:=Row.new ((w.alloc (.cells cG 25)).alloc (.cells #[.int .i64 a] 3)) 26 #[.int .i64 er];simp only [aF] at r2 r3;exact ⟨((Row.new w 25 cG).alloc _).alloc _,r2.alloc _,r3⟩
theorem zC (w:World) (a er:Int):Below w.heap.size w (((w.alloc (.cells cG 25)).alloc (.cells #[.int .i64 a] 3)).alloc (.cells #[.int .i64 er] 26)):=
 (((af _ w).alloc (aa _) _).alloc (by simp) _).alloc (by simp;omega) _
theorem nj (C:Nat→Prop) (W:World):cK C W np cG.toList:=cK.leaf C W 0 0 [] [] 0 0 0 0 none 0
theorem gL.Mg {W:World} {r:Nat} {cs:Array Value} {a er:Int} (h:gL W r cs a er) (a' er':Int):gL ((W.setCell ⟨r+1,0,none⟩ (.int .i64 a')).setCell ⟨r+1+1,0,none⟩ (.int .i64 er')) r cs a' er':=
 ⟨(h.nd.off (by omega) _ _).off (by omega) _ _,(h.at_.bU 0 (.int .i64 a')).off (by omega) _ _,(h.er.off (by omega) _ _).bU 0 (.int .i64 er')⟩
theorem gL.low {w W:World} {r:Nat} (h:Below r w W) (x y:Value):Below r w ((W.setCell ⟨r+1,0,none⟩ x).setCell ⟨r+1+1,0,none⟩ y):=
 (h.setCell (p:=⟨r+1,0,none⟩) (by show r≤r+1;omega) x).setCell (p:=⟨r+1+1,0,none⟩) (by show r≤r+1+1;omega) y
theorem gL.drew {W:World} {r:Nat} {cs:Array Value} {a er:Int} (h:gL W r cs a er):gL W.drew r cs a er:=⟨h.nd,h.at_,h.er⟩
theorem gL.under {W W':World} {r:Nat} {cs:Array Value} {a er:Int} (h:gL W r cs a er) (hb:Below W.heap.size W W'):gL W' r cs a er:=h.keep (C:=fun _=>False) (ah.of_below hb (aa _)) id id id
theorem gL.Wf {W:World} {r:Nat} {x0 x1 x2 x3 x4 x5 x6 x7 x8:Value} {a er:Int} (h:gL W r #[x0,x1,x2,x3,x4,x5,x6,x7,x8] a er) (a0 a1 a2 a3 a4 a5 a6 a7 a8:Value):gL (kH W r a0 a1 a2 a3 a4 a5 a6 a7 a8) r #[a0,a1,a2,a3,a4,a5,a6,a7,a8] a er:=by
 have q9:=aN (C:=fun b=>b=r) (W:=W) (g:=r) rfl a0 a1 a2 a3 a4 a5 a6 a7 a8;exact ⟨aJ h.nd _ _ _ _ _ _ _ _ _,h.at_.keep q9 (by show¬r+1=r;omega),h.er.keep q9 (by show¬r+1+1=r;omega)⟩
structure ac_ (W:World) (r:Nat) (x0 x1 x2 x3 x4 x5 x6 x7 x8:Value) (a er:Int):Prop where
 c0:W.cell? ⟨r,0,none⟩=some x0
 c1:W.cell? ⟨r,1,none⟩=some x1
 c2:W.cell? ⟨r,2,none⟩=some x2
 c3:W.cell? ⟨r,3,none⟩=some x3
 c4:W.cell? ⟨r,4,none⟩=some x4
 c5:W.cell? ⟨r,5,none⟩=some x5
 c6:W.cell? ⟨r,6,none⟩=some x6
 c7:W.cell? ⟨r,7,none⟩=some x7
 c8:W.cell? ⟨r,8,none⟩=some x8
 ca:W.cell? ⟨r+1,0,none⟩=some (.int .i64 a)
 ce:W.cell? ⟨r+1+1,0,none⟩=some (.int .i64 er)
 f0:W.frozen? ⟨r,0,none⟩=false
 f1:W.frozen? ⟨r,1,none⟩=false
 f2:W.frozen? ⟨r,2,none⟩=false
 f3:W.frozen? ⟨r,3,none⟩=false
 f4:W.frozen? ⟨r,4,none⟩=false
 f5:W.frozen? ⟨r,5,none⟩=false
 f6:W.frozen? ⟨r,6,none⟩=false
 f7:W.frozen? ⟨r,7,none⟩=false
 f8:W.frozen? ⟨r,8,none⟩=false
 fa:W.frozen? ⟨r+1,0,none⟩=false
 fe:W.frozen? ⟨r+1+1,0,none⟩=false
theorem gL.facts {W:World} {r:Nat} {x0 x1 x2 x3 x4 x5 x6 x7 x8:Value} {a er:Int} (h:gL W r #[x0,x1,x2,x3,x4,x5,x6,x7,x8] a er):ac_ W r x0 x1 x2 x3 x4 x5 x6 x7 x8 a er:=
 ⟨h.nd.cell 0,h.nd.cell 1,h.nd.cell 2,h.nd.cell 3,h.nd.cell 4,h.nd.cell 5,h.nd.cell 6,h.nd.cell 7,h.nd.cell 8,h.at_.cell 0,h.er.cell 0,h.nd.frozen 0,h.nd.frozen 1,h.nd.frozen 2,h.nd.frozen 3,h.nd.frozen 4,h.nd.frozen 5,h.nd.frozen 6,h.nd.frozen 7,h.nd.frozen 8,h.at_.frozen 0,h.er.frozen 0⟩
abbrev SA (r:Nat):Deferred:={target:=.fn (.func 31) #[.pointer (some ⟨r,0,none⟩),.pointer (some ⟨r+1,0,none⟩),.pointer (some ⟨r+1+1,0,none⟩)],args:=#[]}
theorem ui {w w4:World} {PP:Nd×Int×Int} {a er x y:Int} {v0 v1 v2 v3 v4 v5 v6 v7 v8:Value} {tmps:Array Value} (h:gL w4 w.heap.size #[v0,v1,v2,v3,v4,v5,v6,v7,v8] x y) (hb:Below w.heap.size w w4) (hP:PP=(np,a,er))
 (h6:tmps.getD 6 undef=.pointer (some ⟨w.heap.size,0,none⟩)) (h7:tmps.getD 7 undef=.pointer (some ⟨w.heap.size+1,0,none⟩)) (h8:tmps.getD 8 undef=.pointer (some ⟨w.heap.size+1+1,0,none⟩)):
 Leaves Tryz.prog Tryz.f16 tmps (od PP w) [SA w.heap.size] (.panicking [{v:=ot a er,recovered:=false}]) w4:=by
 refine leaves_cons (f:=31) (args:=#[.pointer (some ⟨w.heap.size,0,none⟩),.pointer (some ⟨w.heap.size+1,0,none⟩),.pointer (some ⟨w.heap.size+1+1,0,none⟩)]) (by simp) (by simp [go_sem]) ?_;refine (Ax w.heap.size a er x y _ _ _ _ _ _ _ _ _ [] w4 h).mono ?_;rintro e u' w5 ⟨rfl,rfl,h5,cC⟩;refine ⟨_,kP h5 rfl tmps h6 h7 h8,?_⟩;rw [hP];exact ⟨⟨cG.toList,rfl,nj _ _,show aC np≤513 by decide⟩,hb.trans (cC.below (fun b hb=>by unfold Jv at hb;omega) hb.size)⟩
theorem zD {w w4:World} {PP:Nd×Int×Int} {n:Nd} {cs:List Value} {a er:Int} {tmps:Array Value} (h:gL w4 w.heap.size cs.toArray a er) (hb:Below w.heap.size w w4) (hP:PP=(n,a,er)) (hn:cK (fun b=>b<w.heap.size) w4 n cs) (hc:aC n≤513)
 (h6:tmps.getD 6 undef=.pointer (some ⟨w.heap.size,0,none⟩)) (h7:tmps.getD 7 undef=.pointer (some ⟨w.heap.size+1,0,none⟩)) (h8:tmps.getD 8 undef=.pointer (some ⟨w.heap.size+1+1,0,none⟩)):
 Leaves Tryz.prog Tryz.f16 tmps (od PP w) [SA w.heap.size] .returning w4:=by
 refine leaves_cons (f:=31) (args:=#[.pointer (some ⟨w.heap.size,0,none⟩),.pointer (some ⟨w.heap.size+1,0,none⟩),.pointer (some ⟨w.heap.size+1+1,0,none⟩)]) (by simp) (by simp [go_sem]) ?_;refine (Jw _ _ _ w4).mono ?_;rintro e u' w5 ⟨rfl,rfl,rfl⟩;refine ⟨_,kP h (by have:=hn.len;simpa using this) tmps h6 h7 h8,?_⟩;rw [hP];exact ⟨⟨cs,rfl,hn,hc⟩,hb⟩
section
variable (Tn : FuncId) (R : List Lx → Int → (List UInt8 → Int × Int) → Nat → PR Nd)
theorem BQ (hcall:∀args W,(callFunc Tn args).run Tryz.prog W=.ok (.enter Tn args) W)
 (hr:∀(p:PS),wR p→∀k W,bQ p W k→Calls Tryz.prog Tn #[.pointer (some ⟨p.b,0,none⟩)] W (cQ p W (qI W.heap.size) (R p.L p.en (fq p) k)))
 (hc:∀L en rd,mW (R L en rd)) (l:List UInt8) (hl:l.length≤1000000) (sc:Int) (w:World) (hG:Gl w):
 Calls Tryz.prog 16 #[.string (ag l),.int .i64 sc,.func (.func Tn) #[] #[]] w (od (pZ R l (jH sc) (fun t=>fX (ag t) sc)) w):=by
 have hmf:∀(fn:Fn) (first cap:Array Value) (w:World),(Instr.makeFunc fn first cap).run Tryz.prog w=.ok (.func fn first cap) w:=fun _ _ _ _=>rfl;have VA:=hide (fun W:World=>zf sc W);have R0:=hide (Gh w 0 0);have B0:=hide (zC w 0 0)
 obtain ⟨PP,hPP⟩:∃PP,pZ R l (jH sc) (fun t=>fX (ag t) sc)=PP:=⟨_,rfl⟩
 have K7:=hide hPP;rw [hPP];clear hPP
 cases hv:jH sc with
 |false=>
  rw [hv] at VA K7;have HP:=ae (PP=(np,0,1)) K7.o.symm;have R1:=hide (Gh w 0 1);have B1:=hide (zC w 0 1);clear hv hr hc hcall hG hmf
  go_enter_defers Tryz.func16,Tryz.ntmps16
  go_wp2_with fail;refine (VA.o _).mono ?_;rintro e w1 ⟨rfl,rfl⟩;go_wp2;exact ⟨_,kP R1.o rfl _ rfl rfl rfl,by rw [HP.o];exact ⟨⟨cG.toList,rfl,nj _ _,by decide⟩,B1.o⟩⟩
 |true=>
  rw [hv] at VA K7
  obtain ⟨⟨out,a,er⟩,hp⟩:∃q,df l=q:=⟨_,rfl⟩
  have LX:=hide (fun (W:World) (hg:Gl W)=>show Calls Tryz.prog 30 #[.string (ag l)] W fun e w'=>∃A cap,e=.returned (.tuple #[.slice A out.length cap,.int .i64 (a:Int),.int .i64 er])∧yh w' A out∧(∀a,A=some a→W.heap.size≤a.block∧a.block<w'.heap.size)∧Below W.heap.size W w' from
   (xe l hl W hg).mono (by
    rintro e w' ⟨v,rfl,ho,hb⟩;rw [hp] at ho;obtain ⟨A,cap,rfl,hs,hA⟩:=Sz (out:=out) ho
    exact ⟨A,cap,by rw [hp],hs,hA,hb⟩))
  have G0:=hide (hG.below B0.o)
  have hPP:pZ R l true (fun t=>fX (ag t) sc)=if er=0 then yF out (l.length:Int) (R out (l.length:Int) (fun t=>fX (ag t) sc) 0) else (np,(a:Int),er):=by
   unfold pZ;rw [hp,if_pos rfl]
  rw [hPP] at K7;have Gr:=hide hp;have hsz:=aO l;clear hv hPP hp;have HS:=hide hsz;by_cases her:er=0
  ·subst her;rw [if_pos rfl,←hsz] at K7;have hok:=CA Gr.o;have hlx:=MM (l:=l) (by rw [Gr.o]);rw [Gr.o] at hlx;have abP:∀x∈out,UJ x:=hlx;have hsm:=hok.2.1;have HLX:=hide abP;have WR:=hide hsm;have HR:=hide hr;have ZO:=hide hc;have HGL:=hide hG.lt;generalize ag l=S at*;clear hr hc hlx abP hok hsz hG
   go_enter_defers Tryz.func16,Tryz.ntmps16
   go_wp2_with fail;refine (VA.o _).mono ?_;rintro e w1 ⟨rfl,rfl⟩;go_wp2_with fail;refine (LX.o _ G0.o).mono ?_;rintro e w1 ⟨A,cap,rfl,hs,hA,hb1⟩;have hr1:gL w1 w.heap.size cG 0 0:=R0.o.under hb1;have hz0:w.heap.size<w1.heap.size:=hr1.nd.lt;have hz1:w.heap.size+1<w1.heap.size:=hr1.at_.lt;have hz2:w.heap.size+1+1<w1.heap.size:=hr1.er.lt
   obtain ⟨p,Xw⟩:∃p:PS,p=⟨out,(S.size:Int),sc,A,cap,w1.heap.size⟩:=⟨_,rfl⟩
   have Tm:∀x,A=some x→w.heap.size+1+1<x.block∧x.block<w1.heap.size:=fun x hx=>by
    have:=hA x hx;simp only [aF] at this;omega
   obtain ⟨w2,hw2⟩:∃w2,w2=(w1.setCell ⟨w.heap.size+1,0,none⟩ (.int .i64 (a:Int))).setCell ⟨w.heap.size+1+1,0,none⟩ (.int .i64 0):=⟨_,rfl⟩
   have Z9:w2.heap.size=w1.heap.size:=by rw [hw2];simp [World.setCell]
   have hr2:gL w2 w.heap.size cG (a:Int) 0:=by rw [hw2];exact hr1.Mg _ _
   have Ap:ah (Jv w.heap.size) w1 w2:=by rw [hw2];exact ((ah.refl _ _).set (.inl (.inr (.inl rfl))) 0 _).set (.inl (.inr (.inr rfl))) 0 _
   have QY:Below w.heap.size w w2:=by rw [hw2];exact gL.low (B0.o.trans (hb1.mono B0.o.size)) _ _
   have hG1:Gl w1:=G0.o.below hb1;have hG2:Gl w2:=hG1.keep (fun b hz he=>Ap.block b hz (by unfold Jv;have:=HGL.o;rcases he with rfl|rfl<;>omega))
   have hs2:yh w2 A out:=fun hpos=>by
    obtain ⟨bl,off,hA1,hat⟩:=hs hpos;have hbl:=Tm _ hA1;have ad3:w.heap.size+1+1<bl:=hbl.1;have hf:∀o v,w1.cell? ⟨bl,o,none⟩=some v→w2.cell? ⟨bl,o,none⟩=some v:=fun o v hv=>(Ap.cell (p:=⟨bl,o,none⟩) (World.block_lt_of_cell? w1 _ hv) (by show¬Jv _ bl;unfold Jv;omega)).trans hv;exact ⟨bl,off,hA1,fun i hi=>⟨hf _ _ (hat i hi).1,hf _ _ (hat i hi).2.1,hf _ _ (hat i hi).2.2⟩⟩
   obtain ⟨o3,ho3⟩:∃o3:Obj,o3=.cells #[.slice A out.length cap,.int .i64 0,.int .i64 (S.size:Int),.int .i64 sc] 60:=⟨_,rfl⟩
   have hb3:Below w2.heap.size w2 (w2.alloc o3):=(af _ _).alloc (aa _) _
   have hrow:Row (w2.alloc o3) w1.heap.size 60 #[.slice A out.length cap,.int .i64 0,.int .i64 (S.size:Int),.int .i64 sc]:=by
    rw [ho3,←Z9];exact Row.new _ _ _
   have hPA:bQ p (w2.alloc o3) 0:=by
    rw [Xw];exact ⟨hrow,hs2.below hb3,fun x hx e=>by have:=Tm x hx;rw [e] at this;exact absurd this.2 (Nat.lt_irrefl _),bj _,WR.o,hG2.below hb3,by have:=HGL.o;constructor<;>(show _≠w1.heap.size;omega),HLX.o⟩
   have hpb:p.b=w1.heap.size:=by rw [Xw]
   have hpL:p.L=out:=by rw [Xw]
   have hpe:p.en=(S.size:Int):=by rw [Xw]
   have hpA:p.A=A:=by rw [Xw]
   have hpc:p.cap=cap:=by rw [Xw]
   have hpr:fq p=fun t=>fX (ag t) sc:=by rw [Xw];rfl
   have HC:=ae (Calls Tryz.prog Tn #[.pointer (some ⟨w1.heap.size,0,none⟩)] (w2.alloc o3) (cQ p (w2.alloc o3) (qI (w2.alloc o3).heap.size) (R out (S.size:Int) (fun t=>fX (ag t) sc) 0))) (by
    have:=HR.o p (Vb (by rw [hpL];exact HLX.o)) 0 _ hPA;rw [hpL,hpe,hpr,hpb] at this
    exact this)
   have hr3:gL (w2.alloc o3) w.heap.size cG (a:Int) 0:=hr2.under hb3;have I5:Below w.heap.size w (w2.alloc o3):=QY.trans (hb3.mono QY.size)
   have hz3:(w2.alloc o3).heap.size=w1.heap.size+1:=by rw [aF,Z9]
   obtain ⟨w3,hw3⟩:∃w3,w3=w2.alloc o3:=⟨_,rfl⟩
   rw [←hw3] at HC hr3 I5 hz3 hPA
   have Nu:((w1.setCell ⟨w.heap.size+1,0,none⟩ (.int .i64 (a:Int))).setCell ⟨w.heap.size+1+1,0,none⟩ (.int .i64 0)).alloc (.cells #[.slice A out.length cap,.int .i64 0,.int .i64 (S.size:Int),.int .i64 sc] 60)=w3:=by rw [hw3,ho3,hw2]
   obtain ⟨c0,c1,c2,c3,c4,c5,c6,c7,c8,ca,ce,f0,f1,f2,f3,f4,f5,f6,f7,f8,fa,fe⟩:=hr1.facts;have uq:=hide hr3;have nk:=hide I5;have Gz:=hide hpL;have Ji:=hide hpb;have HPE:=hide hpe;have KA:=hide hpA;have HPC:=hide hpc;have HA0:=hide Tm;have HW3:=hide Nu;have HZ3:=hide hz3
   obtain ⟨rr,ZU⟩:∃rr,R out (S.size:Int) (fun t=>fX (ag t) sc) 0=rr:=⟨_,rfl⟩
   rw [ZU] at K7 HC;have vU:=hide ZU;clear hw2 Z9 hr2 Ap QY hG1 hG2 hs2 ho3 hb3 hrow hPA hpb hpL hpe hpA hpc hpr hr3 I5 hz3 hw3 Nu hs hA hb1 hr1 Xw Tm ZU
   cases rr with
   |err a' er'=>
    have HP:=ae (PP=(np,a',er')) K7.o.symm;clear K7;go_wp2_with fail;rw [HW3.o];refine HC.o.mono ?_;rintro e w4 ⟨rfl,hk4⟩;have ac':=hk4;have hr4:gL w4 w.heap.size cG (a:Int) 0:=uq.o.keep hk4 (by show¬w.heap.size=p.b;have:=Ji.o;omega) (by show¬w.heap.size+1=p.b;have:=Ji.o;omega) (by show¬w.heap.size+1+1=p.b;have:=Ji.o;omega);have zN:=ae (Below w.heap.size w w4) (nk.o.trans (hk4.below (fun b hb=>by have:b=p.b:=hb;have:=Ji.o;omega) nk.o.size));have PB:=hide hr4;clear hk4 ac' hr4;go_wp2;exact ui PB.o zN.o HP.o rfl rfl rfl
   |ok n k'=>
    have hcn:=ZO.o _ _ _ _ _ _ vU.o;go_wp2_with fail;rw [HW3.o];refine HC.o.mono ?_;rintro e w4 ⟨⟨v,rfl,cs,rfl,hnd⟩,h4,hk4⟩;have hr4:gL w4 w.heap.size cG (a:Int) 0:=uq.o.keep hk4 (by show¬w.heap.size=p.b;have:=Ji.o;omega) (by show¬w.heap.size+1=p.b;have:=Ji.o;omega) (by show¬w.heap.size+1+1=p.b;have:=Ji.o;omega);have hb4:Below w.heap.size w w4:=nk.o.trans (hk4.below (fun b hb=>by have:b=p.b:=hb;have:=Ji.o;omega) nk.o.size);obtain ⟨kd,a0,nm,vl,xa,xb,xc,xd,yA,cZ,cv,rfl⟩:=hnd.nine;have Z_:=h4.le
    have abQ:aC n≤513:=by have:=WR.o;rw [Gz.o] at Z_;omega
    obtain ⟨w5,hw5⟩:∃w5,w5=kH w4 w.heap.size (.int .i64 kd) (.int .i64 a0) (.string (ag nm)) (.string (ag vl)) (.int .i64 xa) (.int .i64 xb) (.int .i64 xc) (.int .i64 xd) (.slice yA cZ cv):=⟨_,rfl⟩
    have oM:gL w5 w.heap.size #[.int .i64 kd,.int .i64 a0,.string (ag nm),.string (ag vl),.int .i64 xa,.int .i64 xb,.int .i64 xc,.int .i64 xd,.slice yA cZ cv] (a:Int) 0:=by rw [hw5];exact hr4.Wf _ _ _ _ _ _ _ _ _
    have eG:Below w.heap.size w w5:=by rw [hw5];exact hb4.trans (ay (aa _) _ _ _ _ _ _ _ _ _)
    have cC:ah (fun b=>b=w.heap.size) w4 w5:=by rw [hw5];exact aN (C:=fun b=>b=w.heap.size) rfl _ _ _ _ _ _ _ _ _
    have h5:bQ p w5 k':=h4.abO cC (by show¬p.b=w.heap.size;have:=Ji.o;omega) (fun x hx=>by rw [KA.o] at hx;have:=HA0.o x hx;show¬x.block=w.heap.size;omega) (by have:=HGL.o;constructor<;>(show¬_=w.heap.size;omega));have abR:cK (fun b=>b<w3.heap.size) w5 n (aB kd a0 nm vl xa xb xc xd (.slice yA cZ cv)):=hnd.keeps (cC.mono (fun b hb=>by have:b=w.heap.size:=hb;show b<w3.heap.size;have:=HZ3.o;omega));have ada:=hide hw5.symm;obtain ⟨c0,c1,c2,c3,c4,c5,c6,c7,c8,ca,ce,f0,f1,f2,f3,f4,f5,f6,f7,f8,fa,fe⟩:=hr4.facts;have LY:=hide oM;have mI:=hide eG;have H5:=hide h5;have abS:=hide abR;have HLE:=hide Z_;have abT:=hide abQ;clear hnd h4 hk4 hr4 hb4 Z_ hw5 oM eG cC h5 abR hcn abQ;unfold aB;go_wp2_with fail;have e5:=ada.o;unfold kH at e5;rw [e5];clear e5 c0 c1 c2 c3 c4 c5 c6 c7 c8 ca ce f0 f1 f2 f3 f4 f5 f6 f7 f8 fa fe;obtain ⟨d0,d1,_,_,_⟩:=H5.o.cells;rw [Ji.o,KA.o,HPC.o,Gz.o] at d0;rw [Ji.o] at d1
    have hle:k'≤out.length:=by have:=HLE.o;rw [Gz.o] at this;exact this
    have hl5:=WR.o;by_cases hk:k'<out.length
    ·have hk1:(k':Int)<(out.length:Int):=by omega
     have HP:=ae (PP=(np,eO out (S.size:Int) k',3)) (by rw [←K7.o];show (if k'<out.length then _ else _)=_;rw [if_pos hk])
     have FL:=hide (fun (W:World) (h:bQ p W k')=>show Calls Tryz.prog 32 #[.pointer (some ⟨w1.heap.size,0,none⟩)] W fun e w'=>Qi (eO out (S.size:Int) k') 3 e∧Below W.heap.size W w' from by
      have:=pB p k' W h;rw [Ji.o,Gz.o,HPE.o] at this
      exact this)
     clear K7 hk;go_quiet (fail);go_wp2_with fail;refine (FL.o _ (H5.o.below (aX (af _ _) _))).mono ?_;rintro e w6 ⟨rfl,fV⟩;have Gt:=hide ((LY.o.under (aX (af _ _) _)).under fV);have sH:=hide ((aX mI.o _).trans (fV.mono mI.o.size));clear fV;go_wp2;exact ui Gt.o sH.o HP.o rfl rfl rfl
    ·have hk1:¬(k':Int)<(out.length:Int):=by omega
     have hw:=K7.o;have hw:(if k'<out.length then (np,eO out (S.size:Int) k',3) else if 32<iF n then (np,0,9) else (n,0,0))=PP:=hw;rw [if_neg hk] at hw;have Wh:=hide hw
     have LV:=hide (fun (W:World) (h:cK (fun b=>b<w3.heap.size) W n (aB kd a0 nm vl xa xb xc xd (.slice yA cZ cv)))=>show Calls Tryz.prog 33 #[.agg #[.int .i64 kd,.int .i64 a0,.string (ag nm),.string (ag vl),.int .i64 xa,.int .i64 xb,.int .i64 xc,.int .i64 xd,.slice yA cZ cv]] W fun e w'=>e=.returned (.int .i64 (iF n:Int))∧Below W.heap.size W w' from
      vh 513 n _ _ W abT.o (by decide) h)
     obtain ⟨g0,g1,g2,g3,g4,g5,g6,g7,g8,ga,ge,_,_,_,_,_,_,_,_,_,_,_⟩:=LY.o.facts;clear K7 hk hw hle;go_quiet (fail);go_wp2_with fail;refine (LV.o _ (abS.o.keeps ((ah.refl _ _).drewN _))).mono ?_;rintro e w6 ⟨rfl,fV⟩;have nS:=(LY.o.under (aX (af _ _) _)).under fV;have Gt:=hide nS;have sH:=hide ((aX mI.o _).trans (fV.mono mI.o.size));have adb:=hide ((abS.o.keeps ((ah.refl _ _).drewN _)).keeps (ah.of_below fV (aa _)));obtain ⟨c0,c1,c2,c3,c4,c5,c6,c7,c8,ca,ce,f0,f1,f2,f3,f4,f5,f6,f7,f8,fa,fe⟩:=nS.facts;clear fV nS g0 g1 g2 g3 g4 g5 g6 g7 g8 ga ge d0 d1;by_cases Qv:32<iF n
     ·have HP:=ae (PP=(np,0,9)) (by rw [←Wh.o,if_pos Qv])
      have h33:(32:Int)<(iF n:Int):=by omega
      generalize iF n=lv at*;clear Wh Qv;go_wp2;exact zD (cs:=cG.toList) ((Gt.o.Wf _ _ _ _ _ _ _ _ _).Mg 0 9) (gL.low (sH.o.trans (ay (aa _) _ _ _ _ _ _ _ _ _)) _ _) HP.o (nj _ _) (by decide) rfl rfl rfl
     ·have HP:=ae (PP=(n,0,0)) (by rw [←Wh.o,if_neg Qv])
      have h33:¬(32:Int)<(iF n:Int):=by omega
      have HC6:=ae (aC n≤513) abT.o;generalize iF n=lv at*;clear Wh Qv;go_wp2;have hz:=HZ3.o;refine zD (cs:=aB kd a0 nm vl xa xb xc xd (.slice yA cZ cv)) ((Gt.o.Wf _ _ _ _ _ _ _ _ _).Mg 0 0) (gL.low (sH.o.trans (ay (aa _) _ _ _ _ _ _ _ _ _)) _ _) HP.o ?_ HC6.o rfl rfl rfl;refine (adb.o.keeps (((aN (C:=fun b=>b<w3.heap.size) (W:=w6) (g:=w.heap.size) (by show w.heap.size<w3.heap.size;omega) _ _ _ _ _ _ _ _ _).set (.inl (by show w.heap.size+1<w3.heap.size;omega)) 0 _).set (.inl (by show w.heap.size+1+1<w3.heap.size;omega)) 0 _)).mono (fun b hb=>by show b<w3.heap.size;have:b<w.heap.size:=hb;omega)
  ·have e1:(er==0)=false:=aP.2 her
   have e2:(er !=0)=true:=by rw [bne,e1];rfl
   have HP:=ae (PP=(np,(a:Int),er)) (by rw [←K7.o,if_neg her]);clear K7 hr hc hcall hmf hG;generalize ag l=S at*
   go_enter_defers Tryz.func16,Tryz.ntmps16
   go_wp2_with fail;refine (VA.o _).mono ?_;rintro e w1 ⟨rfl,rfl⟩;go_wp2_with fail;refine (LX.o _ G0.o).mono ?_;rintro e w1 ⟨A,cap,rfl,_,_,hb1⟩;have hr1:gL w1 w.heap.size cG 0 0:=R0.o.under hb1;have dX:=hide (B0.o.trans (hb1.mono B0.o.size));have jx:=hide hr1;obtain ⟨c0,c1,c2,c3,c4,c5,c6,c7,c8,ca,ce,f0,f1,f2,f3,f4,f5,f6,f7,f8,fa,fe⟩:=hr1.facts;have hz0:w.heap.size<w1.heap.size:=hr1.nd.lt;have hz1:w.heap.size+1<w1.heap.size:=hr1.at_.lt;have hz2:w.heap.size+1+1<w1.heap.size:=hr1.er.lt;clear hb1 hr1;go_wp2_with fail
   go_region
   go_wp2;have q1:=jx.o.Mg (a:Int) er;have q2:=gL.Wf (by exact q1) (.int .i64 0) (.int .i64 0) (.string {data:=#[]}) (.string {data:=#[]}) (.int .i64 0) (.int .i64 0) (.int .i64 0) (.int .i64 0) (.slice none 0 0);have q3:=(q2.Mg (a:Int) er).drew;exact ⟨_,kP q3 rfl _ rfl rfl rfl,by rw [HP.o];exact ⟨⟨cG.toList,rfl,nj _ _,show aC np≤513 by decide⟩,(gL.low ((gL.low dX.o _ _).trans (ay (aa _) _ _ _ _ _ _ _ _ _)) _ _).drew⟩⟩
end
theorem qV (l:List UInt8) (hl:l.length≤1000000) (sc:Int) (w:World) (hG:Gl w):
 Calls Tryz.prog 7 #[.string (ag l),.int .i64 sc] w (od (mn false l (jH sc) (fun t=>fX (ag t) sc)) w):=by
 have PA:=hide (fun W hg=>BQ 17 cX (fun args W=>by kernel_rfl) (fun p hn k W h=>ug p hn k W h) (fun _ _ _=>Bt) l hl sc W hg);rw [Gg];have HG:=hide hG;have R0:=hide (Row.new w 25 cG);have B0:=hide ((af w.heap.size w).alloc (aa _) (.cells cG 25));generalize pZ cX l (jH sc) (fun t=>fX (ag t) sc)=PP at*;generalize ag l=S at*;clear hG;go_enter Tryz.func7,Tryz.ntmps7;go_wp2_with fail;refine (PA.o _ (HG.o.below B0.o)).mono ?_;rintro e w1 ⟨⟨cs,rfl,hnd,hcn⟩,hb⟩;obtain ⟨kd,a0,nm,vl,xa,xb,xc,xd,yA,cZ,cv,rfl⟩:=hnd.nine;have hr1:Row w1 w.heap.size 25 cG:=R0.o.below hb R0.o.lt;have jx:=hide hr1;have dX:=hide (B0.o.trans (hb.mono B0.o.size));have fR:=hide hnd;have ZO:=hide hcn;obtain ⟨e0,e1,e2,e3,e4,e5,e6,e7,e8⟩:=ak hr1;obtain ⟨f0,f1,f2,f3,f4,f5,f6,f7,f8⟩:=aU hr1;clear hnd hr1 hb hcn;unfold aB;go_wp2;refine bodyPost_ret (py rfl _ _ w.heap.size 25 _ _ _ _ _ rfl rfl rfl (aJ jx.o _ _ _ _ _ _ _ _ _) Tryz.underlying25 rfl (by kernel_rfl)) rfl ⟨⟨_,rfl,?_,ZO.o⟩,dX.o.trans (ay (aa _) _ _ _ _ _ _ _ _ _)⟩
 have hz:w.heap.size<(w.alloc (.cells cG 25)).heap.size:=by rw [aF];omega
 exact (fR.o.keeps (aN (C:=fun b=>b<(w.alloc (.cells cG 25)).heap.size) (W:=w1) (g:=w.heap.size) hz _ _ _ _ _ _ _ _ _)).mono (fun b hb=>by show b<(w.alloc (.cells cG 25)).heap.size;have:b<w.heap.size:=hb;omega)
theorem wG (l:List UInt8) (hl:l.length≤1000000) (sc:Int) (w:World) (hG:Gl w):
 Calls Tryz.prog 9 #[.string (ag l),.int .i64 sc] w (od (mn true l (jH sc) (fun t=>fX (ag t) sc)) w):=by
 have PA:=hide (fun W hg=>BQ 25 Mz (fun args W=>by kernel_rfl) (fun p hn k W h=>Sy p hn k W h) (fun _ _ _=>QQ) l hl sc W hg);rw [Jy];have HG:=hide hG;have R0:=hide (Row.new w 25 cG);have B0:=hide ((af w.heap.size w).alloc (aa _) (.cells cG 25));generalize pZ Mz l (jH sc) (fun t=>fX (ag t) sc)=PP at*;generalize ag l=S at*;clear hG;go_enter Tryz.func9,Tryz.ntmps9;go_wp2_with fail;refine (PA.o _ (HG.o.below B0.o)).mono ?_;rintro e w1 ⟨⟨cs,rfl,hnd,hcn⟩,hb⟩;obtain ⟨kd,a0,nm,vl,xa,xb,xc,xd,yA,cZ,cv,rfl⟩:=hnd.nine;have hr1:Row w1 w.heap.size 25 cG:=R0.o.below hb R0.o.lt;have jx:=hide hr1;have dX:=hide (B0.o.trans (hb.mono B0.o.size));have fR:=hide hnd;have ZO:=hide hcn;obtain ⟨e0,e1,e2,e3,e4,e5,e6,e7,e8⟩:=ak hr1;obtain ⟨f0,f1,f2,f3,f4,f5,f6,f7,f8⟩:=aU hr1;clear hnd hr1 hb hcn;unfold aB;go_wp2;refine bodyPost_ret (py rfl _ _ w.heap.size 25 _ _ _ _ _ rfl rfl rfl (aJ jx.o _ _ _ _ _ _ _ _ _) Tryz.underlying25 rfl (by kernel_rfl)) rfl ⟨⟨_,rfl,?_,ZO.o⟩,dX.o.trans (ay (aa _) _ _ _ _ _ _ _ _ _)⟩
 have hz:w.heap.size<(w.alloc (.cells cG 25)).heap.size:=by rw [aF];omega
 exact (fR.o.keeps (aN (C:=fun b=>b<(w.alloc (.cells cG 25)).heap.size) (W:=w1) (g:=w.heap.size) hz _ _ _ _ _ _ _ _ _)).mono (fun b hb=>by show b<(w.alloc (.cells cG 25)).heap.size;have:b<w.heap.size:=hb;omega)
end Go.Proofs.YtddoehnkgcbboaaGreatDoor
namespace Go.Proofs.YtddoehnkgcbboaaGreatDoor
open Go.RowKit Go.Shelf Go.Maps
theorem zE:jH 0=true:=by decide
theorem od.tree {R:Nd×Int×Int} {w w':World} {e:Ending} (h:od R w e w') {kd a0 xa xb xc xd:Int} {nm vl:List UInt8} {ks:List Nd} (hR:R=(.mk kd a0 nm vl xa xb xc xd ks,0,0)):
 ∃A cap,e=.returned (.tuple #[.agg (aB kd a0 nm vl xa xb xc xd (.slice A ks.length cap)).toArray,.int .i64 0,.int .i64 0])∧cK (fun b=>b<w.heap.size) w' (.mk kd a0 nm vl xa xb xc xd ks) (aB kd a0 nm vl xa xb xc xd (.slice A ks.length cap))∧Below w.heap.size w w':=by
 obtain ⟨⟨cs,rfl,hnd,_⟩,hb⟩:=h;subst hR;obtain ⟨A,cap,rfl⟩:=hnd.top;exact ⟨A,cap,rfl,hnd,hb⟩
theorem Jz (w:World) (hG:Gl w):Calls Tryz.prog 6 #[] w fun e w'=>e=.returned (.bool true)∧Below w.heap.size w w':=by
 have L1:=hide (fun (W:World) (hg:Gl W)=>show Calls Tryz.prog 7 #[.string ⟨#[97,38,98,61,61,99,124,124,33,100]⟩,.int .i64 0] W fun e w'=>∃A cap,e=.returned (.tuple #[.agg (aB 30 6 [] [] 0 0 0 0 (.slice A 2 cap)).toArray,.int .i64 0,.int .i64 0])∧cK (fun b=>b<W.heap.size) w' TE (aB 30 6 [] [] 0 0 0 0 (.slice A 2 cap))∧Below W.heap.size W w' from (qV aw1 (by decide) 0 W hg).mono fun e w' h=>h.tree (by rw [zE];exact NA _));have L2:=hide (fun (W:World) (hg:Gl W)=>show Calls Tryz.prog 9 #[.string ⟨#[114,105,115,101,40,114,101,113,41,32,45,62,32,91,49,44,32,53,93,32,119,104,105,108,101,32,98,117,115,121,32,114,105,115,101,40,97,99,107,41]⟩,.int .i64 0] W fun e w'=>∃A cap,e=.returned (.tuple #[.agg (aB 45 10 [] [] 1 5 0 0 (.slice A 3 cap)).toArray,.int .i64 0,.int .i64 0])∧cK (fun b=>b<W.heap.size) w' TF (aB 45 10 [] [] 1 5 0 0 (.slice A 3 cap))∧Below W.heap.size W w' from (wG aw2 (by decide) 0 W hg).mono fun e w' h=>h.tree (by rw [zE];exact NB _))
 have FM:=hide (fun (W:World) (A:Option Addr) (cap:Nat) (hg:Gl W) (h:cK (fun c=>W.heap.size≤c) W TE (aB 30 6 [] [] 0 0 0 0 (.slice A 2 cap)))=>show Calls Tryz.prog 12 #[.agg #[.int .i64 30,.int .i64 6,.string (ag []),.string (ag []),.int .i64 0,.int .i64 0,.int .i64 0,.int .i64 0,.slice A 2 cap]] W fun e w'=>e=.returned (.string ⟨#[97,32,38,32,98,32,61,61,32,99,32,124,124,32,33,100]⟩)∧Below W.heap.size W w' from by
  have:=uf TE V7 Jt.1 _ W h hg;rw [Sj] at this
  exact this)
 have VM:=hide (fun (W:World) (A:Option Addr) (cap:Nat) (hg:Gl W) (h:cK (fun c=>W.heap.size≤c) W TF (aB 45 10 [] [] 1 5 0 0 (.slice A 3 cap)))=>show Calls Tryz.prog 13 #[.agg #[.int .i64 45,.int .i64 10,.string (ag []),.string (ag []),.int .i64 1,.int .i64 5,.int .i64 0,.int .i64 0,.slice A 3 cap]] W fun e w'=>e=.returned (.bool true)∧Below W.heap.size W w' from by
  have:=pX TF V8 Jt.2.1 _ W h hg;rw [Sk] at this
  exact this)
 have VZ:=hide (fun (W:World) (hg:Gl W)=>show Calls Tryz.prog 13 #[.agg #[.int .i64 0,.int .i64 0,.string ⟨#[]⟩,.string ⟨#[]⟩,.int .i64 0,.int .i64 0,.int .i64 0,.int .i64 0,.slice none 0 0]] W fun e w'=>e=.returned (.bool false)∧Below W.heap.size W w' from by
  have:=pX np V9 Jt.2.2 _ W (nj _ W) hg;rw [Sm] at this
  exact this)
 have HG:=hide hG;clear hG;go_enter Tryz.func6,Tryz.ntmps6;go_wp2_with fail;refine (L1.o _ HG.o).mono ?_;rintro e w1 ⟨A1,wL,rfl,AA,hb1⟩;unfold aB
 obtain ⟨W1,hW1⟩:∃W1,w1.alloc (.cells #[.int .i64 30,.int .i64 6,.string (ag []),.string (ag []),.int .i64 0,.int .i64 0,.int .i64 0,.int .i64 0,.slice A1 2 wL] 25)=W1:=⟨_,rfl⟩
 have HW1:=hide hW1;have R1:=ae (Row W1 w1.heap.size 25 #[.int .i64 30,.int .i64 6,.string (ag []),.string (ag []),.int .i64 0,.int .i64 0,.int .i64 0,.int .i64 0,.slice A1 2 wL]) (by rw [←hW1];exact Row.new _ _ _);have B1:=ae (Below w.heap.size w W1) (by rw [←hW1];exact hb1.alloc hb1.size _);have K1:=ae (cK (fun b=>w1.heap.size≤b) W1 TE (aB 30 6 [] [] 0 0 0 0 (.slice A1 2 wL))) (by rw [←hW1];exact AA.low.keeps (ah.of_below ((af _ w1).alloc (aa _) _) (aa _)));clear hb1 AA hW1;go_upto_region 2 with fail;rw [HW1.o];go_wp2_with fail;refine (L2.o _ (HG.o.below B1.o)).mono ?_;rintro e w3 ⟨A2,cap2,rfl,Es,hb2⟩;unfold aB
 obtain ⟨W3,hW3⟩:∃W3,w3.alloc (.cells #[.int .i64 45,.int .i64 10,.string (ag []),.string (ag []),.int .i64 1,.int .i64 5,.int .i64 0,.int .i64 0,.slice A2 3 cap2] 25)=W3:=⟨_,rfl⟩
 have HW3:=hide hW3
 have Iz:Below W1.heap.size W1 W3:=by rw [←hW3];exact hb2.alloc hb2.size _
 have R3:=ae (Row W3 w3.heap.size 25 #[.int .i64 45,.int .i64 10,.string (ag []),.string (ag []),.int .i64 1,.int .i64 5,.int .i64 0,.int .i64 0,.slice A2 3 cap2]) (by rw [←hW3];exact Row.new _ _ _);have B3:=hide (B1.o.trans (Iz.mono B1.o.size));have R13:=hide (R1.o.below Iz R1.o.lt);have K13:=ae (cK (fun b=>W3.heap.size≤b) W3 TE (aB 30 6 [] [] 0 0 0 0 (.slice A1 2 wL))) ((K1.o.keeps (ah.of_below Iz (aa _))).low);have K3:=ae (cK (fun b=>W3.heap.size≤b) W3 TF (aB 45 10 [] [] 1 5 0 0 (.slice A2 3 cap2))) (by rw [←hW3];exact (Es.low.keeps (ah.of_below ((af _ w3).alloc (aa _) _) (aa _))).low);clear hb2 Es hW3 Iz;go_upto_region 3 with fail;rw [HW3.o];obtain ⟨n0,n1,n2,n3,n4,n5,n6,n7,n8⟩:=ak R13.o;go_wp2_with fail;refine (FM.o W3 A1 wL (HG.o.below B3.o) K13.o).mono ?_;rintro e w4 ⟨rfl,hb4⟩;clear n0 n1 n2 n3 n4 n5 n6 n7 n8;have B4:=hide (B3.o.trans (hb4.mono B3.o.size));have R14:=hide (R13.o.below hb4 R13.o.lt);have R34:=hide (R3.o.below hb4 R3.o.lt);have K34:=ae (cK (fun b=>w4.heap.size≤b) w4 TF (aB 45 10 [] [] 1 5 0 0 (.slice A2 3 cap2))) ((K3.o.keeps (ah.of_below hb4 (aa _))).low);clear hb4;obtain ⟨n0,n1,n2,n3,n4,n5,n6,n7,n8⟩:=ak R14.o;obtain ⟨r0,r1,r2,r3,r4,r5,r6,r7,r8⟩:=ak R34.o;go_wp2_with fail;refine (VM.o w4 A2 cap2 (HG.o.below B4.o) K34.o).mono ?_;rintro e w5 ⟨rfl,eG⟩;clear n0 n1 n2 n3 n4 n5 n6 n7 n8 r0 r1 r2 r3 r4 r5 r6 r7 r8;have B5:=hide (B4.o.trans (eG.mono B4.o.size));clear eG;go_wp2_with fail;refine (VZ.o w5 (HG.o.below B5.o)).mono ?_;rintro e w6 ⟨rfl,fV⟩;have B6:=hide (B5.o.trans (fV.mono B5.o.size));clear fV;go_wp2;go_ret;exact ⟨rfl,B6.o⟩
end Go.Proofs.YtddoehnkgcbboaaGreatDoor
