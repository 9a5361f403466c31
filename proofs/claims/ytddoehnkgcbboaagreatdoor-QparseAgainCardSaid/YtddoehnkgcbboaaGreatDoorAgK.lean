/- A part of the proof that the last file tells. -/
import Derived.Test.YtddoehnkgcbboaaGreatDoorAgJ
import Derived.Lib.Join
set_option maxHeartbeats 16000000
set_option maxRecDepth 100000
set_option linter.unusedVariables false
set_option linter.unusedSimpArgs false
namespace Go.Proofs.YtddoehnkgcbboaaGreatDoor
open Go.RowKit Go.Shelf Go.Sort
structure Ly where
 kind:Int
 text:List UInt8
 pos:Int
def Mr (W:World) (A:Option Addr) (xs:List Ly):Prop:=
 0<xs.length→∃b off,A=some ⟨b,off,none⟩∧∀i (h:i<xs.length),W.cell? ⟨b,off+i*3,none⟩=some (.int .i64 xs[i].kind)∧W.cell? ⟨b,off+i*3+1,none⟩=some (.string (ag xs[i].text))∧W.cell? ⟨b,off+i*3+2,none⟩=some (.int .i64 xs[i].pos)
theorem Mr.below {W W':World} {A:Option Addr} {xs:List Ly} (h:Mr W A xs) (hb:Below W.heap.size W W'):Mr W' A xs:=by
 intro hp;obtain ⟨b,off,rfl,hat⟩:=h hp;have hbz:b<W.heap.size:=World.block_lt_of_cell? W _ (hat 0 hp).1;refine ⟨b,off,rfl,fun i hi=>?_⟩;obtain ⟨h1,h2,h3⟩:=hat i hi;exact ⟨(hb.cell (p:=⟨b,_,none⟩) hbz).trans h1,(hb.cell (p:=⟨b,_,none⟩) hbz).trans h2,(hb.cell (p:=⟨b,_,none⟩) hbz).trans h3⟩
theorem Mr.at {W:World} {A:Option Addr} {xs:List Ly} (h:Mr W A xs) {i:Nat} (hi:i<xs.length):
 ∃b off,A=some ⟨b,off,none⟩∧b<W.heap.size∧∀W',Below W.heap.size W W'→W'.cell? ⟨b,off+i*3,none⟩=some (.int .i64 xs[i].kind)∧W'.cell? ⟨b,off+i*3+1,none⟩=some (.string (ag xs[i].text))∧W'.cell? ⟨b,off+i*3+2,none⟩=some (.int .i64 xs[i].pos):=by
 obtain ⟨b,off,rfl,hat⟩:=id h (by omega);have hbz:b<W.heap.size:=World.block_lt_of_cell? W _ (hat i hi).1;refine ⟨b,off,rfl,hbz,fun W' hb=>?_⟩;obtain ⟨h1,h2,h3⟩:=hat i hi;exact ⟨(hb.cell (p:=⟨b,_,none⟩) hbz).trans h1,(hb.cell (p:=⟨b,_,none⟩) hbz).trans h2,(hb.cell (p:=⟨b,_,none⟩) hbz).trans h3⟩
def gZ (ys:List Ly):List (List UInt8):=ys.map fun y=>aY y.kind y.text
def Th (y:Ly):Bool:=eU y.kind y.text
def bL (ys:List Ly):List UInt8:=if ys.all Th then Lib.join (gZ ys) [32] else []
theorem Qd {ys:List Ly} {i:Nat} (hi:i<ys.length) (h:Th ys[i]=false):bL ys=[]:=by
 unfold bL;rw [if_neg];intro hall;rw [qY.1 hall _ (cI hi)] at h;cases h
theorem Ms {ys:List Ly} (h:∀i,∀hi:i<ys.length,Th ys[i]=true):bL ys=Lib.join (gZ ys) [32]:=by
 unfold bL;rw [if_pos];rw [qY];intro y hy;obtain ⟨i,hi,rfl⟩:=List.mem_iff_getElem.1 hy;exact h i hi
theorem Qe:(Tryz.prog.info? 9).map (fun i=>(i.zero,i.size,i.bytes))=some (some (.string ⟨#[]⟩),1,16):=by kernel_rfl
def qM (xs:List (List UInt8)):List Value:=xs.map fun x=>Value.string (ag x)
theorem Iy (xs:List (List UInt8)) (x:List UInt8):qM (xs++[x])=qM xs++[.string (ag x)]:=by unfold qM;simp
theorem Ba:∀(xs:List (List UInt8)) (m:Nat),(∀x∈xs,x.length≤m)→(Lib.join xs [32]).length≤xs.length*(m+1)
 |[],m,_=>bj _
 |x::r,m,h=>by
  have ht:∀r:List (List UInt8),(∀x∈r,x.length≤m)→(Lib.joinTail [32] r).length≤r.length*(m+1):=by
   intro r
   induction r with
   |nil=>intro _;exact bj _
   |cons y r ih=>
    intro h;have h1:=h y bX;have h2:=ih (fun z hz=>h z (cL _ hz))
    have e:Lib.joinTail [32] (y::r)=[32]++y++Lib.joinTail [32] r:=by simp [Lib.joinTail]
    have h3:(y::r).length*(m+1)=r.length*(m+1)+(m+1):=by rw [aj,Nat.succ_mul]
    rw [e,aw,aw,h3];show 1+y.length+_≤_;omega
  rw [Lib.join_cons,aw,aj,Nat.succ_mul];have h1:=h x bX;have h2:=ht r (fun z hz=>h z (cL _ hz));omega
theorem wP (xs:List (List UInt8)) (base cap:Nat) (A:Option Addr) (w:World) (h:w.ownsRow base 9 1 (.slice A xs.length cap) xs.length (qM xs)) (hl:xs.length≤1000000) (hj:(Lib.join xs [32]).length≤140737488355328):
 Calls Tryz.prog 213 #[.slice A xs.length cap,.string ⟨#[32]⟩] w fun e w'=>e=.returned (.string (ag (Lib.join xs [32])))∧Below w.heap.size w w':=by
 rcases Nat.eq_zero_or_pos xs.length with h0|h0
 ·obtain rfl:xs=[]:=gH h0
  exact (Tryz.strings_Join_none A cap ⟨#[32]⟩ w).mono fun e w' ⟨he,hw'⟩=>⟨he,hw'▸af _ _⟩
 ·obtain ⟨g,cp,hv,hg⟩:=h.form h0;cases hv;have hcs:∀j,j<xs.length→w.cell? ⟨g,j,none⟩=(qM xs)[j]? :=fun j hj=>World.ownsRow.cellAt h j (by omega);have hb:g<w.heap.size:=World.block_lt_of_cell? w _ (hcs 0 h0|>.trans (by unfold qM;rw [List.getElem?_map,List.getElem?_eq_getElem h0];rfl))
  have hm:(xs.map ag).map (fun s=>s.data.toList)=xs:=by rw [List.map_map];exact List.map_id _
  have hc:xs.length≤cap:=by
   obtain ⟨_,h2⟩:=h
   rcases h2 with ⟨hn,_⟩|⟨g2,c2,cur,hv,_,hg2,adR,hrest⟩
   ·cases hn
   ·cases hv
    first
     |omega
     |(have:=hrest;simp at*;omega)
  have:=Tryz.strings_Join g 0 cap (xs.map ag) ⟨#[32]⟩ w (fun j x hx=>by
   rw [List.getElem?_map] at hx;obtain ⟨y,hy,rfl⟩:=Option.map_eq_some_iff.1 hx;have hj:=(List.getElem?_eq_some_iff.1 hy).1;rw [Nat.zero_add,hcs j hj];unfold qM
   rw [List.getElem?_map,hy];rfl) hb (by rw [fI];omega) (by rw [fI];exact hc) (by rw [hm];exact hj)
  rw [fI,hm] at this;exact this
theorem Mt (A:Option Addr) (cap:Nat) (ys:List Ly) (w:World) (hs:Mr w A ys) (hl:ys.length≤600) (ht:∀y∈ys,y.text.length≤1000) (hG:Gl w):
 Calls Tryz.prog 184 #[.slice A ys.length cap] w fun e w'=>e=.returned (.string (ag (bL ys)))∧Below w.heap.size w w':=by
 obtain ⟨n,hn⟩:∃n,ys.length=n:=⟨_,rfl⟩
 rw [hn];have Hn:=hide hn
 have hn6:n≤600:=by omega
 have Hs:=hide hs;have HG:=hide hG;have Ht:=hide (fun (i:Nat) (hi:i<ys.length)=>ht _ (cI hi));have HTx:=hide ht;clear hs hG ht hl hn;go_enter Tryz.func184,Tryz.ntmps184;go_wp2_with fail
 go_loopw [3,8] (fun v3 v8 wr=>∃i:Nat,v8=.int .i64 (i:Int)∧i≤n∧(∀j,j<i→∀hj:j<ys.length,Th ys[j]=true)∧wr.ownsRow w.heap.size 9 1 v3 i (qM (gZ (ys.take i)))∧Below w.heap.size w wr) (fun _ v _=>n-(intOf v).toNat)
 case atStart=>exact ⟨0,rfl,bj _,(fun j h=>absurd h (by omega)),World.ownsRow_nil _ _ _ _,af _ _⟩
 case round=>
  obtain ⟨i,rfl,hi,hall,hown,hb⟩:=hrel;have Hb:=hide hb;have aaW:=hide hall;have Ab:=hide hown;obtain ⟨A3,aaX,rfl⟩:=tH hown;clear hall hown hb;by_cases hlt:i<n
  ·have hi':(i:Int)<(n:Int):=by omega
   have hi0:(0:Int)≤(i:Int):=by omega
   have hw1:IntKind.i64.wrap ((i:Int)+1)=(i:Int)+1:=bI _ (by omega)
   have hix:i<ys.length:=by rw [Hn.o];exact hlt
   obtain ⟨b,off,rfl,hbz,hat⟩:=Hs.o.at hix;obtain ⟨c0,c1,c2⟩:=hat wr Hb.o;have htx:=Ht.o i hix;have VA:=hide (fun (W:World) (hg:Gl W)=>Iw ys[i].kind ys[i].pos ys[i].text W (by omega) hg);have FA:=hide (fun (W:World)=>A_ ys[i].kind ys[i].pos ys[i].text W (by omega));have hok:eU ys[i].kind ys[i].text=Th ys[i]:=rfl;rw [hok] at VA;unfold lxV at VA FA
   have UH:gZ (ys.take (i+1))=gZ (ys.take i)++[aY ys[i].kind ys[i].text]:=by
    unfold gZ;rw [List.take_succ_eq_append_getElem hix,List.map_append];rfl
   have HSN:=hide UH;have Ti:=hide (fun h=>Qd hix h)
   have WR:=hide (fun (j:Nat) (hj:j<i+1) (hjl:j<ys.length) (h:Th ys[i]=true)=>show Th ys[j]=true from by
    rcases Nat.lt_or_ge j i with h1|h1
    ·exact aaW.o j h1 hjl
    ·obtain rfl:j=i:=by omega
     exact h)
   obtain ⟨y,hy⟩:∃y,ys[i]'hix=y:=⟨_,rfl⟩
   rw [hy] at c0 c1 c2 VA FA HSN Ti WR
   obtain ⟨T,hT⟩:∃T,aY y.kind y.text=T:=⟨_,rfl⟩
   rw [hT] at FA HSN;generalize ag y.text=sy at*;clear hy hT hok htx UH hat;go_wp2_with fail
   obtain ⟨W1,hW1⟩:∃W1,wr.alloc (.cells #[.int .i64 y.kind,.string sy,.int .i64 y.pos] 66)=W1:=⟨_,rfl⟩
   rw [hW1];have jx:=hide (show Row W1 wr.heap.size 66 #[.int .i64 y.kind,.string sy,.int .i64 y.pos] by rw [←hW1];exact Row.new _ _ _);have dX:=hide (show Below w.heap.size w W1 by rw [←hW1];exact Hb.o.alloc Hb.o.size _);have UC:=hide (show W1.ownsRow w.heap.size 9 1 (.slice A3 i aaX) i (qM (gZ (ys.take i))) by rw [←hW1];exact Ab.o.alloc _);clear hW1 c0 c1 c2;refine (VA.o _ (HG.o.below dX.o)).mono ?_;rintro e w2 ⟨rfl,hb2⟩;have qG:=ae (Row w2 wr.heap.size 66 #[.int .i64 y.kind,.string sy,.int .i64 y.pos]) (jx.o.below hb2 jx.o.lt);have iM:=hide (dX.o.trans (hb2.mono dX.o.size));have HO2:=hide (iC UC.o hb2);clear hb2 jx dX UC
   cases hv:Th y with
   |false=>
    have HV:=hide (Ti.o hv);clear WR;go_wp2;go_ret;exact ⟨by rw [HV.o];first|done|rfl,iM.o⟩
   |true=>
    have acI:=hide (fun (j:Nat) (hj:j<i+1) (hjl:j<ys.length)=>WR.o j hj hjl hv);have r0:=qG.o.cell 0;have r1:=qG.o.cell 1;have r2:=qG.o.cell 2;clear hv Ti WR;go_wp2_with fail;refine (FA.o _).mono ?_;rintro e w3 ⟨rfl,hb3⟩;have nk:=hide (iM.o.trans (hb3.mono iM.o.size));have HO3:=hide (iC HO2.o hb3);clear hb3 r0 r1 r2 qG iM HO2;go_wp2_with (at_builtin;have mG:=HO3.o.alloc (.cells #[.string (ag T)] 9);refine ib _ rfl _ _ 32 rfl w.heap.size 9 Qe Tryz.underlying32 rfl (by decide) _ i (qM (gZ (ys.take i))) rfl mG ⟨w3.heap.size,0,none⟩ 1 1 [.string (ag T)] rfl rfl (mD _ _ rfl) (by intro u hu;simp only [List.mem_cons,List.not_mem_nil,or_false] at hu;rcases hu with rfl;rfl) (by unfold maxLen;omega) (by omega) (by rw [aF];have:=nk.o.size;omega) ?_;intro v' w5 WT Qf _ _);have HO5:=hide WT;have HG5:=hide Qf;clear WT Qf;go_roundw
    case rel=>
     refine ⟨i+1,by go_num,by omega,acI.o,?_,?_⟩
     ·rw [HSN.o,Iy];exact HO5.o
     ·exact (nk.o.alloc nk.o.size _).grown HG5.o (by rw [aF];have:=nk.o.size;omega) (fun j hj=>(HO3.o.lt j hj).1)
    case measure=>simp [intOf];omega
  ·obtain rfl:i=n:=by omega
   have hfl:(gZ ys).length=i:=by unfold gZ;rw [fI];exact Hn.o
   have hx:∀x∈gZ ys,x.length≤4012:=by
    intro x hx;obtain ⟨y,hy,rfl⟩:=List.mem_map.1 hx;have h1:=HTx.o y hy;have h2:=uU y.kind y.text (by omega);omega
   have hjl:=Ba (gZ ys) 4012 hx;rw [hfl] at hjl
   have Tf:(Lib.join (gZ ys) [32]).length≤140737488355328:=by
    have:=Nat.mul_le_mul_right 4013 hn6;omega
   have HV:=hide (Ms (ys:=ys) (fun j hj=>aaW.o j (by rw [←Hn.o];exact hj) hj));have hown:=Ab.o;rw [List.take_of_length_le (by rw [Hn.o];exact aa _)] at hown;rw [←hfl] at hown;have JN:=hide (wP (gZ ys) w.heap.size aaX A3 wr hown (by omega) Tf);rw [hfl] at JN;clear hown hfl hx hjl Tf
   have hi':¬(i:Int)<(i:Int):=by omega
   go_wp2_with fail;refine JN.o.mono ?_;rintro e w1 ⟨rfl,hb1⟩;have Hb1:=hide hb1;clear hb1;go_wp2;go_ret;exact ⟨by rw [HV.o];first|done|rfl,Hb.o.trans (Hb1.o.mono Hb.o.size)⟩
end Go.Proofs.YtddoehnkgcbboaaGreatDoor
namespace Go.Proofs.YtddoehnkgcbboaaGreatDoor
open Go.RowKit Go.Shelf
def eI:List (List UInt8):=[[97,110,100,114],[111,114,114],[120,111,114,114],[116,114,117,101],[102,97,108,115,101],[107,110,111,119,110],[111,110,99,101],[104,105,115,116,111,114,105,99,97,108,108,121],[101,118,101,110,116,117,97,108,108,121],[97,108,119,97,121,115],[115,105,110,99,101],[117,110,116,105,108],[114,105,115,101],[102,97,108,108],[112,111,115,101,100,103,101],[110,101,103,101,100,103,101],[99,104,97,110,103,101],[111,99,99,117,114,115],[98,101,99,111,109,101,115],[105,102],[111,114],[119,104,105,108,101]]
def yC:List (List UInt8)→Nat→List MapEntry
 |[],_=>[]
 |k::ks,n=>{key:=.string (ag k),val:=.bool true,born:=n}::yC ks (n+1)
theorem vP (a b:List UInt8):Instr.sameNow .string (.string (ag a)) (.string (ag b))=some (a==b):=by
 have h:Instr.sameNow .string (.string (ag a)) (.string (ag b))=some ((ag a).data==(ag b).data):=by
  first
   |rfl
   |simp [Instr.sameNow]
 rw [h]
 congr 1
 by_cases e:a=b
 ·subst e;simp
 ·have h1:(a==b)=false:=aP.2 e;have h2:((ag a).data==(ag b).data)=false:=aP.2 fun h=>e (Kh (ByteArray.ext h));rw [h1,h2]
theorem tL (x:List UInt8):∀(ks:List (List UInt8)) (n j:Nat),(x∈ks→∃i,Instr.findNow .string (.string (ag x)) (yC ks n) j=some (some (i,.bool true)))∧(x∉ks→Instr.findNow .string (.string (ag x)) (yC ks n) j=some none)
 |[],n,j=>⟨(fun h=>by cases h),fun _=>rfl⟩
 |k::ks,n,j=>by
  obtain ⟨i1,i2⟩:=tL x ks (n+1) (j+1);unfold yC Instr.findNow;rw [vP];by_cases h:x=k
  ·subst h;rw [xy];exact ⟨fun _=>⟨j,rfl⟩,fun h=>absurd bX h⟩
  ·have hf:(x==k)=false:=aP.2 h;rw [hf];exact ⟨fun hm=>i1 (by rcases List.mem_cons.1 hm with e|e;exact absurd e h;exact e),fun hm=>i2 fun h2=>hm (cL _ h2)⟩
theorem Mu (w:World):(zeroValue 4).run Tryz.prog w=.ok (.bool false) w:=by kernel_rfl
theorem EN:∀(ks:List (List UInt8)) (n:Nat) (k:List UInt8),yC (ks++[k]) n=yC ks n++[{key:=.string (ag k),val:=.bool true,born:=n+ks.length}]
 |[],n,k=>rfl
 |a::ks,n,k=>by
  rw [List.cons_append];unfold yC;rw [EN ks (n+1) k,aj,show n+1+ks.length=n+(ks.length+1) by omega];rfl
theorem cB (w:World) (r n:Nat) (ks:List (List UInt8)) (k:List UInt8) (hn:n=ks.length) (hb:w.heap[r]? =some (.map (yC ks 0).toArray n)) (hk:k∉ks):
 ∃w',(Instr.mapUpdate 165 (.map (some r)) (.string (ag k)) (.bool true)).run Tryz.prog w=.ok () w'∧w'.heap[r]? =some (.map (yC (ks++[k]) 0).toArray (n+1))∧∀B,B≤r→RowKit.Below B w w':=by
 obtain ⟨w',h1,h2,h3⟩:=xD w 165 9 4 .string r n _ (.string (ag k)) (.bool true) Tryz.underlying165 Tryz.underlying9 trivial hb ((tL k ks 0 0).2 hk);refine ⟨w',h1,?_,h3⟩;rw [h2,EN,hn,Nat.zero_add];simp
theorem Mv (w:World) (r n:Nat) (ks:List (List UInt8)) (x:List UInt8) (hb:w.heap[r]? =some (.map (yC ks 0).toArray n)):
 (Instr.lookup 165 (.map (some r)) (.string (ag x)) false).run Tryz.prog w=.ok (.bool (decide (x∈ks))) w:=by
 by_cases h:x∈ks
 ·obtain ⟨i,hi⟩:=(tL x ks 0 0).1 h;rw [decide_eq_true h];exact DJ w _ _ _ _ r _ _ _ i _ false Tryz.underlying165 Tryz.underlying9 trivial hb hi
 ·rw [decide_eq_false h];exact xE w _ _ _ _ r _ _ _ _ false Tryz.underlying165 Tryz.underlying9 trivial hb ((tL x ks 0 0).2 h) (Mu w)
theorem nO (x:List UInt8) (w:World):Calls Tryz.prog 140 #[.string (ag x)] w fun e w'=>e=.returned (.bool (decide (x∈eI)))∧Below w.heap.size w w':=by
 have hmm:=@run_makeMap Tryz.prog;have hb0:(w.alloc (.map #[] 0)).heap[w.heap.size]? =some (.map (yC [] 0).toArray 0):=(MapKept.heap_alloc w _).1;obtain ⟨W1,r1,hb1,b1⟩:=cB _ _ _ _ [97,110,100,114] rfl hb0 (by decide);have R1:(Instr.mapUpdate 165 (.map (some w.heap.size)) (.string ⟨#[97,110,100,114]⟩) (.bool true)).run Tryz.prog (w.alloc (.map #[] 0))=.ok () W1:=r1;clear r1;obtain ⟨W2,r2,hb2,b2⟩:=cB _ _ _ _ [111,114,114] rfl hb1 (by decide);have R2:(Instr.mapUpdate 165 (.map (some w.heap.size)) (.string ⟨#[111,114,114]⟩) (.bool true)).run Tryz.prog W1=.ok () W2:=r2;clear r2;obtain ⟨W3,r3,hb3,b3⟩:=cB _ _ _ _ [120,111,114,114] rfl hb2 (by decide);have R3:(Instr.mapUpdate 165 (.map (some w.heap.size)) (.string ⟨#[120,111,114,114]⟩) (.bool true)).run Tryz.prog W2=.ok () W3:=r3;clear r3;obtain ⟨W4,r4,hb4,b4⟩:=cB _ _ _ _ [116,114,117,101] rfl hb3 (by decide);have R4:(Instr.mapUpdate 165 (.map (some w.heap.size)) (.string ⟨#[116,114,117,101]⟩) (.bool true)).run Tryz.prog W3=.ok () W4:=r4;clear r4;obtain ⟨W5,r5,eG,b5⟩:=cB _ _ _ _ [102,97,108,115,101] rfl hb4 (by decide);have R5:(Instr.mapUpdate 165 (.map (some w.heap.size)) (.string ⟨#[102,97,108,115,101]⟩) (.bool true)).run Tryz.prog W4=.ok () W5:=r5;clear r5;obtain ⟨W6,r6,fV,b6⟩:=cB _ _ _ _ [107,110,111,119,110] rfl eG (by decide);have R6:(Instr.mapUpdate 165 (.map (some w.heap.size)) (.string ⟨#[107,110,111,119,110]⟩) (.bool true)).run Tryz.prog W5=.ok () W6:=r6;clear r6;obtain ⟨W7,r7,sI,b7⟩:=cB _ _ _ _ [111,110,99,101] rfl fV (by decide);have R7:(Instr.mapUpdate 165 (.map (some w.heap.size)) (.string ⟨#[111,110,99,101]⟩) (.bool true)).run Tryz.prog W6=.ok () W7:=r7;clear r7;obtain ⟨W8,r8,UI,b8⟩:=cB _ _ _ _ [104,105,115,116,111,114,105,99,97,108,108,121] rfl sI (by decide);have R8:(Instr.mapUpdate 165 (.map (some w.heap.size)) (.string ⟨#[104,105,115,116,111,114,105,99,97,108,108,121]⟩) (.bool true)).run Tryz.prog W7=.ok () W8:=r8;clear r8;obtain ⟨W9,r9,iK,b9⟩:=cB _ _ _ _ [101,118,101,110,116,117,97,108,108,121] rfl UI (by decide);have R9:(Instr.mapUpdate 165 (.map (some w.heap.size)) (.string ⟨#[101,118,101,110,116,117,97,108,108,121]⟩) (.bool true)).run Tryz.prog W8=.ok () W9:=r9;clear r9;obtain ⟨Ah,r10,Mw,b10⟩:=cB _ _ _ _ [97,108,119,97,121,115] rfl iK (by decide);have R10:(Instr.mapUpdate 165 (.map (some w.heap.size)) (.string ⟨#[97,108,119,97,121,115]⟩) (.bool true)).run Tryz.prog W9=.ok () Ah:=r10;clear r10;obtain ⟨Ai,r11,Qg,b11⟩:=cB _ _ _ _ [115,105,110,99,101] rfl Mw (by decide);have R11:(Instr.mapUpdate 165 (.map (some w.heap.size)) (.string ⟨#[115,105,110,99,101]⟩) (.bool true)).run Tryz.prog Ah=.ok () Ai:=r11;clear r11;obtain ⟨Mx,r12,aaY,b12⟩:=cB _ _ _ _ [117,110,116,105,108] rfl Qg (by decide);have R12:(Instr.mapUpdate 165 (.map (some w.heap.size)) (.string ⟨#[117,110,116,105,108]⟩) (.bool true)).run Tryz.prog Ai=.ok () Mx:=r12;clear r12;obtain ⟨My,r13,Iz,b13⟩:=cB _ _ _ _ [114,105,115,101] rfl aaY (by decide);have R13:(Instr.mapUpdate 165 (.map (some w.heap.size)) (.string ⟨#[114,105,115,101]⟩) (.bool true)).run Tryz.prog Mx=.ok () My:=r13;clear r13;obtain ⟨Ol,r14,aaZ,b14⟩:=cB _ _ _ _ [102,97,108,108] rfl Iz (by decide);have R14:(Instr.mapUpdate 165 (.map (some w.heap.size)) (.string ⟨#[102,97,108,108]⟩) (.bool true)).run Tryz.prog My=.ok () Ol:=r14;clear r14;obtain ⟨W15,r15,aa0,b15⟩:=cB _ _ _ _ [112,111,115,101,100,103,101] rfl aaZ (by decide);have R15:(Instr.mapUpdate 165 (.map (some w.heap.size)) (.string ⟨#[112,111,115,101,100,103,101]⟩) (.bool true)).run Tryz.prog Ol=.ok () W15:=r15;clear r15;obtain ⟨uV,r16,aa1,b16⟩:=cB _ _ _ _ [110,101,103,101,100,103,101] rfl aa0 (by decide);have R16:(Instr.mapUpdate 165 (.map (some w.heap.size)) (.string ⟨#[110,101,103,101,100,103,101]⟩) (.bool true)).run Tryz.prog W15=.ok () uV:=r16;clear r16;obtain ⟨W17,r17,aa2,b17⟩:=cB _ _ _ _ [99,104,97,110,103,101] rfl aa1 (by decide);have R17:(Instr.mapUpdate 165 (.map (some w.heap.size)) (.string ⟨#[99,104,97,110,103,101]⟩) (.bool true)).run Tryz.prog uV=.ok () W17:=r17;clear r17;obtain ⟨W18,r18,aa3,b18⟩:=cB _ _ _ _ [111,99,99,117,114,115] rfl aa2 (by decide);have R18:(Instr.mapUpdate 165 (.map (some w.heap.size)) (.string ⟨#[111,99,99,117,114,115]⟩) (.bool true)).run Tryz.prog W17=.ok () W18:=r18;clear r18;obtain ⟨W19,r19,aa4,b19⟩:=cB _ _ _ _ [98,101,99,111,109,101,115] rfl aa3 (by decide);have R19:(Instr.mapUpdate 165 (.map (some w.heap.size)) (.string ⟨#[98,101,99,111,109,101,115]⟩) (.bool true)).run Tryz.prog W18=.ok () W19:=r19;clear r19;obtain ⟨WU,r20,aa5,b20⟩:=cB _ _ _ _ [105,102] rfl aa4 (by decide);have R20:(Instr.mapUpdate 165 (.map (some w.heap.size)) (.string ⟨#[105,102]⟩) (.bool true)).run Tryz.prog W19=.ok () WU:=r20;clear r20;obtain ⟨Tj,r21,aa6,b21⟩:=cB _ _ _ _ [111,114] rfl aa5 (by decide);have R21:(Instr.mapUpdate 165 (.map (some w.heap.size)) (.string ⟨#[111,114]⟩) (.bool true)).run Tryz.prog WU=.ok () Tj:=r21;clear r21;obtain ⟨Om,r22,aa7,b22⟩:=cB _ _ _ _ [119,104,105,108,101] rfl aa6 (by decide);have R22:(Instr.mapUpdate 165 (.map (some w.heap.size)) (.string ⟨#[119,104,105,108,101]⟩) (.bool true)).run Tryz.prog Tj=.ok () Om:=r22;clear r22
 have HL:∀u,u=ag x→(Instr.lookup 165 (.map (some w.heap.size)) (.string u) false).run Tryz.prog Om=.ok (.bool (decide (x∈eI))) Om:=fun u hu=>by rw [hu];exact Mv Om _ _ _ x aa7
 have B0:Below w.heap.size w (w.alloc (.map #[] 0)):=(af w.heap.size w).alloc (aa _) _;have B:=hide ((((((((((((((((((((((B0.trans (b1 _ (aa _))).trans (b2 _ (aa _))).trans (b3 _ (aa _))).trans (b4 _ (aa _))).trans (b5 _ (aa _))).trans (b6 _ (aa _))).trans (b7 _ (aa _))).trans (b8 _ (aa _))).trans (b9 _ (aa _))).trans (b10 _ (aa _))).trans (b11 _ (aa _))).trans (b12 _ (aa _))).trans (b13 _ (aa _))).trans (b14 _ (aa _))).trans (b15 _ (aa _))).trans (b16 _ (aa _))).trans (b17 _ (aa _))).trans (b18 _ (aa _))).trans (b19 _ (aa _))).trans (b20 _ (aa _))).trans (b21 _ (aa _))).trans (b22 _ (aa _)));have YA:=HL _ rfl
 obtain ⟨d,hd⟩:∃d,decide (x∈eI)=d:=⟨_,rfl⟩
 rw [hd] at YA⊢;generalize ag x=s at*;clear HL hd hb0 hb1 b1 hb2 b2 hb3 b3 hb4 b4 eG b5 fV b6 sI b7 UI b8 iK b9 Mw b10 Qg b11 aaY b12 Iz b13 aaZ b14 aa0 b15 aa1 b16 aa2 b17 aa3 b18 aa4 b19 aa5 b20 aa6 b21 aa7 b22 B0;go_enter Tryz.func140,Tryz.ntmps140;go_wp2;go_ret;exact ⟨rfl,B.o⟩
inductive Nd where
 |mk (kind az:Int) (name value:List UInt8) (a b c d:Int) (kids:List Nd)
instance:Inhabited Nd:=⟨.mk 0 0 [] [] 0 0 0 0 []⟩
def Nd.kind:Nd→Int|.mk k _ _ _ _ _ _ _ _=>k
def Nd.az:Nd→Int|.mk _ k _ _ _ _ _ _ _=>k
def Nd.name:Nd→List UInt8|.mk _ _ k _ _ _ _ _ _=>k
def Nd.value:Nd→List UInt8|.mk _ _ _ k _ _ _ _ _=>k
def Nd.a:Nd→Int|.mk _ _ _ _ k _ _ _ _=>k
def Nd.b:Nd→Int|.mk _ _ _ _ _ k _ _ _=>k
def Nd.c:Nd→Int|.mk _ _ _ _ _ _ k _ _=>k
def Nd.d:Nd→Int|.mk _ _ _ _ _ _ _ k _=>k
def Nd.kids:Nd→List Nd|.mk _ _ _ _ _ _ _ _ k=>k
def np:Nd:=.mk 0 0 [] [] 0 0 0 0 []
mutual
def iF:Nd→Nat
 |.mk _ _ _ _ _ _ _ _ ks=>ml ks+1
def ml:List Nd→Nat
 |[]=>0
 |n::r=>max (iF n) (ml r)
end
inductive PR (α:Type) where
 |ok (x:α) (k:Nat)
 |err (az e:Int)
def PR.bind {α β:Type}:PR α→(α→Nat→PR β)→PR β
 |.ok x k,f=>f x k
 |.err a e,_=>.err a e
def oG:List UInt8:=[116,114,117,101]
def nP:List UInt8:=[102,97,108,115,101]
def aV:List UInt8:=[40]
def aI:List UInt8:=[41]
def bA:List UInt8:=[123]
def aZ:List UInt8:=[125]
def dM:List UInt8:=[91]
def dz:List UInt8:=[93]
def aG:List UInt8:=[44]
def lu:List UInt8:=[58]
def iG:List UInt8:=[33]
def eu:List UInt8:=[126]
def iy:List UInt8:=[45]
def ly:List UInt8:=[45,62]
def jA:List UInt8:=[119,104,105,108,101]
def Gu:List UInt8:=[105,102]
def ig:List UInt8:=[111,99,99,117,114,115]
def tM:List (List UInt8×Int):=[([124,124],30)]
def yD:List (List UInt8×Int):=[([38,38],29)]
def eK:List (List UInt8×Int):=[([61,61],19),([33,61],20),([61,61,61],21),([33,61,61],22),([60],23),([60,61],24),([62],25),([62,61],26)]
def orO:List (List UInt8×Int):=[([124],10)]
def IA:List (List UInt8×Int):=[([94],11)]
def EO:List (List UInt8×Int):=[([38],9)]
def CB:List (List UInt8×Int):=[([43],12),([45],13)]
def fW:List (List UInt8×Int):=[([97,110,100,114],14),([111,114,114],15),([120,111,114,114],16),([107,110,111,119,110],27)]
def dV:List (List UInt8×Int):=[([111,110,99,101],31),([104,105,115,116,111,114,105,99,97,108,108,121],32),([101,118,101,110,116,117,97,108,108,121],33),([97,108,119,97,121,115],34),([115,105,110,99,101],35),([117,110,116,105,108],36)]
def fk:List (List UInt8×Int):=[([114,105,115,101],37),([102,97,108,108],38),([112,111,115,101,100,103,101],39),([110,101,103,101,100,103,101],40),([99,104,97,110,103,101],41),([98,101,99,111,109,101,115],43)]
def ER:List (List UInt8×Int):=[([111,114],46)]
section
variable (L : List Lx) (en : Int) (rd : List UInt8 → Int × Int)
def eO (k:Nat):Int:=match L[k]? with|some x=>(x.az:Int)|none=>en
def Qh (x:Lx):Bool:=decide (x.kind=6)||(decide (x.kind=0)&&decide (x.text∈eI))
def b_ (k:Nat) (w:List UInt8):Bool:=match L[k]? with|some x=>Qh x&&decide (x.text=w)|none=>false
def cW (k:Nat) (q:Int):Bool:=match L[k]? with|some x=>decide (x.kind=q)&&(decide (q≠0)|| !decide (x.text∈eI))|none=>false
def kx (k:Nat):List UInt8:=match L[k]? with|some x=>x.text|none=>[]
def ik {α:Type} (k:Nat):PR α:=.err (eO L en k) 3
def av (k:Nat) (w:List UInt8):PR Unit:=if b_ L k w then .ok () (k+1) else ik L en k
def gN (k:Nat) (most:Int):PR Int:=if cW L k 1 then (if most<(dv (kx L k):Int) then .err (eO L en k) 2 else .ok (dv (kx L k):Int) (k+1)) else ik L en k
def dE (k:Nat):PR Int:=if cW L k 2 then (if (rd (kx L k)).2=0 then .ok (rd (kx L k)).1 (k+1) else .err (eO L en k) (rd (kx L k)).2) else gN L en k 1099511627776
def kj (ops:List (List UInt8×Int)) (k:Nat):Option Int:=(ops.find? fun p=>b_ L k p.1).map (·.2)
def g_ (ops:List (List UInt8×Int)) (f:Nat→PR Nd):Nat→Nd→Nat→PR Nd
 |0,n,k=>.ok n k
 |m+1,n,k=>match kj L ops k with
  |none=>.ok n k
  |some q=>(f (k+1)).bind fun x k'=>g_ ops f m (.mk q (eO L en k) [] [] 0 0 0 0 [n,x]) k'
def dN (ops:List (List UInt8×Int)) (f:Nat→PR Nd) (k:Nat):PR Nd:=(f k).bind fun n k'=>g_ L en ops f (L.length+1) n k'
def yE (ng cmp:Nat→PR Nd) (k:Nat):PR Nd:=if b_ L k iG then (ng (k+1)).bind fun x k'=>.ok (.mk 28 (eO L en k) [] [] 0 0 0 0 [x]) k' else cmp k
def Aj (fo:Nat→PR Nd) (k:Nat):PR Nd:=(fo k).bind fun n k1=>match kj L eK k1 with
 |none=>.ok n k1
 |some q=>(fo (k1+1)).bind fun x k2=>.ok (.mk q (eO L en k1) [] [] 0 0 0 0 [n,x]) k2
def lN (t:List UInt8):List UInt8:=if t=[48] then [48] else 45::t
def ky (n:Nd) (k1:Nat):PR Nd:=(gN L en (k1+1) 32768).bind fun a k2=>if b_ L k2 lu then (gN L en (k2+1) 32768).bind fun b k3=>(av L en k3 dz).bind fun _ k4=>.ok (.mk 6 (eO L en k1) [] [] a b 0 0 [n]) k4
 else (av L en k2 dz).bind fun _ k4=>.ok (.mk 6 (eO L en k1) [] [] a a 0 0 [n]) k4
def zP (un uW:Nat→PR Nd) (k:Nat):PR Nd:=
 if b_ L k eu then (un (k+1)).bind fun x k'=>.ok (.mk 8 (eO L en k) [] [] 0 0 0 0 [x]) k'
 else if b_ L k iy then (if cW L (k+1) 4 then .ok (.mk 4 (eO L en k) [] (lN (kx L (k+1))) 0 0 0 0 []) (k+2) else ik L en (k+1))
 else (uW k).bind fun n k1=>if b_ L k1 dM then ky L en n k1 else .ok n k1
def iU (k:Nat):Option Nd:=
 if cW L k 0 then some (.mk 1 (eO L en k) (kx L k) [] 0 0 0 0 [])
 else if cW L k 1 then some (.mk 3 (eO L en k) [] (kx L k) 0 0 0 0 [])
 else if cW L k 3 then some (.mk 2 (eO L en k) [] (kx L k) 0 0 0 0 [])
 else if cW L k 4 then some (.mk 4 (eO L en k) [] (kx L k) 0 0 0 0 [])
 else if cW L k 5 then some (.mk 5 (eO L en k) [] (kx L k) 0 0 0 0 [])
 else none
def il (fo:Nat→PR Nd):Nat→List Nd→Nat→PR (List Nd)
 |0,l,k=>.ok l k
 |m+1,l,k=>if b_ L k aG then (fo (k+1)).bind fun x k'=>il fo m (l++[x]) k' else .ok l k
def nQ (k:Nat) (f:Int→Int→Nat→PR Nd):PR Nd:=(dE L en rd k).bind fun a k1=>(av L en k1 aG).bind fun _ k2=>(dE L en rd k2).bind fun b k3=>f a b k3
def jU (cond:Nat→PR Nd) (q az:Int) (k:Nat):PR Nd:=(av L en k aV).bind fun _ k1=>(cond k1).bind fun x k2=>(av L en k2 aG).bind fun _ k3=>
 if q=35∨q=36 then (cond k3).bind fun y k4=>(av L en k4 aG).bind fun _ k5=>nQ L en rd k5 fun a b k6=>(av L en k6 aI).bind fun _ k7=>.ok (.mk q az [] [] a b 0 0 [x,y]) k7
 else nQ L en rd k3 fun a b k6=>(av L en k6 aI).bind fun _ k7=>.ok (.mk q az [] [] a b 0 0 [x]) k7
def eJ (cond fo:Nat→PR Nd) (k:Nat):PR Nd:=match iU L en k with
 |some n=>.ok n (k+1)
 |none=>
  if b_ L k oG then .ok (.mk 17 (eO L en k) [] [] 0 0 0 0 []) (k+1)
  else if b_ L k nP then .ok (.mk 18 (eO L en k) [] [] 0 0 0 0 []) (k+1)
  else if b_ L k aV then (cond (k+1)).bind fun n k'=>(av L en k' aI).bind fun _ k2=>.ok n k2
  else if b_ L k bA then (fo (k+1)).bind fun n k'=>(il L fo (L.length+1) [n] k').bind fun l k2=>(av L en k2 aZ).bind fun _ k3=>.ok (.mk 7 (eO L en k) [] [] 0 0 0 0 l) k3
  else match kj L fW k with
   |some q=>(av L en (k+1) aV).bind fun _ k1=>(cond k1).bind fun x k2=>(av L en k2 aI).bind fun _ k3=>.ok (.mk q (eO L en k) [] [] 0 0 0 0 [x]) k3
   |none=>match kj L dV k with
    |some q=>jU L en rd cond q (eO L en k) (k+1)
    |none=>ik L en k
structure Fns where
 cond:Nat→PR Nd
 ng:Nat→PR Nd
 fo:Nat→PR Nd
 un:Nat→PR Nd
def YB (un:Nat→PR Nd):Nat→PR Nd:=dN L en orO (dN L en IA (dN L en EO (dN L en CB un)))
def cF:Nat→Fns
 |0=>⟨fun _=>.err 0 0,fun _=>.err 0 0,fun _=>.err 0 0,fun _=>.err 0 0⟩
 |f+1=>
  let un:=zP L en (cF f).un (eJ L en rd (cF f).cond (cF f).fo)
  let fo:=YB L en un
  let ng:=yE L en (cF f).ng (Aj L en fo)
  ⟨dN L en tM (dN L en yD ng),ng,fo,un⟩
def cX:Nat→PR Nd:=(cF L en rd (L.length+1)).cond
def jB (cond:Nat→PR Nd) (k:Nat):PR Nd:=
 if b_ L k ig then (av L en (k+1) aV).bind fun _ k1=>if cW L k1 0 then (av L en (k1+1) aI).bind fun _ k2=>.ok (.mk 42 (eO L en k) [] [] 0 0 0 0 [.mk 1 (eO L en k1) (kx L k1) [] 0 0 0 0 []]) k2 else ik L en k1
 else match kj L fk k with
  |some q=>(av L en (k+1) aV).bind fun _ k1=>(cond k1).bind fun x k2=>(av L en k2 aI).bind fun _ k3=>.ok (.mk q (eO L en k) [] [] 0 0 0 0 [x]) k3
  |none=>ik L en k
def jt (cond pat:Nat→PR Nd) (k:Nat):PR Nd:=
 if b_ L k aV then (pat (k+1)).bind fun n k1=>(av L en k1 aI).bind fun _ k2=>.ok n k2
 else (jB L en cond k).bind fun n k1=>if b_ L k1 Gu then (cond (k1+1)).bind fun c k2=>.ok (.mk 44 (eO L en k1) [] [] 0 0 0 0 [n,c]) k2 else .ok n k1
def jf {α:Type} (k:Nat) (f:Int→Int→Nat→PR α):PR α:=(av L en k dM).bind fun _ k1=>(dE L en rd k1).bind fun a k2=>(av L en k2 aG).bind fun _ k3=>(dE L en rd k3).bind fun b k4=>(av L en k4 dz).bind fun _ k5=>f a b k5
def dW (cond:Nat→PR Nd) (k:Nat):PR (List Nd):=if b_ L k jA then (cond (k+1)).bind fun c k'=>.ok [c] k' else .ok [] k
def im (cond pat:Nat→PR Nd) (k:Nat):PR Nd:=(jt L en cond pat k).bind fun n k1=>
 if b_ L k1 bA then (gN L en (k1+1) 32768).bind fun a k2=>(av L en k2 aG).bind fun _ k3=>(gN L en k3 32768).bind fun b k4=>(av L en k4 aG).bind fun _ k5=>jf L en rd k5 fun c d k6=>(dW L cond k6).bind fun l k7=>(av L en k7 aZ).bind fun _ k8=>.ok (.mk 47 (eO L en k1) [] [] a b c d (n::l)) k8
 else .ok n k1
def kJ (cond pat:Nat→PR Nd):Nat→Nd→Nat→PR Nd
 |0,n,k=>.ok n k
 |m+1,n,k=>if b_ L k ly then jf L en rd (k+1) fun a b k1=>(dW L cond k1).bind fun l k2=>(im L en rd cond pat k2).bind fun x k3=>kJ cond pat m (.mk 45 (eO L en k) [] [] a b 0 0 (n::x::l)) k3 else .ok n k
def ES (cond pat:Nat→PR Nd) (k:Nat):PR Nd:=(im L en rd cond pat k).bind fun n k1=>kJ L en rd cond pat (L.length+1) n k1
def lO:Nat→Nat→PR Nd
 |0=>fun _=>.err 0 0
 |f+1=>dN L en ER (ES L en rd (cX L en rd) (lO f))
def Mz:Nat→PR Nd:=lO L en rd (L.length+1)
def yF (r:PR Nd):Nd×Int×Int:=match r with
 |.ok n k=>if k<L.length then (np,eO L en k,3) else if 32<iF n then (np,0,9) else (n,0,0)
 |.err a e=>(np,a,e)
end
def mn (pat:Bool) (t:List UInt8) (ok:Bool) (rd:List UInt8→Int×Int):Nd×Int×Int:=
 if ok then (if (df t).2.2=0 then yF (df t).1 (t.length:Int) (if pat then Mz (df t).1 (t.length:Int) rd 0 else cX (df t).1 (t.length:Int) rd 0) else (np,((df t).2.1:Int),(df t).2.2)) else (np,0,1)
abbrev St:=List UInt8×Bool
def bD (st:St) (s:List UInt8):St:=if s=[] then st else ((if st.2&&decide (s.head? ≠some 32) then st.1++[32] else st.1)++s,false)
def fB (st:St) (l:List (List UInt8)):St:=l.foldl bD st
def gq (k:Int):Option (List UInt8×Int×Int×Int):=
 if k=30 then some ([124,124],0,0,1) else
 if k=29 then some ([38,38],1,1,2) else
 if k=10 then some ([124],4,4,5) else
 if k=11 then some ([94],5,5,6) else
 if k=9 then some ([38],6,6,7) else
 if k=12 then some ([43],7,7,8) else
 if k=13 then some ([45],7,7,8) else
 if k=46 then some ([111,114],10,10,11) else
 if k=19 then some ([61,61],3,4,4) else
 if k=20 then some ([33,61],3,4,4) else
 if k=21 then some ([61,61,61],3,4,4) else
 if k=22 then some ([33,61,61],3,4,4) else
 if k=23 then some ([60],3,4,4) else
 if k=24 then some ([60,61],3,4,4) else
 if k=25 then some ([62],3,4,4) else
 if k=26 then some ([62,61],3,4,4) else
 none
def iq (k:Int):Option (List UInt8):=
 if k=14 then some ([97,110,100,114]) else
 if k=15 then some ([111,114,114]) else
 if k=16 then some ([120,111,114,114]) else
 if k=27 then some ([107,110,111,119,110]) else
 none
def oH (k:Int):Option (List UInt8):=
 if k=37 then some ([114,105,115,101]) else
 if k=38 then some ([102,97,108,108]) else
 if k=39 then some ([112,111,115,101,100,103,101]) else
 if k=40 then some ([110,101,103,101,100,103,101]) else
 if k=41 then some ([99,104,97,110,103,101]) else
 if k=43 then some ([98,101,99,111,109,101,115]) else
 none
def ET (k:Int):Option (List UInt8):=
 if k=31 then some ([111,110,99,101]) else
 if k=32 then some ([104,105,115,116,111,114,105,99,97,108,108,121]) else
 if k=33 then some ([101,118,101,110,116,117,97,108,108,121]) else
 if k=34 then some ([97,108,119,97,121,115]) else
 if k=35 then some ([115,105,110,99,101]) else
 if k=36 then some ([117,110,116,105,108]) else
 none
def iz (sg:List UInt8→Int) (n:Nd):Int:=match gq n.kind with
 |some x=>x.2.1
 |none=>if n.kind=28 then 2 else if n.kind=8∨n.kind=6 then 8 else if n.kind=4∧sg n.value<0 then 8 else if n.kind=45 then 11 else if n.kind=47 then 12 else if n.kind=44 then 13 else if (oH n.kind).isSome∨n.kind=42 then 13 else 9
def bJ (n:Nd) (un uv ua uc:Bool):Bool:=(decide (n.name=[])||un)&&(decide (n.value=[])||uv)&&(decide (n.a=0)||ua)&&(decide (n.b=0)||ua)&&(decide (n.c=0)||uc)&&(decide (n.d=0)||uc)
def dh (x most:Int) (st:St):Option St:=if x<0∨most<x then none else some (bD st (Lib.itoa x))
def mo (a b:Int) (st:St):Option St:=(dh a 1099511627776 (bD st [91])).bind fun st=>(dh b 1099511627776 (bD st [44,32])).bind fun st=>some (bD st [93])
abbrev Pw:=Int→St→Option St
def jV (fs:List Pw) (i:Nat):Pw:=fun need st=>match fs[i]? with|some f=>f need st|none=>none
def kz:List Pw→St→Option St
 |[],st=>some st
 |f::r,st=>(f 0 (bD st [32,119,104,105,108,101,32])).bind (kz r)
def qN:List Pw→List UInt8→St→Option St
 |[],_,st=>some st
 |f::r,s,st=>(f 4 (bD st s)).bind (qN r [44,32])
def uX:List Pw→St→Option St
 |[],st=>some st
 |f::r,st=>(f 0 st).bind fun st=>uX r (bD st [44,32])
def kG (n:Nd) (fs:List Pw) (s:List UInt8) (need:Int) (st:St):Option St:=if bJ n false false false false∧fs.length=1 then (jV fs 0 need (fB st [s,[40]])).bind fun st=>some (bD st [41]) else none
def gv (n:Nd) (fs:List Pw) (s:List UInt8) (st:St):Option St:=
 if bJ n false false true false∧fs.length=(if n.kind=35∨n.kind=36 then 2 else 1) then (uX fs (fB st [s,[40]])).bind fun st=>(dh n.a 1099511627776 st).bind fun st=>(dh n.b 1099511627776 (bD st [44,32])).bind fun st=>some (bD st [41]) else none
def dY (k:Int):Int:=if k=3 then 1 else if k=2 then 3 else if k=4 then 4 else if k=5 then 5 else 0
def bM (s:List UInt8):Bool:=match s.reverse.idxOf? 92 with|some i=> !decide ((32:UInt8)∈s.drop (s.length-1-i))|none=>false
def dO (sg:List UInt8→Int) (ng:List UInt8→List UInt8) (n:Nd) (fs:List Pw) (st:St):Option St:=
 if fs.length≠0 then none
 else if n.kind=1 then (if bJ n true false false false∧n.name∉eI∧bL [⟨0,n.name,0⟩]≠[] then some ((bD st (bL [⟨0,n.name,0⟩])).1,bM (bL [⟨0,n.name,0⟩])) else none)
 else if bJ n false true false false∧dY n.kind≠0 then
  (if n.kind=4∧sg n.value<0 then (if bL [⟨4,ng n.value,0⟩]≠[] then some (bD (bD st [45]) (bL [⟨4,ng n.value,0⟩])) else none)
   else if bL [⟨dY n.kind,n.value,0⟩]≠[] then some (bD st (bL [⟨dY n.kind,n.value,0⟩])) else none)
 else none
def bn (sg:List UInt8→Int) (ng:List UInt8→List UInt8) (n:Nd) (fs:List Pw) (st:St):Option St:=
 if n.kind=17∨n.kind=18 then (if bJ n false false false false∧fs.length=0 then some (bD st (if n.kind=17 then oG else nP)) else none)
 else if n.kind=28∨n.kind=8 then (if bJ n false false false false∧fs.length=1 then jV fs 0 (iz sg n) (bD st (if n.kind=28 then iG else eu)) else none)
 else if n.kind=6 then (if bJ n false false true false∧fs.length=1 then (jV fs 0 9 st).bind fun st=>(dh n.a 32768 (bD st [91])).bind fun st=>(if n.a≠n.b then dh n.b 32768 (bD st [58]) else some st).bind fun st=>some (bD st [93]) else none)
 else if n.kind=7 then (if bJ n false false false false∧1≤fs.length then (qN fs [123] st).bind fun st=>some (bD st [125]) else none)
 else dO sg ng n fs st
def fS (sg:List UInt8→Int) (n:Nd) (fs:List Pw) (st:St):Option St:=
 if n.kind=45 then (if bJ n false false true false∧2≤fs.length∧fs.length≤3 then (jV fs 0 11 st).bind fun st=>(mo n.a n.b (bD st [32,45,62,32])).bind fun st=>(kz (fs.drop 2) st).bind fun st=>jV fs 1 12 (bD st [32]) else none)
 else if n.kind=47 then (if bJ n false false true true∧1≤fs.length∧fs.length≤2 then (jV fs 0 13 st).bind fun st=>(dh n.a 32768 (bD st [123])).bind fun st=>(dh n.b 32768 (bD st [44,32])).bind fun st=>(mo n.c n.d (bD st [44,32])).bind fun st=>(kz (fs.drop 1) st).bind fun st=>some (bD st [125]) else none)
 else if n.kind=44 then (if bJ n false false false false∧fs.length=2∧iz sg (n.kids.getD 0 np)=13∧(n.kids.getD 0 np).kind≠44 then (jV fs 0 13 st).bind fun st=>jV fs 1 0 (bD st [32,105,102,32]) else none)
 else if n.kind=42 then (if bJ n false false false false∧fs.length=1∧(n.kids.getD 0 np).kind=1 then kG n fs ig 9 st else none)
 else none
def dZ (sg:List UInt8→Int) (ng:List UInt8→List UInt8) (n:Nd) (fs:List Pw) (st:St):Option St:=match gq n.kind with
 |some x=>if bJ n false false false false∧fs.length=2 then (jV fs 0 x.2.2.1 st).bind fun st=>jV fs 1 x.2.2.2 (fB st [[32],x.1,[32]]) else none
 |none=>match iq n.kind with
  |some s=>kG n fs s 0 st
  |none=>match oH n.kind with
   |some s=>kG n fs s 0 st
   |none=>match ET n.kind with
    |some s=>gv n fs s st
    |none=>if (45≤n.kind∧n.kind≤47)∨n.kind=44∨n.kind=42 then fS sg n fs st else bn sg ng n fs st
def oq (sg:List UInt8→Int) (ng:List UInt8→List UInt8) (n:Nd) (fs:List Pw):Pw:=fun need st=>
 if decide (10≤iz sg n)≠decide (10≤need) then none
 else if need≤iz sg n then dZ sg ng n fs st
 else (dZ sg ng n fs (bD st [40])).bind fun st=>some (bD st [41])
mutual
def bC (sg:List UInt8→Int) (ng:List UInt8→List UInt8):Nd→Pw
 |.mk k az nm v a b c d ks=>oq sg ng (.mk k az nm v a b c d ks) (aq sg ng ks)
def aq (sg:List UInt8→Int) (ng:List UInt8→List UInt8):List Nd→List Pw
 |[]=>[]
 |n::r=>bC sg ng n::aq sg ng r
end
def eV (sg:List UInt8→Int) (ng:List UInt8→List UInt8) (n:Nd):Option (List UInt8):=
 if 32<iF n then none
 else match bC sg ng n (if 10≤iz sg n then 10 else 0) ([],false) with
  |some st=>if (df st.1).2.2=0 then some st.1 else none
  |none=>none
def mK (C:Nat→Prop) (W:World) (A:Option Addr) (bH:List (List Value)):Prop:=
 0<bH.length→∃b off,A=some ⟨b,off,none⟩∧¬C b∧b<W.heap.size∧∀i (h:i<bH.length) j,j<9→W.cell? ⟨b,off+i*9+j,none⟩=(bH[i])[j]?
def aB (kind az:Int) (name value:List UInt8) (a b c d:Int) (s:Value):List Value:=[.int .i64 kind,.int .i64 az,.string (ag name),.string (ag value),.int .i64 a,.int .i64 b,.int .i64 c,.int .i64 d,s]
inductive cK (C:Nat→Prop) (W:World):Nd→List Value→Prop
 |mk (kind az:Int) (name value:List UInt8) (a b c d:Int) (ks:List Nd) (A:Option Addr) (cap:Nat) (bH:List (List Value)) (hl:bH.length=ks.length)
  (hk:∀i (h:i<ks.length) (h':i<bH.length),cK C W ks[i] bH[i]) (hr:mK C W A bH) (hcap:ks.length≤cap):cK C W (.mk kind az name value a b c d ks) (aB kind az name value a b c d (.slice A ks.length cap))
theorem mK.keeps {C:Nat→Prop} {W W':World} {A:Option Addr} {bH:List (List Value)} (h:mK C W A bH) (hk:ah C W W'):mK C W' A bH:=by
 intro hp;obtain ⟨b,off,rfl,hb,hz,hat⟩:=h hp;exact ⟨b,off,rfl,hb,cJ hz hk.size,fun i hi j hj=>(hk.cell (p:=⟨b,_,none⟩) hz hb).trans (hat i hi j hj)⟩
theorem cK.keeps {C:Nat→Prop} {W W':World} {n:Nd} {cs:List Value} (h:cK C W n cs) (hk:ah C W W'):cK C W' n cs:=by
 induction h with
 |mk kind az name value a b c d ks A cap bH hl _ hr hcap ih=>exact .mk _ _ _ _ _ _ _ _ _ _ _ bH hl ih (hr.keeps hk) hcap
theorem mK.mono {C C':Nat→Prop} {W:World} {A:Option Addr} {bH:List (List Value)} (h:mK C W A bH) (hc:∀b,C' b→C b):mK C' W A bH:=by
 intro hp;obtain ⟨b,off,rfl,hb,hz,hat⟩:=h hp;exact ⟨b,off,rfl,fun e=>hb (hc b e),hz,hat⟩
theorem cK.mono {C C':Nat→Prop} {W:World} {n:Nd} {cs:List Value} (h:cK C W n cs) (hc:∀b,C' b→C b):cK C' W n cs:=by
 induction h with
 |mk kind az name value a b c d ks A cap bH hl _ hr hcap ih=>exact .mk _ _ _ _ _ _ _ _ _ _ _ bH hl ih (hr.mono hc) hcap
theorem cK.len {C:Nat→Prop} {W:World} {n:Nd} {cs:List Value} (h:cK C W n cs):cs.length=9:=by cases h;rfl
theorem cK.leaf (C:Nat→Prop) (W:World) (kind az:Int) (name value:List UInt8) (a b c d:Int) (A:Option Addr) (cap:Nat):cK C W (.mk kind az name value a b c d []) (aB kind az name value a b c d (.slice A 0 cap)):=
 .mk kind az name value a b c d [] A cap [] rfl (fun i h=>absurd h (GI _)) (fun h=>absurd h (by decide)) (bj _)
structure PS where
 L:List Lx
 en:Int
 sc:Int
 A:Option Addr
 cap:Nat
 b:Nat
structure UJ (x:Lx):Prop where
 num:x.kind=1→(∀c∈x.text,bg c=true)∧1≤x.text.length∧x.text.length≤15
 len:x.text.length≤1000000
 real:x.kind=4→∃l,(∀c,l.head? =some c→bg c=true)∧(cP l).2=0∧x.text=(cP l).1
structure bQ (p:PS) (W:World) (k:Nat):Prop where
 row:Row W p.b 60 #[.slice p.A p.L.length p.cap,.int .i64 (k:Int),.int .i64 p.en,.int .i64 p.sc]
 lx:yh W p.A p.L
 ne:∀a,p.A=some a→a.block≠p.b
 le:k≤p.L.length
 small:p.L.length≤512
 gl:Gl W
 gb:3≠p.b∧2≠p.b
 good:∀x∈p.L,UJ x
theorem bQ.below {p:PS} {W W':World} {k:Nat} (h:bQ p W k) (hb:Below W.heap.size W W'):bQ p W' k:=
 ⟨h.row.below hb h.row.lt,h.lx.below hb,h.ne,h.le,h.small,h.gl.below hb,h.gb,h.good⟩
theorem bQ.above {p:PS} {W0 W W':World} {k0 k:Nat} (h0:bQ p W0 k0) (h:bQ p W k) (hb:Below W0.heap.size W W'):bQ p W' k:=by
 refine ⟨h.row.below hb h0.row.lt,fun hp=>?_,h.ne,h.le,h.small,h.gl.low h0.gl.lt hb,h.gb,h.good⟩;obtain ⟨bl,off,hA,hat⟩:=h.lx hp;obtain ⟨bl0,adS,Tm,acJ⟩:=h0.lx hp
 have hz:bl<W0.heap.size:=by
  rw [hA] at Tm;cases Tm;exact World.block_lt_of_cell? W0 _ (acJ 0 hp).1
 exact ⟨bl,off,hA,fun i hi=>by
  obtain ⟨a,b,c⟩:=hat i hi
  exact ⟨(hb.cell (p:=⟨bl,_,none⟩) hz).trans a,(hb.cell (p:=⟨bl,_,none⟩) hz).trans b,(hb.cell (p:=⟨bl,_,none⟩) hz).trans c⟩⟩
theorem bQ.cells {p:PS} {W:World} {k:Nat} (h:bQ p W k):W.cell? ⟨p.b,0,none⟩=some (.slice p.A p.L.length p.cap)∧W.cell? ⟨p.b,1,none⟩=some (.int .i64 (k:Int))∧W.cell? ⟨p.b,2,none⟩=some (.int .i64 p.en)∧W.cell? ⟨p.b,3,none⟩=some (.int .i64 p.sc)∧W.frozen? ⟨p.b,1,none⟩=false:=
 ⟨h.row.cell 0,h.row.cell 1,h.row.cell 2,h.row.cell 3,h.row.frozen 1⟩
theorem bQ.lex {p:PS} {W:World} {k:Nat} (h:bQ p W k) (hk:k<p.L.length):∃bl off,p.A=some ⟨bl,off,none⟩∧bl≠p.b∧bl<W.heap.size∧W.cell? ⟨bl,off+k*3,none⟩=some (.int .i64 p.L[k].kind)∧W.cell? ⟨bl,off+k*3+1,none⟩=some (.string (ag p.L[k].text))∧W.cell? ⟨bl,off+k*3+2,none⟩=some (.int .i64 (p.L[k].az:Int)):=by
 obtain ⟨bl,off,hA,hz,hc⟩:=h.lx.at hk;obtain ⟨c0,c1,c2⟩:=hc W (af _ _);exact ⟨bl,off,hA,h.ne _ hA,hz,c0,c1,c2⟩
theorem bQ.next {p:PS} {W:World} {k:Nat} (h:bQ p W k) {j:Nat} (hj:j≤p.L.length):bQ p (W.setCell ⟨p.b,1,none⟩ (.int .i64 (j:Int))) j:=by
 refine ⟨h.row.bU 1 _,fun hp=>?_,h.ne,hj,h.small,h.gl.keep (fun c _ he=>Below.heap_setCell _ _ _ _ (by rcases he with rfl|rfl;exact h.gb.1;exact h.gb.2)),h.gb,h.good⟩;obtain ⟨bl,off,hA,hat⟩:=h.lx hp;have hne:=h.ne _ hA;have hf:∀o,(W.setCell ⟨p.b,1,none⟩ (.int .i64 (j:Int))).cell? ⟨bl,o,none⟩=W.cell? ⟨bl,o,none⟩:=fun o=>World.cell?_of_block (Below.heap_setCell _ _ _ _ hne);exact ⟨bl,off,hA,fun i hi=>by rw [hf,hf,hf];exact hat i hi⟩
theorem CE {L:List Lx} {en:Int} {k:Nat} (h:k<L.length):eO L en k=(L[k].az:Int):=by unfold eO;rw [List.getElem?_eq_getElem h]
theorem YC {L:List Lx} {en:Int} {k:Nat} (h:L.length≤k):eO L en k=en:=by unfold eO;rw [List.getElem?_eq_none h]
theorem gD (p:PS) (k:Nat) (w:World) (h:bQ p w k):
 Calls Tryz.prog 48 #[.pointer (some ⟨p.b,0,none⟩)] w fun e w'=>e=.returned (.int .i64 (eO p.L p.en k))∧Below w.heap.size w w':=by
 obtain ⟨c0,c1,c2,c3,_⟩:=h.cells;have hle:=h.le;have hsm:=h.small;by_cases hk:k<p.L.length
 ·obtain ⟨bl,off,hA,hne,hz,_,_,l2⟩:=h.lex hk;have HV:=hide (CE (en:=p.en) hk)
  have hk1:(k:Int)<(p.L.length:Int):=by omega
  have uQ:(0:Int)≤(k:Int):=by omega
  rw [hA] at c0;generalize p.L[k]=x at*;generalize p.L.length=n at*;clear hle h;go_enter Tryz.func48,Tryz.ntmps48;go_wp2_with fail;go_quiet (fail);go_wp2_with fail;go_quiet (fail);go_wp2;go_ret;exact ⟨kp HV.o,aX (aX (af _ _) _) _⟩
 ·have HV:=hide (YC (L:=p.L) (en:=p.en) (by omega:p.L.length≤k))
  have hk1:¬(k:Int)<(p.L.length:Int):=by omega
  generalize p.L.length=n at*;clear hle h;go_enter Tryz.func48,Tryz.ntmps48;go_wp2_with fail;go_quiet (fail);go_wp2;go_ret;exact ⟨kp HV.o,aX (af _ _) _⟩
def ot (a e:Int):Value:=.iface 58 (.agg #[.int .i64 a,.int .i64 e])
def Qi (a er:Int) (e:Ending):Prop:=e=.panicked [{v:=ot a er,recovered:=false}]
theorem pB (p:PS) (k:Nat) (w:World) (h:bQ p w k):
 Calls Tryz.prog 32 #[.pointer (some ⟨p.b,0,none⟩)] w fun e w'=>Qi (eO p.L p.en k) 3 e∧Below w.heap.size w w':=by
 have PL:=hide (gD p k w h);clear h;generalize eO p.L p.en k=a at*;go_enter Tryz.func32,Tryz.ntmps32;go_wp2_with fail;refine PL.o.mono ?_;rintro e w1 ⟨rfl,hb⟩;go_wp2;exact ⟨rfl,rfl,hb⟩
def cQ {α:Type} (p:PS) (W0:World) (val:World→α→Value→Prop):PR α→Ending→World→Prop
 |.ok x k',e,w'=>(∃v,e=.returned v∧val w' x v)∧bQ p w' k'∧ah (fun c=>c=p.b) W0 w'
 |.err a er,e,w'=>Qi a er e∧ah (fun c=>c=p.b) W0 w'
theorem EU {L:List Lx} {k:Nat} (h:L.length≤k) (w:List UInt8):b_ L k w=false:=by
 unfold b_;rw [List.getElem?_eq_none h]
theorem Qj {L:List Lx} {k:Nat} (h:k<L.length) (w:List UInt8):b_ L k w=(Qh L[k]&&decide (L[k].text=w)):=by
 unfold b_;rw [List.getElem?_eq_getElem h]
theorem EW {a b:List UInt8} (h:ag a=ag b):a=b:=by
 rw [←dD a,h,dD]
theorem CF (a x:List UInt8):Lib.containsS ([ag a].take 1) (ag x)=decide (x=a):=by
 rw [Bool.eq_iff_iff,Lib.containsS_iff,decide_eq_true_eq];show ag x∈[ag a]↔_;rw [List.mem_singleton];exact ⟨fun h=>EW h,fun h=>by rw [h]⟩
theorem YD (p:PS) (k:Nat) (bw ow c:Nat) (wd:List UInt8) (w:World) (h:bQ p w k) (hw:w.cell? ⟨bw,ow,none⟩=some (.string (ag wd))):
 Calls Tryz.prog 101 #[.pointer (some ⟨p.b,0,none⟩),.slice (some ⟨bw,ow,none⟩) 1 c] w fun e w'=>e=.returned (.bool (b_ p.L k wd))∧Below w.heap.size w w':=by
 obtain ⟨c0,c1,c2,c3,_⟩:=h.cells;have hle:=h.le;have hsm:=h.small;by_cases hk:k<p.L.length
 ·obtain ⟨bl,off,hA,hne,hz,l0,l1,l2⟩:=h.lex hk;have HV:=Qj hk wd;have hk1:((k:Int)==(p.L.length:Int))=false:=aP.2 (by omega)
  have hk2:(k:Int)<(p.L.length:Int):=by omega
  have uQ:(0:Int)≤(k:Int):=by omega
  rw [hA] at c0;generalize p.L[k]=x at*;generalize b_ p.L k wd=R at*;generalize p.L.length=n at*;have RS:=hide (fun W:World=>nO x.text W)
  have CT:=hide (fun (W:World) (hc:W.cell? ⟨bw,ow,none⟩=some (.string (ag wd)))=>show Calls Tryz.prog 141 #[.slice (some ⟨bw,ow,none⟩) 1 c,.string (ag x.text)] W fun e w'=>e=.returned (.bool (decide (x.text=wd)))∧w'=W from by
   have:=Tryz.slices_Contains_string bw ow 1 c [ag wd] (ag x.text) W (aa _) (by decide) (fun j hj=>by
    obtain rfl:j=0:=by simpa using hj
    exact hc)
   rwa [CF] at this)
  have hbw:bw<w.heap.size:=World.block_lt_of_cell? w _ hw;generalize decide (x.text=wd)=E at*;unfold Qh at HV;clear hle h;go_enter Tryz.func101,Tryz.ntmps101;go_wp2_with fail;go_quiet (fail);go_wp2_with fail;have Q0:∀N (o:Obj) (b' o':Nat) (v:Value),w.cell? ⟨b',o',none⟩=some v→((w.drewN N).alloc o).cell? ⟨b',o',none⟩=some v:=fun N o b' o' v hv=>(World.cell?_of_block (Below.heap_alloc _ _ _ (World.block_lt_of_cell? w _ hv))).trans hv;have q0:=Q0 (nq+1) (Obj.cells #[.int .i64 0,.string {data:=#[]},.int .i64 0] 66) _ _ _ c0;have q1:=Q0 (nq+1) (Obj.cells #[.int .i64 0,.string {data:=#[]},.int .i64 0] 66) _ _ _ c1;have q2:=Q0 (nq+1) (Obj.cells #[.int .i64 0,.string {data:=#[]},.int .i64 0] 66) _ _ _ l0;have q3:=Q0 (nq+1) (Obj.cells #[.int .i64 0,.string {data:=#[]},.int .i64 0] 66) _ _ _ l1;have q4:=Q0 (nq+1) (Obj.cells #[.int .i64 0,.string {data:=#[]},.int .i64 0] 66) _ _ _ l2
  obtain ⟨W0,hW0⟩:∃W0,W0=(w.drewN (nq+1)).alloc (Obj.cells #[.int .i64 0,.string {data:=#[]},.int .i64 0] 66):=⟨_,rfl⟩
  have r0:Row W0 w.heap.size 66 #[.int .i64 0,.string {data:=#[]},.int .i64 0]:=by rw [hW0];exact Row.new _ _ _
  have r1:=r0.bU 0 (.int .i64 x.kind);have r2:=r1.bU 1 (.string (ag x.text));have s0:W0.cell? ⟨w.heap.size,0,none⟩=some (.int .i64 0):=r0.cell 0;have s1:(W0.setCell ⟨w.heap.size,0,none⟩ (.int .i64 x.kind)).cell? ⟨w.heap.size,1,none⟩=some (.string {data:=#[]}):=r1.cell 1;have s2:((W0.setCell ⟨w.heap.size,0,none⟩ (.int .i64 x.kind)).setCell ⟨w.heap.size,1,none⟩ (.string (ag x.text))).cell? ⟨w.heap.size,2,none⟩=some (.int .i64 0):=r2.cell 2;have f0:=r0.frozen 0;have f1:=r1.frozen 1;have f2:=r2.frozen 2;have r3:=hide (r2.bU 2 (.int .i64 (x.az:Int)));have hb0:=ae (Below w.heap.size w W0) (by rw [hW0];exact (aX (af _ _) _).alloc (aa _) _);subst hW0;clear r0 r1 r2 Q0
  go_region
  clear q0 q1 q2 q3 q4 s0 s1 s2 f0 f1 f2;have hb3:=((hb0.o.setCell (p:=⟨w.heap.size,0,none⟩) (aa _) (.int .i64 x.kind)).setCell (p:=⟨w.heap.size,1,none⟩) (aa _) (.string (ag x.text))).setCell (p:=⟨w.heap.size,2,none⟩) (aa _) (.int .i64 (x.az:Int));have r4:=r3.o;clear hb0 r3;revert hb3 r4;generalize World.setCell _ _ (.int .i64 (x.az:Int))=W1;intro hb3 r4;have g0:W1.cell? ⟨w.heap.size,0,none⟩=some (.int .i64 x.kind):=r4.cell 0;have g1:W1.cell? ⟨w.heap.size,1,none⟩=some (.string (ag x.text)):=r4.cell 1;have gw:W1.cell? ⟨bw,ow,none⟩=some (.string (ag wd)):=(hb3.cell (p:=⟨bw,ow,none⟩) hbw).trans hw;have R4:=hide r4;have nk:=hide hb3;clear r4 hb3;by_cases h6:x.kind=6
  ·have e6:(x.kind==6)=true:=beq_iff_eq.2 h6;have MA:=hide (show R=E by rw [HV,decide_eq_true h6];simp);clear HV;go_wp2_with fail;refine (CT.o _ gw).mono ?_;rintro e w2 ⟨rfl,rfl⟩;go_wp2;go_ret;exact ⟨aT MA.o,nk.o⟩
  ·have e6:(x.kind==6)=false:=aP.2 h6;by_cases h0:x.kind=0
   ·have e0:(x.kind==0)=true:=beq_iff_eq.2 h0;rw [decide_eq_false h6,decide_eq_true h0,Bool.false_or,Bool.true_and] at HV;go_wp2_with fail;refine (RS.o _).mono ?_;rintro e w2 ⟨rfl,hb4⟩;have gw2:w2.cell? ⟨bw,ow,none⟩=some (.string (ag wd)):=(hb4.cell (p:=⟨bw,ow,none⟩) (World.block_lt_of_cell? W1 _ gw)).trans gw;have g2:w2.cell? ⟨w.heap.size,1,none⟩=some (.string (ag x.text)):=(hb4.cell (p:=⟨w.heap.size,1,none⟩) (World.block_lt_of_cell? W1 _ g1)).trans g1;have zN:=hide (nk.o.trans (hb4.mono nk.o.size));clear hb4 gw g0 g1
    cases hr:decide (x.text∈eI) with
    |true=>
     have MA:=hide (show R=E by rw [HV,hr];simp);clear HV;go_wp2_with fail;refine (CT.o _ gw2).mono ?_;rintro e w3 ⟨rfl,rfl⟩;go_wp2;go_ret;exact ⟨aT MA.o,zN.o⟩
    |false=>
     have MA:=hide (show R=false by rw [HV,hr];rfl);clear HV;go_wp2;go_ret;exact ⟨aT MA.o,zN.o⟩
   ·have e0:(x.kind==0)=false:=aP.2 h0;have MA:=hide (show R=false by rw [HV,decide_eq_false h6,decide_eq_false h0];rfl);clear HV;go_wp2;go_ret;exact ⟨aT MA.o,nk.o⟩
 ·have HV:=hide (EU (L:=p.L) (by omega:p.L.length≤k) wd)
  have hk1:((k:Int)==(p.L.length:Int))=true:=by
   have:k=p.L.length:=by omega
   rw [this,xy]
  generalize p.L.length=n at*;clear hle h;go_enter Tryz.func101,Tryz.ntmps101;go_wp2_with fail;go_quiet (fail);go_wp2;go_ret;exact ⟨aT HV.o,aX (af _ _) _⟩
theorem xj {L:List Lx} {k:Nat} {wd:List UInt8} (h:b_ L k wd=true):k<L.length:=by
 rcases Nat.lt_or_ge k L.length with h1|h1
 ·exact h1
 ·rw [EU h1] at h;cases h
theorem bQ.next' {p:PS} {W:World} {k:Nat} (h:bQ p W k) (hk:k<p.L.length):bQ p (W.setCell ⟨p.b,1,none⟩ (.int .i64 ((k:Int)+1))) (k+1):=by
 have:=h.next (j:=k+1) hk;rwa [show ((k+1:Nat):Int)=(k:Int)+1 by omega] at this
theorem eW (p:PS) (k:Nat) (wd:List UInt8) (w:World) (h:bQ p w k):
 Calls Tryz.prog 65 #[.pointer (some ⟨p.b,0,none⟩),.string (ag wd)] w fun e w'=>e=.returned (.bool (b_ p.L k wd))∧bQ p w' (if b_ p.L k wd=true then k+1 else k)∧ah (fun c=>c=p.b) w w':=by
 have IS:=hide (YD p k w.heap.size 0 1 wd (w.alloc (.cells #[.string (ag wd)] 9)) (h.below ((af _ w).alloc (aa _) _)) ((Row.new w _ _).cell 0));have H:=hide h;have hle:=h.le;have hsm:=h.small;have HL:=hide (fun h:b_ p.L k wd=true=>xj h);clear h;generalize b_ p.L k wd=R at*;go_enter Tryz.func65,Tryz.ntmps65;go_wp2_with fail;refine IS.o.mono ?_;rintro e w2 ⟨rfl,hb⟩;have HB:=ae (Below w.heap.size w w2) (((af _ w).alloc (aa _) _).trans (hb.mono (by simp)));have H2:=hide (H.o.below HB.o);clear hb;obtain ⟨_,c1,_,_,f1⟩:=H2.o.cells
 cases R with
 |true=>
  have hk:=HL.o rfl;have hw:IntKind.i64.wrap ((k:Int)+1)=(k:Int)+1:=bI _ (by omega);clear hle hsm;go_wp2;go_ret;exact ⟨rfl,H2.o.next' hk,(ah.of_below (C:=fun c=>c=p.b) HB.o (aa _)).set (.inl rfl) 1 _⟩
 |false=>
  go_wp2;go_ret;exact ⟨rfl,H2.o,ah.of_below HB.o (aa _)⟩
def aa8 (_:World) (_:Unit) (v:Value):Prop:=v=.tuple #[]
def Qk (_:World) (n:Int) (v:Value):Prop:=v=.int .i64 n
theorem h_ (p:PS) (k:Nat) (wd:List UInt8) (w:World) (h:bQ p w k):
 Calls Tryz.prog 100 #[.pointer (some ⟨p.b,0,none⟩),.string (ag wd)] w (cQ p w aa8 (av p.L p.en k wd)):=by
 have AC:=hide (eW p k wd w h);have FL:=hide (fun (W:World) (h:bQ p W k)=>pB p k W h);clear h;unfold av ik;generalize b_ p.L k wd=R at*
 cases R with
 |true=>
  go_enter Tryz.func100,Tryz.ntmps100;go_wp2_with fail;refine AC.o.mono ?_;rintro e w2 ⟨rfl,h2,hk⟩;go_wp2;go_end0;exact ⟨⟨_,rfl,rfl⟩,h2,hk⟩
 |false=>
  go_enter Tryz.func100,Tryz.ntmps100;go_wp2_with fail;refine AC.o.mono ?_;rintro e w2 ⟨rfl,h2,hk⟩;have FL2:=hide (FL.o w2 h2);have HK:=hide hk;clear h2 hk;go_wp2_with fail;refine FL2.o.mono ?_;rintro e w3 ⟨rfl,hb⟩;go_wp2;exact ⟨rfl,rfl,HK.o.trans (ah.of_below hb (aa _))⟩
theorem tN {L:List Lx} {k:Nat} (h:k<L.length) (q:Int):cW L k q=(decide (L[k].kind=q)&&(decide (q≠0)|| !decide (L[k].text∈eI))):=by
 unfold cW;rw [List.getElem?_eq_getElem h]
theorem EY {L:List Lx} {k:Nat} (h:L.length≤k) (q:Int):cW L k q=false:=by
 unfold cW;rw [List.getElem?_eq_none h]
theorem yG (p:PS) (k:Nat) (q:Int) (w:World) (h:bQ p w k):
 Calls Tryz.prog 142 #[.pointer (some ⟨p.b,0,none⟩),.int .i64 q] w fun e w'=>e=.returned (.bool (cW p.L k q))∧Below w.heap.size w w':=by
 obtain ⟨c0,c1,c2,c3,_⟩:=h.cells;have hle:=h.le;have hsm:=h.small;by_cases hk:k<p.L.length
 ·obtain ⟨bl,off,hA,hne,hz,l0,l1,l2⟩:=h.lex hk;have HV:=tN hk q
  have hk2:(k:Int)<(p.L.length:Int):=by omega
  have uQ:(0:Int)≤(k:Int):=by omega
  rw [hA] at c0;generalize p.L[k]=x at*;generalize cW p.L k q=R at*;generalize p.L.length=n at*;have RS:=hide (fun W:World=>nO x.text W);clear hle h;by_cases hq:x.kind=q
  ·have e1:(x.kind==q)=true:=beq_iff_eq.2 hq;by_cases h0:q=0
   ·subst h0;rw [decide_eq_true hq,Bool.true_and,decide_eq_false (by decide),Bool.false_or] at HV;have MA:=hide HV;clear HV;go_enter Tryz.func142,Tryz.ntmps142;go_wp2_with fail
    go_region_held3 (fun w'=>w'.cell? ⟨p.b,0,none⟩=some (.slice (some ⟨bl,off,none⟩) n p.cap)∧w'.cell? ⟨p.b,1,none⟩=some (.int .i64 (k:Int))∧w'.cell? ⟨bl,off+k*3,none⟩=some (.int .i64 x.kind)∧w'.cell? ⟨bl,off+k*3+1,none⟩=some (.string (ag x.text))) (go_keep) ((go_at_call 140;refine (RS.o w.drew).mono ?_;rintro e w5 ⟨rfl,mL⟩;have eG:Below w.heap.size w w5:=⟨mL.os,mL.tape,mL.output,mL.size,mL.block⟩;clear mL;have hs0:w5.cell? ⟨p.b,0,none⟩=some (.slice (some ⟨bl,off,none⟩) n p.cap):=(eG.cell (p:=⟨p.b,0,none⟩) (World.block_lt_of_cell? w _ c0)).trans c0;have hs1:w5.cell? ⟨p.b,1,none⟩=some (.int .i64 (k:Int)):=(eG.cell (p:=⟨p.b,1,none⟩) (World.block_lt_of_cell? w _ c1)).trans c1;have hs2:w5.cell? ⟨bl,off+k*3,none⟩=some (.int .i64 x.kind):=(eG.cell (p:=⟨bl,off+k*3,none⟩) (World.block_lt_of_cell? w _ l0)).trans l0;have hs3:w5.cell? ⟨bl,off+k*3+1,none⟩=some (.string (ag x.text)):=(eG.cell (p:=⟨bl,off+k*3+1,none⟩) (World.block_lt_of_cell? w _ l1)).trans l1;have mI:=hide eG;clear eG))
    go_wp2;go_ret;exact ⟨aT (by rw [MA.o]),mI.o⟩
   ·have e0:(q !=0)=true:=by rw [bne,aP.2 h0];rfl
    have MA:=hide (show R=true by rw [HV,decide_eq_true hq,decide_eq_true h0];rfl);clear HV;go_enter Tryz.func142,Tryz.ntmps142;go_wp2_with fail;go_quiet (fail);go_wp2;go_ret;exact ⟨aT MA.o,aX (af _ _) _⟩
  ·have e1:(x.kind==q)=false:=aP.2 hq;have MA:=hide (show R=false by rw [HV,decide_eq_false hq];rfl);clear HV;go_enter Tryz.func142,Tryz.ntmps142;go_wp2_with fail;go_quiet (fail);go_wp2;go_ret;exact ⟨aT MA.o,aX (af _ _) _⟩
 ·have HV:=hide (EY (L:=p.L) (by omega:p.L.length≤k) q)
  have hk1:¬(k:Int)<(p.L.length:Int):=by omega
  generalize p.L.length=n at*;clear hle h;go_enter Tryz.func142,Tryz.ntmps142;go_wp2_with fail;go_quiet (fail);go_wp2;go_ret;exact ⟨aT HV.o,aX (af _ _) _⟩
end Go.Proofs.YtddoehnkgcbboaaGreatDoor
