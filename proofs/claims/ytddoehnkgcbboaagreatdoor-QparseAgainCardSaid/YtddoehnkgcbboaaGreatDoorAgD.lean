/- A part of the proof that the last file tells. -/
import Derived.Test.YtddoehnkgcbboaaGreatDoorAgC
import Derived.Laws.IdiomStrings
import Derived.Laws.EntriesVeiled
set_option maxHeartbeats 16000000
set_option maxRecDepth 100000
set_option linter.unusedVariables false
set_option linter.unusedSimpArgs false
namespace Go.Proofs.YtddoehnkgcbboaaGreatDoor
open Go.RowKit Go.Shelf
def kr (x:Nat):UInt8:=if x % 2=1 then 49 else 48
theorem ie (n v:Nat):fK (n+1) v=fK n (v / 2)++[kr v]:=rfl
theorem gj:∀(n v:Nat),(fK n v).length=n
 |0,_=>rfl
 |n+1,v=>by rw [ie,aw,gj n];rfl
theorem rA:∀(n v:Nat),fK (n+1) v=kr (v / 2 ^ n)::fK n v
 |0,v=>by rw [ie];simp [fK]
 |n+1,v=>by
  rw [ie (n+1),rA n (v / 2),ie n v,Nat.div_div_eq_div_mul,Nat.pow_succ,Nat.mul_comm 2];rfl
theorem D8:∀(n v:Nat),fK n (v % 2 ^ n)=fK n v
 |0,v=>rfl
 |n+1,v=>by
  rw [ie,ie,Nat.pow_succ,show kr (v % (2 ^ n*2))=kr v by unfold kr;rw [Nat.mod_mul_left_mod],Nat.mul_comm,Nat.mod_mul_right_div_self,D8 n]
def jR (N k v c:Nat):List UInt8:=fK (N-k) (v / 2 ^ k)++fK k (10*v+c)
def gK (k v c:Nat):Nat:=(10*(v % 2 ^ k)+c) / 2 ^ k
theorem LD {N k:Nat} (v c:Nat) (h:k≤N):(jR N k v c).length=N:=by
 unfold jR;rw [aw,gj,gj];omega
theorem G1 (N v c:Nat):jR N 0 v c=fK N v:=by
 unfold jR;simp [fK]
theorem G8 (N v c:Nat):jR N N v c=fK N (10*v+c):=by
 unfold jR;rw [Nat.sub_self];rfl
theorem D9 (v c:Nat):gK 0 v c=c:=by unfold gK;simp [Nat.mod_one]
theorem AG (k v:Nat) {c:Nat} (hc:c≤9):gK k v c≤9:=by
 unfold gK;have h:=Nat.mod_lt v (Nat.two_pow_pos k)
 have:10*(v % 2 ^ k)+c<10*2 ^ k:=by omega
 have:=(Nat.div_lt_iff_lt_mul (Nat.two_pow_pos k)).2 this;omega
theorem rB (k v c:Nat):(10*v+c) / 2 ^ k=10*(v / 2 ^ k)+gK k v c:=by
 have h:=Nat.div_add_mod v (2 ^ k);unfold gK
 conv=>lhs;rw [←h]
 rw [show 10*(2 ^ k*(v / 2 ^ k)+v % 2 ^ k)+c=(10*(v % 2 ^ k)+c)+2 ^ k*(10*(v / 2 ^ k)) by rw [Nat.mul_add,←Nat.mul_assoc,Nat.mul_comm 10 (2 ^ k),Nat.mul_assoc];omega];rw [Nat.add_mul_div_left _ _ (Nat.two_pow_pos k)];omega
def zX (k v c:Nat):Nat:=10*(v / 2 ^ k % 2)+gK k v c
theorem O5 (k v c:Nat):kr ((10*v+c) / 2 ^ k)=kr (zX k v c):=by
 unfold kr zX;rw [rB]
 have:(10*(v / 2 ^ k)+gK k v c) % 2=(10*(v / 2 ^ k % 2)+gK k v c) % 2:=by omega
 rw [this]
theorem G9 (k v c:Nat):gK (k+1) v c=zX k v c / 2:=by
 have h1:=rB (k+1) v c;have h2:=rB k v c
 have h3:(10*v+c) / 2 ^ (k+1)=(10*v+c) / 2 ^ k / 2:=by rw [Nat.div_div_eq_div_mul,Nat.pow_succ]
 have h4:v / 2 ^ (k+1)=v / 2 ^ k / 2:=by rw [Nat.div_div_eq_div_mul,Nat.pow_succ]
 unfold zX;rw [h3,h2,h4] at h1;omega
theorem vJ {N k:Nat} (v c:Nat) (h:k<N):jR N k v c=fK (N-k-1) (v / 2 ^ (k+1))++kr (v / 2 ^ k)::fK k (10*v+c):=by
 unfold jR
 obtain ⟨m,hm⟩:∃m,N-k=m+1:=⟨N-k-1,by omega⟩
 rw [hm,ie,Nat.div_div_eq_div_mul,←Nat.pow_succ];simp
theorem G_ {N k:Nat} (v c:Nat) (h:k<N):jR N (k+1) v c=fK (N-k-1) (v / 2 ^ (k+1))++kr (zX k v c)::fK k (10*v+c):=by
 unfold jR;rw [rA,O5,show N-(k+1)=N-k-1 by omega]
theorem LG {N k:Nat} (v c:Nat) (h:k<N):(jR N k v c)[N-1-k]? =some (kr (v / 2 ^ k)):=by
 have hl:=gj (N-k-1) (v / 2 ^ (k+1));rw [vJ v c h,List.getElem?_append_right (by omega),hl,show N-1-k-(N-k-1)=0 by omega];rfl
theorem LH {N k:Nat} (v c:Nat) (h:k<N):(jR N k v c).set (N-1-k) (kr (zX k v c))=jR N (k+1) v c:=by
 have hl:=gj (N-k-1) (v / 2 ^ (k+1));rw [vJ v c h,G_ v c h,List.set_append_right _ _ (by omega),hl,show N-1-k-(N-k-1)=0 by omega];rfl
theorem AH:∀n,fK n 0=List.replicate n 48
 |0=>rfl
 |n+1=>by rw [ie,Nat.zero_div,AH n,List.replicate_succ'];rfl
theorem lY {P:Program} {t:TypeId} {z:Value} {s b:Nat} (h:(P.info? t).map (fun i=>(i.zero,i.size,i.bytes))=some (some z,s,b)):∃i,P.info? t=some i∧i.zero=some z∧i.size=s∧i.bytes=b:=by
 cases hi:P.info? t with
 |none=>rw [hi] at h;cases h
 |some i=>rw [hi] at h;simp at h;exact ⟨i,rfl,h.1,h.2.1,h.2.2⟩
theorem aap (z:Value) (hz:z.cells=#[z]) (n:Nat):madeCells z.cells n=(List.replicate n z).toArray:=by
 rw [hz];apply Array.ext
 ·simp [madeCells]
 ·intro i h1 h2;simp [madeCells,Nat.mod_one]
theorem jy:(Tryz.prog.info? 5).map (fun i=>(i.zero,i.size,i.bytes))=some (some (.int .u8 0),1,1):=by kernel_rfl
theorem xM (n:Nat) (hn:n≤1099511627776) (w:World):(Instr.makeSlice 75 (.int .i64 (n:Int)) (.int .i64 (n:Int))).run Tryz.prog w=
 .ok (.slice (some ⟨w.heap.size,0,none⟩) n n) (w.alloc (.cells (List.replicate n (Value.int .u8 0)).toArray 5)):=by
 obtain ⟨i,hi,hz,h1,h2⟩:=lY jy;have h:=run_make (P:=Tryz.prog) w 75 5 i _ Tryz.underlying75 hi hz .i64 .i64 (n:Int) (n:Int) (by omega) (Int.le_refl _) (by rw [h2];omega) (by omega);rw [h1,aap _ rfl,show (n:Int).toNat=n by omega,Nat.mul_one] at h;exact h
theorem uD (W:World) (l:List UInt8):∃W1 cap,(convert 9 75 (.string (ag l))).run Tryz.prog W=.ok (.slice (some ⟨W.heap.size,0,none⟩) l.length cap) W1∧Below W.heap.size W W1∧
 (∀i (h:i<l.length),W1.cell? ⟨W.heap.size,i,none⟩=some (.int .u8 (l[i].toNat:Int)))∧W1.heap.size=W.heap.size+1:=by
 have h:=run_bytes_of_string (P:=Tryz.prog) W 9 75 5 (ag l) Tryz.underlying9 Tryz.underlying75 Tryz.underlying5;rw [aO] at h;refine ⟨_,_,h,(af _ _).drew.alloc (aa _) _,fun i hi=>?_,by rw [aF];rfl⟩;have e:(World.alloc W.drew (.cells (bytesRow (ag l) (grownCap W l.length 0 5)) 5 ((bytesRow (ag l) (grownCap W l.length 0 5)).size,(bytesRow (ag l) (grownCap W l.length 0 5)).size+1))).heap[W.heap.size]? =some _:=World.alloc_heap_new W.drew _;rw [World.cell?,e];exact bytesRow_at (ag l) _ i (by show i<l.toArray.size;simpa using hi)
def u8V (c:UInt8):Value:=.int .u8 (c.toNat:Int)
def fc (w:World) (g:Nat) (l:List UInt8):Prop:=Row w g 5 (l.map u8V).toArray
theorem fc.cell {w:World} {g:Nat} {l:List UInt8} (h:fc w g l) (i:Nat) (hi:i<l.length):w.cell? ⟨g,i,none⟩=some (.int .u8 (l[i].toNat:Int)):=by
 rw [Row.cell h];simp [hi,u8V]
theorem fc.set {w:World} {g:Nat} {l:List UInt8} (h:fc w g l) (i:Nat) (c:UInt8):fc (w.setCell ⟨g,i,none⟩ (.int .u8 (c.toNat:Int))) g (l.set i c):=by
 have:=Row.bU h i (.int .u8 (c.toNat:Int));unfold fc;rwa [GF,show (l.map u8V).set i (.int .u8 (c.toNat:Int))=(l.set i c).map u8V by rw [List.map_set];rfl] at this
theorem fc.str {w:World} {g:Nat} {l:List UInt8} (h:fc w g l) (cap:Nat):(convert 75 9 (.slice (some ⟨g,0,none⟩) l.length cap)).run Tryz.prog w=.ok (.string (ag l)) w:=by
 refine run_convert_bytes_back _ _ _ 5 ⟨g,0,none⟩ cap l Tryz.underlying75 Tryz.underlying5 Tryz.underlying9 ?_;intro j hj;have:=h.cell j hj;rwa [show (⟨g,j,none⟩:Addr)=(⟨g,0,none⟩:Addr).add j by unfold Addr.add;simp] at this
def gV (w:World) (g:Nat) (l:List UInt8):Prop:=∀i (h:i<l.length),w.cell? ⟨g,i,none⟩=some (.int .u8 (l[i].toNat:Int))
theorem gV.far {w:World} {g:Nat} {l:List UInt8} (h:gV w g l) {b:Nat} (hb:g≠b) (o:Nat) (v:Value):gV (w.setCell ⟨b,o,none⟩ v) g l:=fun i hi=>
 (World.cell?_of_block (w:=w) (a:=⟨g,i,none⟩) (Below.heap_setCell w ⟨b,o,none⟩ v g hb)).trans (h i hi)
theorem gV.below {w w':World} {g B:Nat} {l:List UInt8} (h:gV w g l) (hb:Below B w w') (hg:g<B):gV w' g l:=fun i hi=>(hb.cell (p:=⟨g,i,none⟩) hg).trans (h i hi)
theorem D_ (n:Nat):48+(n:Int) % 2=((kr n).toNat:Int):=by
 unfold kr
 rcases Nat.mod_two_eq_zero_or_one n with h|h
 ·rw [if_neg (by omega)];show _=(48:Int);omega
 ·rw [if_pos h];show _=(49:Int);omega
theorem G' (N x d:Nat) (hx:x<2 ^ N):2 ^ N≤10*x+d↔gK N x d≠0:=by
 unfold gK;rw [Nat.mod_eq_of_lt hx];have hp:=Nat.two_pow_pos N;generalize 2 ^ N=M at*;constructor
 ·intro h;have:=Nat.div_le_div_right (c:=M) h;rw [Nat.div_self hp] at this;omega
 ·intro h
  rcases Nat.lt_or_ge (10*x+d) M with h2|h2
  ·exact absurd (Nat.div_eq_of_lt h2) h
  ·exact h2
theorem O6 (c:UInt8) (t:List UInt8) (x d:Nat) (hd:c.toNat=d+48) (hx:x<2 ^ 140):
 (gK 140 x d=0→10*x+d<2 ^ 140∧cO (c::t) x=cO t (10*x+d))∧(gK 140 x d≠0→cO (c::t) x=49::fK 140 (10*x+d)):=by
 have h:=G' 140 x d hx
 have e:cO (c::t) x=if 2 ^ 140≤10*x+(c.toNat-48) then 49::fK 140 ((10*x+(c.toNat-48)) % 2 ^ 140) else cO t (10*x+(c.toNat-48)):=rfl
 rw [hd,Nat.add_sub_cancel,D8] at e;refine ⟨fun hc=>?_,fun hc=>?_⟩
 ·have hn:¬2 ^ 140≤10*x+d:=fun h2=>(h.1 h2) hc;exact ⟨Nat.lt_of_not_le hn,by rw [e,if_neg hn]⟩
 ·rw [e,if_pos (h.2 hc)]
def xN (i:Nat):List UInt8:=List.replicate i 48++List.replicate (140-i) 0
theorem O7 {i:Nat} (h:i≤140):(xN i).length=140:=by unfold xN;simp;omega
theorem O8 {i:Nat} (h:i<140):(xN i).set i 48=xN (i+1):=by
 unfold xN;rw [List.set_append_right _ _ (by simp),show 140-i=(140-(i+1))+1 by omega,List.replicate_succ,List.length_replicate,Nat.sub_self,GG,List.replicate_succ',cT];rfl
theorem LJ:xN 140=fK 140 0:=by rw [AH];rfl
theorem uE (l:List UInt8) (w:World) (hl:l.length≤100000) (hd:∀c∈l,bg c=true):
 Calls Tryz.prog 192 #[.string (ag l)] w fun e w'=>e=.returned (.string (ag (cO l 0)))∧Below w.heap.size w w':=by
 have hmk:∀W:World,(Instr.makeSlice 75 (.int .i64 140) (.int .i64 140)).run Tryz.prog W=_:=xM 140 (by omega)
 obtain ⟨F,hF⟩:∃F,(List.replicate 140 (Value.int .u8 0)).toArray=F:=⟨_,rfl⟩
 rw [hF] at hmk;have HD:=hide hd;clear hd
 have hF0:F=((xN 0).map u8V).toArray:=by rw [←hF];unfold xN;simp [u8V]
 obtain ⟨R,hR⟩:∃R,ag (cO l 0)=R:=⟨_,rfl⟩
 have HR:=hide hR;rw [hR];clear hR hF;have HF:=hide hF0;clear hF0;go_enter Tryz.func192,Tryz.ntmps192;go_upto_region 3 with fail
 obtain ⟨W1,hW1⟩:∃W1,w.alloc (.cells F 5)=W1:=⟨_,rfl⟩
 rw [hW1]
 have B1:Below w.heap.size w W1:=by rw [←hW1];exact (af _ _).alloc (aa _) _
 have R1:fc W1 w.heap.size (xN 0):=by rw [←hW1];unfold fc;rw [←HF.o];exact Row.new _ _ _
 have dX:=hide B1;have jx:=hide R1;clear B1 R1 hW1 HF hmk
 obtain ⟨g,hg⟩:∃g,w.heap.size=g:=⟨_,rfl⟩
 rw [hg] at jx;have Hg:=hide hg;rw [hg];clear hg
 go_loopw [13] (fun v wr=>∃i:Nat,v=.int .i64 (i:Int)∧i≤140∧fc wr g (xN i)∧Below w.heap.size w wr) (fun v _=>140-(intOf v).toNat)
 case atStart=>exact ⟨0,rfl,by omega,jx.o,dX.o⟩
 case round=>
  obtain ⟨i,rfl,hi,hrow,hb⟩:=hrel;have Hb:=hide hb;have qF:=hide hrow;by_cases hlt:i<140
  ·have hi':(i:Int)<140:=by omega
   have hi0:(0:Int)≤(i:Int):=by omega
   have hwi:IntKind.i64.wrap ((i:Int)+1)=(i:Int)+1:=bI _ (by omega)
   obtain ⟨v,hc⟩:∃v,wr.cell? ⟨g,i,none⟩=some v:=⟨_,hrow.cell i (by rw [O7 hi];exact hlt)⟩
   have hf:wr.frozen? ⟨g,i,none⟩=false:=Row.frozen hrow i;have qG:=hide (show fc (wr.setCell ⟨g,i,none⟩ (.int .u8 48)) g (xN (i+1)) by have:=hrow.set i 48;rwa [O8 hlt] at this);have iM:=hide (hb.setCell (p:=⟨g,i,none⟩) (by rw [Hg.o];exact aa _) (.int .u8 48));clear hrow hb;go_wp2;go_roundw
   case rel=>exact ⟨i+1,by go_num,by omega,qG.o,iM.o⟩
   case measure=>simp [intOf];omega
  ·have hi':¬(i:Int)<140:=by omega
   obtain rfl:i=140:=by omega
   clear hrow hb;obtain ⟨W2,cap,hcv,hb2,htx,_⟩:=uD wr l;have hgl:g<wr.heap.size:=Row.lt qF.o;have qG:=hide (show fc W2 g (fK 140 0) by rw [←LJ];exact Row.below qF.o hb2 hgl);have iM:=hide (Hb.o.trans (hb2.mono Hb.o.size))
   obtain ⟨g2,hg2⟩:∃g2,wr.heap.size=g2:=⟨_,rfl⟩
   rw [hg2] at hcv htx hgl;have DI:=ae (gV W2 g2 l) htx;have hz:=aO l;generalize ag l=s at*;clear htx hb2 hg2 hi;go_wp2_with fail
   go_loopw [23] (fun v wr=>∃(i x:Nat),v=.int .i64 (i:Int)∧i≤l.length∧Hid (x<2 ^ 140)∧ag (cO (l.drop i) x)=R∧fc wr g (fK 140 x)∧gV wr g2 l∧Below w.heap.size w wr) (fun v _=>l.length-(intOf v).toNat)
   case atStart=>exact ⟨0,0,rfl,by omega,hide (Nat.two_pow_pos 140),HR.o,qG.o,DI.o,iM.o⟩
   case round=>
    obtain ⟨i,x,rfl,hi,Hx,hR,hrow,htx,hb⟩:=hrel;have Hb:=hide hb;have qF:=hide hrow;have Cg:=hide htx;have HR:=hide hR;clear hR;by_cases hlt:i<l.length
    ·have hi':(i:Int)<(l.length:Int):=by omega
     have hi0:(0:Int)≤(i:Int):=by omega
     have hwi:IntKind.i64.wrap ((i:Int)+1)=(i:Int)+1:=bI _ (by omega);have hdr:l.drop i=l[i]::l.drop (i+1):=cn hlt;have Dt:=HD.o _ (cI hlt)
     obtain ⟨c,hc⟩:∃c,l[i]=c:=⟨_,rfl⟩
     have hcell:=htx i hlt;rw [hc] at hdr Dt hcell;have hb2:48≤c.toNat∧c.toNat≤57:=of_decide_eq_true Dt
     obtain ⟨d,hd⟩:∃d,c.toNat=d+48:=⟨c.toNat-48,by omega⟩
     have hd9:d≤9:=by omega
     rw [hd] at hcell;have hcell:wr.cell? ⟨g2,i,none⟩=some (.int .u8 ((d:Int)+48)):=hcell
     have hw1:IntKind.u8.wrap (d:Int)=(d:Int):=by rw [IntKind.wrap_u8];omega
     have hw2:IntKind.i64.wrap (d:Int)=(d:Int):=bI _ (by omega);have Ue:=hide hdr;have HDd:=hide hd;clear hdr hc Dt hb2 hd hrow hb htx;have HP0:=hide (show fc wr g (jR 140 0 x d) by rw [G1];exact qF.o);have HD9:=hide hd9;have AJ:=hide (show g2≠g by omega);go_wp2_with fail
     go_loopw [7,8] (fun v7 v8 wq=>∃k m:Nat,k+m=140∧v7=.int .i64 (gK k x d:Int)∧v8=.int .i64 ((m:Int)-1)∧fc wq g (jR 140 k x d)∧gV wq g2 l∧Below w.heap.size w wq) (fun _ v _=>(intOf v+1).toNat)
     case atStart=>exact ⟨0,140,rfl,by rw [D9],by go_num,HP0.o,Cg.o,Hb.o⟩
     case round=>
      obtain ⟨k,m,hkm,rfl,rfl,hrow,htx,hb⟩:=hrel;have Hb:=hide hb;have qF:=hide hrow;have Cg:=hide htx
      cases m with
      |succ j=>
       have hjj:((j+1:Nat):Int)-1=(j:Int):=by omega
       rw [hjj]
       have Uf:(0:Int)≤(j:Int):=by omega
       have hj1:(j:Int)<140:=by omega
       have hwj:IntKind.i64.wrap ((j:Int)-1)=(j:Int)-1:=bI _ (by omega)
       have hjk:140-1-k=j:=by omega
       have hget:=LG (N:=140) x d (k:=k) (by omega);have Hc:=LH (N:=140) x d (k:=k) (by omega);rw [hjk] at hget Hc;have hlen:=LD (N:=140) (k:=k) x d (by omega);have hcj:=hrow.cell j (by omega)
       have XO:(jR 140 k x d)[j]'(by omega)=kr (x / 2 ^ k):=by rw [List.getElem?_eq_getElem (by omega)] at hget;exact au hget
       rw [XO] at hcj;have hf:wr.frozen? ⟨g,j,none⟩=false:=Row.frozen hrow j;have HS:=hide (fun (u:Int) (hu:u=((kr (zX k x d)).toNat:Int))=>show fc (wr.setCell ⟨g,j,none⟩ (.int .u8 u)) g (jR 140 (k+1) x d) by have:=hrow.set j (kr (zX k x d));rw [Hc] at this;rw [hu];exact this);have HK:=hide (G9 k x d);have hq:=AG k x HD9.o;have HSu:=ae (zX k x d=10*(x / 2 ^ k % 2)+gK k x d) rfl;generalize gK k x d=q at*;generalize zX k x d=n at*
       rcases Nat.mod_two_eq_zero_or_one (x / 2 ^ k) with hb2|hb2
       ·have hcv:wr.cell? ⟨g,j,none⟩=some (.int .u8 48):=by rw [hcj];unfold kr;rw [if_neg (by omega)];rfl
        have HN:=hide (show n=q by rw [HSu.o,hb2];omega);clear hb2 hcj XO hget Hc hlen hrow hb htx hjj;have hn:n=q:=HN.o;subst hn;have hwq:IntKind.i64.wrap (n:Int)=(n:Int):=bI _ (by omega);have HBn:=hide (D_ n);clear HSu HN;go_wp2;go_roundw
        case rel=>exact ⟨k+1,j,by omega,(by rw [HK.o];first|done|rfl),rfl,HS.o _ (HBn.o),Cg.o.far AJ.o _ _,Hb.o.setCell (p:=⟨g,j,none⟩) (by rw [Hg.o];exact aa _) _⟩
        case measure=>simp [intOf]
       ·have hcv:wr.cell? ⟨g,j,none⟩=some (.int .u8 49):=by rw [hcj];unfold kr;rw [if_pos (by omega)];rfl
        have HN:=hide (show n=10+q by rw [HSu.o,hb2]);clear hb2 hcj XO hget Hc hlen hrow hb htx hjj;have hn:n=10+q:=HN.o
        have hwq:IntKind.i64.wrap (10+(q:Int))=(n:Int):=by rw [hn];exact bI _ (by omega)
        have HBn:=hide (D_ n)
        have adt:(n:Int)≤19:=by omega
        clear HSu HN hn;go_wp2;go_roundw
        case rel=>exact ⟨k+1,j,by omega,(by rw [HK.o];first|done|rfl),rfl,HS.o _ (HBn.o),Cg.o.far AJ.o _ _,Hb.o.setCell (p:=⟨g,j,none⟩) (by rw [Hg.o];exact aa _) _⟩
        case measure=>simp [intOf]
      |zero=>
       obtain rfl:k=140:=by omega
       have hz0:((0:Nat):Int)-1=-1:=rfl;rw [hz0];have HF:=hide (G8 140 x d);have hq:=AG 140 x HD9.o;have XP:=hide (O6 c (l.drop (i+1)) x d HDd.o Hx.o);generalize gK 140 x d=q at*;clear hrow hb htx hkm;by_cases hq0:q=0
       ·have hqq:¬(0:Int)<(q:Int):=by omega
        have uq:=hide (show ag (cO (l.drop (i+1)) (10*x+d))=R by rw [←HR.o,Ue.o,(XP.o.1 hq0).2]);have Hh:=hide (XP.o.1 hq0).1;go_wp2;go_roundw
        case rel=>exact ⟨i+1,10*x+d,by go_num,by omega,Hh,uq.o,by rw [←HF.o];exact qF.o,Cg.o,Hb.o⟩
        case measure=>simp [intOf];omega
       ·have hqq:(0:Int)<(q:Int):=by omega
        have uq:=hide (show ag (49::fK 140 (10*x+d))=R by rw [←HR.o,Ue.o,XP.o.2 hq0])
        have hrow3:fc wr g (fK 140 (10*x+d)):=by rw [←HF.o];exact qF.o
        have AK:=gj 140 (10*x+d);generalize fK 140 (10*x+d)=X at*;have XQ:=hrow3.str 140;rw [AK] at XQ
        have y1:∀W:World,(Op.stringOp .add ⟨#[49]⟩ (ag X)).run Tryz.prog W=.ok (.string R) W:=fun W=>by
         rw [←uq.o];exact wK [49] X (by rw [AK];decide) W
        generalize ag X=S at*;clear uq hrow3 AK HF;go_wp2;go_ret;exact ⟨rfl,Hb.o⟩
    ·have hi':¬(i:Int)<(l.length:Int):=by omega
     have hrow3:=hrow;have AK:=gj 140 x
     have J1:ag (fK 140 x)=R:=by
      rw [←HR.o,dc (by omega)];unfold cO;rfl
     clear hrow;generalize fK 140 x=X at*;have XQ:=hrow3.str 140;rw [AK,J1] at XQ;clear J1 hrow3 AK qF hb htx Hx;go_wp2;go_ret;exact ⟨rfl,Hb.o⟩
end Go.Proofs.YtddoehnkgcbboaaGreatDoor
namespace Go.Proofs
open Go.Shelf
def Tryz.s9:Go.Shelf.Ren:=⟨fun|156=>213|167=>114|165=>242|166=>115|169=>46|240=>152|241=>262|276=>186|277=>275|n=>n,fun|31=>32|9=>9|3=>3|4=>4|0=>0|20=>20|72=>77|76=>140|70=>74|37=>75|75=>138|127=>109|164=>177|5=>5|80=>81|n=>n,fun|n=>n⟩
theorem Tryz.Ea:Go.Proofs.Lays.n167 Tryz.prog Tryz.s9:={
 mixed:=by kernel_rfl
 f167:=Tryz.func114.trans (congrArg some (by kernel_rfl))
 f240:=Tryz.func152.trans (congrArg some (by kernel_rfl))
 f276:=Tryz.func186.trans (congrArg some (by kernel_rfl))
 t0:=Tryz.underlying0
 a0:=Tryz.isAgg0
 z0:=Tryz.sizeOf0
 v0:=Tryz.zeroValue0
 t4:=Tryz.underlying4
 a4:=Tryz.isAgg4
 z4:=Tryz.sizeOf4
 v4:=Tryz.zeroValue4
 t5:=Tryz.underlying5
 a5:=Tryz.isAgg5
 z5:=Tryz.sizeOf5
 v5:=Tryz.zeroValue5
 t9:=Tryz.underlying9
 a9:=Tryz.isAgg9
 z9:=Tryz.sizeOf9
 v9:=Tryz.zeroValue9
 t20:=Tryz.underlying20
 a20:=Tryz.isAgg20
 z20:=Tryz.sizeOf20
 v20:=Tryz.zeroValue20
 t37:=Tryz.underlying75
 a37:=Tryz.isAgg75
 z37:=Tryz.sizeOf75
 v37:=Tryz.zeroValue75
 t70:=Tryz.underlying74
 a70:=Tryz.isAgg74
 z70:=Tryz.sizeOf74
 v70:=Tryz.zeroValue74
 t72:=Tryz.underlying77
 a72:=Tryz.isAgg77
 z72:=Tryz.sizeOf77
 v72:=Tryz.zeroValue77
 t75:=Tryz.underlying138
 a75:=Tryz.isAgg138
 z75:=Tryz.sizeOf138
 v75:=Tryz.zeroValue138
 t164:=Tryz.underlying177
 a164:=Tryz.isAgg177
 z164:=Tryz.sizeOf177
 v164:=Tryz.zeroValue177}
theorem Tryz.lg:Builder.Extra Tryz.prog Tryz.s9:={
 sizeBuilder:=by kernel_rfl
 liesBuilder:=by kernel_rfl
 t5:=Tryz.underlying5
 a5:=Tryz.isAgg5
 z5:=Tryz.sizeOf5
 v5:=Tryz.zeroValue5
 infoByte:=by kernel_rfl
 cellsByte:=by kernel_rfl
 sizeByte:=by kernel_rfl
 neB5:=by decide}
def Tryz.tj:Go.Shelf.Ren:=⟨fun|156=>213|167=>114|165=>242|166=>115|169=>46|240=>152|241=>262|276=>186|277=>275|n=>n,fun|31=>32|9=>9|3=>3|4=>4|0=>0|20=>20|72=>77|76=>140|70=>74|37=>75|75=>138|127=>109|164=>177|5=>5|80=>81|n=>n,fun|n=>n⟩
theorem Tryz.O9:Go.Proofs.Lays.n169 Tryz.prog Tryz.tj:={
 mixed:=by kernel_rfl
 f169:=Tryz.func46.trans (congrArg some (by kernel_rfl))
 t0:=Tryz.underlying0
 a0:=Tryz.isAgg0
 z0:=Tryz.sizeOf0
 v0:=Tryz.zeroValue0
 t3:=Tryz.underlying3
 a3:=Tryz.isAgg3
 z3:=Tryz.sizeOf3
 v3:=Tryz.zeroValue3
 t9:=Tryz.underlying9
 a9:=Tryz.isAgg9
 z9:=Tryz.sizeOf9
 v9:=Tryz.zeroValue9
 t37:=Tryz.underlying75
 a37:=Tryz.isAgg75
 z37:=Tryz.sizeOf75
 v37:=Tryz.zeroValue75
 t70:=Tryz.underlying74
 a70:=Tryz.isAgg74
 z70:=Tryz.sizeOf74
 v70:=Tryz.zeroValue74
 t72:=Tryz.underlying77
 a72:=Tryz.isAgg77
 z72:=Tryz.sizeOf77
 v72:=Tryz.zeroValue77
 t127:=Tryz.underlying109
 a127:=Tryz.isAgg109
 z127:=Tryz.sizeOf109
 v127:=Tryz.zeroValue109}
theorem Tryz.rC:Builder.Extra Tryz.prog Tryz.tj:={
 sizeBuilder:=by kernel_rfl
 liesBuilder:=by kernel_rfl
 t5:=Tryz.underlying5
 a5:=Tryz.isAgg5
 z5:=Tryz.sizeOf5
 v5:=Tryz.zeroValue5
 infoByte:=by kernel_rfl
 cellsByte:=by kernel_rfl
 sizeByte:=by kernel_rfl
 neB5:=by decide}
open Go.RowKit in
theorem Tryz.Builder_String_any (B b:Nat) (l:List UInt8) (w:World) (h:Lib.IsBuilder 77 5 B b (Lib.byteCells l) w) (hBw:B≤w.heap.size):
 Calls Tryz.prog 46 #[.pointer (some ⟨b,0,none⟩)] w fun e w'=>e=.returned (.string ⟨l.toArray⟩)∧Below B w w':=Any.Builder_String_any Tryz.O9 Tryz.rC B b l w h hBw
end Go.Proofs
namespace Go.Proofs.YtddoehnkgcbboaaGreatDoor
open Go.RowKit Go.Shelf
def BX (w:World) (b B:Nat) (l:List UInt8):Prop:=
 b<B∧B≤w.heap.size∧∃p v,w.heap[b]? =some (.cells #[p,v] 77 (0,0))∧(p=.pointer none∨p=.pointer (some ⟨b,0,none⟩))∧w.ownsRow B 5 1 v l.length (Lib.byteCells l)
def nB (b B:Nat) (w w':World):Prop:=Below b w w'∧(∀k,k<B→k≠b→w'.heap[k]? =w.heap[k]?)∧∀k,k<w.heap.size→k≠b→(∀cs t,w.heap[k]? ≠some (.cells cs t (0,0)))→w'.heap[k]? =w.heap[k]?
theorem nB.refl (b B:Nat) (w:World):nB b B w w:=⟨af _ _,fun _ _ _=>rfl,fun _ _ _ _=>rfl⟩
theorem nB.trans {b B:Nat} {a c d:World} (h:nB b B a c) (k:nB b B c d):nB b B a d:=⟨h.1.trans k.1,fun i h1 h2=>(k.2.1 i h1 h2).trans (h.2.1 i h1 h2),fun i h1 h2 h3=>by
 have e:=h.2.2 i h1 h2 h3
 exact (k.2.2 i (cJ h1 h.1.size) h2 (by rw [e];exact h3)).trans e⟩
theorem AO {w:World} {B:Nat} {e:TypeId} {v:Value} {n:Nat} {xs:List Value} (hown:w.ownsRow B e 1 v n xs) {k:Nat} (hk:∀cs t,w.heap[k]? ≠some (.cells cs t (0,0))):some k≠v.ownBlock:=by
 intro e;obtain ⟨_,h6|⟨g,cap,cur,rfl,hg,h7,_⟩⟩:=hown
 ·rw [h6.1] at e;cases e
 ·have:k=g:=by simpa [Value.ownBlock] using e
  subst this;exact hk _ _ h7
def xO (w:World) (g:Nat) (l:List UInt8):Prop:=g<w.heap.size∧(∀cs t,w.heap[g]? ≠some (.cells cs t (0,0)))∧gV w g l
theorem xO.below {w w':World} {g B:Nat} {l:List UInt8} (h:xO w g l) (hb:Below B w w') (hg:g<B):xO w' g l:=
 ⟨cJ h.1 hb.size,by rw [hb.block g hg];exact h.2.1,h.2.2.below hb hg⟩
theorem nB.o_ {b B:Nat} {w w':World} (h:nB b B w w') {g:Nat} {l:List UInt8} (ht:xO w g l) (hgb:g≠b):xO w' g l:=by
 have e:=h.2.2 g ht.1 hgb ht.2.1;exact ⟨cJ ht.1 h.1.size,by rw [e];exact ht.2.1,fun i hi=>(World.cell?_of_block (w:=w) (a:=⟨g,i,none⟩) e).trans (ht.2.2 i hi)⟩
theorem nB.text {b B:Nat} {w w':World} (h:nB b B w w') {g:Nat} {l:List UInt8} (ht:gV w g l) (hg:g<B) (hgb:g≠b):gV w' g l:=fun i hi=>
 (World.cell?_of_block (w:=w) (a:=⟨g,i,none⟩) (h.2.1 g hg hgb)).trans (ht i hi)
theorem BX.fresh {w:World} {b B:Nat} (hb:w.heap[b]? =some (.cells #[.pointer none,.slice none 0 0] 77 (0,0))) (h1:b<B) (h2:B≤w.heap.size):BX w b B []:=
 ⟨h1,h2,_,_,hb,.inl rfl,rfl,.inl ⟨rfl,rfl⟩⟩
theorem BX.below {w w':World} {b B:Nat} {l:List UInt8} (h:BX w b B l) (hb:Below w.heap.size w w'):BX w' b B l:=by
 obtain ⟨h1,h2,p,v,h3,h4,h5⟩:=h;exact ⟨h1,br h2 hb.size,p,v,(hb.block b (by omega)).trans h3,h4,iC h5 hb⟩
theorem aaq (b:Nat) (p v:Value) (w:World) (hb:w.heap[b]? =some (.cells #[p,v] 77 (0,0))) (hp:p=.pointer none∨p=.pointer (some ⟨b,0,none⟩)):
 Calls Tryz.prog 152 #[.pointer (some ⟨b,0,none⟩)] w fun e w'=>e=.returned (.tuple #[])∧w'.heap[b]? =some (.cells #[.pointer (some ⟨b,0,none⟩),v] 77 (0,0))∧∃q,w'=w∨w'=w.setCell ⟨b,0,none⟩ q:=by
 rcases hp with rfl|rfl
 ·refine (Any.Builder_copyCheck_fresh {Tryz.Ea with} Tryz.lg.toX72 b w (by rw [Lib.cell_of_heap hb];rfl) (by simp [World.shape?,hb];rfl) (Lib.frozen_of_heap hb 0)).mono ?_;rintro e w' ⟨rfl,rfl⟩;exact ⟨rfl,by simp [World.setCell,Array.getElem?_modify,hb],_,.inr rfl⟩
 ·refine (Any.Builder_copyCheck_used {Tryz.Ea with} Tryz.lg.toX72 b w (by rw [Lib.cell_of_heap hb];rfl)).mono ?_;rintro e w' ⟨rfl,rfl⟩;exact ⟨rfl,hb,.pointer none,.inl rfl⟩
theorem Wp (b B:Nat) (l:List UInt8) (w:World) (h:BX w b B l):
 Calls Tryz.prog 152 #[.pointer (some ⟨b,0,none⟩)] w fun e w'=>e=.returned (.tuple #[])∧B≤w'.heap.size∧nB b B w w'∧∃v,w'.heap[b]? =some (.cells #[.pointer (some ⟨b,0,none⟩),v] 77 (0,0))∧w'.ownsRow B 5 1 v l.length (Lib.byteCells l):=by
 obtain ⟨h1,h2,p,v,h3,h4,h5⟩:=h;refine (aaq b p v w h3 h4).mono ?_;rintro e w' ⟨rfl,hb,q,rfl|rfl⟩
 ·exact ⟨rfl,h2,nB.refl _ _ _,v,hb,h5⟩
 ·refine ⟨rfl,by simpa [World.setCell] using h2,⟨(af _ _).setCell (p:=⟨b,0,none⟩) (aa _) _,fun k _ hk=>Below.heap_setCell _ _ _ _ hk,fun k _ hk _=>Below.heap_setCell _ _ _ _ hk⟩,v,hb,?_⟩;refine World.ownsRow.kept (row:=some b) h5 ⟨rfl,rfl,rfl,by simp [World.setCell],fun k _ hk=>Below.heap_setCell _ _ _ _ (fun e=>hk (by simp [e]))⟩ (.inr ?_);intro e;obtain ⟨_,h6|⟨g,cap,cur,rfl,hg,_⟩⟩:=h5
  ·rw [h6.1] at e;cases e
  ·have:g=b:=by simpa [Value.ownBlock] using e
   omega
theorem BX.put {w:World} {b B:Nat} {p v v':Value} {l':List UInt8} (h1:b<B) (h2:B≤w.heap.size) (hb:w.heap[b]? =some (.cells #[p,v] 77 (0,0))) (hp:p=.pointer none∨p=.pointer (some ⟨b,0,none⟩))
 (hown:w.ownsRow B 5 1 v' l'.length (Lib.byteCells l')):BX (w.setCell ⟨b,1,none⟩ v') b B l':=by
 refine ⟨h1,by simpa [World.setCell] using h2,p,v',by simp [World.setCell,Array.getElem?_modify,hb],hp,?_⟩;refine World.ownsRow.kept (row:=some b) hown ⟨rfl,rfl,rfl,by simp [World.setCell],fun k _ hk=>Below.heap_setCell _ _ _ _ (fun e=>hk (by simp [e]))⟩ (.inr ?_);intro e;obtain ⟨_,h6|⟨g,cap,cur,rfl,hg,_⟩⟩:=hown
 ·rw [h6.1] at e;cases e
 ·have:g=b:=by simpa [Value.ownBlock] using e
  omega
theorem Ch {w:World} {b B:Nat} {v:Value} {n:Nat} {xs:List Value} (hown:w.ownsRow B 5 1 v n xs) {k:Nat} (hk:k<B):some k≠v.ownBlock:=by
 intro e;obtain ⟨_,h6|⟨g,cap,cur,rfl,hg,_⟩⟩:=hown
 ·rw [h6.1] at e;cases e
 ·have:k=g:=by simpa [Value.ownBlock] using e
  omega
theorem gW (l:List UInt8) (c:UInt8):Lib.byteCells l++[.int .u8 (c.toNat:Int)]=Lib.byteCells (l++[c]):=by unfold Lib.byteCells;simp
theorem zY (l m:List UInt8):Lib.byteCells l++Lib.strCells (ag m)=Lib.byteCells (l++m):=by unfold Lib.byteCells Lib.strCells;rw [dD];simp
theorem xP (b B:Nat) (l:List UInt8) (c:UInt8) (w:World) (h:BX w b B l) (hlen:l.length+1≤1000000000):
 Calls Tryz.prog 114 #[.pointer (some ⟨b,0,none⟩),.int .u8 (c.toNat:Int)] w fun e w'=>e=.returned .nilIface∧BX w' b B (l++[c])∧nB b B w w':=by
 obtain ⟨i0,hi,hz0,hz1,hz2⟩:=lY jy;have C:=hide (Wp b B l w h);have hbB:=h.1;clear h;go_enter Tryz.func114,Tryz.ntmps114;go_wp2_with fail;refine C.o.mono ?_;rintro e w1 ⟨rfl,hBs,cu,v,hbk,hown⟩
 have c1:w1.cell? ⟨b,1,none⟩=some v:=by rw [Lib.cell_of_heap hbk];rfl
 have hlt:b<w1.heap.size:=by omega
 go_wp2_with (at_builtin;refine wpList_append_own _ rfl _ _ 75 rfl B 5 i0 (.int .u8 0) 1 1 Tryz.underlying75 hi hz0 hz1 hz2 rfl (by decide) _ _ _ rfl (hown.alloc _) ⟨w1.heap.size,0,none⟩ 1 1 [.int .u8 (c.toNat:Int)] rfl rfl ?c1 ?c2 ?c3 ?c4 ?c5 ?_)
 case c1=>
  intro j u hj
  match j,hj with
  |0,hj=>simp at hj;subst hj;simp [Addr.add]
 case c2=>intro u hu;simp at hu;subst hu;rfl
 case c3=>unfold maxLen;omega
 case c4=>omega
 case c5=>simp;omega
 intro v' w2 hown' hgrow _
 have hk2:∀k,k<B→w2.heap[k]? =w1.heap[k]? :=fun k hk=>by
  rw [hgrow.block k (by simp;omega) (Ch (b:=b) hown hk),Lib.alloc_old w1 _ k (by omega)]
 have hb2:=(hk2 b hbB).trans hbk
 have d1:w2.cell? ⟨b,1,none⟩=some v:=by rw [Lib.cell_of_heap hb2];rfl
 have f1:w2.frozen? ⟨b,1,none⟩=false:=Lib.frozen_of_heap hb2 1
 obtain ⟨g,cap,rfl⟩:∃g cap,v'=.slice (some ⟨g,0,none⟩) (l.length+1) cap:=by
  rcases hown'.2 with ⟨_,h0⟩|⟨g,cap,cur,hv,_⟩
  ·omega
  ·exact ⟨g,cap,hv⟩
 have hsz:w1.heap.size≤w2.heap.size:=by have:=hgrow.size;simp at this;omega
 have HF:=ae (nB b B w w2) (cu.trans ⟨((af w1.heap.size w1).alloc (aa _) _|>.mono (by omega)).grown hgrow (by simp;omega) (fun k hk=>by have:=(hown.lt k hk).1;omega),fun k hk _=>hk2 k hk,fun k hk _ hm=>by rw [hgrow.block k (by simp;omega) (AO hown hm),Lib.alloc_old w1 _ k hk]⟩);have HO:=ae (BX (w2.setCell ⟨b,1,none⟩ (.slice (some ⟨g,0,none⟩) (l.length+1) cap)) b B (l++[c])) (BX.put hbB (by omega) hb2 (.inr rfl) (by rw [gW] at hown';simpa using hown'));clear hown hown' hgrow hk2 hb2 hbk cu;go_wp2;go_ret;exact ⟨rfl,HO.o,HF.o.trans ⟨(af _ _).setCell (p:=⟨b,1,none⟩) (aa _) _,fun k _ hk=>Below.heap_setCell _ _ _ _ hk,fun k _ hk _=>Below.heap_setCell _ _ _ _ hk⟩⟩
theorem tq (b B:Nat) (l m:List UInt8) (w:World) (h:BX w b B l) (hlen:l.length+m.length≤1000000000):
 Calls Tryz.prog 115 #[.pointer (some ⟨b,0,none⟩),.string (ag m)] w fun e w'=>(∃v,e=.returned v)∧BX w' b B (l++m)∧nB b B w w':=by
 obtain ⟨i0,hi,hz0,hz1,hz2⟩:=lY jy;have C:=hide (Wp b B l w h);have hbB:=h.1;have HX:=hide (zY l m);have hsm:=aO m;generalize ag m=s at*;clear h;go_enter Tryz.func115,Tryz.ntmps115;go_wp2_with fail;refine C.o.mono ?_;rintro e w1 ⟨rfl,hBs,cu,v,hbk,hown⟩
 have c1:w1.cell? ⟨b,1,none⟩=some v:=by rw [Lib.cell_of_heap hbk];rfl
 have hlt:b<w1.heap.size:=by omega
 go_wp2_with (at_builtin;refine Lib.wpList_append_own_string _ rfl _ _ 75 9 rfl B 5 i0 Tryz.underlying75 Tryz.underlying9 hi hz0 hz1 hz2 _ _ _ rfl hown s rfl ?c3 ?c4 ?c5 ?_)
 case c3=>unfold maxLen;omega
 case c4=>omega
 case c5=>omega
 intro v' w2 hown' hgrow _;have hk2:∀k,k<B→w2.heap[k]? =w1.heap[k]? :=fun k hk=>hgrow.block k (by omega) (Ch (b:=b) hown hk);have hb2:=(hk2 b hbB).trans hbk
 have d1:w2.cell? ⟨b,1,none⟩=some v:=by rw [Lib.cell_of_heap hb2];rfl
 have f1:w2.frozen? ⟨b,1,none⟩=false:=Lib.frozen_of_heap hb2 1
 obtain ⟨ao,n',cap,rfl⟩:∃ao n' cap,v'=.slice ao n' cap:=by
  rcases hown'.2 with ⟨hv,_⟩|⟨g,cap,cur,hv,_⟩
  ·exact ⟨_,_,_,hv⟩
  ·exact ⟨_,_,_,hv⟩
 have hsz:w1.heap.size≤w2.heap.size:=hgrow.size;have HF:=ae (nB b B w w2) (cu.trans ⟨((af w1.heap.size w1).mono (by omega)).grown hgrow (by omega) (fun k hk=>by have:=(hown.lt k hk).1;omega),fun k hk _=>hk2 k hk,fun k hk _ hm=>hgrow.block k hk (AO hown hm)⟩);have HO:=ae (BX (w2.setCell ⟨b,1,none⟩ (.slice ao n' cap)) b B (l++m)) (BX.put hbB (by omega) hb2 (.inr rfl) (by rw [HX.o] at hown';rw [aw];exact hown'));clear hown hown' hgrow hk2 hb2 hbk cu;go_wp2
 go_ret2
 exact ⟨⟨_,rfl⟩,HO.o,HF.o.trans ⟨(af _ _).setCell (p:=⟨b,1,none⟩) (aa _) _,fun k _ hk=>Below.heap_setCell _ _ _ _ hk,fun k _ hk _=>Below.heap_setCell _ _ _ _ hk⟩⟩
theorem J2 (b B:Nat) (l:List UInt8) (w:World) (h:BX w b B l):
 Calls Tryz.prog 46 #[.pointer (some ⟨b,0,none⟩)] w fun e w'=>e=.returned (.string (ag l))∧Below b w w':=by
 obtain ⟨h1,h2,p,v,h3,h4,h5⟩:=h;have hne:v.ownBlock≠some b:=fun e=>Ch (b:=b) h5 h1 e.symm;refine Tryz.Builder_String_any b b l w ?_ (by omega)
 rcases h4 with rfl|rfl
 ·exact .inl ⟨aa _,v,h3,by rw [Lib.byteCells_length];exact sL h5 (by omega),hne⟩
 ·exact .inr ⟨aa _,v,h3,by rw [Lib.byteCells_length];exact sL h5 (by omega),hne⟩
theorem nC (k:Nat) {c:UInt8} (t:List UInt8) (h:fE c≠0):gT k (c::t)=List.replicate k (fE c)++gT k t:=by
 unfold gT;rw [List.flatMap_cons,if_pos h]
theorem qd (k:Nat) {c:UInt8} (t:List UInt8) (h:fE c=0):gT k (c::t)=fK k (dK c).toNat++gT k t:=by
 unfold gT;rw [List.flatMap_cons,if_neg (fun e=>e h)]
theorem nD (k:Nat):∀l:List UInt8,(gT k l).length=k*l.length
 |[]=>rfl
 |c::t=>by
  by_cases h:fE c=0
  ·rw [qd k t h,aw,gj,nD k t,aj,Nat.mul_succ];omega
  ·rw [nC k t h,aw,List.length_replicate,nD k t,aj,Nat.mul_succ];omega
theorem Ug (x j:Nat) (h:x≤15):wrap64 (48+bits .and .i64 ((x:Int) / 2 ^ j) 1) % 256=((kr (x / 2 ^ j)).toNat:Int):=by
 have e:(x:Int) / 2 ^ j=((x / 2 ^ j:Nat):Int):=by simp
 rw [e];have hle:x / 2 ^ j<16:=Nat.lt_of_le_of_lt (Nat.div_le_self _ _) (by omega)
 have h2:∀y:Fin 16,wrap64 (48+bits .and .i64 (y.val:Int) 1) % 256=((kr y.val).toNat:Int):=by decide+kernel
 exact h2 ⟨_,hle⟩
theorem Ci (l:List UInt8) (k:Nat) (w:World) (hl:l.length≤100000) (hk:k≤4) (hd:∀c∈l,fE c≠0∨0≤dK c):
 Calls Tryz.prog 193 #[.string (ag l),.int .i64 (k:Int)] w fun e w'=>e=.returned (.string (ag (gT k l)))∧Below w.heap.size w w':=by
 have HD:=hide hd;clear hd
 obtain ⟨RL,Uh⟩:∃R,gT k l=R:=⟨_,rfl⟩
 have aar:RL.length≤400000:=by rw [←Uh,nD];have:=Nat.mul_le_mul hk hl;omega
 have HR:=hide Uh;rw [Uh];clear Uh;go_enter Tryz.func193,Tryz.ntmps193;go_upto_region 2 with fail
 obtain ⟨W1,hW1⟩:∃W1,w.alloc (.cells #[.pointer none,.slice none 0 0] 77)=W1:=⟨_,rfl⟩
 rw [hW1];obtain ⟨W2,cap,hcv,hb2,htx,hs2⟩:=uD W1 l
 obtain ⟨b,hb⟩:∃b,w.heap.size=b:=⟨_,rfl⟩
 have hs1:W1.heap.size=b+1:=by rw [←hW1,←hb];simp
 have hk1:W1.heap[b]? =some (.cells #[.pointer none,.slice none 0 0] 77 (0,0)):=by rw [←hW1,←hb];exact World.alloc_heap_new _ _
 rw [hs1] at hs2 htx hcv;have HT:=ae (gV W2 (b+1) l) htx;have HX:=ae (BX W2 b (b+2) []) (BX.fresh ((hb2.block b (by omega)).trans hk1) (by omega) (by omega));have HB:=ae (Below w.heap.size w W2) (((show Below w.heap.size w W1 by rw [←hW1];exact (af _ _).alloc (aa _) _)).trans (hb2.mono (by omega)));have Hb:=hide (show w.heap.size≤b by omega);have hz:=aO l;rw [hb];generalize ag l=s at*;clear htx hk1 hs1 hs2 hb2 hW1 hb;go_wp2_with fail
 go_loopw [13] (fun v wr=>∃(i:Nat) (P:List UInt8),v=.int .i64 (i:Int)∧i≤l.length∧P++gT k (l.drop i)=RL∧BX wr b (b+2) P∧gV wr (b+1) l∧Below w.heap.size w wr) (fun v _=>l.length-(intOf v).toNat)
 case atStart=>exact ⟨0,[],rfl,by omega,HR.o,HX.o,HT.o,HB.o⟩
 case round=>
  obtain ⟨i,P,rfl,hi,hP,hx,htx,hb⟩:=hrel;have HX:=hide hx;have lK:=hide hb;have Cg:=hide htx;have HP:=hide hP;clear hP hx hb;by_cases hlt:i<l.length
  ·have hi':(i:Int)<(l.length:Int):=by omega
   have hi0:(0:Int)≤(i:Int):=by omega
   have hwi:IntKind.i64.wrap ((i:Int)+1)=(i:Int)+1:=bI _ (by omega);have hdr:l.drop i=l[i]::l.drop (i+1):=cn hlt;have Dt:=HD.o _ (cI hlt)
   obtain ⟨c,hc⟩:∃c,l[i]=c:=⟨_,rfl⟩
   have hcell:wr.cell? ⟨b+1,i,none⟩=some (.int .u8 (l[i].toNat:Int)):=htx i hlt;rw [hc] at hdr Dt hcell;have Ue:=hide hdr;have U:=hide (sO c);have J3:=hide (show P.length≤400000 by have:=congrArg List.length HP.o;rw [aw] at this;omega);clear hdr hc htx;by_cases hu:fE c=0
   ·have hh:0≤dK c:=Dt.resolve_left (fun h=>h hu);have hh2:=(ry c).2;have H:=hide (xA c)
    obtain ⟨x,hx⟩:∃x:Nat,dK c=x:=⟨(dK c).toNat,by omega⟩
    have XR:=qd k (l.drop (i+1)) hu;rw [←Ue.o,hx,Int.toNat_natCast] at XR;rw [hx] at H hh2;have HHS:=hide XR;rw [hu] at U;clear hu hh Dt hx XR;have U:=hide (fun W:World=>(show Calls Tryz.prog 190 #[.int .u8 (c.toNat:Int)] W fun e w'=>e=.returned (.int .u8 0)∧w'=W from U.o W));have hwk:IntKind.i64.wrap ((k:Int)-1)=(k:Int)-1:=bI _ (by omega);go_wp2_with fail;refine (U.o _).mono ?_;rintro e wx ⟨rfl,rfl⟩;go_wp2_with fail
    go_loopw [9] (fun v wr=>∃(m:Nat) (P2:List UInt8),v=.int .i64 ((m:Int)-1)∧m≤k∧P2++fK m x=P++fK k x∧BX wr b (b+2) P2∧gV wr (b+1) l∧Below w.heap.size w wr) (fun v _=>(intOf v+1).toNat)
    case atStart=>exact ⟨k,P,rfl,aa _,rfl,HX.o,Cg.o,lK.o⟩
    case round=>
     obtain ⟨m,P2,rfl,hm,hP2,hx,htx,hb⟩:=hrel;have HX:=hide hx;have lK:=hide hb;have Cg:=hide htx;have O_:=hide hP2;clear hP2 hx hb htx
     cases m with
     |succ j=>
      have hjj:((j+1:Nat):Int)-1=(j:Int):=by omega
      rw [hjj]
      have Uf:(0:Int)≤(j:Int):=by omega
      have hwj:IntKind.i64.wrap ((j:Int)-1)=(j:Int)-1:=bI _ (by omega);go_wp2_with fail;refine (H.o _).mono ?_;rintro e wy ⟨rfl,rfl⟩;go_wp2_with fail;have W:=hide (xP b (b+2) P2 (kr (x / 2 ^ j)) wy HX.o (by have:=congrArg List.length O_.o;rw [aw,aw,gj,gj] at this;have:=J3.o;omega));rw [←Ug x j (by omega)] at W;refine W.o.mono ?_;rintro e wz ⟨rfl,hx,cu⟩;have Hh:=hide hx;have uF:=hide (cu.text Cg.o (by omega) (by omega));have vK:=hide (lK.o.trans (cu.1.mono Hb.o));have LL:=hide (show (P2++[kr (x / 2 ^ j)])++fK j x=P++fK k x by rw [←O_.o,rA,cT];rfl);clear hx cu;go_wp2;go_roundw
      case rel=>exact ⟨j,_,rfl,by omega,LL.o,Hh.o,uF.o,vK.o⟩
      case measure=>simp [intOf]
     |zero=>
      have hz0:((0:Nat):Int)-1=-1:=rfl;rw [hz0];have LL:=hide (show P2++gT k (l.drop (i+1))=RL by rw [←HP.o,HHS.o,←cT,←O_.o];unfold fK;rw [dH]);go_wp2;go_roundw
      case rel=>exact ⟨i+1,P2,by go_num,by omega,LL.o,HX.o,Cg.o,lK.o⟩
      case measure=>simp [intOf];omega
   ·have XR:=nC k (l.drop (i+1)) hu;rw [←Ue.o] at XR;have HHS:=hide XR;have hu2:((fE c).toNat:Int)≠0:=fun e=>hu (UInt8.toNat_inj.1 (by show (fE c).toNat=0;omega));have R:=hide (fun W:World=>mg (fE c) k W (by omega));rw [show ((k:Int)).toNat=k from rfl] at R;generalize hU:fE c=u at*;have e1:((u.toNat:Int)==0)=false:=aP.2 hu2
    have e2:((u.toNat:Int) !=0)=true:=by rw [bne,e1];rfl
    clear XR hu hU Dt hu2;go_wp2_with fail;refine (U.o _).mono ?_;rintro e wx ⟨rfl,rfl⟩;go_wp2_with fail;refine (R.o _).mono ?_;rintro e wy ⟨rfl,hb3⟩;have W:=hide (tq b (b+2) P (List.replicate k u) wy (HX.o.below hb3) (by rw [List.length_replicate];have:=J3.o;omega));have ab_:=hide (Cg.o.below hb3 (by have:=HX.o.2.1;omega));have vK:=hide (lK.o.trans (hb3.mono lK.o.size));clear hb3;go_wp2_with fail;refine W.o.mono ?_;rintro e wz ⟨⟨vv,rfl⟩,hx,cu⟩;have Hh:=hide hx;have uF:=hide (cu.text ab_.o (by omega) (by omega));have Ui:=hide (vK.o.trans (cu.1.mono Hb.o));have LL:=hide (show (P++List.replicate k u)++gT k (l.drop (i+1))=RL by rw [←HP.o,HHS.o,cT]);clear hx cu;go_wp2;go_roundw
    case rel=>exact ⟨i+1,_,by go_num,by omega,LL.o,Hh.o,uF.o,Ui.o⟩
    case measure=>simp [intOf];omega
  ·have hi':¬(i:Int)<(l.length:Int):=by omega
   have hPR:P=RL:=by rw [←HP.o,dc (by omega)];show P=P++[];rw [dH]
   have S:=hide (J2 b (b+2) P wr HX.o);rw [hPR] at S;clear hPR htx;go_wp2_with fail;refine S.o.mono ?_;rintro e wz ⟨rfl,hb3⟩;go_wp2;go_ret;exact ⟨rfl,lK.o.trans (hb3.mono Hb.o)⟩
def xQ (w:Nat) (u:UInt8) (out:List UInt8):List UInt8×Int:=
 if out.length<w then (List.replicate (w-out.length) (if u≠0 then u else 48)++out,0)
 else if (out.take (out.length-w)).all (·==48) then (out.drop (out.length-w),0) else ([],8)
def tu (b:UInt8) (ds:List UInt8):List UInt8:=if b=100 then cO ds 0 else gT ((fJ b).getD 0) ds
def qK (d:List UInt8) (b:UInt8) (ds:List UInt8):List UInt8×Int:=
 if b=100∧¬(ds.length=1∧fE (ds.headD 0)≠0)∧bf bg ds<ds.length then ([],3) else
 if gJ d<1∨128<gJ d then ([],8) else
 if b=100∧ds.length=1∧fE (ds.headD 0)≠0 then (List.replicate (gJ d) (fE (ds.headD 0)),0) else
 xQ (gJ d) (fE (ds.headD 0)) (tu b ds)
theorem xR {l:List UInt8} (h:bf bg l=0):fD l=([],3):=by
 unfold fD;rw [if_pos (.inl h)]
theorem xS {l:List UInt8} (h:bY l (bf bg l)≠l.length):fD l=([],3):=by
 unfold fD;rw [if_pos (.inr h)]
theorem tv {l:List UInt8} (h:bf bg l≠0) (hc:bY l (bf bg l)=l.length):
 fD l=qK (l.take (bf bg l)) (bp (l.getD (bf bg l+1) 0)) (l.drop (bf bg l+2)):=by
 unfold fD;rw [if_neg (by rintro (h1|h1);exact h h1;exact h1 hc)];rfl
theorem J4 {p:UInt8→Bool} {t:List UInt8} (h:bf p t=t.length):∀c∈t,p c=true:=by
 have h1:t.takeWhile p=t:=by
  have hp:=List.takeWhile_prefix p (l:=t);exact hp.eq_of_length h
 intro c hc;have h2:=List.all_takeWhile (p:=p) (l:=t);rw [h1] at h2;exact qY.1 h2 c hc
theorem Eb {l:List UInt8} {n:Nat} (h:bY l n=l.length) (hl:0<l.length):
 n+2<l.length∧(fJ (bp (l.getD (n+1) 0))).isSome=true∧∀c∈l.drop (n+2),ra (bp (l.getD (n+1) 0)) c=true:=by
 unfold bY at h
 split at h
 ·next b t e=>
  split at h
  ·omega
  ·rename_i hno
   split at h
   ·omega
   ·rename_i hs
    have e1:l.getD (n+1) 0=b:=by
     have h2:(l.drop n)[1]? =some b:=by rw [e];rfl
     rw [List.getElem?_drop] at h2;rw [List.getD_eq_getElem?_getD,h2];rfl
    have e2:l.drop (n+2)=t:=by
     have h2:(l.drop n).drop 2=t:=by rw [e];rfl
     rw [←h2,dB]
    have hlen:l.length=n+2+t.length:=by
     have h3:=congrArg List.length e;rw [aA,aj,aj] at h3;omega
    have hsp:bf (ra (bp b)) t=t.length:=by omega
    have htl:t.length≠0:=fun h4=>hno (.inl (List.length_eq_zero_iff.1 h4));rw [e1,e2];refine ⟨by omega,?_,J4 hsp⟩
    cases hb:fJ (bp b) with
    |none=>exact absurd (.inr (.inl hb)) hno
    |some _=>rfl
 ·omega
theorem LM {b c:UInt8} (h:ra b c=true) (hb:b≠100):fE c≠0∨0≤dK c:=by
 unfold ra at h
 split at h
 ·rename_i hx;left;unfold fE;rw [if_pos hx]
  rcases hx with hx|hx<;>rw [hx]<;>decide
 ·first|rw [if_neg hb] at h|skip
  exact .inr (of_decide_eq_true h).1
def tz (w:Nat) (c:UInt8):Nat:=min (10*w+(c.toNat-48)) 1000
theorem LN (d:List UInt8):gJ d=d.foldl tz 0:=rfl
theorem Ec:∀(d:List UInt8) (w:Nat),w≤1000→d.foldl tz w≤1000
 |[],w,h=>h
 |c::t,w,h=>by
  rw [List.foldl_cons];exact Ec t _ (Nat.min_le_right _ _)
theorem LO (d:List UInt8):gJ d≤1000:=Ec d 0 (bj _)
theorem vL:∀(ds:List UInt8) (v:Nat),140≤(cO ds v).length∧(cO ds v).length≤141
 |[],v=>by unfold cO;rw [gj];omega
 |c::t,v=>by
  unfold cO
  split
  ·rw [aj,gj];omega
  ·exact vL t _
theorem Pb (b:UInt8) (ds:List UInt8) (h:ds.length≤100000):(tu b ds).length≤400000:=by
 unfold tu
 split
 ·have:=(vL ds 0).2;omega
 ·rw [nD];have:=Nat.mul_le_mul (show (fJ b).getD 0≤4 by rcases oZ b with k|k|k|k<;>rw [k]<;>omega) h;omega
end Go.Proofs.YtddoehnkgcbboaaGreatDoor
