/- Packed by program: a part of the proof; the last file says what is proved. -/
import Derived.Test.YtddoehnkgcbboaaGreatDoorPrB
import Derived.Test.YtddoehnkgcbboaaGreatDoorPrC
import Derived.Test.YtddoehnkgcbboaaGreatDoorProg
import Derived.Laws.IdiomStrings
import Derived.Laws.EntriesVeiled
import Derived.Shelf.Strings.Builder1
import Derived.Shelf.Strings.Builder2
import Derived.Shelf.Strings.OnBuilder
import Derived.Shelf.Strings.Trim
import Derived.Shelf.Small.Utf8
import Derived.Shelf.Small.Strs
import Derived.Shelf.Strings.BuilderF
import Derived.Shelf.Strings.BuilderK
import Derived.Shelf.Strings.Builder2Cap
import Derived.Shelf.Strconv.Atoi
import Derived.Shelf.Strconv.Itoa0
import Derived.Shelf.Strconv.Itoa1
import Derived.Shelf.LaysM
import Derived.Shelf.Strconv.Itoa2
import Derived.Shelf.Strconv.Itoa3
import Derived.Shelf.Strconv.AtoiErrFast
import Derived.Shelf.Strconv.ParseIntEmpty
import Derived.Shelf.Strconv.AtoiFail
import Derived.Shelf.Strconv.Clone
import Derived.Shelf.Strconv.SyntaxError
import Derived.Shelf.LaysC
import Derived.Shelf.Strconv.ToError
import Derived.Shelf.Strconv.Lower
import Derived.Shelf.Strconv.ParseUint10
import Derived.Shelf.Strconv.ParseUint10Empty
import Derived.Shelf.Strconv.ParseUint10Any
import Derived.Shelf.Strconv.ParseInt10
import Derived.Shelf.Strconv.AtoiLong
import Derived.Shelf.Strconv.AtoiInnerAll
import Derived.Shelf.Strconv.RangeError
import Derived.Shelf.Strconv.ToErrorRange
import Derived.Shelf.Strconv.AtoiAll
import Derived.Shelf.Strconv.ErrVarAll
import Derived.Shelf.Strings.Search1
import Derived.Shelf.Strings.Search2
import Derived.Shelf.Strings.Search3
import Derived.Shelf.Strings.Shaped
import Derived.Shelf.Strings.LastIndex
import Derived.Shelf.Strings.Prefix
import Derived.Shelf.Strings.Runes
import Derived.Shelf.Strings.AsciiSet
import Derived.Shelf.Bits.Mul64
import Derived.Shelf.Strings.Repeat
import Derived.Shelf.Unicode.DecodeSlow
import Derived.Shelf.Strings.BuilderCap
import Derived.Shelf.Slices.Turned
set_option maxHeartbeats 16000000
set_option maxRecDepth 100000
set_option linter.unusedVariables false
set_option linter.unusedSimpArgs false
namespace Go.Proofs.YtddoehnkgcbboaaGreatDoor
open Go.RowKit Go.Shelf
theorem V6 (l:List UInt8):Lib.trimLeftB l 48=l.dropWhile (·==48):=by
 rfl
theorem vD (l:List UInt8) (w:World):Calls Tryz.prog 161 #[.string (ae l)] w fun e w'=>e=.returned (.string (ae (bI l)))∧Below w.heap.size w w':=by
 have T:=Tryz.strings_TrimLeft_one (ae l) 48 (by decide)
 rw [cy,V6] at T
 unfold bI
 generalize l.dropWhile (·==48)=m at*
 cases m with
 |nil=>
  rw [if_pos rfl]
  go_enter Tryz.func161,Tryz.ntmps161
  go_wp2_with fail
  refine (T _).mono ?_
  rintro e w1 ⟨rfl,rfl⟩
  go_wp2
  go_ret
  exact ⟨rfl,Below.refl _ _⟩
 |cons c t=>
  rw [if_neg (by simp)]
  go_enter Tryz.func161,Tryz.ntmps161
  go_wp2_with fail
  refine (T _).mono ?_
  rintro e w1 ⟨rfl,rfl⟩
  go_wp2
  go_ret
  exact ⟨rfl,Below.refl _ _⟩
theorem jZ (c:UInt8) (k:Int) (w:World) (hk:k≤1000000):
 Calls Tryz.prog 191 #[.int .u8 (c.toNat:Int),.int .i64 k] w fun e w'=>e=.returned (.string (ae (List.replicate k.toNat c)))∧Below w.heap.size w w':=by
 have hcv:=fun W:World=>KJ W c
 by_cases h0:0≤k
 ·obtain ⟨n,rfl⟩:∃n:Nat,k=n:=⟨k.toNat,by omega⟩
  rw [show ((n:Int)).toNat=n from rfl]
  have R:=aa (fun W:World=>FV c n W (by omega))
  have hmx:max (n:Int) 0=(n:Int):=by omega
  clear hk h0
  go_enter Tryz.func191,Tryz.ntmps191
  go_wp2_with fail
  refine (R.out _).mono ?_
  rintro e w1 ⟨rfl,hb⟩
  have Hb:=aa (((Below.refl w.heap.size w).alloc (Nat.le_refl _) (.cells #[.int .u8 (c.toNat:Int)] 5)).trans (hb.mono (by rw [World.size_alloc];omega)))
  clear hb
  go_wp2
  go_ret
  exact ⟨rfl,Hb.out⟩
 ·have R:=aa (fun W:World=>FV c 0 W (by omega))
  rw [show k.toNat=0 by omega]
  have hmx:max k 0=0:=by omega
  clear hk h0
  go_enter Tryz.func191,Tryz.ntmps191
  go_wp2_with fail
  refine (R.out _).mono ?_
  rintro e w1 ⟨rfl,hb⟩
  have Hb:=aa (((Below.refl w.heap.size w).alloc (Nat.le_refl _) (.cells #[.int .u8 (c.toNat:Int)] 5)).trans (hb.mono (by rw [World.size_alloc];omega)))
  clear hb
  go_wp2
  go_ret
  exact ⟨rfl,Hb.out⟩
def iy (x:Nat):UInt8:=if x % 2=1 then 49 else 48
theorem eN (n v:Nat):dA (n+1) v=dA n (v / 2)++[iy v]:=rfl
theorem dR:∀(n v:Nat),(dA n v).length=n
 |0,_=>rfl
 |n+1,v=>by rw [eN,List.length_append,dR n];rfl
theorem nV:∀(n v:Nat),dA (n+1) v=iy (v / 2 ^ n)::dA n v
 |0,v=>by rw [eN];simp [dA]
 |n+1,v=>by
  rw [eN (n+1),nV n (v / 2),eN n v,Nat.div_div_eq_div_mul,Nat.pow_succ,Nat.mul_comm 2]
  rfl
theorem AG:∀(n v:Nat),dA n (v % 2 ^ n)=dA n v
 |0,v=>rfl
 |n+1,v=>by
  rw [eN,eN,Nat.pow_succ,show iy (v % (2 ^ n*2))=iy v by unfold iy;rw [Nat.mod_mul_left_mod],Nat.mul_comm,Nat.mod_mul_right_div_self,AG n]
def gZ (N k v c:Nat):List UInt8:=dA (N-k) (v / 2 ^ k)++dA k (10*v+c)
def ei (k v c:Nat):Nat:=(10*(v % 2 ^ k)+c) / 2 ^ k
theorem Hv {N k:Nat} (v c:Nat) (h:k≤N):(gZ N k v c).length=N:=by
 unfold gZ;rw [List.length_append,dR,dR];omega
theorem DU (N v c:Nat):gZ N 0 v c=dA N v:=by
 unfold gZ;simp [dA]
theorem DV (N v c:Nat):gZ N N v c=dA N (10*v+c):=by
 unfold gZ;rw [Nat.sub_self];rfl
theorem AH (v c:Nat):ei 0 v c=c:=by unfold ei;simp [Nat.mod_one]
theorem wC (k v:Nat) {c:Nat} (hc:c≤9):ei k v c≤9:=by
 unfold ei
 have h:=Nat.mod_lt v (Nat.two_pow_pos k)
 have:10*(v % 2 ^ k)+c<10*2 ^ k:=by omega
 have:=(Nat.div_lt_iff_lt_mul (Nat.two_pow_pos k)).2 this
 omega
theorem nW (k v c:Nat):(10*v+c) / 2 ^ k=10*(v / 2 ^ k)+ei k v c:=by
 have h:=Nat.div_add_mod v (2 ^ k)
 unfold ei
 conv=>lhs;rw [←h]
 rw [show 10*(2 ^ k*(v / 2 ^ k)+v % 2 ^ k)+c=(10*(v % 2 ^ k)+c)+2 ^ k*(10*(v / 2 ^ k)) by rw [Nat.mul_add,←Nat.mul_assoc,Nat.mul_comm 10 (2 ^ k),Nat.mul_assoc];omega]
 rw [Nat.add_mul_div_left _ _ (Nat.two_pow_pos k)]
 omega
def vE (k v c:Nat):Nat:=10*(v / 2 ^ k % 2)+ei k v c
theorem KL (k v c:Nat):iy ((10*v+c) / 2 ^ k)=iy (vE k v c):=by
 unfold iy vE
 rw [nW]
 have:(10*(v / 2 ^ k)+ei k v c) % 2=(10*(v / 2 ^ k % 2)+ei k v c) % 2:=by omega
 rw [this]
theorem DW (k v c:Nat):ei (k+1) v c=vE k v c / 2:=by
 have h1:=nW (k+1) v c
 have h2:=nW k v c
 have h3:(10*v+c) / 2 ^ (k+1)=(10*v+c) / 2 ^ k / 2:=by rw [Nat.div_div_eq_div_mul,Nat.pow_succ]
 have h4:v / 2 ^ (k+1)=v / 2 ^ k / 2:=by rw [Nat.div_div_eq_div_mul,Nat.pow_succ]
 unfold vE
 rw [h3,h2,h4] at h1
 omega
theorem rD {N k:Nat} (v c:Nat) (h:k<N):gZ N k v c=dA (N-k-1) (v / 2 ^ (k+1))++iy (v / 2 ^ k)::dA k (10*v+c):=by
 unfold gZ
 obtain ⟨m,hm⟩:∃m,N-k=m+1:=⟨N-k-1,by omega⟩
 rw [hm,eN,Nat.div_div_eq_div_mul,←Nat.pow_succ]
 simp
theorem DX {N k:Nat} (v c:Nat) (h:k<N):gZ N (k+1) v c=dA (N-k-1) (v / 2 ^ (k+1))++iy (vE k v c)::dA k (10*v+c):=by
 unfold gZ
 rw [nV,KL,show N-(k+1)=N-k-1 by omega]
theorem Hw {N k:Nat} (v c:Nat) (h:k<N):(gZ N k v c)[N-1-k]? =some (iy (v / 2 ^ k)):=by
 have hl:=dR (N-k-1) (v / 2 ^ (k+1))
 rw [rD v c h,List.getElem?_append_right (by omega),hl,show N-1-k-(N-k-1)=0 by omega]
 rfl
theorem H6 {N k:Nat} (v c:Nat) (h:k<N):(gZ N k v c).set (N-1-k) (iy (vE k v c))=gZ N (k+1) v c:=by
 have hl:=dR (N-k-1) (v / 2 ^ (k+1))
 rw [rD v c h,DX v c h,List.set_append_right _ _ (by omega),hl,show N-1-k-(N-k-1)=0 by omega]
 rfl
theorem wD:∀n,dA n 0=List.replicate n 48
 |0=>rfl
 |n+1=>by rw [eN,Nat.zero_div,wD n,List.replicate_succ'];rfl
theorem jK {P:Program} {t:TypeId} {z:Value} {s b:Nat} (h:(P.info? t).map (fun i=>(i.zero,i.size,i.bytes))=some (some z,s,b)):∃i,P.info? t=some i∧i.zero=some z∧i.size=s∧i.bytes=b:=by
 cases hi:P.info? t with
 |none=>rw [hi] at h;cases h
 |some i=>rw [hi] at h;simp at h;exact ⟨i,rfl,h.1,h.2.1,h.2.2⟩
theorem V7 (z:Value) (hz:z.cells=#[z]) (n:Nat):madeCells z.cells n=(List.replicate n z).toArray:=by
 rw [hz]
 apply Array.ext
 ·simp [madeCells]
 ·intro i h1 h2
  simp [madeCells,Nat.mod_one]
theorem gK:(Tryz.prog.info? 5).map (fun i=>(i.zero,i.size,i.bytes))=some (some (.int .u8 0),1,1):=by kernel_rfl
theorem tA (n:Nat) (hn:n≤1099511627776) (w:World):(Instr.makeSlice 75 (.int .i64 (n:Int)) (.int .i64 (n:Int))).run Tryz.prog w=
 .ok (.slice (some ⟨w.heap.size,0,none⟩) n n) (w.alloc (.cells (List.replicate n (Value.int .u8 0)).toArray 5)):=by
 obtain ⟨i,hi,hz,h1,h2⟩:=jK gK
 have h:=run_make (P:=Tryz.prog) w 75 5 i _ Tryz.underlying75 hi hz .i64 .i64 (n:Int) (n:Int) (by omega) (Int.le_refl _) (by rw [h2];omega) (by omega)
 rw [h1,V7 _ rfl,show (n:Int).toNat=n by omega,Nat.mul_one] at h
 exact h
theorem ql (W:World) (l:List UInt8):∃W1 cap,(convert 9 75 (.string (ae l))).run Tryz.prog W=.ok (.slice (some ⟨W.heap.size,0,none⟩) l.length cap) W1∧Below W.heap.size W W1∧
 (∀i (h:i<l.length),W1.cell? ⟨W.heap.size,i,none⟩=some (.int .u8 (l[i].toNat:Int)))∧W1.heap.size=W.heap.size+1:=by
 have h:=run_bytes_of_string (P:=Tryz.prog) W 9 75 5 (ae l) Tryz.underlying9 Tryz.underlying75 Tryz.underlying5
 rw [aD] at h
 refine ⟨_,_,h,(Below.refl _ _).drew.alloc (Nat.le_refl _) _,fun i hi=>?_,by rw [World.size_alloc];rfl⟩
 have e:(World.alloc W.drew (.cells (bytesRow (ae l) (grownCap W l.length 0 5)) 5 ((bytesRow (ae l) (grownCap W l.length 0 5)).size,(bytesRow (ae l) (grownCap W l.length 0 5)).size+1))).heap[W.heap.size]? =some _:=World.alloc_heap_new W.drew _
 rw [World.cell?,e]
 exact bytesRow_at (ae l) _ i (by show i<l.toArray.size;simpa using hi)
def UZ (c:UInt8):Value:=.int .u8 (c.toNat:Int)
def cT (w:World) (g:Nat) (l:List UInt8):Prop:=Row w g 5 (l.map UZ).toArray
theorem cT.cell {w:World} {g:Nat} {l:List UInt8} (h:cT w g l) (i:Nat) (hi:i<l.length):w.cell? ⟨g,i,none⟩=some (.int .u8 (l[i].toNat:Int)):=by
 rw [Row.cell h];simp [hi,UZ]
theorem cT.set {w:World} {g:Nat} {l:List UInt8} (h:cT w g l) (i:Nat) (c:UInt8):cT (w.setCell ⟨g,i,none⟩ (.int .u8 (c.toNat:Int))) g (l.set i c):=by
 have:=Row.bg h i (.int .u8 (c.toNat:Int))
 unfold cT
 rwa [List.setIfInBounds_toArray,show (l.map UZ).set i (.int .u8 (c.toNat:Int))=(l.set i c).map UZ by rw [List.map_set];rfl] at this
theorem cT.str {w:World} {g:Nat} {l:List UInt8} (h:cT w g l) (cap:Nat):(convert 75 9 (.slice (some ⟨g,0,none⟩) l.length cap)).run Tryz.prog w=.ok (.string (ae l)) w:=by
 refine run_convert_bytes_back _ _ _ 5 ⟨g,0,none⟩ cap l Tryz.underlying75 Tryz.underlying5 Tryz.underlying9 ?_
 intro j hj
 have:=h.cell j hj
 rwa [show (⟨g,j,none⟩:Addr)=(⟨g,0,none⟩:Addr).add j by unfold Addr.add;simp] at this
def eF (w:World) (g:Nat) (l:List UInt8):Prop:=∀i (h:i<l.length),w.cell? ⟨g,i,none⟩=some (.int .u8 (l[i].toNat:Int))
theorem eF.VQ {w:World} {g:Nat} {l:List UInt8} (h:eF w g l) {b:Nat} (hb:g≠b) (o:Nat) (v:Value):eF (w.setCell ⟨b,o,none⟩ v) g l:=fun i hi=>
 (World.cell?_of_block (w:=w) (a:=⟨g,i,none⟩) (Below.heap_setCell w ⟨b,o,none⟩ v g hb)).trans (h i hi)
theorem eF.below {w w':World} {g B:Nat} {l:List UInt8} (h:eF w g l) (hb:Below B w w') (hg:g<B):eF w' g l:=fun i hi=>(hb.cell (p:=⟨g,i,none⟩) hg).trans (h i hi)
theorem AK (n:Nat):48+(n:Int) % 2=((iy n).toNat:Int):=by
 unfold iy
 rcases Nat.mod_two_eq_zero_or_one n with h|h
 ·rw [if_neg (by omega)];show _=(48:Int);omega
 ·rw [if_pos h];show _=(49:Int);omega
theorem DY (N x d:Nat) (hx:x<2 ^ N):2 ^ N≤10*x+d↔ei N x d≠0:=by
 unfold ei
 rw [Nat.mod_eq_of_lt hx]
 have hp:=Nat.two_pow_pos N
 generalize 2 ^ N=M at*
 constructor
 ·intro h
  have:=Nat.div_le_div_right (c:=M) h
  rw [Nat.div_self hp] at this
  omega
 ·intro h
  rcases Nat.lt_or_ge (10*x+d) M with h2|h2
  ·exact absurd (Nat.div_eq_of_lt h2) h
  ·exact h2
theorem KM (c:UInt8) (t:List UInt8) (x d:Nat) (hd:c.toNat=d+48) (hx:x<2 ^ 140):
 (ei 140 x d=0→10*x+d<2 ^ 140∧bP (c::t) x=bP t (10*x+d))∧(ei 140 x d≠0→bP (c::t) x=49::dA 140 (10*x+d)):=by
 have h:=DY 140 x d hx
 have e:bP (c::t) x=if 2 ^ 140≤10*x+(c.toNat-48) then 49::dA 140 ((10*x+(c.toNat-48)) % 2 ^ 140) else bP t (10*x+(c.toNat-48)):=rfl
 rw [hd,Nat.add_sub_cancel,AG] at e
 refine ⟨fun hc=>?_,fun hc=>?_⟩
 ·have hn:¬2 ^ 140≤10*x+d:=fun h2=>(h.1 h2) hc
  exact ⟨Nat.lt_of_not_le hn,by rw [e,if_neg hn]⟩
 ·rw [e,if_pos (h.2 hc)]
def tB (i:Nat):List UInt8:=List.replicate i 48++List.replicate (140-i) 0
theorem KN {i:Nat} (h:i≤140):(tB i).length=140:=by unfold tB;simp;omega
theorem KO {i:Nat} (h:i<140):(tB i).set i 48=tB (i+1):=by
 unfold tB
 rw [List.set_append_right _ _ (by simp),show 140-i=(140-(i+1))+1 by omega,List.replicate_succ,List.length_replicate,Nat.sub_self,List.set_cons_zero,List.replicate_succ',List.append_assoc]
 rfl
theorem H7:tB 140=dA 140 0:=by rw [wD];rfl
theorem qm (l:List UInt8) (w:World) (hl:l.length≤100000) (hd:∀c∈l,aZ c=true):
 Calls Tryz.prog 192 #[.string (ae l)] w fun e w'=>e=.returned (.string (ae (bP l 0)))∧Below w.heap.size w w':=by
 have hmk:∀W:World,(Instr.makeSlice 75 (.int .i64 140) (.int .i64 140)).run Tryz.prog W=_:=tA 140 (by omega)
 obtain ⟨F,hF⟩:∃F,(List.replicate 140 (Value.int .u8 0)).toArray=F:=⟨_,rfl⟩
 rw [hF] at hmk
 have HD:=aa hd
 clear hd
 have Y':F=((tB 0).map UZ).toArray:=by rw [←hF];unfold tB;simp [UZ]
 obtain ⟨R,hR⟩:∃R,ae (bP l 0)=R:=⟨_,rfl⟩
 have HR:=aa hR
 rw [hR]
 clear hR hF
 have HF:=aa Y'
 clear Y'
 go_enter Tryz.func192,Tryz.ntmps192
 go_upto_region 3 with fail
 obtain ⟨W1,hW1⟩:∃W1,w.alloc (.cells F 5)=W1:=⟨_,rfl⟩
 rw [hW1]
 have B1:Below w.heap.size w W1:=by rw [←hW1];exact (Below.refl _ _).alloc (Nat.le_refl _) _
 have R1:cT W1 w.heap.size (tB 0):=by rw [←hW1];unfold cT;rw [←HF.out];exact Row.new _ _ _
 have fu:=aa B1
 have gJ:=aa R1
 clear B1 R1 hW1 HF hmk
 obtain ⟨g,hg⟩:∃g,w.heap.size=g:=⟨_,rfl⟩
 rw [hg] at gJ
 have Hg:=aa hg
 rw [hg]
 clear hg
 go_loopw [13] (fun v wr=>∃i:Nat,v=.int .i64 (i:Int)∧i≤140∧cT wr g (tB i)∧Below w.heap.size w wr) (fun v _=>140-(intOf v).toNat)
 case atStart=>exact ⟨0,rfl,by omega,gJ.out,fu.out⟩
 case round=>
  obtain ⟨i,rfl,hi,hrow,hb⟩:=hrel
  have Hb:=aa hb
  have ny:=aa hrow
  by_cases hlt:i<140
  ·have hi':(i:Int)<140:=by omega
   have lU:(0:Int)≤(i:Int):=by omega
   have UW:IntKind.i64.wrap ((i:Int)+1)=(i:Int)+1:=IntWalk.i64_in _ (by omega)
   obtain ⟨v,hc⟩:∃v,wr.cell? ⟨g,i,none⟩=some v:=⟨_,hrow.cell i (by rw [KN hi];exact hlt)⟩
   have hf:wr.frozen? ⟨g,i,none⟩=false:=Row.frozen hrow i
   have nz:=aa (show cT (wr.setCell ⟨g,i,none⟩ (.int .u8 48)) g (tB (i+1)) by have:=hrow.set i 48;rwa [KO hlt] at this)
   have iz:=aa (hb.setCell (p:=⟨g,i,none⟩) (by rw [Hg.out];exact Nat.le_refl _) (.int .u8 48))
   clear hrow hb
   go_wp2
   go_roundw
   case rel=>exact ⟨i+1,by go_num,by omega,nz.out,iz.out⟩
   case measure=>simp [intOf];omega
  ·have hi':¬(i:Int)<140:=by omega
   obtain rfl:i=140:=by omega
   clear hrow hb
   obtain ⟨W2,cap,hcv,hb2,fT,_⟩:=ql wr l
   have Aa:g<wr.heap.size:=Row.lt ny.out
   have nz:=aa (show cT W2 g (dA 140 0) by rw [←H7];exact Row.below ny.out hb2 Aa)
   have iz:=aa (Hb.out.trans (hb2.mono Hb.out.size))
   obtain ⟨g2,hg2⟩:∃g2,wr.heap.size=g2:=⟨_,rfl⟩
   rw [hg2] at hcv fT Aa
   have Am:=aa (show eF W2 g2 l from fT)
   have hz:=aD l
   generalize ae l=s at*
   clear fT hb2 hg2 hi
   go_wp2_with fail
   go_loopw [23] (fun v wr=>∃(i x:Nat),v=.int .i64 (i:Int)∧i≤l.length∧Hid (x<2 ^ 140)∧ae (bP (l.drop i) x)=R∧cT wr g (dA 140 x)∧eF wr g2 l∧Below w.heap.size w wr) (fun v _=>l.length-(intOf v).toNat)
   case atStart=>exact ⟨0,0,rfl,by omega,aa (Nat.two_pow_pos 140),HR.out,nz.out,Am.out,iz.out⟩
   case round=>
    obtain ⟨i,x,rfl,hi,Hx,hR,hrow,fT,hb⟩:=hrel
    have Hb:=aa hb
    have ny:=aa hrow
    have yw:=aa fT
    have HR:=aa hR
    clear hR
    by_cases hlt:i<l.length
    ·have hi':(i:Int)<(l.length:Int):=by omega
     have lU:(0:Int)≤(i:Int):=by omega
     have UW:IntKind.i64.wrap ((i:Int)+1)=(i:Int)+1:=IntWalk.i64_in _ (by omega)
     have hdr:l.drop i=l[i]::l.drop (i+1):=List.drop_eq_getElem_cons hlt
     have DZ:=HD.out _ (List.getElem_mem hlt)
     obtain ⟨c,hc⟩:∃c,l[i]=c:=⟨_,rfl⟩
     have hcell:=fT i hlt
     rw [hc] at hdr DZ hcell
     have hb2:48≤c.toNat∧c.toNat≤57:=of_decide_eq_true DZ
     obtain ⟨d,hd⟩:∃d,c.toNat=d+48:=⟨c.toNat-48,by omega⟩
     have hd9:d≤9:=by omega
     rw [hd] at hcell
     have hcell:wr.cell? ⟨g2,i,none⟩=some (.int .u8 ((d:Int)+48)):=hcell
     have hw1:IntKind.u8.wrap (d:Int)=(d:Int):=by rw [IntKind.wrap_u8];omega
     have hw2:IntKind.i64.wrap (d:Int)=(d:Int):=IntWalk.i64_in _ (by omega)
     have OB:=aa hdr
     have HDd:=aa hd
     clear hdr hc DZ hb2 hd hrow hb fT
     have HP0:=aa (show cT wr g (gZ 140 0 x d) by rw [DU];exact ny.out)
     have HD9:=aa hd9
     have wE:=aa (show g2≠g by omega)
     go_wp2_with fail
     go_loopw [7,8] (fun v7 v8 wq=>∃k m:Nat,k+m=140∧v7=.int .i64 (ei k x d:Int)∧v8=.int .i64 ((m:Int)-1)∧cT wq g (gZ 140 k x d)∧eF wq g2 l∧Below w.heap.size w wq) (fun _ v _=>(intOf v+1).toNat)
     case atStart=>exact ⟨0,140,rfl,by rw [AH],by go_num,HP0.out,yw.out,Hb.out⟩
     case round=>
      obtain ⟨k,m,hkm,rfl,rfl,hrow,fT,hb⟩:=hrel
      have Hb:=aa hb
      have ny:=aa hrow
      have yw:=aa fT
      cases m with
      |succ j=>
       have V8:((j+1:Nat):Int)-1=(j:Int):=by omega
       rw [V8]
       have hj0:(0:Int)≤(j:Int):=by omega
       have hj1:(j:Int)<140:=by omega
       have hwj:IntKind.i64.wrap ((j:Int)-1)=(j:Int)-1:=IntWalk.i64_in _ (by omega)
       have hjk:140-1-k=j:=by omega
       have KQ:=Hw (N:=140) x d (k:=k) (by omega)
       have D4:=H6 (N:=140) x d (k:=k) (by omega)
       rw [hjk] at KQ D4
       have hlen:=Hv (N:=140) (k:=k) x d (by omega)
       have V9:=hrow.cell j (by omega)
       have Sm:(gZ 140 k x d)[j]'(by omega)=iy (x / 2 ^ k):=by rw [List.getElem?_eq_getElem (by omega)] at KQ;exact Option.some.inj KQ
       rw [Sm] at V9
       have hf:wr.frozen? ⟨g,j,none⟩=false:=Row.frozen hrow j
       have HS:=aa (fun (u:Int) (hu:u=((iy (vE k x d)).toNat:Int))=>show cT (wr.setCell ⟨g,j,none⟩ (.int .u8 u)) g (gZ 140 (k+1) x d) by have:=hrow.set j (iy (vE k x d));rw [D4] at this;rw [hu];exact this)
       have HK:=aa (DW k x d)
       have hq:=wC k x HD9.out
       have Za:=aa (show vE k x d=10*(x / 2 ^ k % 2)+ei k x d from rfl)
       generalize ei k x d=q at*
       generalize vE k x d=n at*
       rcases Nat.mod_two_eq_zero_or_one (x / 2 ^ k) with hb2|hb2
       ·have hcv:wr.cell? ⟨g,j,none⟩=some (.int .u8 48):=by rw [V9];unfold iy;rw [if_neg (by omega)];rfl
        have HN:=aa (show n=q by rw [Za.out,hb2];omega)
        clear hb2 V9 Sm KQ D4 hlen hrow hb fT V8
        have hn:n=q:=HN.out
        subst hn
        have hwq:IntKind.i64.wrap (n:Int)=(n:Int):=IntWalk.i64_in _ (by omega)
        have HBn:=aa (AK n)
        clear Za HN
        go_wp2
        go_roundw
        case rel=>exact ⟨k+1,j,by omega,(by rw [HK.out];first|done|rfl),rfl,HS.out _ (HBn.out),yw.out.VQ wE.out _ _,Hb.out.setCell (p:=⟨g,j,none⟩) (by rw [Hg.out];exact Nat.le_refl _) _⟩
        case measure=>simp [intOf]
       ·have hcv:wr.cell? ⟨g,j,none⟩=some (.int .u8 49):=by rw [V9];unfold iy;rw [if_pos (by omega)];rfl
        have HN:=aa (show n=10+q by rw [Za.out,hb2])
        clear hb2 V9 Sm KQ D4 hlen hrow hb fT V8
        have hn:n=10+q:=HN.out
        have hwq:IntKind.i64.wrap (10+(q:Int))=(n:Int):=by rw [hn];exact IntWalk.i64_in _ (by omega)
        have HBn:=aa (AK n)
        have abB:(n:Int)≤19:=by omega
        clear Za HN hn
        go_wp2
        go_roundw
        case rel=>exact ⟨k+1,j,by omega,(by rw [HK.out];first|done|rfl),rfl,HS.out _ (HBn.out),yw.out.VQ wE.out _ _,Hb.out.setCell (p:=⟨g,j,none⟩) (by rw [Hg.out];exact Nat.le_refl _) _⟩
        case measure=>simp [intOf]
      |zero=>
       obtain rfl:k=140:=by omega
       have hz0:((0:Nat):Int)-1=-1:=rfl
       rw [hz0]
       have HF:=aa (DV 140 x d)
       have hq:=wC 140 x HD9.out
       have Sn:=aa (KM c (l.drop (i+1)) x d HDd.out Hx.out)
       generalize ei 140 x d=q at*
       clear hrow hb fT hkm
       by_cases zZ:q=0
       ·have hqq:¬(0:Int)<(q:Int):=by omega
        have qa:=aa (show ae (bP (l.drop (i+1)) (10*x+d))=R by rw [←HR.out,OB.out,(Sn.out.1 zZ).2])
        have D5:=aa (Sn.out.1 zZ).1
        go_wp2
        go_roundw
        case rel=>exact ⟨i+1,10*x+d,by go_num,by omega,D5,qa.out,by rw [←HF.out];exact ny.out,yw.out,Hb.out⟩
        case measure=>simp [intOf];omega
       ·have hqq:(0:Int)<(q:Int):=by omega
        have qa:=aa (show ae (49::dA 140 (10*x+d))=R by rw [←HR.out,OB.out,Sn.out.2 zZ])
        have hrow3:cT wr g (dA 140 (10*x+d)):=by rw [←HF.out];exact ny.out
        have wF:=dR 140 (10*x+d)
        generalize dA 140 (10*x+d)=X at*
        have Sp:=hrow3.str 140
        rw [wF] at Sp
        have y1:∀W:World,(Op.stringOp .add ⟨#[49]⟩ (ae X)).run Tryz.prog W=.ok (.string R) W:=fun W=>by
         rw [←qa.out]
         exact nx [49] X (by rw [wF];decide) W
        generalize ae X=S at*
        clear qa hrow3 wF HF
        go_wp2
        go_ret
        exact ⟨rfl,Hb.out⟩
    ·have hi':¬(i:Int)<(l.length:Int):=by omega
     have hrow3:=hrow
     have wF:=dR 140 x
     have hR2:ae (dA 140 x)=R:=by
      rw [←HR.out,List.drop_eq_nil_of_le (by omega)]
      unfold bP
      rfl
     clear hrow
     generalize dA 140 x=X at*
     have Sp:=hrow3.str 140
     rw [wF,hR2] at Sp
     clear hR2 hrow3 wF ny hb fT Hx
     go_wp2
     go_ret
     exact ⟨rfl,Hb.out⟩
end Go.Proofs.YtddoehnkgcbboaaGreatDoor
namespace Go.Proofs
open Go.Shelf
def Tryz.pc:Go.Shelf.Ren:=⟨fun|156=>213|167=>114|165=>242|166=>115|169=>46|240=>152|241=>262|276=>186|277=>275|n=>n,fun|31=>32|9=>9|3=>3|4=>4|0=>0|20=>20|72=>77|76=>140|70=>74|37=>75|75=>138|127=>109|164=>177|5=>5|80=>81|n=>n,fun|n=>n⟩
theorem Tryz.AM:Go.Proofs.Lays.n167 Tryz.prog Tryz.pc:={
 mixed:=by kernel_rfl
 f167:=Tryz.func114.trans (congrArg some (by kernel_rfl))
 f240:=Tryz.func152.trans (congrArg some (by kernel_rfl))
 f276:=Tryz.func186.trans (congrArg some (by kernel_rfl))
 t0:=Tryz.underlying0
 a0:=Tryz.isAgg0
 z0:=Tryz.sizeOf0
 v0:=Tryz.zeroValue0
 t4:=Tryz.underlying4
 a4:=Tryz.isAgg4
 z4:=Tryz.sizeOf4
 v4:=Tryz.zeroValue4
 t5:=Tryz.underlying5
 a5:=Tryz.isAgg5
 z5:=Tryz.sizeOf5
 v5:=Tryz.zeroValue5
 t9:=Tryz.underlying9
 a9:=Tryz.isAgg9
 z9:=Tryz.sizeOf9
 v9:=Tryz.zeroValue9
 t20:=Tryz.underlying20
 a20:=Tryz.isAgg20
 z20:=Tryz.sizeOf20
 v20:=Tryz.zeroValue20
 t37:=Tryz.underlying75
 a37:=Tryz.isAgg75
 z37:=Tryz.sizeOf75
 v37:=Tryz.zeroValue75
 t70:=Tryz.underlying74
 a70:=Tryz.isAgg74
 z70:=Tryz.sizeOf74
 v70:=Tryz.zeroValue74
 t72:=Tryz.underlying77
 a72:=Tryz.isAgg77
 z72:=Tryz.sizeOf77
 v72:=Tryz.zeroValue77
 t75:=Tryz.underlying138
 a75:=Tryz.isAgg138
 z75:=Tryz.sizeOf138
 v75:=Tryz.zeroValue138
 t164:=Tryz.underlying177
 a164:=Tryz.isAgg177
 z164:=Tryz.sizeOf177
 v164:=Tryz.zeroValue177}
theorem Tryz.ji:Builder.Extra Tryz.prog Tryz.pc:={
 sizeBuilder:=by kernel_rfl
 liesBuilder:=by kernel_rfl
 t5:=Tryz.underlying5
 a5:=Tryz.isAgg5
 z5:=Tryz.sizeOf5
 v5:=Tryz.zeroValue5
 infoByte:=by kernel_rfl
 cellsByte:=by kernel_rfl
 sizeByte:=by kernel_rfl
 neB5:=by decide}
def Tryz.pd:Go.Shelf.Ren:=⟨fun|156=>213|167=>114|165=>242|166=>115|169=>46|240=>152|241=>262|276=>186|277=>275|n=>n,fun|31=>32|9=>9|3=>3|4=>4|0=>0|20=>20|72=>77|76=>140|70=>74|37=>75|75=>138|127=>109|164=>177|5=>5|80=>81|n=>n,fun|n=>n⟩
theorem Tryz.KR:Go.Proofs.Lays.n169 Tryz.prog Tryz.pd:={
 mixed:=by kernel_rfl
 f169:=Tryz.func46.trans (congrArg some (by kernel_rfl))
 t0:=Tryz.underlying0
 a0:=Tryz.isAgg0
 z0:=Tryz.sizeOf0
 v0:=Tryz.zeroValue0
 t3:=Tryz.underlying3
 a3:=Tryz.isAgg3
 z3:=Tryz.sizeOf3
 v3:=Tryz.zeroValue3
 t9:=Tryz.underlying9
 a9:=Tryz.isAgg9
 z9:=Tryz.sizeOf9
 v9:=Tryz.zeroValue9
 t37:=Tryz.underlying75
 a37:=Tryz.isAgg75
 z37:=Tryz.sizeOf75
 v37:=Tryz.zeroValue75
 t70:=Tryz.underlying74
 a70:=Tryz.isAgg74
 z70:=Tryz.sizeOf74
 v70:=Tryz.zeroValue74
 t72:=Tryz.underlying77
 a72:=Tryz.isAgg77
 z72:=Tryz.sizeOf77
 v72:=Tryz.zeroValue77
 t127:=Tryz.underlying109
 a127:=Tryz.isAgg109
 z127:=Tryz.sizeOf109
 v127:=Tryz.zeroValue109}
theorem Tryz.nX:Builder.Extra Tryz.prog Tryz.pd:={
 sizeBuilder:=by kernel_rfl
 liesBuilder:=by kernel_rfl
 t5:=Tryz.underlying5
 a5:=Tryz.isAgg5
 z5:=Tryz.sizeOf5
 v5:=Tryz.zeroValue5
 infoByte:=by kernel_rfl
 cellsByte:=by kernel_rfl
 sizeByte:=by kernel_rfl
 neB5:=by decide}
open Go.RowKit in
theorem Tryz.Builder_String_any (B b:Nat) (l:List UInt8) (w:World) (h:Lib.IsBuilder 77 5 B b (Lib.byteCells l) w) (Sq:B≤w.heap.size):
 Calls Tryz.prog 46 #[.pointer (some ⟨b,0,none⟩)] w fun e w'=>e=.returned (.string ⟨l.toArray⟩)∧Below B w w':=Any.Builder_String_any Tryz.KR Tryz.nX B b l w h Sq
end Go.Proofs
namespace Go.Proofs.YtddoehnkgcbboaaGreatDoor
open Go.RowKit Go.Shelf
def BX (w:World) (b B:Nat) (l:List UInt8):Prop:=
 b<B∧B≤w.heap.size∧∃p v,w.heap[b]? =some (.cells #[p,v] 77 (0,0))∧(p=.pointer none∨p=.pointer (some ⟨b,0,none⟩))∧w.ownsRow B 5 1 v l.length (Lib.byteCells l)
def la (b B:Nat) (w w':World):Prop:=Below b w w'∧(∀k,k<B→k≠b→w'.heap[k]? =w.heap[k]?)∧∀k,k<w.heap.size→k≠b→(∀cs t,w.heap[k]? ≠some (.cells cs t (0,0)))→w'.heap[k]? =w.heap[k]?
theorem la.refl (b B:Nat) (w:World):la b B w w:=⟨Below.refl _ _,fun _ _ _=>rfl,fun _ _ _ _=>rfl⟩
theorem la.trans {b B:Nat} {a c d:World} (h:la b B a c) (k:la b B c d):la b B a d:=⟨h.1.trans k.1,fun i h1 h2=>(k.2.1 i h1 h2).trans (h.2.1 i h1 h2),fun i h1 h2 h3=>by
 have e:=h.2.2 i h1 h2 h3
 exact (k.2.2 i (Nat.lt_of_lt_of_le h1 h.1.size) h2 (by rw [e];exact h3)).trans e⟩
theorem wG {w:World} {B:Nat} {e:TypeId} {v:Value} {n:Nat} {xs:List Value} (hown:w.ownsRow B e 1 v n xs) {k:Nat} (hk:∀cs t,w.heap[k]? ≠some (.cells cs t (0,0))):some k≠v.ownBlock:=by
 intro e
 obtain ⟨_,h6|⟨g,cap,cur,rfl,hg,h7,_⟩⟩:=hown
 ·rw [h6.1] at e;cases e
 ·have:k=g:=by simpa [Value.ownBlock] using e
  subst this
  exact hk _ _ h7
def tC (w:World) (g:Nat) (l:List UInt8):Prop:=g<w.heap.size∧(∀cs t,w.heap[g]? ≠some (.cells cs t (0,0)))∧eF w g l
theorem tC.below {w w':World} {g B:Nat} {l:List UInt8} (h:tC w g l) (hb:Below B w w') (hg:g<B):tC w' g l:=
 ⟨Nat.lt_of_lt_of_le h.1 hb.size,by rw [hb.block g hg];exact h.2.1,h.2.2.below hb hg⟩
theorem la.l8 {b B:Nat} {w w':World} (h:la b B w w') {g:Nat} {l:List UInt8} (ht:tC w g l) (hgb:g≠b):tC w' g l:=by
 have e:=h.2.2 g ht.1 hgb ht.2.1
 exact ⟨Nat.lt_of_lt_of_le ht.1 h.1.size,by rw [e];exact ht.2.1,fun i hi=>(World.cell?_of_block (w:=w) (a:=⟨g,i,none⟩) e).trans (ht.2.2 i hi)⟩
theorem la.text {b B:Nat} {w w':World} (h:la b B w w') {g:Nat} {l:List UInt8} (ht:eF w g l) (hg:g<B) (hgb:g≠b):eF w' g l:=fun i hi=>
 (World.cell?_of_block (w:=w) (a:=⟨g,i,none⟩) (h.2.1 g hg hgb)).trans (ht i hi)
theorem BX.fresh {w:World} {b B:Nat} (hb:w.heap[b]? =some (.cells #[.pointer none,.slice none 0 0] 77 (0,0))) (h1:b<B) (h2:B≤w.heap.size):BX w b B []:=
 ⟨h1,h2,_,_,hb,.inl rfl,rfl,.inl ⟨rfl,rfl⟩⟩
theorem BX.below {w w':World} {b B:Nat} {l:List UInt8} (h:BX w b B l) (hb:Below w.heap.size w w'):BX w' b B l:=by
 obtain ⟨h1,h2,p,v,h3,h4,h5⟩:=h
 exact ⟨h1,Nat.le_trans h2 hb.size,p,v,(hb.block b (by omega)).trans h3,h4,ft h5 hb⟩
theorem V_ (b:Nat) (p v:Value) (w:World) (hb:w.heap[b]? =some (.cells #[p,v] 77 (0,0))) (hp:p=.pointer none∨p=.pointer (some ⟨b,0,none⟩)):
 Calls Tryz.prog 152 #[.pointer (some ⟨b,0,none⟩)] w fun e w'=>e=.returned (.tuple #[])∧w'.heap[b]? =some (.cells #[.pointer (some ⟨b,0,none⟩),v] 77 (0,0))∧∃q,w'=w∨w'=w.setCell ⟨b,0,none⟩ q:=by
 rcases hp with rfl|rfl
 ·refine (Any.Builder_copyCheck_fresh {Tryz.AM with} Tryz.ji.toX72 b w (by rw [Lib.cell_of_heap hb];rfl) (by simp [World.shape?,hb];rfl) (Lib.frozen_of_heap hb 0)).mono ?_
  rintro e w' ⟨rfl,rfl⟩
  exact ⟨rfl,by simp [World.setCell,Array.getElem?_modify,hb],_,.inr rfl⟩
 ·refine (Any.Builder_copyCheck_used {Tryz.AM with} Tryz.ji.toX72 b w (by rw [Lib.cell_of_heap hb];rfl)).mono ?_
  rintro e w' ⟨rfl,rfl⟩
  exact ⟨rfl,hb,.pointer none,.inl rfl⟩
theorem QI (b B:Nat) (l:List UInt8) (w:World) (h:BX w b B l):
 Calls Tryz.prog 152 #[.pointer (some ⟨b,0,none⟩)] w fun e w'=>e=.returned (.tuple #[])∧B≤w'.heap.size∧la b B w w'∧∃v,w'.heap[b]? =some (.cells #[.pointer (some ⟨b,0,none⟩),v] 77 (0,0))∧w'.ownsRow B 5 1 v l.length (Lib.byteCells l):=by
 obtain ⟨h1,h2,p,v,h3,h4,h5⟩:=h
 refine (V_ b p v w h3 h4).mono ?_
 rintro e w' ⟨rfl,hb,q,rfl|rfl⟩
 ·exact ⟨rfl,h2,la.refl _ _ _,v,hb,h5⟩
 ·refine ⟨rfl,by simpa [World.setCell] using h2,⟨(Below.refl _ _).setCell (p:=⟨b,0,none⟩) (Nat.le_refl _) _,fun k _ hk=>Below.heap_setCell _ _ _ _ hk,fun k _ hk _=>Below.heap_setCell _ _ _ _ hk⟩,v,hb,?_⟩
  refine World.ownsRow.kept (row:=some b) h5 ⟨rfl,rfl,rfl,by simp [World.setCell],fun k _ hk=>Below.heap_setCell _ _ _ _ (fun e=>hk (by simp [e]))⟩ (.inr ?_)
  intro e
  obtain ⟨_,h6|⟨g,cap,cur,rfl,hg,_⟩⟩:=h5
  ·rw [h6.1] at e;cases e
  ·have:g=b:=by simpa [Value.ownBlock] using e
   omega
theorem BX.put {w:World} {b B:Nat} {p v v':Value} {l':List UInt8} (h1:b<B) (h2:B≤w.heap.size) (hb:w.heap[b]? =some (.cells #[p,v] 77 (0,0))) (hp:p=.pointer none∨p=.pointer (some ⟨b,0,none⟩))
 (hown:w.ownsRow B 5 1 v' l'.length (Lib.byteCells l')):BX (w.setCell ⟨b,1,none⟩ v') b B l':=by
 refine ⟨h1,by simpa [World.setCell] using h2,p,v',by simp [World.setCell,Array.getElem?_modify,hb],hp,?_⟩
 refine World.ownsRow.kept (row:=some b) hown ⟨rfl,rfl,rfl,by simp [World.setCell],fun k _ hk=>Below.heap_setCell _ _ _ _ (fun e=>hk (by simp [e]))⟩ (.inr ?_)
 intro e
 obtain ⟨_,h6|⟨g,cap,cur,rfl,hg,_⟩⟩:=hown
 ·rw [h6.1] at e;cases e
 ·have:g=b:=by simpa [Value.ownBlock] using e
  omega
theorem yx {w:World} {b B:Nat} {v:Value} {n:Nat} {xs:List Value} (hown:w.ownsRow B 5 1 v n xs) {k:Nat} (hk:k<B):some k≠v.ownBlock:=by
 intro e
 obtain ⟨_,h6|⟨g,cap,cur,rfl,hg,_⟩⟩:=hown
 ·rw [h6.1] at e;cases e
 ·have:k=g:=by simpa [Value.ownBlock] using e
  omega
theorem eG (l:List UInt8) (c:UInt8):Lib.byteCells l++[.int .u8 (c.toNat:Int)]=Lib.byteCells (l++[c]):=by unfold Lib.byteCells;simp
theorem vF (l m:List UInt8):Lib.byteCells l++Lib.strCells (ae m)=Lib.byteCells (l++m):=by unfold Lib.byteCells Lib.strCells;rw [cy];simp
theorem tD (b B:Nat) (l:List UInt8) (c:UInt8) (w:World) (h:BX w b B l) (hlen:l.length+1≤1000000000):
 Calls Tryz.prog 114 #[.pointer (some ⟨b,0,none⟩),.int .u8 (c.toNat:Int)] w fun e w'=>e=.returned .nilIface∧BX w' b B (l++[c])∧la b B w w':=by
 obtain ⟨i0,hi,hz0,hz1,hz2⟩:=jK gK
 have C:=aa (QI b B l w h)
 have V':=h.1
 clear h
 go_enter Tryz.func114,Tryz.ntmps114
 go_wp2_with fail
 refine C.out.mono ?_
 rintro e w1 ⟨rfl,hBs,bu,v,On,hown⟩
 have c1:w1.cell? ⟨b,1,none⟩=some v:=by rw [Lib.cell_of_heap On];rfl
 have hlt:b<w1.heap.size:=by omega
 go_wp2_with (at_builtin;refine wpList_append_own _ rfl _ _ 75 rfl B 5 i0 (.int .u8 0) 1 1 Tryz.underlying75 hi hz0 hz1 hz2 rfl (by decide) _ _ _ rfl (hown.alloc _) ⟨w1.heap.size,0,none⟩ 1 1 [.int .u8 (c.toNat:Int)] rfl rfl ?c1 ?c2 ?c3 ?c4 ?c5 ?_)
 case c1=>
  intro j u hj
  match j,hj with
  |0,hj=>simp at hj;subst hj;simp [Addr.add]
 case c2=>intro u hu;simp at hu;subst hu;rfl
 case c3=>unfold maxLen;omega
 case c4=>omega
 case c5=>simp;omega
 intro v' w2 hown' hgrow _
 have hk2:∀k,k<B→w2.heap[k]? =w1.heap[k]? :=fun k hk=>by
  rw [hgrow.block k (by simp;omega) (yx (b:=b) hown hk),Lib.alloc_old w1 _ k (by omega)]
 have hb2:=(hk2 b V').trans On
 have d1:w2.cell? ⟨b,1,none⟩=some v:=by rw [Lib.cell_of_heap hb2];rfl
 have f1:w2.frozen? ⟨b,1,none⟩=false:=Lib.frozen_of_heap hb2 1
 obtain ⟨g,cap,rfl⟩:∃g cap,v'=.slice (some ⟨g,0,none⟩) (l.length+1) cap:=by
  rcases hown'.2 with ⟨_,h0⟩|⟨g,cap,cur,hv,_⟩
  ·omega
  ·exact ⟨g,cap,hv⟩
 have hsz:w1.heap.size≤w2.heap.size:=by have:=hgrow.size;simp at this;omega
 have HF:=aa (show la b B w w2 from bu.trans ⟨((Below.refl w1.heap.size w1).alloc (Nat.le_refl _) _|>.mono (by omega)).grown hgrow (by simp;omega) (fun k hk=>by have:=(hown.lt k hk).1;omega),fun k hk _=>hk2 k hk,fun k hk _ hm=>by rw [hgrow.block k (by simp;omega) (wG hown hm),Lib.alloc_old w1 _ k hk]⟩)
 have HO:=aa (show BX (w2.setCell ⟨b,1,none⟩ (.slice (some ⟨g,0,none⟩) (l.length+1) cap)) b B (l++[c]) from BX.put V' (by omega) hb2 (.inr rfl) (by rw [eG] at hown';simpa using hown'))
 clear hown hown' hgrow hk2 hb2 On bu
 go_wp2
 go_ret
 exact ⟨rfl,HO.out,HF.out.trans ⟨(Below.refl _ _).setCell (p:=⟨b,1,none⟩) (Nat.le_refl _) _,fun k _ hk=>Below.heap_setCell _ _ _ _ hk,fun k _ hk _=>Below.heap_setCell _ _ _ _ hk⟩⟩
theorem pg (b B:Nat) (l m:List UInt8) (w:World) (h:BX w b B l) (hlen:l.length+m.length≤1000000000):
 Calls Tryz.prog 115 #[.pointer (some ⟨b,0,none⟩),.string (ae m)] w fun e w'=>(∃v,e=.returned v)∧BX w' b B (l++m)∧la b B w w':=by
 obtain ⟨i0,hi,hz0,hz1,hz2⟩:=jK gK
 have C:=aa (QI b B l w h)
 have V':=h.1
 have HX:=aa (vF l m)
 have hsm:=aD m
 generalize ae m=s at*
 clear h
 go_enter Tryz.func115,Tryz.ntmps115
 go_wp2_with fail
 refine C.out.mono ?_
 rintro e w1 ⟨rfl,hBs,bu,v,On,hown⟩
 have c1:w1.cell? ⟨b,1,none⟩=some v:=by rw [Lib.cell_of_heap On];rfl
 have hlt:b<w1.heap.size:=by omega
 go_wp2_with (at_builtin;refine Lib.wpList_append_own_string _ rfl _ _ 75 9 rfl B 5 i0 Tryz.underlying75 Tryz.underlying9 hi hz0 hz1 hz2 _ _ _ rfl hown s rfl ?c3 ?c4 ?c5 ?_)
 case c3=>unfold maxLen;omega
 case c4=>omega
 case c5=>omega
 intro v' w2 hown' hgrow _
 have hk2:∀k,k<B→w2.heap[k]? =w1.heap[k]? :=fun k hk=>hgrow.block k (by omega) (yx (b:=b) hown hk)
 have hb2:=(hk2 b V').trans On
 have d1:w2.cell? ⟨b,1,none⟩=some v:=by rw [Lib.cell_of_heap hb2];rfl
 have f1:w2.frozen? ⟨b,1,none⟩=false:=Lib.frozen_of_heap hb2 1
 obtain ⟨ao,n',cap,rfl⟩:∃ao n' cap,v'=.slice ao n' cap:=by
  rcases hown'.2 with ⟨hv,_⟩|⟨g,cap,cur,hv,_⟩
  ·exact ⟨_,_,_,hv⟩
  ·exact ⟨_,_,_,hv⟩
 have hsz:w1.heap.size≤w2.heap.size:=hgrow.size
 have HF:=aa (show la b B w w2 from bu.trans ⟨((Below.refl w1.heap.size w1).mono (by omega)).grown hgrow (by omega) (fun k hk=>by have:=(hown.lt k hk).1;omega),fun k hk _=>hk2 k hk,fun k hk _ hm=>hgrow.block k hk (wG hown hm)⟩)
 have HO:=aa (show BX (w2.setCell ⟨b,1,none⟩ (.slice ao n' cap)) b B (l++m) from BX.put V' (by omega) hb2 (.inr rfl) (by rw [HX.out] at hown';rw [List.length_append];exact hown'))
 clear hown hown' hgrow hk2 hb2 On bu
 go_wp2
 go_ret2
 exact ⟨⟨_,rfl⟩,HO.out,HF.out.trans ⟨(Below.refl _ _).setCell (p:=⟨b,1,none⟩) (Nat.le_refl _) _,fun k _ hk=>Below.heap_setCell _ _ _ _ hk,fun k _ hk _=>Below.heap_setCell _ _ _ _ hk⟩⟩
theorem FW (b B:Nat) (l:List UInt8) (w:World) (h:BX w b B l):
 Calls Tryz.prog 46 #[.pointer (some ⟨b,0,none⟩)] w fun e w'=>e=.returned (.string (ae l))∧Below b w w':=by
 obtain ⟨h1,h2,p,v,h3,h4,h5⟩:=h
 have hne:v.ownBlock≠some b:=fun e=>yx (b:=b) h5 h1 e.symm
 refine Tryz.Builder_String_any b b l w ?_ (by omega)
 rcases h4 with rfl|rfl
 ·exact .inl ⟨Nat.le_refl _,v,h3,by rw [Lib.byteCells_length];exact oJ h5 (by omega),hne⟩
 ·exact .inr ⟨Nat.le_refl _,v,h3,by rw [Lib.byteCells_length];exact oJ h5 (by omega),hne⟩
theorem ld (k:Nat) {c:UInt8} (t:List UInt8) (h:dn c≠0):eD k (c::t)=List.replicate k (dn c)++eD k t:=by
 unfold eD;rw [List.flatMap_cons,if_pos h]
theorem mW (k:Nat) {c:UInt8} (t:List UInt8) (h:dn c=0):eD k (c::t)=dA k (cv c).toNat++eD k t:=by
 unfold eD;rw [List.flatMap_cons,if_neg (fun e=>e h)]
theorem lg (k:Nat):∀l:List UInt8,(eD k l).length=k*l.length
 |[]=>rfl
 |c::t=>by
  by_cases h:dn c=0
  ·rw [mW k t h,List.length_append,dR,lg k t,List.length_cons,Nat.mul_succ];omega
  ·rw [ld k t h,List.length_append,List.length_replicate,lg k t,List.length_cons,Nat.mul_succ];omega
theorem OC (x j:Nat) (h:x≤15):wrap64 (48+bits .and .i64 ((x:Int) / 2 ^ j) 1) % 256=((iy (x / 2 ^ j)).toNat:Int):=by
 have e:(x:Int) / 2 ^ j=((x / 2 ^ j:Nat):Int):=by simp
 rw [e]
 have hle:x / 2 ^ j<16:=Nat.lt_of_le_of_lt (Nat.div_le_self _ _) (by omega)
 have h2:∀y:Fin 16,wrap64 (48+bits .and .i64 (y.val:Int) 1) % 256=((iy y.val).toNat:Int):=by decide+kernel
 exact h2 ⟨_,hle⟩
theorem yy (l:List UInt8) (k:Nat) (w:World) (hl:l.length≤100000) (hk:k≤4) (hd:∀c∈l,dn c≠0∨0≤cv c):
 Calls Tryz.prog 193 #[.string (ae l),.int .i64 (k:Int)] w fun e w'=>e=.returned (.string (ae (eD k l)))∧Below w.heap.size w w':=by
 have HD:=aa hd
 clear hd
 obtain ⟨RL,OD⟩:∃R,eD k l=R:=⟨_,rfl⟩
 have Wc:RL.length≤400000:=by rw [←OD,lg];have:=Nat.mul_le_mul hk hl;omega
 have HR:=aa OD
 rw [OD]
 clear OD
 go_enter Tryz.func193,Tryz.ntmps193
 go_upto_region 2 with fail
 obtain ⟨W1,hW1⟩:∃W1,w.alloc (.cells #[.pointer none,.slice none 0 0] 77)=W1:=⟨_,rfl⟩
 rw [hW1]
 obtain ⟨W2,cap,hcv,hb2,fT,hs2⟩:=ql W1 l
 obtain ⟨b,hb⟩:∃b,w.heap.size=b:=⟨_,rfl⟩
 have hs1:W1.heap.size=b+1:=by rw [←hW1,←hb];simp
 have fo:W1.heap[b]? =some (.cells #[.pointer none,.slice none 0 0] 77 (0,0)):=by rw [←hW1,←hb];exact World.alloc_heap_new _ _
 rw [hs1] at hs2 fT hcv
 have HT:=aa (show eF W2 (b+1) l from fT)
 have HX:=aa (show BX W2 b (b+2) [] from BX.fresh ((hb2.block b (by omega)).trans fo) (by omega) (by omega))
 have HB:=aa (show Below w.heap.size w W2 from ((show Below w.heap.size w W1 by rw [←hW1];exact (Below.refl _ _).alloc (Nat.le_refl _) _)).trans (hb2.mono (by omega)))
 have Hb:=aa (show w.heap.size≤b by omega)
 have hz:=aD l
 rw [hb]
 generalize ae l=s at*
 clear fT fo hs1 hs2 hb2 hW1 hb
 go_wp2_with fail
 go_loopw [13] (fun v wr=>∃(i:Nat) (P:List UInt8),v=.int .i64 (i:Int)∧i≤l.length∧P++eD k (l.drop i)=RL∧BX wr b (b+2) P∧eF wr (b+1) l∧Below w.heap.size w wr) (fun v _=>l.length-(intOf v).toNat)
 case atStart=>exact ⟨0,[],rfl,by omega,HR.out,HX.out,HT.out,HB.out⟩
 case round=>
  obtain ⟨i,P,rfl,hi,hP,hx,fT,hb⟩:=hrel
  have HX:=aa hx
  have jX:=aa hb
  have yw:=aa fT
  have HP:=aa hP
  clear hP hx hb
  by_cases hlt:i<l.length
  ·have hi':(i:Int)<(l.length:Int):=by omega
   have lU:(0:Int)≤(i:Int):=by omega
   have UW:IntKind.i64.wrap ((i:Int)+1)=(i:Int)+1:=IntWalk.i64_in _ (by omega)
   have hdr:l.drop i=l[i]::l.drop (i+1):=List.drop_eq_getElem_cons hlt
   have DZ:=HD.out _ (List.getElem_mem hlt)
   obtain ⟨c,hc⟩:∃c,l[i]=c:=⟨_,rfl⟩
   have hcell:wr.cell? ⟨b+1,i,none⟩=some (.int .u8 (l[i].toNat:Int)):=fT i hlt
   rw [hc] at hdr DZ hcell
   have OB:=aa hdr
   have U:=aa (oM c)
   have FX:=aa (show P.length≤400000 by have:=congrArg List.length HP.out;rw [List.length_append] at this;omega)
   clear hdr hc fT
   by_cases hu:dn c=0
   ·have hh:0≤cv c:=DZ.resolve_left (fun h=>h hu)
    have hh2:=(nT c).2
    have H:=aa (s7 c)
    obtain ⟨x,hx⟩:∃x:Nat,cv c=x:=⟨(cv c).toNat,by omega⟩
    have Sr:=mW k (l.drop (i+1)) hu
    rw [←OB.out,hx,Int.toNat_natCast] at Sr
    rw [hx] at H hh2
    have HHS:=aa Sr
    rw [hu] at U
    clear hu hh DZ hx Sr
    have U:=aa (fun W:World=>(show Calls Tryz.prog 190 #[.int .u8 (c.toNat:Int)] W fun e w'=>e=.returned (.int .u8 0)∧w'=W from U.out W))
    have hwk:IntKind.i64.wrap ((k:Int)-1)=(k:Int)-1:=IntWalk.i64_in _ (by omega)
    go_wp2_with fail
    refine (U.out _).mono ?_
    rintro e wx ⟨rfl,rfl⟩
    go_wp2_with fail
    go_loopw [9] (fun v wr=>∃(m:Nat) (P2:List UInt8),v=.int .i64 ((m:Int)-1)∧m≤k∧P2++dA m x=P++dA k x∧BX wr b (b+2) P2∧eF wr (b+1) l∧Below w.heap.size w wr) (fun v _=>(intOf v+1).toNat)
    case atStart=>exact ⟨k,P,rfl,Nat.le_refl _,rfl,HX.out,yw.out,jX.out⟩
    case round=>
     obtain ⟨m,P2,rfl,hm,hP2,hx,fT,hb⟩:=hrel
     have HX:=aa hx
     have jX:=aa hb
     have yw:=aa fT
     have KS:=aa hP2
     clear hP2 hx hb fT
     cases m with
     |succ j=>
      have V8:((j+1:Nat):Int)-1=(j:Int):=by omega
      rw [V8]
      have hj0:(0:Int)≤(j:Int):=by omega
      have hwj:IntKind.i64.wrap ((j:Int)-1)=(j:Int)-1:=IntWalk.i64_in _ (by omega)
      go_wp2_with fail
      refine (H.out _).mono ?_
      rintro e wy ⟨rfl,rfl⟩
      go_wp2_with fail
      have W:=aa (tD b (b+2) P2 (iy (x / 2 ^ j)) wy HX.out (by have:=congrArg List.length KS.out;rw [List.length_append,List.length_append,dR,dR] at this;have:=FX.out;omega))
      rw [←OC x j (by omega)] at W
      refine W.out.mono ?_
      rintro e wz ⟨rfl,hx,bu⟩
      have D5:=aa hx
      have qo:=aa (bu.text yw.out (by omega) (by omega))
      have AO:=aa (jX.out.trans (bu.1.mono Hb.out))
      have H9:=aa (show (P2++[iy (x / 2 ^ j)])++dA j x=P++dA k x by rw [←KS.out,nV,List.append_assoc];rfl)
      clear hx bu
      go_wp2
      go_roundw
      case rel=>exact ⟨j,_,rfl,by omega,H9.out,D5.out,qo.out,AO.out⟩
      case measure=>simp [intOf]
     |zero=>
      have hz0:((0:Nat):Int)-1=-1:=rfl
      rw [hz0]
      have H9:=aa (show P2++eD k (l.drop (i+1))=RL by rw [←HP.out,HHS.out,←List.append_assoc,←KS.out];unfold dA;rw [List.append_nil])
      go_wp2
      go_roundw
      case rel=>exact ⟨i+1,P2,by go_num,by omega,H9.out,HX.out,yw.out,jX.out⟩
      case measure=>simp [intOf];omega
   ·have Sr:=ld k (l.drop (i+1)) hu
    rw [←OB.out] at Sr
    have HHS:=aa Sr
    have hu2:((dn c).toNat:Int)≠0:=fun e=>hu (UInt8.toNat_inj.1 (by show (dn c).toNat=0;omega))
    have R:=aa (fun W:World=>jZ (dn c) k W (by omega))
    rw [show ((k:Int)).toNat=k from rfl] at R
    generalize hU:dn c=u at*
    have e1:((u.toNat:Int)==0)=false:=beq_eq_false_iff_ne.2 hu2
    have e2:((u.toNat:Int) !=0)=true:=by rw [bne,e1];rfl
    clear Sr hu hU DZ hu2
    go_wp2_with fail
    refine (U.out _).mono ?_
    rintro e wx ⟨rfl,rfl⟩
    go_wp2_with fail
    refine (R.out _).mono ?_
    rintro e wy ⟨rfl,hb3⟩
    have W:=aa (pg b (b+2) P (List.replicate k u) wy (HX.out.below hb3) (by rw [List.length_replicate];have:=FX.out;omega))
    have aaj:=aa (yw.out.below hb3 (by have:=HX.out.2.1;omega))
    have AO:=aa (jX.out.trans (hb3.mono jX.out.size))
    clear hb3
    go_wp2_with fail
    refine W.out.mono ?_
    rintro e wz ⟨⟨vv,rfl⟩,hx,bu⟩
    have D5:=aa hx
    have qo:=aa (bu.text aaj.out (by omega) (by omega))
    have OE:=aa (AO.out.trans (bu.1.mono Hb.out))
    have H9:=aa (show (P++List.replicate k u)++eD k (l.drop (i+1))=RL by rw [←HP.out,HHS.out,List.append_assoc])
    clear hx bu
    go_wp2
    go_roundw
    case rel=>exact ⟨i+1,_,by go_num,by omega,H9.out,D5.out,qo.out,OE.out⟩
    case measure=>simp [intOf];omega
  ·have hi':¬(i:Int)<(l.length:Int):=by omega
   have hPR:P=RL:=by rw [←HP.out,List.drop_eq_nil_of_le (by omega)];show P=P++[];rw [List.append_nil]
   have S:=aa (FW b (b+2) P wr HX.out)
   rw [hPR] at S
   clear hPR fT
   go_wp2_with fail
   refine S.out.mono ?_
   rintro e wz ⟨rfl,hb3⟩
   go_wp2
   go_ret
   exact ⟨rfl,jX.out.trans (hb3.mono Hb.out)⟩
def vG (w:Nat) (u:UInt8) (out:List UInt8):List UInt8×Int:=
 if out.length<w then (List.replicate (w-out.length) (if u≠0 then u else 48)++out,0)
 else if (out.take (out.length-w)).all (·==48) then (out.drop (out.length-w),0) else ([],8)
def r_ (b:UInt8) (ds:List UInt8):List UInt8:=if b=100 then bP ds 0 else eD ((dH b).getD 0) ds
def pj (d:List UInt8) (b:UInt8) (ds:List UInt8):List UInt8×Int:=
 if b=100∧¬(ds.length=1∧dn (ds.headD 0)≠0)∧aQ aZ ds<ds.length then ([],3) else
 if eh d<1∨128<eh d then ([],8) else
 if b=100∧ds.length=1∧dn (ds.headD 0)≠0 then (List.replicate (eh d) (dn (ds.headD 0)),0) else
 vG (eh d) (dn (ds.headD 0)) (r_ b ds)
theorem tE {l:List UInt8} (h:aQ aZ l=0):dB l=([],3):=by
 unfold dB;rw [if_pos (.inl h)]
theorem tF {l:List UInt8} (h:bN l (aQ aZ l)≠l.length):dB l=([],3):=by
 unfold dB;rw [if_pos (.inr h)]
theorem tG {l:List UInt8} (h:aQ aZ l≠0) (hc:bN l (aQ aZ l)=l.length):
 dB l=pj (l.take (aQ aZ l)) (aU (l.getD (aQ aZ l+1) 0)) (l.drop (aQ aZ l+2)):=by
 unfold dB
 rw [if_neg (by rintro (h1|h1);exact h h1;exact h1 hc)]
 rfl
theorem FY {p:UInt8→Bool} {t:List UInt8} (h:aQ p t=t.length):∀c∈t,p c=true:=by
 have h1:t.takeWhile p=t:=by
  have hp:=List.takeWhile_prefix p (l:=t)
  exact hp.eq_of_length h
 intro c hc
 have h2:=List.all_takeWhile (p:=p) (l:=t)
 rw [h1] at h2
 exact List.all_eq_true.1 h2 c hc
theorem AP {l:List UInt8} {n:Nat} (h:bN l n=l.length) (hl:0<l.length):
 n+2<l.length∧(dH (aU (l.getD (n+1) 0))).isSome=true∧∀c∈l.drop (n+2),p_ (aU (l.getD (n+1) 0)) c=true:=by
 unfold bN at h
 split at h
 ·next b t e=>
  split at h
  ·omega
  ·rename_i hno
   split at h
   ·omega
   ·rename_i hs
    have e1:l.getD (n+1) 0=b:=by
     have h2:(l.drop n)[1]? =some b:=by rw [e];rfl
     rw [List.getElem?_drop] at h2
     rw [List.getD_eq_getElem?_getD,h2];rfl
    have e2:l.drop (n+2)=t:=by
     have h2:(l.drop n).drop 2=t:=by rw [e];rfl
     rw [←h2,List.drop_drop]
    have hlen:l.length=n+2+t.length:=by
     have h3:=congrArg List.length e
     rw [List.length_drop,List.length_cons,List.length_cons] at h3
     omega
    have hsp:aQ (p_ (aU b)) t=t.length:=by omega
    have D6:t.length≠0:=fun h4=>hno (.inl (List.length_eq_zero_iff.1 h4))
    rw [e1,e2]
    refine ⟨by omega,?_,FY hsp⟩
    cases hb:dH (aU b) with
    |none=>exact absurd (.inr (.inl hb)) hno
    |some _=>rfl
 ·omega
theorem H_ {b c:UInt8} (h:p_ b c=true) (hb:b≠100):dn c≠0∨0≤cv c:=by
 unfold p_ at h
 split at h
 ·rename_i hx
  left
  unfold dn
  rw [if_pos hx]
  rcases hx with hx|hx<;>rw [hx]<;>decide
 ·first|rw [if_neg hb] at h|skip
  exact .inr (of_decide_eq_true h).1
def pk (w:Nat) (c:UInt8):Nat:=min (10*w+(c.toNat-48)) 1000
theorem H' (d:List UInt8):eh d=d.foldl pk 0:=rfl
theorem AQ:∀(d:List UInt8) (w:Nat),w≤1000→d.foldl pk w≤1000
 |[],w,h=>h
 |c::t,w,h=>by
  rw [List.foldl_cons]
  exact AQ t _ (Nat.min_le_right _ _)
theorem Ia (d:List UInt8):eh d≤1000:=AQ d 0 (Nat.zero_le _)
theorem rE:∀(ds:List UInt8) (v:Nat),140≤(bP ds v).length∧(bP ds v).length≤141
 |[],v=>by unfold bP;rw [dR];omega
 |c::t,v=>by
  unfold bP
  split
  ·rw [List.length_cons,dR];omega
  ·exact rE t _
theorem KT (b:UInt8) (ds:List UInt8) (h:ds.length≤100000):(r_ b ds).length≤400000:=by
 unfold r_
 split
 ·have:=(rE ds 0).2;omega
 ·rw [lg]
  have:=Nat.mul_le_mul (show (dH b).getD 0≤4 by rcases l7 b with k|k|k|k<;>rw [k]<;>omega) h
  omega
end Go.Proofs.YtddoehnkgcbboaaGreatDoor
