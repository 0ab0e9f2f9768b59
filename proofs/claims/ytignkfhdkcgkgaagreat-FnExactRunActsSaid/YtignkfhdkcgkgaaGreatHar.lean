/- Words for memory: slices that read as lists, owned rows, and how they are kept. -/
import Derived.BigQuiet
import Derived.Deep.AppendLies
import Derived.Deep.QuietTactic
import Derived.Deep.RegionHeld3
import Derived.Deep.RegionWith
import Derived.Laws.MakeOwn
import Derived.Lib.Hide
import Derived.Maps.AppendAt
import Derived.Test.YtignkfhdkcgkgaaGreatRows
import Derived.WalkKit
import Derived.WalkSpells
namespace Go.Proofs.YtignkfhdkcgkgaaGreat
set_option maxHeartbeats 400000
set_option maxRecDepth 100000
open Go.RowKit
theorem Hd {p:Prop} (h:p):Hid p:=Lib.hid h
theorem aA {a b c:World} (h:Below a.heap.size a b) (k:Below b.heap.size b c):Below a.heap.size a c:=h.trans (k.mono h.size)
theorem aZ {B:Nat} {a w:World} (h:Below B a w) (n:Nat):Below B a (w.drewN n):=⟨h.os,h.tape,h.output,h.size,h.block⟩
theorem aB {a b:World} (h:Below a.heap.size a b) (o:Obj):Below a.heap.size a (b.alloc o):=h.alloc h.size o
theorem eZ {a b:World} (h:Below a.heap.size a b) {k:Nat} (hk:k<a.heap.size):k<b.heap.size:=Nat.lt_of_lt_of_le hk h.size
theorem aO {W w1:World} (hb:Below W.heap.size W w1):(∀b o,b<W.heap.size→w1.cell? ⟨b,o,none⟩=W.cell? ⟨b,o,none⟩)/\(∀b o,b<W.heap.size→w1.frozen? ⟨b,o,none⟩=W.frozen? ⟨b,o,none⟩) :=
 ⟨fun b o h=>hb.cell (p:=⟨b,o,none⟩) h,fun b o h=>hb.frozen (p:=⟨b,o,none⟩) h⟩
def bH (w:World) (A:Option Addr) (n:Nat) (xs:List Int):Prop :=
 xs.length=n/\(0<n→∃b o,A=some ⟨b,o,none⟩/\b<w.heap.size/\∀j,j<n→w.cell? ⟨b,o+j,none⟩=some (.int .i64 (xs[j]?.getD 0)))
theorem bH.below {w w':World} {A:Option Addr} {n:Nat} {xs:List Int} (h:bH w A n xs) (hb:Below w.heap.size w w'):bH w' A n xs:=by
 refine ⟨h.1,fun hn=>?_⟩
 obtain ⟨b,o,e,hlt,hc⟩:=h.2 hn
 exact ⟨b,o,e,eZ hb hlt,fun j hj=>(hb.cell (p:=⟨b,o+j,none⟩) hlt).trans (hc j hj)⟩
def Own (base:Nat) (w:World) (A:Option Addr) (n c:Nat) (xs:List Int):Prop :=
 w.ownsRow base 3 1 (.slice A n c) n (xs.map (Value.int .i64))
theorem Own.len {base:Nat} {w:World} {A:Option Addr} {n c:Nat} {xs:List Int} (h:Own base w A n c xs):xs.length=n:=by
 have:=h.1;simpa using this
theorem Own.lt {base:Nat} {w:World} {A:Option Addr} {n c:Nat} {xs:List Int} (h:Own base w A n c xs):∀a,A=some a→base<=a.block/\a.block<w.heap.size:=by
 rintro a rfl
 rcases h.2 with ⟨hv,_⟩|⟨g,cap,cur,hv,hb,hh,_⟩
 ·cases hv
 ·injection hv with hA
  injection hA with hA
  subst hA
  refine ⟨hb,?_⟩
  rcases Nat.lt_or_ge g w.heap.size with hlt|hge
  ·exact hlt
  ·rw [Array.getElem?_eq_none hge] at hh;cases hh
theorem aa {w w':World} {base:Nat} {e:TypeId} {size:Nat} {A:Option Addr} {n c m:Nat} {xs:List Value} (h:w.ownsRow base e size (.slice A n c) m xs)
  (hk:∀a,A=some a→w'.heap[a.block]?=w.heap[a.block]?):w'.ownsRow base e size (.slice A n c) m xs:=by
 refine ⟨h.1,?_⟩
 rcases h.2 with h0|⟨g,cap,cur,hv,hb,hh,r⟩
 ·exact .inl h0
 ·refine .inr ⟨g,cap,cur,hv,hb,?_,r⟩
  injection hv with hA
  rw [←hh]
  exact hk _ hA
theorem Own.below {base:Nat} {w w':World} {A:Option Addr} {n c:Nat} {xs:List Int} (h:Own base w A n c xs) (hb:Below w.heap.size w w'):Own base w' A n c xs :=
 aa h fun a ha=>hb.block _ (h.lt a ha).2
theorem Own.more {base base':Nat} {w:World} {A:Option Addr} {n c:Nat} {xs:List Int} (h:Own base w A n c xs) (hb:base'<=base):Own base' w A n c xs:=by
 refine ⟨h.1,?_⟩
 rcases h.2 with h0|⟨g,cap,cur,hv,hg,r⟩
 ·exact .inl h0
 ·exact .inr ⟨g,cap,cur,hv,Nat.le_trans hb hg,r⟩
theorem Own.ints {base:Nat} {w:World} {A:Option Addr} {n c:Nat} {xs:List Int} (h:Own base w A n c xs):bH w A n xs:=by
 refine ⟨h.len,fun hn=>?_⟩
 have hl:=h.lt
 rcases h.2 with ⟨_,h0⟩|⟨g,cap,cur,hv,hb,hh,hnc,hcap,hsz,ht⟩
 ·omega
 ·injection hv with hA
  subst hA
  refine ⟨g,0,rfl,(hl _ rfl).2,fun j hj=>?_⟩
  have hx:(xs.map (Value.int .i64))[j]?=some (.int .i64 (xs[j]?.getD 0)):=by
   have:j<xs.length:=by have:=h.len;omega
   simp [this]
  rw [←ht,List.getElem?_take] at hx
  simp only [Nat.mul_one] at hx
  rw [if_pos hj] at hx
  simpa [World.cell?,hh] using hx
theorem Own.nil {base:Nat} {w:World}:Own base w none 0 0 []:=⟨rfl,.inl ⟨rfl,rfl⟩⟩
theorem Own.made {w:World} {base g:Nat} {n:Nat} {cur:Array Value} {xs:List Int} (hh:w.heap[g]?=some (.cells cur 3 (0,0))) (hb:base<=g) (hn:n<=maxLen) (hc:cur.toList=xs.map (Value.int .i64)) (hl:xs.length=n):Own base w (some ⟨g,0,none⟩) n n xs:=by
 have hsz:cur.size=n:=by rw [←Array.length_toList,hc,List.length_map,hl]
 refine ⟨by simp [hl],.inr ⟨g,n,cur,rfl,hb,hh,Nat.le_refl _,hn,by omega,?_⟩⟩
 rw [hc,List.take_of_length_le (by simp [hl])]
def arr (xs:List Int):Array Value:=(xs.map (Value.int .i64)).toArray
theorem Bq (xs:List Int):(arr xs).size=xs.length:=by simp [arr]
theorem fC {xs:List Int} {k:Nat} (h:k<xs.length):(arr xs)[k]?=some (.int .i64 (xs[k]?.getD 0)):=by simp [arr,h]
theorem iA (xs:List Int) (k:Nat) (v:Int):(arr xs).setIfInBounds k (.int .i64 v)=arr (xs.set k v):=by
 apply Array.ext'
 simp [arr,List.map_set]
theorem iV (n:Nat):madeCells #[Value.int .i64 0] n=arr (List.replicate n 0):=by
 apply Array.ext'
 rw [toList_madeCells_one]
 simp [arr]
theorem Own.arr {w:World} {base g n:Nat} {xs:List Int} (hh:w.heap[g]?=some (.cells (arr xs) 3 (0,0))) (hb:base<=g) (hn:n<=maxLen) (hl:xs.length=n):Own base w (some ⟨g,0,none⟩) n n xs :=
 Own.made hh hb hn (by simp [Go.Proofs.YtignkfhdkcgkgaaGreat.arr]) hl
theorem aL (w:World) (o:Obj):(w.alloc o).heap[w.heap.size]?=some o:=heap_alloc_new w o
theorem bU {P:Program} (t e:TypeId) (i:TypeInfo) (z:Value) (ht:P.underlying t=some (.slice e)) (hi:P.info? e=some i) (hz:i.zero=some z)
  (kl kc:IntKind) (n c:Nat) (hnc:n<=c) (hbytes:i.bytes * c<=281474976710656) (h63:c<=9223372036854775807) (w:World) :
  (Instr.makeSlice t (.int kl (n:Int)) (.int kc (c:Int))).run P w = .ok (.slice (some ⟨w.heap.size,0,none⟩) n c) (w.alloc (.cells (madeCells z.cells (c * i.size)) e)):=by
 have hb:(i.bytes:Int) * (c:Int)<=281474976710656:=by
  have h:((i.bytes * c:Nat):Int)<=281474976710656:=by omega
  rwa [Int.natCast_mul] at h
 have hr:=run_make (P:=P) w t e i z ht hi hz kl kc n c (by omega) (by omega) hb (by omega)
 simp only [Int.toNat_natCast] at hr
 exact hr
theorem tN (w:World) (cs:Array Value) (t:TypeId) (k m:Nat) (v:Value):((w.alloc (.cells cs t)).drewN m).setCell ⟨w.heap.size,k,none⟩ v=(w.alloc (.cells (cs.setIfInBounds k v) t)).drewN m:=by
 have h:(w.alloc (.cells cs t)).setCell ⟨w.heap.size,k,none⟩ v=w.alloc (.cells (cs.setIfInBounds k v) t):=World.setCell_alloc_at _ _ _ _ _ rfl
 rw [←h]
 rfl
theorem aX {w:World} {g:Nat} {o:Obj} (h:w.heap[g]?=some o):g<w.heap.size:=by
 rcases Nat.lt_or_ge g w.heap.size with hlt|hge
 ·exact hlt
 ·rw [Array.getElem?_eq_none hge] at h;cases h
theorem bF {w:World} {g:Nat} {cs:Array Value} {t:TypeId} (h:w.heap[g]?=some (.cells cs t (0,0))) (j:Nat) (v:Value):(w.setCell ⟨g,j,none⟩ v).heap[g]?=some (.cells (cs.setIfInBounds j v) t (0,0)):=by
 simp [World.setCell,Array.getElem?_modify,h]
theorem gF {p:Nat→Prop} {k:Nat} (h:∀j,j<k→p j) (hk:p k):∀j,j<k+1→p j:=by
 intro j hj
 rcases Nat.lt_or_ge j k with h1|h1
 ·exact h j h1
 ·obtain rfl:j=k:=by omega
  exact hk
theorem aP {k:IntKind} {a b:Int} (h:a=b):Ending.returned (.int k a) = .returned (.int k b):=by rw [h]
theorem aH {a b:Bool} (h:a=b):Ending.returned (.bool a) = .returned (.bool b):=by rw [h]
theorem eP:(Tryz.prog.info? 3).map (fun i=>(i.zero,i.size,i.bytes))=some (some (.int .i64 0),1,8):=by kernel_rfl
def inR (n lo hi:Int):Bool:=decide (lo<=n) && decide (n<=hi)
theorem ak {n lo hi:Int}:inR n lo hi=true↔lo<=n/\n<=hi:=by simp [inR]
theorem fT {n lo hi:Int}:inR n lo hi=false↔n<lo∨hi<n:=by
 simp only [inR,Bool.and_eq_false_iff,decide_eq_false_iff_not];omega
structure Dev where
 W:Int
 H:Int
 T:Int
 R:Int
structure Reg where
 X0:Int
 Y0:Int
 X1:Int
 Y1:Int
theorem aN (n lo hi:Int) (w:World) :
  Calls Tryz.prog 116 #[.int .i64 n,.int .i64 lo,.int .i64 hi] w fun e w'=>e = .returned (.bool (inR n lo hi))/\w=w':=by
 unfold inR
 by_cases h1:lo<=n
 ·have hd:decide (n≥lo)=true:=by simpa using h1
  go_enter Tryz.func116,Tryz.ntmps116
  go_wp2
  go_ret
  exact ⟨by simp [h1],rfl⟩
 ·have hd:decide (n≥lo)=false:=by simpa using h1
  go_enter Tryz.func116,Tryz.ntmps116
  go_wp2
  go_ret
  exact ⟨by simp,rfl⟩
theorem aW (n lo hi:Int) (w:World) :
  Calls Tryz.prog 175 #[.int .i64 n,.int .i64 lo,.int .i64 hi] w fun e w'=>e = .returned (.bool (inR n lo hi))/\w=w':=by
 unfold inR
 by_cases h1:lo<=n
 ·have hd:decide (n≥lo)=true:=by simpa using h1
  go_enter Tryz.func175,Tryz.ntmps175
  go_wp2
  go_ret
  exact ⟨by simp [h1],rfl⟩
 ·have hd:decide (n≥lo)=false:=by simpa using h1
  go_enter Tryz.func175,Tryz.ntmps175
  go_wp2
  go_ret
  exact ⟨by simp,rfl⟩
theorem yG (n lo hi:Int) (w:World) :
  Calls Tryz.prog 116 #[.int .i64 n,.int .i64 lo,.int .i64 hi] w fun e w'=>e = .returned (.bool (inR n lo hi))/\w'=w :=
 (aN n lo hi w).mono fun _ _ h=>⟨h.1,h.2.symm⟩
theorem EL (n lo hi:Int) (w:World) :
  Calls Tryz.prog 175 #[.int .i64 n,.int .i64 lo,.int .i64 hi] w fun e w'=>e = .returned (.bool (inR n lo hi))/\w'=w :=
 (aW n lo hi w).mono fun _ _ h=>⟨h.1,h.2.symm⟩
theorem zV (d:Dev) (w:World) :
  Calls Tryz.prog 51 #[.agg #[.int .i64 d.W,.int .i64 d.H,.int .i64 d.T,.int .i64 d.R]] w fun e w'=>e = .returned (.agg #[.int .i64 d.W,.int .i64 d.H,.int .i64 d.T,.int .i64 d.R])/\Below w.heap.size w w':=by
 go_enter Tryz.func51,Tryz.ntmps51
 go_wp2_with fail
 exact bodyPost_ret (v := .agg #[.int .i64 d.W,.int .i64 d.H,.int .i64 d.T,.int .i64 d.R]) (by simp [results,Tryz.results51,go_sem]) rfl ⟨rfl,aB (aB (aB (Below.refl _ _) _) _) _⟩
theorem tQ (r:Reg) (w:World) :
  Calls Tryz.prog 54 #[.agg #[.int .i64 r.X0,.int .i64 r.Y0,.int .i64 r.X1,.int .i64 r.Y1]] w fun e w'=>e = .returned (.agg #[.int .i64 r.X0,.int .i64 r.Y0,.int .i64 r.X1,.int .i64 r.Y1])/\Below w.heap.size w w':=by
 go_enter Tryz.func54,Tryz.ntmps54
 go_wp2_with fail
 exact bodyPost_ret (v := .agg #[.int .i64 r.X0,.int .i64 r.Y0,.int .i64 r.X1,.int .i64 r.Y1]) (by simp [results,Tryz.results54,go_sem]) rfl ⟨rfl,aB (aB (aB (Below.refl _ _) _) _) _⟩
/-! ### toIntS -/
def jv (xs:List Int) (n k:Nat):Array Value:=((xs.take k++List.replicate (n - k) 0).map (Value.int .i64)).toArray
theorem Br {xs:List Int} {n k:Nat} (h:xs.length=n) (hk:k<=n):(jv xs n k).size=n:=by
 simp [jv];omega
theorem Dc {xs:List Int} {n k:Nat} (h:xs.length=n) (hk:k<n):(jv xs n k)[k]?=some (.int .i64 0):=by
 have h1:¬k<min k xs.length:=by omega
 have h2:k - min k xs.length<n - k:=by omega
 simp only [jv,List.getElem?_toArray,List.getElem?_map,List.getElem?_append,List.length_take,h1,if_false,List.getElem?_replicate,h2,if_true,Option.map_some]
theorem Df {xs:List Int} {n k:Nat} (h:xs.length=n) (hk:k<n):(jv xs n k).setIfInBounds k (.int .i64 (xs[k]?.getD 0))=jv xs n (k+1):=by
 apply Array.ext'
 apply List.ext_getElem?
 intro i
 have hk':k<xs.length:=by omega
 have e1:min k xs.length=k:=by omega
 have e2:min (k+1) xs.length=k+1:=by omega
 simp only [jv,List.setIfInBounds_toArray,List.getElem?_set,List.length_map,List.length_append,List.length_take,List.length_replicate,List.getElem?_map,List.getElem?_append,List.getElem?_take,List.getElem?_replicate,e1,e2]
 by_cases hi:k=i
 ·subst hi
  have h3:k<k+(n - k):=by omega
  simp [hk',h3]
 ·simp only [hi,if_false]
  by_cases h1:i<k
  ·have:i<k+1:=by omega
   simp [h1,this]
  ·have h2:¬i<k+1:=by omega
   simp only [h1,h2,if_false]
   have e3:(i - k<n - k)=(i - (k+1)<n - (k+1)):=propext (by omega)
   simp only [e3]
theorem Bt (xs:List Int) (n:Nat):jv xs n 0=madeCells #[Value.int .i64 0] n:=by
 apply Array.ext'
 rw [toList_madeCells_one]
 simp [jv]
theorem Bv {xs:List Int} {n:Nat} (h:xs.length=n):(jv xs n n).toList=xs.map (Value.int .i64):=by
 simp [jv,←h]
theorem rY (A:Option Addr) (n c:Nat) (xs:List Int) (w:World) (h:bH w A n xs) (hn:n<=16777216) :
  Calls Tryz.prog 53 #[.slice A n c] w fun e w'=>∃A',e = .returned (.slice A' n n)/\Own w.heap.size w' A' n n xs/\Below w.heap.size w w':=by
 obtain ⟨i0,hi,hz0,hz1,hz2⟩:=info_parts eP
 have hmk:=fun W=>bU (P:=Tryz.prog) 27 3 i0 _ Tryz.underlying27 hi hz0 .i64 .i64 n n (Nat.le_refl _) (by rw [hz2];omega) (by omega) W
 rw [hz1,Nat.mul_one,show (Value.int .i64 0).cells=#[Value.int .i64 0] from rfl,←Bt xs n] at hmk
 clear hi hz0 hz1 hz2
 obtain ⟨hx,hA⟩:=h
 have HX:=Hd hx
 clear hx
 go_enter Tryz.func53,Tryz.ntmps53
 go_wp2_with fail
 go_loopw [4] (fun i wr=>∃k:Nat,k<=n/\i = .int .i64 k/\wr=w.alloc (.cells (jv xs n k) 3)) (fun i _=>n - (intOf i).toNat)
 case atStart=>exact ⟨0,Nat.zero_le _,rfl,rfl⟩
 case round =>
  obtain ⟨k,hk,rfl,rfl⟩:=hrel
  by_cases hlt:k<n
  ·obtain ⟨b,o,rfl,hb,hc⟩:=hA (by omega)
   have hck:=hc k hlt
   have hsz:k<(jv xs n k).size:=by rw [Br HX.out hk];exact hlt
   have hg:=Dc HX.out hlt
   have HS:=Hd (Df HX.out hlt)
   clear hc
   go_wp2
   go_roundw
   case rel=>exact ⟨k+1,by omega,by go_num,by rw [HS.out]⟩
   case measure=>simp [intOf];omega
  ·have hkn:k=n:=by omega
   subst hkn
   go_wp2
   go_ret
   exact ⟨_,rfl,Own.made (cur:=jv xs k k) (aL _ _) (Nat.le_refl _) (by simp [maxLen];omega) (Bv HX.out) HX.out,aB (Below.refl _ _) _⟩
/-! ### eqIntS -/
theorem zW {xs ys:List Int} {k:Nat} (h:xs.take k=ys.take k) (hx:k<xs.length) (hy:k<ys.length) (he:xs[k]?.getD 0=ys[k]?.getD 0):xs.take (k+1)=ys.take (k+1):=by
 rw [List.take_succ_eq_append_getElem hx,List.take_succ_eq_append_getElem hy,h]
 simp [hx,hy] at he
 rw [he]
theorem Dh (A B:Option Addr) (n m c d:Nat) (xs ys:List Int) (w:World) (hA:bH w A n xs) (hB:bH w B m ys) (hn:n<=1099511627776) :
  Calls Tryz.prog 20 #[.slice A n c,.slice B m d] w fun e w'=>e = .returned (.bool (decide (xs=ys)))/\Below w.heap.size w w':=by
 obtain ⟨hx,hA⟩:=hA
 obtain ⟨hy,hB⟩:=hB
 by_cases hnm:n=m
 ·subst hnm
  have HX:=Hd hx
  have HY:=Hd hy
  clear hx hy
  go_enter Tryz.func20,Tryz.ntmps20
  go_wp2_with fail
  go_loopw [5] (fun i wr=>∃k nq:Nat,k<=n/\i = .int .i64 k/\wr=w.drewN nq/\xs.take k=ys.take k) (fun i _=>n - (intOf i).toNat)
  case atStart=>exact ⟨0,0,Nat.zero_le _,rfl,rfl,rfl⟩
  case round =>
   obtain ⟨k,nq,hk,rfl,rfl,ht⟩:=hrel
   have HT:=Hd ht
   clear ht
   by_cases hlt:k<n
   ·obtain ⟨b,o,rfl,hb,hc⟩:=hA (by omega)
    obtain ⟨b',o',rfl,hb',hc'⟩:=hB (by omega)
    have hck:=hc k hlt
    have hck':=hc' k hlt
    have hi0:(0:Int)<=(k:Int):=by omega
    have hi1:(k:Int)<(n:Int):=by omega
    clear hc hc'
    go_wp2
    go_quiet (fail)
    go_wp2
    ·have hne:xs[k]?.getD 0≠ys[k]?.getD 0:=bne_iff_ne.1 (by assumption)
     go_ret
     exact ⟨aH (by
      have:xs≠ys:=by rintro rfl;exact hne rfl
      simp [this]),aZ (aZ (Below.refl _ _) _) _⟩
    ·have he:xs[k]?.getD 0=ys[k]?.getD 0:=by simpa using ‹(xs[k]?.getD 0 != ys[k]?.getD 0)=false›
     go_roundw
     case rel=>exact ⟨k+1,_,by omega,by go_num,rfl,zW HT.out (by rw [HX.out];exact hlt) (by rw [HY.out];exact hlt) he⟩
     case measure=>simp [intOf];omega
   ·have hkn:k=n:=by omega
    subst hkn
    go_wp2
    go_ret
    exact ⟨aH (by
     have:=HT.out
     rw [List.take_of_length_le (by rw [HX.out];exact Nat.le_refl _),List.take_of_length_le (by rw [HY.out];exact Nat.le_refl _)] at this
     simp [this]),aZ (Below.refl _ _) _⟩
 ·have hne:((n:Int)==(m:Int))=false:=by simp;omega
  have hne':((n:Int) != (m:Int))=true:=by simp;omega
  go_enter Tryz.func20,Tryz.ntmps20
  go_wp2_with fail
  go_ret
  exact ⟨aH (by
   have:xs≠ys:=by rintro rfl;omega
   simp [this]),Below.refl _ _⟩
/-! ### markIntS, heldIntS -/
theorem Own.block {base:Nat} {w:World} {A:Option Addr} {n c:Nat} {xs:List Int} (h:Own base w A n c xs) (hn:0<n) :
  ∃g cur,A=some ⟨g,0,none⟩/\base<=g/\g<w.heap.size/\w.heap[g]?=some (.cells cur 3 (0,0))/\n<=cur.size/\n<=c/\c<=maxLen/\cur.size=c/\cur.toList.take n=xs.map (Value.int .i64):=by
 have hl:=h.lt
 rcases h.2 with ⟨_,h0⟩|⟨g,cap,cur,hv,hb,hh,hnc,hcap,hsz,ht⟩
 ·omega
 ·injection hv with hA _ hc
  subst hA hc
  exact ⟨g,cur,rfl,hb,(hl _ rfl).2,hh,by omega,hnc,hcap,by omega,by simpa using ht⟩
theorem Own.stored {base:Nat} {w:World} {g n c k:Nat} {xs:List Int} (h:Own base w (some ⟨g,0,none⟩) n c xs) (hk:k<n) (x:Int) :
  Own base (w.setCell ⟨g,k,none⟩ (.int .i64 x)) (some ⟨g,0,none⟩) n c (xs.set k x):=by
 obtain ⟨g',cur,hA,hb,hlt,hh,hn,hnc,hcm,hsz,ht⟩:=h.block (by omega)
 injection hA with hA
 injection hA with hg
 subst hg
 refine ⟨by simp [h.len],.inr ⟨g,c,cur.setIfInBounds k (.int .i64 x),rfl,hb,by simp [World.setCell,Array.getElem?_modify,hh],hnc,hcm,by simp [hsz],?_⟩⟩
 simp only [Array.toList_setIfInBounds,Nat.mul_one,List.take_set,ht,List.map_set]
theorem Own.cellAt {base:Nat} {w:World} {g n c k:Nat} {xs:List Int} (h:Own base w (some ⟨g,0,none⟩) n c xs) (hk:k<n) :
  w.cell? ⟨g,k,none⟩=some (.int .i64 (xs[k]?.getD 0))/\w.frozen? ⟨g,k,none⟩=false:=by
 obtain ⟨b,o,hA,_,hc⟩:=h.ints.2 (by omega)
 obtain ⟨g',cur,hA',_,_,hh,_⟩:=h.block (by omega)
 injection hA with hA
 injection hA with h1 h2
 subst h1 h2
 injection hA' with hA'
 injection hA' with h1
 subst h1
 have:=hc k hk
 simp only [Nat.zero_add] at this
 exact ⟨this,by simp [World.frozen?,hh]⟩
def pG (k:Int) (n:Nat):List Int:=(List.range n).map fun (i:Nat)=>k+(i:Int)
def rf (k0:Int) (xs:List Int) (k:Nat):List Int:=pG k0 k++xs.drop k
theorem Di {k0:Int} {xs:List Int} {k:Nat} (hk:k<xs.length):(rf k0 xs k).set k (k0+k)=rf k0 xs (k+1):=by
 have hl:(pG k0 k).length=k:=by simp [pG]
 rw [rf,List.set_append,if_neg (by omega),hl,Nat.sub_self,List.drop_eq_getElem_cons hk,List.set_cons_zero]
 simp [rf,pG,List.range_succ]
theorem iB (w:World) (r:Option Nat):w.grownBy w r:=⟨rfl,rfl,rfl,Nat.le_refl _,fun _ _ _=>rfl⟩
theorem gI {w w':World} {g:Nat} (h:w.grownBy w' (some g)) (k:Nat) (v:Value):w.grownBy (w'.setCell ⟨g,k,none⟩ v) (some g) :=
 ⟨h.os,h.tape,h.output,by simpa [World.setCell] using h.size,fun i hi hne=>(Below.heap_setCell w' ⟨g,k,none⟩ v i (by rintro rfl;exact hne rfl)).trans (h.block i hi hne)⟩
theorem mr {w:World} {p:Addr} {k:Nat} (h:k≠p.block) (v:Value):(w.setCell p v).heap[k]?=w.heap[k]?:=Below.heap_setCell w p v k h
theorem xJ {w w':World} {r:Option Nat} (h:w.grownBy w' r) (n:Nat):w.grownBy (w'.drewN n) r:=⟨h.os,h.tape,h.output,h.size,h.block⟩
theorem qy {a b c:World} {r:Option Nat} (h:a.grownBy b r) (k:b.grownBy c r):a.grownBy c r :=
 ⟨k.os.trans h.os,k.tape.trans h.tape,k.output.trans h.output,Nat.le_trans h.size k.size,fun i hi hne=>(k.block i (Nat.lt_of_lt_of_le hi h.size) hne).trans (h.block i hi hne)⟩
theorem nY {a b:World} (h:Below a.heap.size a b) (r:Option Nat):a.grownBy b r:=⟨h.os,h.tape,h.output,h.size,fun i hi _=>h.block i hi⟩
theorem il (base:Nat) (A:Option Addr) (n c:Nat) (xs:List Int) (k0:Int) (w:World) (h:Own base w A n c xs) (hk0:0<=k0) (hk1:k0<=1152921504606846976) (hn:n<=1099511627776) :
  Calls Tryz.prog 24 #[.slice A n c,.int .i64 k0] w fun e w'=>e = .returned (.int .i64 (k0+n))/\Own base w' A n c (pG k0 n)/\w.grownBy w' (A.map (·.block)):=by
 by_cases h0:n=0
 ·subst h0
  have hx:xs=[]:=List.eq_nil_of_length_eq_zero h.len
  subst hx
  go_enter Tryz.func24,Tryz.ntmps24
  go_wp2_with fail
  refine wp_loop_rounds 1 ?_;rw [rounds_succ]
  go_wp2
  go_ret
  exact ⟨by simp,h,iB _ _⟩
 ·obtain ⟨g,cur,rfl,_⟩:=h.block (by omega)
  have HO:=Hd h
  clear h
  have hxl:xs.length=n:=HO.out.len
  have HL:=Hd hxl
  clear hxl
  go_enter Tryz.func24,Tryz.ntmps24
  go_wp2_with fail
  go_loopw [1,5] (fun v i wr=>∃k:Nat,k<=n/\i = .int .i64 k/\v = .int .i64 (k0+k)/\Own base wr (some ⟨g,0,none⟩) n c (rf k0 xs k)/\w.grownBy wr (some g)) (fun _ i _=>n - (intOf i).toNat)
  case atStart=>exact ⟨0,Nat.zero_le _,rfl,by simp,by simpa [rf,pG] using HO.out,iB _ _⟩
  case round =>
   obtain ⟨k,hk,rfl,rfl,ho,hg⟩:=hrel
   have HW:=Hd ho
   have HG:=Hd hg
   clear ho hg
   by_cases hlt:k<n
   ·obtain ⟨hc,hf⟩:=HW.out.cellAt hlt
    go_wp2
    go_roundw
    case rel=>exact ⟨k+1,by omega,by go_num,by go_num,by rw [←Di (by rw [HL.out];exact hlt)];exact HW.out.stored hlt _,gI HG.out _ _⟩
    case measure=>simp [intOf];omega
   ·have hkn:k=n:=by omega
    subst hkn
    go_wp2
    go_ret
    refine ⟨rfl,?_,HG.out⟩
    have:=HW.out
    rwa [rf,List.drop_of_length_le (by rw [HL.out];exact Nat.le_refl _),List.append_nil] at this
theorem lI (A:Option Addr) (n c:Nat) (xs:List Int) (k0:Int) (w:World) (h:bH w A n xs) (hx:xs=pG k0 n) (hk0:0<=k0) (hk1:k0<=1152921504606846976) (hn:n<=1099511627776) :
  Calls Tryz.prog 26 #[.slice A n c,.int .i64 k0] w fun e w'=>e = .returned (.int .i64 (k0+n))/\Below w.heap.size w w':=by
 obtain ⟨hl,hA⟩:=h
 have HX:=Hd hx
 have HL:=Hd hl
 clear hx hl
 go_enter Tryz.func26,Tryz.ntmps26
 go_wp2_with fail
 go_loopw [1,5] (fun v i wr=>∃k nq:Nat,k<=n/\i = .int .i64 k/\v = .int .i64 (k0+k)/\wr=w.drewN nq) (fun _ i _=>n - (intOf i).toNat)
 case atStart=>exact ⟨0,0,Nat.zero_le _,rfl,by simp,rfl⟩
 case round =>
  obtain ⟨k,nq,hk,rfl,rfl,rfl⟩:=hrel
  by_cases hlt:k<n
  ·obtain ⟨b,o,rfl,hb,hc⟩:=hA (by omega)
   have hck:=hc k hlt
   have hxk:xs[k]?.getD 0=k0+k:=by rw [HX.out];simp [pG,hlt]
   rw [hxk] at hck
   clear hxk
   have hi0:(0:Int)<=(k:Int):=by omega
   have hi1:(k:Int)<(n:Int):=by omega
   clear hc
   go_wp2
   go_roundw
   case rel=>exact ⟨k+1,_,by omega,by go_num,by go_num,rfl⟩
   case measure=>simp [intOf];omega
  ·have hkn:k=n:=by omega
   subst hkn
   go_wp2
   go_ret
   exact ⟨rfl,aZ (Below.refl _ _) _⟩
/-! ### equal by one list; rows that lie apart -/
theorem ja (A B:Option Addr) (n m c d:Nat) (xs:List Int) (w:World) (hA:bH w A n xs) (hB:bH w B m xs) (hn:n<=1099511627776) :
  Calls Tryz.prog 20 #[.slice A n c,.slice B m d] w fun e w'=>e = .returned (.bool true)/\Below w.heap.size w w' :=
 (Dh A B n m c d xs xs w hA hB hn).mono fun e w' ⟨he,hb⟩=>⟨by rw [he];simp,hb⟩
def gJ (A:Option Addr) (lo hi:Nat):Prop:=∀a,A=some a→lo<=a.block/\a.block<hi
theorem Own.lies {base:Nat} {w:World} {A:Option Addr} {n c:Nat} {xs:List Int} (h:Own base w A n c xs):gJ A base w.heap.size:=h.lt
theorem Own.grown {base:Nat} {w w':World} {A A':Option Addr} {n c lo hi lo' hi':Nat} {xs:List Int} (h:Own base w A n c xs) (hg:w.grownBy w' (A'.map (·.block))) (l:gJ A lo hi) (l':gJ A' lo' hi') (ha:hi<=lo'∨hi'<=lo) :
  Own base w' A n c xs :=
 aa h fun a e=>hg.block _ (h.lt a e).2 (by
  cases A' with
  | none=>simp
  | some a' =>
   have h1:=l a e
   have h2:=l' a' rfl
   simp only [Option.map_some,ne_eq,Option.some.injEq]
   omega)
theorem bH.grown {w w':World} {A A':Option Addr} {n lo hi hi':Nat} {xs:List Int} (h:bH w A n xs) (hg:w.grownBy w' (A'.map (·.block))) (l:gJ A 0 hi) (l':gJ A' lo hi') (ha:hi<=lo):bH w' A n xs:=by
 refine ⟨h.1,fun hn=>?_⟩
 obtain ⟨b,o,e,hlt,hc⟩:=h.2 hn
 refine ⟨b,o,e,Nat.lt_of_lt_of_le hlt hg.size,fun j hj=>?_⟩
 rw [←hc j hj]
 refine World.cell?_of_block (a:=⟨b,o+j,none⟩) (hg.block b hlt ?_)
 cases A' with
 | none=>simp
 | some a' =>
  have h1:=l _ e
  have h2:=l' a' rfl
  simp only [Option.map_some,ne_eq,Option.some.injEq]
  simp only at h1
  omega
theorem bH.lies {w:World} {A:Option Addr} {n:Nat} {xs:List Int} (h:bH w A n xs) (hn:0<n):gJ A 0 w.heap.size:=by
 obtain ⟨b,o,rfl,hlt,_⟩:=h.2 hn
 rintro a ha
 injection ha with ha
 subst ha
 exact ⟨Nat.zero_le _,hlt⟩
theorem Own.newAt {w:World} {base g:Nat} (hg:w.heap.size=g) (h:base<=g):Own base (w.alloc (.cells #[] 3)) (some ⟨g,0,none⟩) 0 0 []:=by
 subst hg
 exact ⟨rfl,.inr ⟨w.heap.size,0,#[],rfl,h,aL _ _,Nat.le_refl _,Nat.zero_le _,rfl,rfl⟩⟩
theorem bH.drewd {w:World} {A:Option Addr} {n:Nat} {xs:List Int} (h:bH w A n xs):bH w.drew A n xs:=h
theorem Own.drewd {base:Nat} {w:World} {A:Option Addr} {n c:Nat} {xs:List Int} (h:Own base w A n c xs):Own base w.drew A n c xs:=h
theorem Own.rd {base:Nat} {w:World} {A:Option Addr} {n c:Nat} {xs:List Int} (h:Own base w A n c xs):bH w A n xs:=h.ints
/-! ### append of one integer to a row of the call's own -/
theorem fH (A:Option Addr) (n c:Nat):(Value.slice A n c).ownBlock=A.map (·.block):=by cases A <;> rfl
theorem yH (a:Addr):a.add 0=a:=by simp [Addr.add]
theorem ax {ops:Array Oper} {rest:List Oper} {o:Oper} {a:Act} {Q:Exit→Act→World→Prop} {w W:World} (hgd:o.guard=none) (s x:Operand)
  (ho:o.op = .call { callee := .builtin .append,args:=#[s,x],argTypes:=#[27,27] })
  (base:Nat) (A:Option Addr) (n c:Nat) (xs:List Int) (v:Int) (hs:a.eval s = .slice A n c) (hown:Own base w A n c xs) (hx:a.eval x = .slice (some ⟨w.heap.size,0,none⟩) 1 1)
  (hn:n<=1099511627776) (hbase:base<=w.heap.size) (hB:Below base W w)
  (h:∀g cap w',Own base w' (some ⟨g,0,none⟩) (n+1) cap (xs++[v])→Below base W w'→(w.alloc (.cells #[.int .i64 v] 3)).grownBy w' (A.map (·.block))→(A.map (·.block)=some g∨g=w.heap.size+1) →
   wpList Tryz.prog ops Q rest (a.put o.dst (.slice (some ⟨g,0,none⟩) (n+1) cap)) w'):wpList Tryz.prog ops Q (o :: rest) a (w.alloc (.cells #[.int .i64 v] 3)):=by
 obtain ⟨i0,hi,hz0,hz1,hz2⟩:=info_parts eP
 have hl:=hown.lt
 refine wpList_append_lies (w.alloc (.cells #[.int .i64 v] 3)) hgd s x 27 ho base 3 i0 (.int .i64 0) 1 8 Tryz.underlying27 hi hz0 hz1 hz2 rfl (by omega) (.slice A n c) n (xs.map (Value.int .i64)) hs
  (aa hown fun a ha=>Below.heap_alloc _ _ _ (hl a ha).2) ⟨w.heap.size,0,none⟩ 1 1 [.int .i64 v] hx rfl
  (fun j u hu=>?_) (fun u hu=>?_) (by omega) (by unfold maxLen;omega) (by omega) (by simp;omega) (w.heap.size+1) (by simp) ?_
 ·rcases j with _|j
  ·simp at hu
   subst hu
   rw [yH]
   unfold World.cell?
   rw [aL]
   rfl
  ·simp at hu
 ·simp at hu;subst hu;rfl
 ·intro g cap w' h1 h2 h3 _
  rw [fH] at h2 h3
  refine h g cap w' (by simpa [Own] using h1) ?_ h2 h3
  refine (hB.alloc hbase _).grown h2 (by simp;omega) ?_
  intro k hk
  cases A with
  | none=>cases hk
  | some a' =>
   injection hk with hk
   subst hk
   exact (hl a' rfl).1
theorem Own.new0 {w:World} {base:Nat} (h:base<=w.heap.size):Own base (w.alloc (.cells #[] 3)) (some ⟨w.heap.size,0,none⟩) 0 0 [] :=
 ⟨rfl,.inr ⟨w.heap.size,0,#[],rfl,h,aL _ _,Nat.le_refl _,Nat.zero_le _,rfl,rfl⟩⟩
structure Chg (lo hi:Nat) (w w':World):Prop where
 os:w'.os=w.os
 tape:w'.tape=w.tape
 output:w'.output=w.output
 size:w.heap.size<=w'.heap.size
 block:∀k,k<w.heap.size→(k<lo∨hi<=k)→w'.heap[k]?=w.heap[k]?
theorem Chg.refl (lo hi:Nat) (w:World):Chg lo hi w w:=⟨rfl,rfl,rfl,Nat.le_refl _,fun _ _ _=>rfl⟩
theorem Chg.trans {lo hi:Nat} {a b c:World} (h:Chg lo hi a b) (k:Chg lo hi b c):Chg lo hi a c :=
 ⟨k.os.trans h.os,k.tape.trans h.tape,k.output.trans h.output,Nat.le_trans h.size k.size,fun i hi' hne=>(k.block i (Nat.lt_of_lt_of_le hi' h.size) hne).trans (h.block i hi' hne)⟩
theorem tT {w w':World} {A:Option Addr} {lo hi:Nat} (h:w.grownBy w' (A.map (·.block))) (l:gJ A lo hi):Chg lo hi w w' :=
 ⟨h.os,h.tape,h.output,h.size,fun k hk hne=>h.block k hk (by
  cases A with
  | none=>simp
  | some a =>
   have:=l a rfl
   simp only [Option.map_some,ne_eq,Option.some.injEq]
   omega)⟩
theorem Own.chg {base lo hi lo' hi':Nat} {w w':World} {A:Option Addr} {n c:Nat} {xs:List Int} (h:Own base w A n c xs) (hg:Chg lo' hi' w w') (l:gJ A lo hi) (ha:hi<=lo'∨hi'<=lo):Own base w' A n c xs :=
 aa h fun a e=>hg.block _ (h.lt a e).2 (by have:=l a e;omega)
theorem dR {a w w':World} {lo hi:Nat} (h:Below a.heap.size a w) (hg:Chg lo hi w w') (hlo:a.heap.size<=lo):Below a.heap.size a w' :=
 h.trans ⟨hg.os,hg.tape,hg.output,hg.size,fun k hk=>hg.block k (Nat.lt_of_lt_of_le hk h.size) (.inl (by omega))⟩
theorem zX (base lo hi:Nat) (A:Option Addr) (n c:Nat) (xs:List Int) (k0:Int) (w:World) (h:Own base w A n c xs) (l:gJ A lo hi) (hk0:0<=k0) (hk1:k0<=1152921504606846976) (hn:n<=1099511627776) :
  Calls Tryz.prog 24 #[.slice A n c,.int .i64 k0] w fun e w'=>e = .returned (.int .i64 (k0+n))/\Own base w' A n c (pG k0 n)/\Chg lo hi w w' :=
 (il base A n c xs k0 w h hk0 hk1 hn).mono fun _ _ ⟨h1,h2,h3⟩=>⟨h1,h2,tT h3 l⟩
end Go.Proofs.YtignkfhdkcgkgaaGreat
