/- The contracts of the laws' own helpers: copying, comparing, marking slices of integers; the tests of a range. -/
import Derived.Test.YtlinbdkbbhpdpaaGreatBase
namespace Go.Proofs.YtlinbdkbbhpdpaaGreat
set_option maxRecDepth 100000
open Go.RowKit

set_option maxHeartbeats 400000 in
theorem inRange_any (n lo hi:Int) (w:World) :
  Calls Tryz.prog 90 #[.int .i64 n,.int .i64 lo,.int .i64 hi] w fun e w'=>e = .returned (.bool (inR n lo hi))∧w=w':=by
 unfold inR
 by_cases h1:lo≤n
 ·have hd:decide (n≥lo)=true:=by simpa using h1
  go_enter Tryz.func90,Tryz.ntmps90
  go_wp2
  go_ret
  exact ⟨by simp [h1],rfl⟩
 ·have hd:decide (n≥lo)=false:=by simpa using h1
  go_enter Tryz.func90,Tryz.ntmps90
  go_wp2
  go_ret
  exact ⟨by simp,rfl⟩

set_option maxHeartbeats 400000 in
theorem l01In_any (n lo hi:Int) (w:World) :
  Calls Tryz.prog 98 #[.int .i64 n,.int .i64 lo,.int .i64 hi] w fun e w'=>e = .returned (.bool (inR n lo hi))∧w=w':=by
 unfold inR
 by_cases h1:lo≤n
 ·have hd:decide (n≥lo)=true:=by simpa using h1
  go_enter Tryz.func98,Tryz.ntmps98
  go_wp2
  go_ret
  exact ⟨by simp [h1],rfl⟩
 ·have hd:decide (n≥lo)=false:=by simpa using h1
  go_enter Tryz.func98,Tryz.ntmps98
  go_wp2
  go_ret
  exact ⟨by simp,rfl⟩

theorem inRange_q (n lo hi:Int) (w:World) :
  Calls Tryz.prog 90 #[.int .i64 n,.int .i64 lo,.int .i64 hi] w fun e w'=>e = .returned (.bool (inR n lo hi))∧w'=w :=
 (inRange_any n lo hi w).mono fun _ _ h=>⟨h.1,h.2.symm⟩
/-! ### toIntS -/
def fillTo (xs:List Int) (n k:Nat):Array Value:=((xs.take k++List.replicate (n - k) 0).map (Value.int .i64)).toArray
theorem fillTo_size {xs:List Int} {n k:Nat} (h:xs.length=n) (hk:k≤n):(fillTo xs n k).size=n:=by
 simp [fillTo];omega
theorem fillTo_get {xs:List Int} {n k:Nat} (h:xs.length=n) (hk:k<n):(fillTo xs n k)[k]?=some (.int .i64 0):=by
 have h1:¬k<min k xs.length:=by omega
 have h2:k - min k xs.length<n - k:=by omega
 simp only [fillTo,List.getElem?_toArray,List.getElem?_map,List.getElem?_append,List.length_take,h1,if_false,List.getElem?_replicate,h2,if_true,Option.map_some]
theorem fillTo_set {xs:List Int} {n k:Nat} (h:xs.length=n) (hk:k<n):(fillTo xs n k).setIfInBounds k (.int .i64 (xs[k]?.getD 0))=fillTo xs n (k+1):=by
 apply Array.ext'
 apply List.ext_getElem?
 intro i
 have hk':k<xs.length:=by omega
 have e1:min k xs.length=k:=by omega
 have e2:min (k+1) xs.length=k+1:=by omega
 simp only [fillTo,List.setIfInBounds_toArray,List.getElem?_set,List.length_map,List.length_append,List.length_take,List.length_replicate,List.getElem?_map,List.getElem?_append,List.getElem?_take,List.getElem?_replicate,e1,e2]
 by_cases hi:k=i
 ·subst hi
  have h3:k<k+(n - k):=by omega
  simp [hk',h3]
 ·simp only [hi,if_false]
  by_cases h1:i<k
  ·have:i<k+1:=by omega
   simp [h1,this]
  ·have h2:¬i<k+1:=by omega
   simp only [h1,h2,if_false]
   have e3:(i - k<n - k)=(i - (k+1)<n - (k+1)):=propext (by omega)
   simp only [e3]
theorem fillTo_zero (xs:List Int) (n:Nat):fillTo xs n 0=madeCells #[Value.int .i64 0] n:=by
 apply Array.ext'
 rw [toList_madeCells_one]
 simp [fillTo]
theorem fillTo_full {xs:List Int} {n:Nat} (h:xs.length=n):(fillTo xs n n).toList=xs.map (Value.int .i64):=by
 simp [fillTo,←h]

set_option maxHeartbeats 400000 in
theorem toIntS_any (A:Option Addr) (n c:Nat) (xs:List Int) (w:World) (h:Ints w A n xs) (hn:n≤16777216) :
  Calls Tryz.prog 17 #[.slice A n c] w fun e w'=>∃A',e = .returned (.slice A' n n)∧Own w.heap.size w' A' n n xs∧Below w.heap.size w w':=by
 obtain ⟨i0,hi,hz0,hz1,hz2⟩:=info_parts int_info
 have hmk:=fun W=>run_make_rowN (P:=Tryz.prog) 29 3 i0 _ Tryz.underlying29 hi hz0 .i64 .i64 n n (Nat.le_refl _) (by rw [hz2];omega) (by omega) W
 rw [hz1,Nat.mul_one,show (Value.int .i64 0).cells=#[Value.int .i64 0] from rfl,←fillTo_zero xs n] at hmk
 clear hi hz0 hz1 hz2
 obtain ⟨hx,hA⟩:=h
 have HX:=Lib.hid hx
 clear hx
 go_enter Tryz.func17,Tryz.ntmps17
 go_wp2_with fail
 go_loopw [4] (fun i wr=>∃k:Nat,k≤n∧i = .int .i64 k∧wr=w.alloc (.cells (fillTo xs n k) 3)) (fun i _=>n - (intOf i).toNat)
 case atStart=>exact ⟨0,Nat.zero_le _,rfl,rfl⟩
 case round =>
  obtain ⟨k,hk,rfl,rfl⟩:=hrel
  by_cases hlt:k<n
  ·obtain ⟨b,o,rfl,hb,hc⟩:=hA (by omega)
   have hck:=hc k hlt
   have hsz:k<(fillTo xs n k).size:=by rw [fillTo_size HX.out hk];exact hlt
   have hg:=fillTo_get HX.out hlt
   have HS:=Lib.hid (fillTo_set HX.out hlt)
   clear hc
   go_wp2
   go_roundw
   case rel=>exact ⟨k+1,by omega,by go_num,by rw [HS.out]⟩
   case measure=>simp [intOf];omega
  ·have hkn:k=n:=by omega
   subst hkn
   go_wp2
   go_ret
   exact ⟨_,rfl,Own.made (cur:=fillTo xs k k) (heap_new _ _) (Nat.le_refl _) (by simp [maxLen];omega) (fillTo_full HX.out) HX.out,below_new (Below.refl _ _) _⟩

/-! ### eqIntS -/
theorem take_succ_eq {xs ys:List Int} {k:Nat} (h:xs.take k=ys.take k) (hx:k<xs.length) (hy:k<ys.length) (he:xs[k]?.getD 0=ys[k]?.getD 0):xs.take (k+1)=ys.take (k+1):=by
 rw [List.take_succ_eq_append_getElem hx,List.take_succ_eq_append_getElem hy,h]
 simp [hx,hy] at he
 rw [he]

set_option maxHeartbeats 400000 in
theorem eqIntS_any (A B:Option Addr) (n m c d:Nat) (xs ys:List Int) (w:World) (hA:Ints w A n xs) (hB:Ints w B m ys) (hn:n≤1099511627776) :
  Calls Tryz.prog 19 #[.slice A n c,.slice B m d] w fun e w'=>e = .returned (.bool (decide (xs=ys)))∧Below w.heap.size w w':=by
 obtain ⟨hx,hA⟩:=hA
 obtain ⟨hy,hB⟩:=hB
 by_cases hnm:n=m
 ·subst hnm
  have HX:=Lib.hid hx
  have HY:=Lib.hid hy
  clear hx hy
  go_enter Tryz.func19,Tryz.ntmps19
  go_wp2_with fail
  go_loopw [5] (fun i wr=>∃k nq:Nat,k≤n∧i = .int .i64 k∧wr=w.drewN nq∧xs.take k=ys.take k) (fun i _=>n - (intOf i).toNat)
  case atStart=>exact ⟨0,0,Nat.zero_le _,rfl,rfl,rfl⟩
  case round =>
   obtain ⟨k,nq,hk,rfl,rfl,ht⟩:=hrel
   have HT:=Lib.hid ht
   clear ht
   by_cases hlt:k<n
   ·obtain ⟨b,o,rfl,hb,hc⟩:=hA (by omega)
    obtain ⟨b',o',rfl,hb',hc'⟩:=hB (by omega)
    have hck:=hc k hlt
    have hck':=hc' k hlt
    have hi0:(0:Int)≤(k:Int):=by omega
    have hi1:(k:Int)<(n:Int):=by omega
    clear hc hc'
    go_wp2
    go_quiet (fail)
    go_wp2
    ·have hne:xs[k]?.getD 0≠ys[k]?.getD 0:=bne_iff_ne.1 (by assumption)
     go_ret
     exact ⟨ret_bool (by
      have:xs≠ys:=by rintro rfl;exact hne rfl
      simp [this]),below_drewN (below_drewN (Below.refl _ _) _) _⟩
    ·have he:xs[k]?.getD 0=ys[k]?.getD 0:=by simpa using ‹(xs[k]?.getD 0 != ys[k]?.getD 0)=false›
     go_roundw
     case rel=>exact ⟨k+1,_,by omega,by go_num,rfl,take_succ_eq HT.out (by rw [HX.out];exact hlt) (by rw [HY.out];exact hlt) he⟩
     case measure=>simp [intOf];omega
   ·have hkn:k=n:=by omega
    subst hkn
    go_wp2
    go_ret
    exact ⟨ret_bool (by
     have:=HT.out
     rw [List.take_of_length_le (by rw [HX.out];exact Nat.le_refl _),List.take_of_length_le (by rw [HY.out];exact Nat.le_refl _)] at this
     simp [this]),below_drewN (Below.refl _ _) _⟩
 ·have hne:((n:Int)==(m:Int))=false:=by simp;omega
  have hne':((n:Int) != (m:Int))=true:=by simp;omega
  go_enter Tryz.func19,Tryz.ntmps19
  go_wp2_with fail
  go_ret
  exact ⟨ret_bool (by
   have:xs≠ys:=by rintro rfl;omega
   simp [this]),Below.refl _ _⟩

/-! ### markIntS, heldIntS -/
theorem Own.block {base:Nat} {w:World} {A:Option Addr} {n c:Nat} {xs:List Int} (h:Own base w A n c xs) (hn:0<n) :
  ∃g cur,A=some ⟨g,0,none⟩∧base≤g∧g<w.heap.size∧w.heap[g]?=some (.cells cur 3 (0,0))∧n≤cur.size∧n≤c∧c≤maxLen∧cur.size=c∧cur.toList.take n=xs.map (Value.int .i64):=by
 have hl:=h.lt
 rcases h.2 with ⟨_,h0⟩|⟨g,cap,cur,hv,hb,hh,hnc,hcap,hsz,ht⟩
 ·omega
 ·injection hv with hA _ hc
  subst hA hc
  exact ⟨g,cur,rfl,hb,(hl _ rfl).2,hh,by omega,hnc,hcap,by omega,by simpa using ht⟩
theorem Own.stored {base:Nat} {w:World} {g n c k:Nat} {xs:List Int} (h:Own base w (some ⟨g,0,none⟩) n c xs) (hk:k<n) (x:Int) :
  Own base (w.setCell ⟨g,k,none⟩ (.int .i64 x)) (some ⟨g,0,none⟩) n c (xs.set k x):=by
 obtain ⟨g',cur,hA,hb,hlt,hh,hn,hnc,hcm,hsz,ht⟩:=h.block (by omega)
 injection hA with hA
 injection hA with hg
 subst hg
 refine ⟨by simp [h.len],.inr ⟨g,c,cur.setIfInBounds k (.int .i64 x),rfl,hb,by simp [World.setCell,Array.getElem?_modify,hh],hnc,hcm,by simp [hsz],?_⟩⟩
 simp only [Array.toList_setIfInBounds,Nat.mul_one,List.take_set,ht,List.map_set]
theorem Own.cellAt {base:Nat} {w:World} {g n c k:Nat} {xs:List Int} (h:Own base w (some ⟨g,0,none⟩) n c xs) (hk:k<n) :
  w.cell? ⟨g,k,none⟩=some (.int .i64 (xs[k]?.getD 0))∧w.frozen? ⟨g,k,none⟩=false:=by
 obtain ⟨b,o,hA,_,hc⟩:=h.ints.2 (by omega)
 obtain ⟨g',cur,hA',_,_,hh,_⟩:=h.block (by omega)
 injection hA with hA
 injection hA with h1 h2
 subst h1 h2
 injection hA' with hA'
 injection hA' with h1
 subst h1
 have:=hc k hk
 simp only [Nat.zero_add] at this
 exact ⟨this,by simp [World.frozen?,hh]⟩
def iota (k:Int) (n:Nat):List Int:=(List.range n).map fun (i:Nat)=>k+(i:Int)
def markTo (k0:Int) (xs:List Int) (k:Nat):List Int:=iota k0 k++xs.drop k
theorem markTo_set {k0:Int} {xs:List Int} {k:Nat} (hk:k<xs.length):(markTo k0 xs k).set k (k0+k)=markTo k0 xs (k+1):=by
 have hl:(iota k0 k).length=k:=by simp [iota]
 rw [markTo,List.set_append,if_neg (by omega),hl,Nat.sub_self,List.drop_eq_getElem_cons hk,List.set_cons_zero]
 simp [markTo,iota,List.range_succ]
theorem grownBy_refl (w:World) (r:Option Nat):w.grownBy w r:=⟨rfl,rfl,rfl,Nat.le_refl _,fun _ _ _=>rfl⟩
theorem grownBy_store {w w':World} {g:Nat} (h:w.grownBy w' (some g)) (k:Nat) (v:Value):w.grownBy (w'.setCell ⟨g,k,none⟩ v) (some g) :=
 ⟨h.os,h.tape,h.output,by simpa [World.setCell] using h.size,fun i hi hne=>(Below.heap_setCell w' ⟨g,k,none⟩ v i (by rintro rfl;exact hne rfl)).trans (h.block i hi hne)⟩

set_option maxHeartbeats 400000 in
theorem markIntS_any (base:Nat) (A:Option Addr) (n c:Nat) (xs:List Int) (k0:Int) (w:World) (h:Own base w A n c xs) (hk0:0≤k0) (hk1:k0≤1152921504606846976) (hn:n≤1099511627776) :
  Calls Tryz.prog 22 #[.slice A n c,.int .i64 k0] w fun e w'=>e = .returned (.int .i64 (k0+n))∧Own base w' A n c (iota k0 n)∧w.grownBy w' (A.map (·.block)):=by
 by_cases h0:n=0
 ·subst h0
  have hx:xs=[]:=List.eq_nil_of_length_eq_zero h.len
  subst hx
  go_enter Tryz.func22,Tryz.ntmps22
  go_wp2_with fail
  refine wp_loop_rounds 1 ?_;rw [rounds_succ]
  go_wp2
  go_ret
  exact ⟨by simp,h,grownBy_refl _ _⟩
 ·obtain ⟨g,cur,rfl,_⟩:=h.block (by omega)
  have HO:=Lib.hid h
  clear h
  have hxl:xs.length=n:=HO.out.len
  have HL:=Lib.hid hxl
  clear hxl
  go_enter Tryz.func22,Tryz.ntmps22
  go_wp2_with fail
  go_loopw [1,5] (fun v i wr=>∃k:Nat,k≤n∧i = .int .i64 k∧v = .int .i64 (k0+k)∧Own base wr (some ⟨g,0,none⟩) n c (markTo k0 xs k)∧w.grownBy wr (some g)) (fun _ i _=>n - (intOf i).toNat)
  case atStart=>exact ⟨0,Nat.zero_le _,rfl,by simp,by simpa [markTo,iota] using HO.out,grownBy_refl _ _⟩
  case round =>
   obtain ⟨k,hk,rfl,rfl,ho,hg⟩:=hrel
   have HW:=Lib.hid ho
   have HG:=Lib.hid hg
   clear ho hg
   by_cases hlt:k<n
   ·obtain ⟨hc,hf⟩:=HW.out.cellAt hlt
    go_wp2
    go_roundw
    case rel=>exact ⟨k+1,by omega,by go_num,by go_num,by rw [←markTo_set (by rw [HL.out];exact hlt)];exact HW.out.stored hlt _,grownBy_store HG.out _ _⟩
    case measure=>simp [intOf];omega
   ·have hkn:k=n:=by omega
    subst hkn
    go_wp2
    go_ret
    refine ⟨rfl,?_,HG.out⟩
    have:=HW.out
    rwa [markTo,List.drop_of_length_le (by rw [HL.out];exact Nat.le_refl _),List.append_nil] at this

set_option maxHeartbeats 400000 in
theorem heldIntS_any (A:Option Addr) (n c:Nat) (xs:List Int) (k0:Int) (w:World) (h:Ints w A n xs) (hx:xs=iota k0 n) (hk0:0≤k0) (hk1:k0≤1152921504606846976) (hn:n≤1099511627776) :
  Calls Tryz.prog 23 #[.slice A n c,.int .i64 k0] w fun e w'=>e = .returned (.int .i64 (k0+n))∧Below w.heap.size w w':=by
 obtain ⟨hl,hA⟩:=h
 have HX:=Lib.hid hx
 have HL:=Lib.hid hl
 clear hx hl
 go_enter Tryz.func23,Tryz.ntmps23
 go_wp2_with fail
 go_loopw [1,5] (fun v i wr=>∃k nq:Nat,k≤n∧i = .int .i64 k∧v = .int .i64 (k0+k)∧wr=w.drewN nq) (fun _ i _=>n - (intOf i).toNat)
 case atStart=>exact ⟨0,0,Nat.zero_le _,rfl,by simp,rfl⟩
 case round =>
  obtain ⟨k,nq,hk,rfl,rfl,rfl⟩:=hrel
  by_cases hlt:k<n
  ·obtain ⟨b,o,rfl,hb,hc⟩:=hA (by omega)
   have hck:=hc k hlt
   have hxk:xs[k]?.getD 0=k0+k:=by rw [HX.out];simp [iota,hlt]
   rw [hxk] at hck
   clear hxk
   have hi0:(0:Int)≤(k:Int):=by omega
   have hi1:(k:Int)<(n:Int):=by omega
   clear hc
   go_wp2
   go_roundw
   case rel=>exact ⟨k+1,_,by omega,by go_num,by go_num,rfl⟩
   case measure=>simp [intOf];omega
  ·have hkn:k=n:=by omega
   subst hkn
   go_wp2
   go_ret
   exact ⟨rfl,below_drewN (Below.refl _ _) _⟩

/-! ### equal by one list; rows that lie apart -/
theorem eqIntS_same (A B:Option Addr) (n m c d:Nat) (xs:List Int) (w:World) (hA:Ints w A n xs) (hB:Ints w B m xs) (hn:n≤1099511627776) :
  Calls Tryz.prog 19 #[.slice A n c,.slice B m d] w fun e w'=>e = .returned (.bool true)∧Below w.heap.size w w' :=
 (eqIntS_any A B n m c d xs xs w hA hB hn).mono fun e w' ⟨he,hb⟩=>⟨by rw [he];simp,hb⟩

/-- Where a row lies: between two numbers of blocks. -/
def Lies (A:Option Addr) (lo hi:Nat):Prop:=∀a,A=some a→lo≤a.block∧a.block<hi
theorem Own.lies {base:Nat} {w:World} {A:Option Addr} {n c:Nat} {xs:List Int} (h:Own base w A n c xs):Lies A base w.heap.size:=h.lt
theorem Own.grown {base:Nat} {w w':World} {A A':Option Addr} {n c lo hi lo' hi':Nat} {xs:List Int} (h:Own base w A n c xs) (hg:w.grownBy w' (A'.map (·.block))) (l:Lies A lo hi) (l':Lies A' lo' hi') (ha:hi≤lo'∨hi'≤lo) :
  Own base w' A n c xs :=
 ownsRow_block h fun a e=>hg.block _ (h.lt a e).2 (by
  cases A' with
  | none=>simp
  | some a' =>
   have h1:=l a e
   have h2:=l' a' rfl
   simp only [Option.map_some,ne_eq,Option.some.injEq]
   omega)
theorem Ints.grown {w w':World} {A A':Option Addr} {n lo hi hi':Nat} {xs:List Int} (h:Ints w A n xs) (hg:w.grownBy w' (A'.map (·.block))) (l:Lies A 0 hi) (l':Lies A' lo hi') (ha:hi≤lo):Ints w' A n xs:=by
 refine ⟨h.1,fun hn=>?_⟩
 obtain ⟨b,o,e,hlt,hc⟩:=h.2 hn
 refine ⟨b,o,e,Nat.lt_of_lt_of_le hlt hg.size,fun j hj=>?_⟩
 rw [←hc j hj]
 refine World.cell?_of_block (a:=⟨b,o+j,none⟩) (hg.block b hlt ?_)
 cases A' with
 | none=>simp
 | some a' =>
  have h1:=l _ e
  have h2:=l' a' rfl
  simp only [Option.map_some,ne_eq,Option.some.injEq]
  simp only at h1
  omega
theorem Ints.lies {w:World} {A:Option Addr} {n:Nat} {xs:List Int} (h:Ints w A n xs) (hn:0<n):Lies A 0 w.heap.size:=by
 obtain ⟨b,o,rfl,hlt,_⟩:=h.2 hn
 rintro a ha
 injection ha with ha
 subst ha
 exact ⟨Nat.zero_le _,hlt⟩
theorem Own.newAt {w:World} {base g:Nat} (hg:w.heap.size=g) (h:base≤g):Own base (w.alloc (.cells #[] 3)) (some ⟨g,0,none⟩) 0 0 []:=by
 subst hg
 exact ⟨rfl,.inr ⟨w.heap.size,0,#[],rfl,h,heap_new _ _,Nat.le_refl _,Nat.zero_le _,rfl,rfl⟩⟩
theorem Own.rd {base:Nat} {w:World} {A:Option Addr} {n c:Nat} {xs:List Int} (h:Own base w A n c xs):Ints w A n xs:=h.ints

/-! ### append of one integer to a row of the call's own -/
theorem ownBlock_slice (A:Option Addr) (n c:Nat):(Value.slice A n c).ownBlock=A.map (·.block):=by cases A <;> rfl
/-- What may have changed lies between two numbers of blocks. -/
structure Chg (lo hi:Nat) (w w':World):Prop where
 os:w'.os=w.os
 tape:w'.tape=w.tape
 output:w'.output=w.output
 size:w.heap.size≤w'.heap.size
 block:∀k,k<w.heap.size→(k<lo∨hi≤k)→w'.heap[k]?=w.heap[k]?
theorem Chg.refl (lo hi:Nat) (w:World):Chg lo hi w w:=⟨rfl,rfl,rfl,Nat.le_refl _,fun _ _ _=>rfl⟩
theorem Chg.trans {lo hi:Nat} {a b c:World} (h:Chg lo hi a b) (k:Chg lo hi b c):Chg lo hi a c :=
 ⟨k.os.trans h.os,k.tape.trans h.tape,k.output.trans h.output,Nat.le_trans h.size k.size,fun i hi' hne=>(k.block i (Nat.lt_of_lt_of_le hi' h.size) hne).trans (h.block i hi' hne)⟩
theorem below_chg {a w w':World} {lo hi:Nat} (h:Below a.heap.size a w) (hg:Chg lo hi w w') (hlo:a.heap.size≤lo):Below a.heap.size a w' :=
 h.trans ⟨hg.os,hg.tape,hg.output,hg.size,fun k hk=>hg.block k (Nat.lt_of_lt_of_le hk h.size) (.inl (by omega))⟩

end Go.Proofs.YtlinbdkbbhpdpaaGreat
