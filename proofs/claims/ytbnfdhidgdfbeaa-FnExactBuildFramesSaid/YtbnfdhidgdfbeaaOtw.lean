/- The laws' count and copy of tiles (printed by mkotw.py). -/
import Derived.Test.YtbnfdhidgdfbeaaDrwT
import Derived.Test.YtbnfdhidgdfbeaaEncS
import Derived.Test.YtbnfdhidgdfbeaaOtl
import Derived.Test.YtbnfdhidgdfbeaaResc
import Derived.Test.YtbnfdhidgdfbeaaRow2W
import Derived.Test.YtbnfdhidgdfbeaaTileHar
namespace Go.Proofs.Ytbnfdhidgdfbeaa
set_option maxRecDepth 100000
open Go.RowKit

def szLe (es:List Le):Nat→Nat
 | 0=>0
 | k+1=>szLe es k+(es[k]?.getD Le.zero).sel.length
def szL (es:List Le):Nat:=es.length+szLe es es.length
def szTo (ts:List Tile):Nat→Nat
 | 0=>0
 | k+1=>szTo ts k+((ts[k]?.getD Tile.zero).mux.length+szL (ts[k]?.getD Tile.zero).les)
def szTs (ts:List Tile):Nat:=ts.length+szTo ts ts.length
theorem szLe_mono (es : List Le) {j k : Nat} (h : j ≤ k) : szLe es j ≤ szLe es k := by
  induction k with
  | zero => obtain rfl : j = 0 := by omega
            exact Nat.le_refl _
  | succ k ih =>
    rcases Nat.lt_or_ge k j with h1 | h1
    · obtain rfl : j = k + 1 := by omega
      exact Nat.le_refl _
    · have := ih h1
      rw [szLe]; omega
theorem szTo_mono (ts : List Tile) {j k : Nat} (h : j ≤ k) : szTo ts j ≤ szTo ts k := by
  induction k with
  | zero => obtain rfl : j = 0 := by omega
            exact Nat.le_refl _
  | succ k ih =>
    rcases Nat.lt_or_ge k j with h1 | h1
    · obtain rfl : j = k + 1 := by omega
      exact Nat.le_refl _
    · have := ih h1
      rw [szTo]; omega
theorem lesN_sz (es:List Le) (k:Nat):lesN es k≤szLe es k+3 * k:=by
 induction k with
 | zero=>exact Nat.le_refl _
 | succ k ih=>rw [lesN,szLe,leCnt];omega
theorem tsN_sz (ts:List Tile) (k:Nat):tsN ts k≤3 * szTo ts k+2 * k:=by
 induction k with
 | zero=>exact Nat.le_refl _
 | succ k ih =>
  have:=lesN_sz (ts[k]?.getD Tile.zero).les (ts[k]?.getD Tile.zero).les.length
  rw [tsN,szTo,tCnt,szL]
  omega
theorem tsN_szTs {ts:List Tile} (h:szTs ts≤1048576):tsN ts ts.length≤3145728:=by
 have:=tsN_sz ts ts.length
 unfold szTs at h
 omega
theorem szTs_bd {ts:List Tile} (h:szTs ts≤1048576) (i:Nat):ts.length≤1048576∧(ts[i]?.getD Tile.zero).mux.length≤1048576∧szL (ts[i]?.getD Tile.zero).les≤1048576:=by
 unfold szTs at h
 rcases Nat.lt_or_ge i ts.length with hi|hi
 ·have h1:=szTo_mono ts (show i+1≤ts.length from hi)
  rw [szTo] at h1
  omega
 ·rw [List.getElem?_eq_none hi]
  refine ⟨by omega,by simp [Tile.zero],by simp [Tile.zero,szL,szLe]⟩
theorem szL_bd {es:List Le} {M:Nat} (h:szL es≤M) (i:Nat):es.length≤M∧(es[i]?.getD Le.zero).sel.length≤M:=by
 unfold szL at h
 rcases Nat.lt_or_ge i es.length with hi|hi
 ·have h1:=szLe_mono es (show i+1≤es.length from hi)
  rw [szLe] at h1
  omega
 ·rw [List.getElem?_eq_none hi]
  exact ⟨by omega,by simp [Le.zero]⟩
set_option maxHeartbeats 1000000 in
theorem szLeConfig_any (MA:Option Addr) (mn mc:Nat) (x y z:Int) (L:Int) (w:World) (hL:0≤L) (hL':L≤1099511627776) (hn:mn≤9223372036854775807) :
  Calls Try.prog 121 #[.agg #[.slice MA mn mc,.int .i64 x,.int .i64 y,.int .i64 z],.int .i64 L] w fun e w'=>e = .returned (.int .i64 (leftOf L mn))∧Below w.heap.size w w':=by
 have HB:=Lib.hid (below_new (Below.refl w.heap.size w) (.cells #[.slice MA mn mc,.int .i64 x,.int .i64 y,.int .i64 z] 130))
 go_enter Try.func121,Try.ntmps121
 go_wp2_with fail
 refine (szIntS_any MA mn mc L _ hL hL' hn).mono ?_
 rintro e w' ⟨rfl,rfl⟩
 by_cases g1:(mn:Int)≤L
 ·rw [leftOf_pos g1]
  have e1:decide (L - (mn:Int)<0)=false:=by simp;omega
  go_wp2_with fail
  go_ret
  exact ⟨ret_int (by rw [leftOf_pos g1]),HB.out⟩
 ·rw [leftOf_neg g1]
  go_wp2_with fail
  go_ret
  exact ⟨ret_int (by rw [leftOf_neg (by omega)]),HB.out⟩
theorem szto_mono_LeConfig (es:List Le) {j k:Nat} (h:j≤k):szLe es j≤szLe es k:=szLe_mono es h
set_option maxHeartbeats 2000000 in
theorem szLeConfigS_any (A:Option Addr) (n c:Nat) (xs:List Le) (L:Int) (w:World) (h:RdC w w.heap.size (celE xs) (.slice A n c)) (hL:0≤L) (hL':L≤1099511627776) (hn:n≤9223372036854775807) (hb:∀e∈xs,e.sel.length≤maxLen) :
  Calls Try.prog 84 #[.slice A n c,.int .i64 L] w fun e w'=>e = .returned (.int .i64 (leftOf L (szL xs)))∧Below w.heap.size w w':=by
 have HX:Hid (xs.length=n):=h.elen
 have HR:=Lib.hid h
 have HD:=Lib.hid hb
 clear h hb
 by_cases h0:(n:Int)≤L
 ·have hd:decide (L - (n:Int)<0)=false:=by simp;omega
  go_enter Try.func84,Try.ntmps84
  go_wp2_with fail
  go_loopw [1,5] (fun v i wr=>∃k:Nat,k≤n∧i = .int .i64 k∧v = .int .i64 (L - n - szLe xs k)∧(szLe xs k:Int)≤L - n∧Below w.heap.size w wr) (fun _ i _=>n - (intOf i).toNat)
  case atStart=>exact ⟨0,Nat.zero_le _,rfl,by simp [szLe],by simp [szLe];omega,Below.refl _ _⟩
  case round =>
   obtain ⟨k,hk,rfl,rfl,hle,hbe⟩:=hrel
   have HBE:=Lib.hid hbe
   clear hbe
   by_cases hlt:k<n
   ·have hdk:decide ((k:Int)<(n:Int))=true:=by simp;omega
    obtain ⟨b,o,S,m,p,rfl,hb,c0,c1,c2,c3,r0⟩:=HR.out.le (k:=k) (by rw [HX.out];exact hlt)
    have hm:m=(xs[k]?.getD Le.zero).sel.length:=(RdC.ints r0).1.symm
    have hm':m≤9223372036854775807:=by
     have hkx:k<xs.length:=by rw [HX.out];exact hlt
     have:=HD.out (xs[k]) (List.getElem_mem hkx)
     rw [List.getElem?_eq_getElem hkx] at hm
     simp only [Option.getD_some] at hm
     unfold maxLen at this
     omega
    have hbr:b<wr.heap.size:=by have:=HBE.out.size;omega
    have i0:(0:Int)≤(k:Int):=by omega
    have i1:(k:Int)<(n:Int):=by omega
    rw [←HBE.out.cell (p:=⟨b,o+k * 4,none⟩) hb] at c0
    rw [←HBE.out.cell (p:=⟨b,o+k * 4+1,none⟩) hb] at c1
    rw [←HBE.out.cell (p:=⟨b,o+k * 4+2,none⟩) hb] at c2
    rw [←HBE.out.cell (p:=⟨b,o+k * 4+3,none⟩) hb] at c3
    have HM:=Lib.hid hm
    clear r0 hm
    have HS:Hid (szLe xs (k+1)=szLe xs k+(xs[k]?.getD Le.zero).sel.length):=rfl
    have HF:Hid (szLe xs (k+1)≤szLe xs n):=szto_mono_LeConfig xs (by omega)
    generalize szLe xs k=s at *
    generalize xs[k]?.getD Le.zero=x at *
    go_wp2_with fail
    refine (szLeConfig_any S m p _ _ _ _ _ (by omega) (by omega) hm').mono ?_
    rintro e w' ⟨rfl,b'⟩
    have HB2:=Lib.hid (below_tr HBE.out b')
    clear b' c0 c1 c2 c3
    by_cases h1:(m:Int)≤L - n - s
    ·rw [leftOf_pos h1]
     have hd2:decide (L - (n:Int) - s - (m:Int)<0)=false:=by simp;omega
     go_wp2_with fail
     go_roundw
     case rel=>exact ⟨k+1,by omega,by go_num,by rw [HS.out,←HM.out];congr 1;omega,by rw [HS.out,←HM.out];omega,HB2.out⟩
     case measure=>simp [intOf];omega
    ·rw [leftOf_neg h1]
     go_wp2_with fail
     go_ret
     exact ⟨ret_int (by rw [leftOf_neg];have h2:=HF.out;rw [HS.out,←HM.out] at h2;unfold szL;rw [HX.out];omega),HB2.out⟩
   ·have hkn:k=n:=by omega
    subst hkn
    have hdk:decide ((k:Int)<(k:Int))=false:=by simp
    go_wp2_with fail
    go_ret
    exact ⟨ret_int (by rw [leftOf_pos (by unfold szL;rw [HX.out];omega)];unfold szL;rw [HX.out];omega),HBE.out⟩
 ·have hd:decide (L - (n:Int)<0)=true:=by simp;omega
  go_enter Try.func84,Try.ntmps84
  go_wp2_with fail
  go_ret
  exact ⟨ret_int (by rw [leftOf_neg];unfold szL;rw [HX.out];omega),Below.refl _ _⟩
set_option maxHeartbeats 1000000 in
theorem szTileConfig_any (MA:Option Addr) (mn mc:Nat) (LA:Option Addr) (ln lc:Nat) (x y:Int) (es:List Le) (L:Int) (w:World) (h:RdC w w.heap.size (celE es) (.slice LA ln lc)) (hL:0≤L) (hL':L≤1099511627776) (hn:mn≤9223372036854775807) (hl:ln≤9223372036854775807) (hs:∀e∈es,e.sel.length≤maxLen) :
  Calls Try.prog 41 #[.agg #[.slice MA mn mc,.slice LA ln lc,.int .i64 x,.int .i64 y],.int .i64 L] w fun e w'=>e = .returned (.int .i64 (leftOf L (mn+szL es)))∧Below w.heap.size w w':=by
 have HB0:=below_new (Below.refl w.heap.size w) (.cells #[.slice MA mn mc,.slice LA ln lc,.int .i64 x,.int .i64 y] 71)
 have HX:=Lib.hid (heap_new w (.cells #[.slice MA mn mc,.slice LA ln lc,.int .i64 x,.int .i64 y] 71))
 have HR:=Lib.hid (h.below HB0)
 have HB:=Lib.hid HB0
 have HS:=Lib.hid hs
 clear h HB0 hs
 go_enter Try.func41,Try.ntmps41
 go_wp2_with fail
 refine (szIntS_any MA mn mc L _ hL hL' hn).mono ?_
 rintro e w' ⟨rfl,rfl⟩
 by_cases g1:(mn:Int)≤L
 ·rw [leftOf_pos g1]
  have e1:decide (L - (mn:Int)<0)=false:=by simp;omega
  obtain ⟨x0,x1,x2,x3⟩:=cell4 HX.out
  go_wp2_with fail
  refine (szLeConfigS_any LA ln lc es (L - mn) _ HR.out (by omega) (by omega) hl HS.out).mono ?_
  rintro e w2 ⟨rfl,b2⟩
  have HB2:=Lib.hid (below_tr HB.out b2)
  clear b2 x0 x1 x2 x3
  by_cases g2:(szL es:Int)≤L - mn
  ·rw [leftOf_pos g2]
   have e2:decide (L - (mn:Int) - (szL es:Int)<0)=false:=by simp;omega
   go_wp2_with fail
   go_ret
   exact ⟨ret_int (by rw [leftOf_pos (by omega)];omega),HB2.out⟩
  ·rw [leftOf_neg g2]
   go_wp2_with fail
   go_ret
   exact ⟨ret_int (by rw [leftOf_neg (by omega)]),HB2.out⟩
 ·rw [leftOf_neg g1]
  go_wp2_with fail
  go_ret
  exact ⟨ret_int (by rw [leftOf_neg (by omega)]),HB.out⟩
theorem szto_mono_TileConfig (ts:List Tile) {j k:Nat} (h:j≤k):szTo ts j≤szTo ts k:=szTo_mono ts h
set_option maxHeartbeats 2000000 in
theorem szTileConfigS_any (A:Option Addr) (n c:Nat) (xs:List Tile) (L:Int) (w:World) (h:RdC w w.heap.size (celT xs) (.slice A n c)) (hL:0≤L) (hL':L≤1099511627776) (hn:n≤9223372036854775807) (hb:TlBd xs) :
  Calls Try.prog 9 #[.slice A n c,.int .i64 L] w fun e w'=>e = .returned (.int .i64 (leftOf L (szTs xs)))∧Below w.heap.size w w':=by
 have HX:Hid (xs.length=n):=h.tlen
 have HR:=Lib.hid h
 have HD:=Lib.hid hb
 clear h hb
 by_cases h0:(n:Int)≤L
 ·have hd:decide (L - (n:Int)<0)=false:=by simp;omega
  go_enter Try.func9,Try.ntmps9
  go_wp2_with fail
  go_loopw [1,5] (fun v i wr=>∃k:Nat,k≤n∧i = .int .i64 k∧v = .int .i64 (L - n - szTo xs k)∧(szTo xs k:Int)≤L - n∧Below w.heap.size w wr) (fun _ i _=>n - (intOf i).toNat)
  case atStart=>exact ⟨0,Nat.zero_le _,rfl,by simp [szTo],by simp [szTo];omega,Below.refl _ _⟩
  case round =>
   obtain ⟨k,hk,rfl,rfl,hle,hbe⟩:=hrel
   have HBE:=Lib.hid hbe
   clear hbe
   by_cases hlt:k<n
   ·have hdk:decide ((k:Int)<(n:Int))=true:=by simp;omega
    obtain ⟨b,o,S,m,p,L2,l,q,rfl,hb,c0,c1,c2,c3,r0,r1⟩:=HR.out.tile (k:=k) (by rw [HX.out];exact hlt)
    have hm:m=(xs[k]?.getD Tile.zero).mux.length:=(RdC.ints r0).1.symm
    have hl:(xs[k]?.getD Tile.zero).les.length=l:=r1.elen
    have hbd:(xs[k]?.getD Tile.zero).mux.length≤maxLen∧(xs[k]?.getD Tile.zero).les.length≤maxLen∧∀e∈(xs[k]?.getD Tile.zero).les,e.sel.length≤maxLen:=by
     have hkx:k<xs.length:=by rw [HX.out];exact hlt
     rw [List.getElem?_eq_getElem hkx]
     exact HD.out _ (List.getElem_mem hkx)
    have hm':m≤9223372036854775807:=by have:=hbd.1;unfold maxLen at this;omega
    have hl':l≤9223372036854775807:=by have:=hbd.2.1;unfold maxLen at this;omega
    have HBD:=Lib.hid hbd.2.2
    have hbr:b<wr.heap.size:=by have:=HBE.out.size;omega
    have i0:(0:Int)≤(k:Int):=by omega
    have i1:(k:Int)<(n:Int):=by omega
    rw [←HBE.out.cell (p:=⟨b,o+k * 4,none⟩) hb] at c0
    rw [←HBE.out.cell (p:=⟨b,o+k * 4+1,none⟩) hb] at c1
    rw [←HBE.out.cell (p:=⟨b,o+k * 4+2,none⟩) hb] at c2
    rw [←HBE.out.cell (p:=⟨b,o+k * 4+3,none⟩) hb] at c3
    have HM:=Lib.hid hm
    have HR1:=Lib.hid (r1.below HBE.out)
    clear r0 r1 hm hl hbd
    have HS:Hid (szTo xs (k+1)=szTo xs k+((xs[k]?.getD Tile.zero).mux.length+szL (xs[k]?.getD Tile.zero).les)):=rfl
    have HF:Hid (szTo xs (k+1)≤szTo xs n):=szto_mono_TileConfig xs (by omega)
    generalize szTo xs k=s at *
    generalize xs[k]?.getD Tile.zero=x at *
    go_wp2_with fail
    refine (szTileConfig_any S m p L2 l q _ _ x.les _ _ HR1.out (by omega) (by omega) hm' hl' HBD.out).mono ?_
    rintro e w' ⟨rfl,b'⟩
    have HB2:=Lib.hid (below_tr HBE.out b')
    clear b' c0 c1 c2 c3
    by_cases h1:((m+szL x.les:Nat):Int)≤L - n - s
    ·rw [leftOf_pos h1]
     have hd2:decide (L - (n:Int) - s - ((m+szL x.les:Nat):Int)<0)=false:=by simp;omega
     go_wp2_with fail
     go_roundw
     case rel=>exact ⟨k+1,by omega,by go_num,by rw [HS.out,←HM.out];congr 1;omega,by rw [HS.out,←HM.out];omega,HB2.out⟩
     case measure=>simp [intOf];omega
    ·rw [leftOf_neg h1]
     go_wp2_with fail
     go_ret
     exact ⟨ret_int (by rw [leftOf_neg];have h2:=HF.out;rw [HS.out,←HM.out] at h2;unfold szTs;rw [HX.out];omega),HB2.out⟩
   ·have hkn:k=n:=by omega
    subst hkn
    have hdk:decide ((k:Int)<(k:Int))=false:=by simp
    go_wp2_with fail
    go_ret
    exact ⟨ret_int (by rw [leftOf_pos (by unfold szTs;rw [HX.out];omega)];unfold szTs;rw [HX.out];omega),HBE.out⟩
 ·have hd:decide (L - (n:Int)<0)=true:=by simp;omega
  go_enter Try.func9,Try.ntmps9
  go_wp2_with fail
  go_ret
  exact ⟨ret_int (by rw [leftOf_neg];unfold szTs;rw [HX.out];omega),Below.refl _ _⟩
theorem le_info:(Try.prog.info? 107).map (fun i=>(i.zero,i.size,i.bytes))=some (some (.agg #[.slice none 0 0,.int .i64 0,.int .i64 0,.int .i64 0]),4,48):=by kernel_rfl
theorem put4c {w:World} {g:Nat} {v0 v1 v2 v3 u0 u1 u2 u3:Value} {t:TypeId} (h:w.heap[g]?=some (.cells #[v0,v1,v2,v3] t (0,0))):((((w.setCell ⟨g,0,none⟩ u0).setCell ⟨g,1,none⟩ u1).setCell ⟨g,2,none⟩ u2).setCell ⟨g,3,none⟩ u3).heap[g]?=some (.cells #[u0,u1,u2,u3] t (0,0)) :=
 (heap_set (heap_set (heap_set (heap_set h 0 u0) 1 u1) 2 u2) 3 u3).trans rfl
/-- Three boxes of four cells. -/
def Box3 (w:World) (g:Nat) (t u:TypeId) (cs c1 c2:Array Value):Prop:=w.heap[g]?=some (.cells cs t (0,0))∧w.heap[g+1]?=some (.cells c1 u (0,0))∧w.heap[g+1+1]?=some (.cells c2 u (0,0))
theorem Box3.tr {w w':World} {g:Nat} {t u:TypeId} {cs c1 c2:Array Value} (h:Box3 w g t u cs c1 c2) (hb:Below w.heap.size w w'):Box3 w' g t u cs c1 c2:=⟨heap_tr hb h.1,heap_tr hb h.2.1,heap_tr hb h.2.2⟩
theorem Box3.set {w:World} {g k:Nat} {t u:TypeId} {cs c1 c2 c3:Array Value} (h:Box3 w g t u cs c1 c2) (v:Value) (e:c2.setIfInBounds k v=c3):Box3 (w.setCell ⟨g+1+1,k,none⟩ v) g t u cs c1 c3 :=
 ⟨heap_setFar h.1 (by show g≠g+1+1;omega) v,heap_setFar h.2.1 (by show g+1≠g+1+1;omega) v,heap_setAt h.2.2 v e⟩
set_option maxHeartbeats 4000000 in
theorem toLeConfig_any (MA:Option Addr) (mn mc:Nat) (x:Le) (w:World) (h:Ints w MA mn x.sel) (zs:mn≤16777216) :
  Calls Try.prog 123 #[.agg #[.slice MA mn mc,.int .i64 x.mask,.int .i64 x.flop,.int .i64 x.init]] w fun e w'=>∃B,e = .returned (.agg #[.slice B mn mn,.int .i64 x.mask,.int .i64 x.flop,.int .i64 x.init])∧Own w.heap.size w' B mn mn x.sel∧Below w.heap.size w w':=by
 have HI:=Lib.hid h
 have HB:=Lib.hid (below_new (below_new (below_new (Below.refl w.heap.size w) (.cells #[.slice MA mn mc,.int .i64 x.mask,.int .i64 x.flop,.int .i64 x.init] 130)) (.cells #[.slice none 0 0,.int .i64 0,.int .i64 0,.int .i64 0] 107)) (.cells #[.slice none 0 0,.int .i64 0,.int .i64 0,.int .i64 0] 107))
 have HT:Hid (Box3 (((w.alloc (.cells #[.slice MA mn mc,.int .i64 x.mask,.int .i64 x.flop,.int .i64 x.init] 130)).alloc (.cells #[.slice none 0 0,.int .i64 0,.int .i64 0,.int .i64 0] 107)).alloc (.cells #[.slice none 0 0,.int .i64 0,.int .i64 0,.int .i64 0] 107)) w.heap.size 130 107 #[.slice MA mn mc,.int .i64 x.mask,.int .i64 x.flop,.int .i64 x.init] #[.slice none 0 0,.int .i64 0,.int .i64 0,.int .i64 0] #[.slice none 0 0,.int .i64 0,.int .i64 0,.int .i64 0]) :=
  ⟨heap_al _ (heap_al _ (heap_new _ _)),heap_al _ (heap_newAt (by simp)),heap_newAt (by simp)⟩
 have hsz:(((w.alloc (.cells #[.slice MA mn mc,.int .i64 x.mask,.int .i64 x.flop,.int .i64 x.init] 130)).alloc (.cells #[.slice none 0 0,.int .i64 0,.int .i64 0,.int .i64 0] 107)).alloc (.cells #[.slice none 0 0,.int .i64 0,.int .i64 0,.int .i64 0] 107)).heap.size=w.heap.size+3:=by simp
 clear h
 go_enter Try.func123,Try.ntmps123
 go_upto_region 2 with fail
 generalize hW:(((w.alloc (.cells #[.slice MA mn mc,.int .i64 x.mask,.int .i64 x.flop,.int .i64 x.init] 130)).alloc (.cells #[.slice none 0 0,.int .i64 0,.int .i64 0,.int .i64 0] 107)).alloc (.cells #[.slice none 0 0,.int .i64 0,.int .i64 0,.int .i64 0] 107))=w1 at *
 clear hW
 obtain ⟨x0,x1,x2,x3⟩:=cell4 HT.out.1
 have HSZ:=Lib.hid hsz
 clear hsz
 go_wp2_with fail
 refine (toIntS_any MA mn mc x.sel _ (HI.out.below HB.out) zs).mono ?_
 rintro e w2 ⟨B2,rfl,o2,b2⟩
 have hs2:=b2.size
 have hsz:=HSZ.out
 have lO:=o2.lies
 replace HB:=Lib.hid (below_tr HB.out b2)
 replace HT:=Lib.hid (HT.out.tr b2)
 have O2:=Lib.hid o2
 clear b2 o2 x0 x1 x2 x3
 obtain ⟨x0,x1,x2,x3⟩:=cell4 HT.out.1
 obtain ⟨z0,z1,z2,z3⟩:=cell4 HT.out.2.2
 obtain ⟨u0,u1,u2,u3⟩:=cell4 HT.out.2.1
 have y0:=fun k=>frozen_heap HT.out.1 k
 have y1:=fun k=>frozen_heap HT.out.2.1 k
 have y2:=fun k=>frozen_heap HT.out.2.2 k
 have hg1:w.heap.size+1≠w.heap.size+1+1:=by omega
 have hg:w.heap.size≠w.heap.size+1+1:=by omega
 go_wp2_with fail
 generalize hWF:World.setCell _ _ _=WF
 have hb:WF.heap[w.heap.size+1]?=some (.cells #[.slice B2 mn mn,.int .i64 x.mask,.int .i64 x.flop,.int .i64 x.init] 107 (0,0)):=by
  rw [←hWF]
  exact put4c (heap_setFar (heap_setFar (heap_setFar (heap_setFar HT.out.2.1 hg1 _) hg1 _) hg1 _) hg1 _)
 have hB:Below w.heap.size w WF:=by rw [←hWF];repeat (first|with_reducible exact HB.out|with_reducible refine Below.setCell ?_ (by simp only;omega) _|with_reducible refine below_new ?_ _|with_reducible exact Below.refl _ _)
 have hC:Chg (w.heap.size+1) (w.heap.size+3) w2 WF:=by
  rw [←hWF]
  repeat (first|with_reducible exact Chg.refl _ _ _|with_reducible refine Chg.set ?_ (by omega) (by omega) _)
 clear hWF x0 x1 x2 x3 z0 z1 z2 z3 u0 u1 u2 u3 y0 y1 y2
 refine bodyPost_ret (v := .agg #[.slice B2 mn mn,.int .i64 x.mask,.int .i64 x.flop,.int .i64 x.init]) (results_cell1 Try.results123 rfl hb Try.underlying107 (by kernel_rfl)) rfl ⟨B2,rfl,?_,hB⟩
 exact (O2.out.chg hC lO (.inr (by omega))).more (by omega)
theorem take_set_snoc {l:List Value} {j:Nat} (h:j<l.length) (v:Value):(l.set j v).take (j+1)=l.take j++[v]:=by
 rw [List.take_add_one,List.getElem?_set_self h,List.take_set_of_le (Nat.le_refl _)]
 rfl
theorem take_four {l:List Value} {j:Nat} (h:j+4≤l.length) (v0 v1 v2 v3:Value):((((l.set j v0).set (j+1) v1).set (j+2) v2).set (j+3) v3).take (j+4)=l.take j++[v0,v1,v2,v3]:=by
 rw [show j+4=j+3+1 from rfl,take_set_snoc (by simp;omega),show j+3=j+2+1 from rfl,take_set_snoc (by simp;omega),show j+2=j+1+1 from rfl,take_set_snoc (by simp;omega),take_set_snoc (by omega)]
 simp
/-- A block of groups of four cells, of which the first k are filled. -/
structure Fill4 (w:World) (g:Nat) (e:TypeId) (n k:Nat) (vs:List Value):Prop where
 blk:∃cur,w.heap[g]?=some (.cells cur e (0,0))∧cur.size=n * 4∧cur.toList.take (k * 4)=vs
 len:vs.length=k * 4
theorem Fill4.tr {w w':World} {g:Nat} {e:TypeId} {n k:Nat} {vs:List Value} (h:Fill4 w g e n k vs) (hb:Below w.heap.size w w'):Fill4 w' g e n k vs:=by
 obtain ⟨⟨cur,h1,h2,h3⟩,h4⟩:=h
 exact ⟨⟨cur,heap_tr hb h1,h2,h3⟩,h4⟩
theorem Fill4.cells {w:World} {g:Nat} {e:TypeId} {n k:Nat} {vs:List Value} (h:Fill4 w g e n k vs) (hk:k<n):∃u0 u1 u2 u3,w.cell? ⟨g,k * 4,none⟩=some u0∧w.cell? ⟨g,k * 4+1,none⟩=some u1∧w.cell? ⟨g,k * 4+2,none⟩=some u2∧w.cell? ⟨g,k * 4+3,none⟩=some u3∧∀j,w.frozen? ⟨g,j,none⟩=false:=by
 obtain ⟨⟨cur,h1,h2,h3⟩,h4⟩:=h
 have hc:∀j,j<n * 4→∃u,w.cell? ⟨g,j,none⟩=some u:=fun j hj=>by
  have hj2:j<cur.size:=by omega
  exact ⟨cur[j],by unfold World.cell?;rw [h1];simp [hj2]⟩
 obtain ⟨u0,q0⟩:=hc (k * 4) (by omega)
 obtain ⟨u1,q1⟩:=hc (k * 4+1) (by omega)
 obtain ⟨u2,q2⟩:=hc (k * 4+2) (by omega)
 obtain ⟨u3,q3⟩:=hc (k * 4+3) (by omega)
 exact ⟨u0,u1,u2,u3,q0,q1,q2,q3,fun j=>frozen_heap h1 j⟩
theorem Fill4.put {w:World} {g:Nat} {e:TypeId} {n k:Nat} {vs:List Value} (h:Fill4 w g e n k vs) (hk:k<n) (v0 v1 v2 v3:Value):Fill4 ((((w.setCell ⟨g,k * 4,none⟩ v0).setCell ⟨g,k * 4+1,none⟩ v1).setCell ⟨g,k * 4+2,none⟩ v2).setCell ⟨g,k * 4+3,none⟩ v3) g e n (k+1) (vs++[v0,v1,v2,v3]):=by
 obtain ⟨⟨cur,h1,h2,h3⟩,h4⟩:=h
 refine ⟨⟨_,heap_set (heap_set (heap_set (heap_set h1 _ v0) _ v1) _ v2) _ v3,by simp [h2],?_⟩,by simp [h4];omega⟩
 simp only [Array.toList_setIfInBounds]
 rw [show (k+1) * 4=k * 4+4 by omega,take_four (by rw [Array.length_toList,h2];omega),h3]
theorem Fill4.new {w:World} {e:TypeId} {n:Nat} {cur:Array Value} (h:cur.size=n * 4):Fill4 (w.alloc (.cells cur e)) w.heap.size e n 0 []:=⟨⟨cur,heap_new _ _,h,by simp⟩,rfl⟩
theorem Fill4.own {w:World} {g hi:Nat} {e:TypeId} {n:Nat} {vs:List Value} {cs:List Cel} (h:Fill4 w g e n n vs) (hn:n≤maxLen) (ho:OwnsL (g+1) hi w cs vs) (hh:g<hi):OwnT g hi w (.row e 4 cs) (.slice (some ⟨g,0,none⟩) n n):=by
 obtain ⟨⟨cur,h1,h2,h3⟩,h4⟩:=h
 obtain ⟨F,k1,k2,k3⟩:=ho
 refine ⟨g :: F,?_,?_,fun k hk=>?_⟩
 ·rw [ownC_row]
  exact ⟨_,n,n,vs,F,rfl,⟨h4,.inr ⟨g,n,cur,rfl,Nat.zero_le _,h1,Nat.le_refl _,hn,h2,h3⟩⟩,rfl,k1⟩
 ·rw [List.nodup_cons]
  exact ⟨fun hm=>by have:=k3 g hm;omega,k2⟩
 ·rw [List.mem_cons] at hk
  rcases hk with rfl|hk
  ·omega
  ·have:=k3 k hk;omega
theorem chg4 {w:World} {g k:Nat} {v0 v1 v2 v3:Value}:Chg g (g+1) w ((((w.setCell ⟨g,k,none⟩ v0).setCell ⟨g,k+1,none⟩ v1).setCell ⟨g,k+2,none⟩ v2).setCell ⟨g,k+3,none⟩ v3):=by
 repeat (first|exact Chg.refl _ _ _|refine Chg.set ?_ (Nat.le_refl _) (Nat.lt_succ_self _) _)
theorem OwnsL.chg {lo hi lo' hi':Nat} {w w':World} {cs:List Cel} {vs:List Value} (h:OwnsL lo hi w cs vs) (hg:Chg lo' hi' w w') (ha:hi≤lo'∨hi'≤lo):OwnsL lo hi w' cs vs:=h.keep fun k h1 h2 hk=>hg.block k hk (by omega)
theorem flat_take {α β:Type} {f:α→List β} {xs:List α} {k:Nat} {x:α} (h:xs[k]?=some x):(xs.take (k+1)).flatMap f=(xs.take k).flatMap f++f x:=by
 rw [List.take_add_one,h]
 simp
theorem OwnsL.app {lo mid mid' hi:Nat} {w:World} {cs ds:List Cel} {vs us:List Value} (h:OwnsL lo mid w cs vs) (k:OwnsL mid' hi w ds us) (h1:mid≤mid') (h2:lo≤mid') (h3:mid≤hi):OwnsL lo hi w (cs++ds) (vs++us):=by
 obtain ⟨F,a1,a2,a3⟩:=h
 obtain ⟨G,b1,b2,b3⟩:=k
 refine ⟨F++G,a1.append b1,?_,fun k hk=>?_⟩
 ·rw [List.nodup_append]
  exact ⟨a2,b2,fun x hx y hy=>by have:=a3 x hx;have:=b3 y hy;omega⟩
 ·rw [List.mem_append] at hk
  rcases hk with hk|hk
  ·have:=a3 k hk;omega
  ·have:=b3 k hk;omega
theorem ownsL_le {base hi:Nat} {w:World} {x:Le} {B:Option Addr} {mn c:Nat} (h:Own base w B mn c x.sel) (hh:w.heap.size≤hi):OwnsL base hi w x.cells [.slice B mn c,.int .i64 x.mask,.int .i64 x.flop,.int .i64 x.init]:=by
 obtain ⟨F,h1,h2,h3⟩:=h.tree hh
 refine ⟨F,?_,h2,h3⟩
 have two:∀(a:Int) {cs:List Cel} {vs:List Value},OwnL w cs vs []→OwnL w (.int a :: cs) (.int .i64 a :: vs) []:=fun a cs vs h=>ownL_cons.2 ⟨_,_,[],[],rfl,rfl,ownC_int.2 ⟨rfl,rfl⟩,h⟩
 exact ownL_cons.2 ⟨_,_,F,[],rfl,(List.append_nil _).symm,h1,two _ (two _ (two _ (ownL_nil.2 ⟨rfl,rfl⟩)))⟩
set_option maxHeartbeats 4000000 in
theorem toLeConfigS_any (A:Option Addr) (n c:Nat) (xs:List Le) (w:World) (h:RdC w w.heap.size (celE xs) (.slice A n c)) (hz:szL xs≤1048576) :
  Calls Try.prog 93 #[.slice A n c] w fun e w'=>∃A',e = .returned (.slice A' n n)∧OwnT w.heap.size w'.heap.size w' (celE xs) (.slice A' n n)∧Below w.heap.size w w':=by
 obtain ⟨i0,hi,hz0,hz1,hz2⟩:=info_parts le_info
 have hxl:=h.elen
 have hn:n≤1048576:=by have:=(szL_bd hz 0).1;omega
 have hmk:=fun W=>run_make_rowN (P:=Try.prog) 50 107 i0 _ Try.underlying50 hi hz0 .i64 .i64 n n (Nat.le_refl _) (by rw [hz2];omega) (by omega) W
 have hsz0:∀z:Array Value,(madeCells z (n * i0.size)).size=n * 4:=fun z=>by rw [size_madeCells,hz1]
 generalize hcz:madeCells _ (n * i0.size)=cz at hmk
 have hczs:cz.size=n * 4:=by rw [←hcz];exact hsz0 _
 clear hi hz0 hz1 hz2 hsz0 hcz
 have HX:=Lib.hid hxl
 have HR:=Lib.hid h
 have HZ:=Lib.hid (fun k=>szL_bd hz k)
 clear h hz hxl
 go_enter Try.func93,Try.ntmps93
 go_wp2_with fail
 go_loopw [4] (fun i wr=>∃(k:Nat) (vs:List Value),k≤n∧i = .int .i64 k∧Fill4 wr w.heap.size 107 n k vs∧OwnsL (w.heap.size+1) wr.heap.size wr ((xs.take k).flatMap Le.cells) vs∧Below w.heap.size w wr∧w.heap.size<wr.heap.size) (fun i _=>n - (intOf i).toNat)
 case atStart=>exact ⟨0,[],Nat.zero_le _,rfl,Fill4.new hczs,by simpa using OwnsL.nil,below_new (Below.refl _ _) _,by simp⟩
 case round =>
  obtain ⟨k,vs,hk,rfl,hfl,how,hbe,hsr⟩:=hrel
  have HFL:=Lib.hid hfl
  have HOW:=Lib.hid how
  have HBE:=Lib.hid hbe
  clear hfl how hbe hmk
  by_cases hlt:k<n
  ·have hdk:decide ((k:Int)<(n:Int))=true:=by simp;omega
   obtain ⟨b,o,S,m,p,rfl,hb,c0,c1,c2,c3,r0⟩:=HR.out.le (k:=k) (by rw [HX.out];exact hlt)
   have hm:m≤16777216:=by have h1:=(RdC.ints r0).1;have h2:=(HZ.out k).2;omega
   have hbr:b<wr.heap.size:=by have:=HBE.out.size;omega
   have i0:(0:Int)≤(k:Int):=by omega
   have i1:(k:Int)<(n:Int):=by omega
   rw [←HBE.out.cell (p:=⟨b,o+k * 4,none⟩) hb] at c0
   rw [←HBE.out.cell (p:=⟨b,o+k * 4+1,none⟩) hb] at c1
   rw [←HBE.out.cell (p:=⟨b,o+k * 4+2,none⟩) hb] at c2
   rw [←HBE.out.cell (p:=⟨b,o+k * 4+3,none⟩) hb] at c3
   have HI:=Lib.hid ((RdC.ints r0).below HBE.out)
   clear r0
   have HSN:=Lib.hid (flat_take (f:=Le.cells) (getD_some Le.zero (by rw [HX.out];exact hlt):xs[k]?=some (xs[k]?.getD Le.zero)))
   generalize xs[k]?.getD Le.zero=x at *
   go_wp2_with fail
   refine (toLeConfig_any S m p x _ HI.out hm).mono ?_
   rintro e w2 ⟨B2,rfl,o2,b2⟩
   have hs2:=b2.size
   have HFL2:=Lib.hid (HFL.out.tr b2)
   have HOW2:=Lib.hid (HOW.out.below b2)
   have HBE2:=Lib.hid (below_tr HBE.out b2)
   have O2:=Lib.hid (ownsL_le (base:=wr.heap.size) o2 (Nat.le_refl _))
   clear o2 b2 c0 c1 c2 c3
   obtain ⟨u0,u1,u2,u3,f0,f1,f2,f3,fz⟩:=HFL2.out.cells hlt
   go_wp2_with fail
   clear f0 f1 f2 f3 fz
   have HP:=Lib.hid (HFL2.out.put hlt (.slice B2 m m) (.int .i64 x.mask) (.int .i64 x.flop) (.int .i64 x.init))
   have hC:=chg4 (w:=w2) (g:=w.heap.size) (k:=k * 4) (v0 := .slice B2 m m) (v1 := .int .i64 x.mask) (v2 := .int .i64 x.flop) (v3 := .int .i64 x.init)
   have hsC:=hC.size
   have HO3:=Lib.hid (HOW2.out.chg hC (.inr (Nat.le_refl _)))
   have HO4:=Lib.hid (O2.out.chg hC (.inr (by omega)))
   have HB3:=Lib.hid (below_chg HBE2.out hC (Nat.le_refl _))
   generalize hWE:World.setCell _ _ _=WE at *
   clear hWE hC
   go_roundw
   case rel =>
    refine ⟨k+1,_,by omega,by go_num,HP.out,?_,HB3.out,by omega⟩
    rw [HSN.out]
    exact (HO3.out.app HO4.out (Nat.le_refl _) (by omega) hs2).widen (Nat.le_refl _) hsC
   case measure=>simp [intOf];omega
  ·have hkn:k=n:=by omega
   subst hkn
   have hdk:decide ((k:Int)<(k:Int))=false:=by simp
   go_wp2_with fail
   go_ret
   refine ⟨_,rfl,?_,HBE.out⟩
   have h:=HOW.out
   rw [List.take_of_length_le (by rw [HX.out];exact Nat.le_refl _)] at h
   exact HFL.out.own (by unfold maxLen;omega) h hsr
set_option maxHeartbeats 4000000 in
theorem toTileConfig_any (MA:Option Addr) (mn mc:Nat) (LA:Option Addr) (ln lc:Nat) (x:Tile) (w:World) (h:Ints w MA mn x.mux) (hl:RdC w w.heap.size (celE x.les) (.slice LA ln lc)) (zs:mn≤16777216) (zl:szL x.les≤1048576) :
  Calls Try.prog 45 #[.agg #[.slice MA mn mc,.slice LA ln lc,.int .i64 x.pad,.int .i64 x.ram]] w fun e w'=>∃B C,e = .returned (.agg #[.slice B mn mn,.slice C ln ln,.int .i64 x.pad,.int .i64 x.ram])∧OwnsL w.heap.size w'.heap.size w' x.cells [.slice B mn mn,.slice C ln ln,.int .i64 x.pad,.int .i64 x.ram]∧Below w.heap.size w w':=by
 have HI:=Lib.hid h
 have HL:=Lib.hid hl
 have HB:=Lib.hid (below_new (below_new (below_new (Below.refl w.heap.size w) (.cells #[.slice MA mn mc,.slice LA ln lc,.int .i64 x.pad,.int .i64 x.ram] 71)) (.cells #[.slice none 0 0,.slice none 0 0,.int .i64 0,.int .i64 0] 52)) (.cells #[.slice none 0 0,.slice none 0 0,.int .i64 0,.int .i64 0] 52))
 have HT:Hid (Box3 (((w.alloc (.cells #[.slice MA mn mc,.slice LA ln lc,.int .i64 x.pad,.int .i64 x.ram] 71)).alloc (.cells #[.slice none 0 0,.slice none 0 0,.int .i64 0,.int .i64 0] 52)).alloc (.cells #[.slice none 0 0,.slice none 0 0,.int .i64 0,.int .i64 0] 52)) w.heap.size 71 52 #[.slice MA mn mc,.slice LA ln lc,.int .i64 x.pad,.int .i64 x.ram] #[.slice none 0 0,.slice none 0 0,.int .i64 0,.int .i64 0] #[.slice none 0 0,.slice none 0 0,.int .i64 0,.int .i64 0]) :=
  ⟨heap_al _ (heap_al _ (heap_new _ _)),heap_al _ (heap_newAt (by simp)),heap_newAt (by simp)⟩
 have hsz:(((w.alloc (.cells #[.slice MA mn mc,.slice LA ln lc,.int .i64 x.pad,.int .i64 x.ram] 71)).alloc (.cells #[.slice none 0 0,.slice none 0 0,.int .i64 0,.int .i64 0] 52)).alloc (.cells #[.slice none 0 0,.slice none 0 0,.int .i64 0,.int .i64 0] 52)).heap.size=w.heap.size+3:=by simp
 clear h hl
 go_enter Try.func45,Try.ntmps45
 go_upto_region 2 with fail
 generalize hW:(((w.alloc (.cells #[.slice MA mn mc,.slice LA ln lc,.int .i64 x.pad,.int .i64 x.ram] 71)).alloc (.cells #[.slice none 0 0,.slice none 0 0,.int .i64 0,.int .i64 0] 52)).alloc (.cells #[.slice none 0 0,.slice none 0 0,.int .i64 0,.int .i64 0] 52))=w1 at *
 clear hW
 have HSZ:=Lib.hid hsz
 clear hsz
 obtain ⟨x0,x1,x2,x3⟩:=cell4 HT.out.1
 go_wp2_with fail
 refine (toIntS_any MA mn mc x.mux _ (HI.out.below HB.out) zs).mono ?_
 rintro e w2 ⟨B2,rfl,o2,b2⟩
 have hs2:=b2.size
 have hsz:=HSZ.out
 have lO:=o2.lies
 replace HB:=Lib.hid (below_tr HB.out b2)
 replace HT:=Lib.hid (HT.out.tr b2)
 have O2:=Lib.hid o2
 clear b2 o2 x0 x1 x2 x3
 obtain ⟨x0,x1,x2,x3⟩:=cell4 HT.out.1
 obtain ⟨z0,z1,z2,z3⟩:=cell4 HT.out.2.2
 have y2:=fun k=>frozen_heap HT.out.2.2 k
 have hg:w.heap.size≠w.heap.size+1+1:=by omega
 have hg1:w.heap.size+1≠w.heap.size+1+1:=by omega
 go_upto_region 3 with fail
 clear x0 x1 x2 x3 z0 z1 z2 z3 y2
 have hC0:Chg (w.heap.size+1+1) (w.heap.size+1+1+1) w2 (w2.setCell ⟨w.heap.size+1+1,0,none⟩ (.slice B2 mn mn)):=Chg.set (Chg.refl _ _ _) (Nat.le_refl _) (Nat.lt_succ_self _) _
 replace HT:=Lib.hid (HT.out.set (k:=0) (.slice B2 mn mn) rfl)
 replace O2:=Lib.hid (O2.out.chg hC0 lO (.inr (by omega)))
 replace HB:=Lib.hid (below_chg HB.out hC0 (by omega))
 have hs3:=hC0.size
 clear hC0
 generalize hW:w2.setCell ⟨w.heap.size+1+1,0,none⟩ (.slice B2 mn mn)=w3 at *
 clear hW
 obtain ⟨x0,x1,x2,x3⟩:=cell4 HT.out.1
 go_wp2_with fail
 refine (toLeConfigS_any LA ln lc x.les _ (HL.out.below HB.out) zl).mono ?_
 rintro e w4 ⟨C4,rfl,o4,b4⟩
 have hs4:=b4.size
 replace HB:=Lib.hid (below_tr HB.out b4)
 replace HT:=Lib.hid (HT.out.tr b4)
 replace O2:=Lib.hid (O2.out.below b4)
 have O4:=Lib.hid o4
 clear b4 o4 x0 x1 x2 x3
 obtain ⟨x0,x1,x2,x3⟩:=cell4 HT.out.1
 obtain ⟨z0,z1,z2,z3⟩:=cell4 HT.out.2.2
 obtain ⟨u0,u1,u2,u3⟩:=cell4 HT.out.2.1
 have y0:=fun k=>frozen_heap HT.out.1 k
 have y1:=fun k=>frozen_heap HT.out.2.1 k
 have y2:=fun k=>frozen_heap HT.out.2.2 k
 go_wp2_with fail
 generalize hWF:World.setCell _ _ _=WF
 have hb:WF.heap[w.heap.size+1]?=some (.cells #[.slice B2 mn mn,.slice C4 ln ln,.int .i64 x.pad,.int .i64 x.ram] 52 (0,0)):=by
  rw [←hWF]
  exact put4c (heap_setFar (heap_setFar (heap_setFar HT.out.2.1 hg1 _) hg1 _) hg1 _)
 have hB:Below w.heap.size w WF:=by rw [←hWF];repeat (first|with_reducible exact HB.out|with_reducible refine Below.setCell ?_ (by simp only;omega) _|with_reducible refine below_new ?_ _|with_reducible exact Below.refl _ _)
 have hC:Chg (w.heap.size+1) (w.heap.size+3) w4 WF:=by
  rw [←hWF]
  repeat (first|with_reducible exact Chg.refl _ _ _|with_reducible refine Chg.set ?_ (by omega) (by omega) _)
 have hsC:=hC.size
 clear hWF x0 x1 x2 x3 z0 z1 z2 z3 u0 u1 u2 u3 y0 y1 y2
 refine bodyPost_ret (v := .agg #[.slice B2 mn mn,.slice C4 ln ln,.int .i64 x.pad,.int .i64 x.ram]) (results_cell1 Try.results45 rfl hb Try.underlying52 (by kernel_rfl)) rfl ⟨B2,C4,rfl,?_,hB⟩
 have q2:=(O2.out.chg hC lO (.inr (by omega)))
 have q4:=O4.out.chg hC (.inr (by omega))
 obtain ⟨F,f1,f2,f3⟩:OwnT w1.heap.size w2.heap.size WF (celI x.mux) (.slice B2 mn mn):=by
  refine ⟨blk B2,ownC_ints.2 ⟨q2.more (Nat.zero_le _),rfl⟩,by cases B2 <;> simp [blk],fun k hk=>?_⟩
  obtain ⟨a,rfl,rfl⟩:=mem_blk.1 hk
  exact lO a rfl
 obtain ⟨G,g1,g2,g3⟩:=q4
 have two:∀(a:Int) {cs:List Cel} {vs:List Value},OwnL WF cs vs []→OwnL WF (.int a :: cs) (.int .i64 a :: vs) []:=fun a cs vs h=>ownL_cons.2 ⟨_,_,[],[],rfl,rfl,ownC_int.2 ⟨rfl,rfl⟩,h⟩
 refine ⟨F++G,ownL_cons.2 ⟨_,_,F,G,rfl,rfl,f1,ownL_cons.2 ⟨_,_,G,[],rfl,(List.append_nil _).symm,g1,two _ (two _ (ownL_nil.2 ⟨rfl,rfl⟩))⟩⟩,?_,fun k hk=>?_⟩
 ·rw [List.nodup_append]
  exact ⟨f2,g2,fun p hp q hq=>by have:=f3 p hp;have:=g3 q hq;omega⟩
 ·rw [List.mem_append] at hk
  rcases hk with hk|hk
  ·have:=f3 k hk;omega
  ·have:=g3 k hk;omega
set_option maxHeartbeats 4000000 in
theorem toTileConfigS_any (A:Option Addr) (n c:Nat) (xs:List Tile) (w:World) (h:RdC w w.heap.size (celT xs) (.slice A n c)) (hz:szTs xs≤1048576) :
  Calls Try.prog 12 #[.slice A n c] w fun e w'=>∃A',e = .returned (.slice A' n n)∧OwnT w.heap.size w'.heap.size w' (celT xs) (.slice A' n n)∧Below w.heap.size w w':=by
 obtain ⟨i0,hi,hz0,hz1,hz2⟩:=info_parts tile_info
 have hxl:=h.tlen
 have hn:n≤1048576:=by have:=(szTs_bd hz 0).1;omega
 have hmk:=fun W=>run_make_rowN (P:=Try.prog) 31 52 i0 _ Try.underlying31 hi hz0 .i64 .i64 n n (Nat.le_refl _) (by rw [hz2];omega) (by omega) W
 have hsz0:∀z:Array Value,(madeCells z (n * i0.size)).size=n * 4:=fun z=>by rw [size_madeCells,hz1]
 generalize hcz:madeCells _ (n * i0.size)=cz at hmk
 have hczs:cz.size=n * 4:=by rw [←hcz];exact hsz0 _
 clear hi hz0 hz1 hz2 hsz0 hcz
 have HX:=Lib.hid hxl
 have HR:=Lib.hid h
 have HZ:=Lib.hid (fun k=>szTs_bd hz k)
 clear h hz hxl
 go_enter Try.func12,Try.ntmps12
 go_wp2_with fail
 go_loopw [4] (fun i wr=>∃(k:Nat) (vs:List Value),k≤n∧i = .int .i64 k∧Fill4 wr w.heap.size 52 n k vs∧OwnsL (w.heap.size+1) wr.heap.size wr ((xs.take k).flatMap Tile.cells) vs∧Below w.heap.size w wr∧w.heap.size<wr.heap.size) (fun i _=>n - (intOf i).toNat)
 case atStart=>exact ⟨0,[],Nat.zero_le _,rfl,Fill4.new hczs,by simpa using OwnsL.nil,below_new (Below.refl _ _) _,by simp⟩
 case round =>
  obtain ⟨k,vs,hk,rfl,hfl,how,hbe,hsr⟩:=hrel
  have HFL:=Lib.hid hfl
  have HOW:=Lib.hid how
  have HBE:=Lib.hid hbe
  clear hfl how hbe hmk
  by_cases hlt:k<n
  ·have hdk:decide ((k:Int)<(n:Int))=true:=by simp;omega
   obtain ⟨b,o,S,m,p,L2,l,q,rfl,hb,c0,c1,c2,c3,r0,r1⟩:=HR.out.tile (k:=k) (by rw [HX.out];exact hlt)
   have hm:m≤16777216:=by have h1:=(RdC.ints r0).1;have h2:=(HZ.out k).2.1;omega
   have hbr:b<wr.heap.size:=by have:=HBE.out.size;omega
   have i0:(0:Int)≤(k:Int):=by omega
   have i1:(k:Int)<(n:Int):=by omega
   rw [←HBE.out.cell (p:=⟨b,o+k * 4,none⟩) hb] at c0
   rw [←HBE.out.cell (p:=⟨b,o+k * 4+1,none⟩) hb] at c1
   rw [←HBE.out.cell (p:=⟨b,o+k * 4+2,none⟩) hb] at c2
   rw [←HBE.out.cell (p:=⟨b,o+k * 4+3,none⟩) hb] at c3
   have HI:=Lib.hid ((RdC.ints r0).below HBE.out)
   have HR1:=Lib.hid (r1.below HBE.out)
   have HZL:=Lib.hid (HZ.out k).2.2
   clear r0 r1
   have HSN:=Lib.hid (flat_take (f:=Tile.cells) (getD_some Tile.zero (by rw [HX.out];exact hlt):xs[k]?=some (xs[k]?.getD Tile.zero)))
   generalize xs[k]?.getD Tile.zero=x at *
   go_wp2_with fail
   refine (toTileConfig_any S m p L2 l q x _ HI.out HR1.out hm HZL.out).mono ?_
   rintro e w2 ⟨B2,C2,rfl,o2,b2⟩
   have hs2:=b2.size
   have HFL2:=Lib.hid (HFL.out.tr b2)
   have HOW2:=Lib.hid (HOW.out.below b2)
   have HBE2:=Lib.hid (below_tr HBE.out b2)
   have O2:=Lib.hid (o2)
   clear o2 b2 c0 c1 c2 c3
   obtain ⟨u0,u1,u2,u3,f0,f1,f2,f3,fz⟩:=HFL2.out.cells hlt
   go_wp2_with fail
   clear f0 f1 f2 f3 fz
   have HP:=Lib.hid (HFL2.out.put hlt (.slice B2 m m) (.slice C2 l l) (.int .i64 x.pad) (.int .i64 x.ram))
   have hC:=chg4 (w:=w2) (g:=w.heap.size) (k:=k * 4) (v0 := .slice B2 m m) (v1 := .slice C2 l l) (v2 := .int .i64 x.pad) (v3 := .int .i64 x.ram)
   have hsC:=hC.size
   have HO3:=Lib.hid (HOW2.out.chg hC (.inr (Nat.le_refl _)))
   have HO4:=Lib.hid (O2.out.chg hC (.inr (by omega)))
   have HB3:=Lib.hid (below_chg HBE2.out hC (Nat.le_refl _))
   generalize hWE:World.setCell _ _ _=WE at *
   clear hWE hC
   go_roundw
   case rel =>
    refine ⟨k+1,_,by omega,by go_num,HP.out,?_,HB3.out,by omega⟩
    rw [HSN.out]
    exact (HO3.out.app HO4.out (Nat.le_refl _) (by omega) hs2).widen (Nat.le_refl _) hsC
   case measure=>simp [intOf];omega
  ·have hkn:k=n:=by omega
   subst hkn
   have hdk:decide ((k:Int)<(k:Int))=false:=by simp
   go_wp2_with fail
   go_ret
   refine ⟨_,rfl,?_,HBE.out⟩
   have h:=HOW.out
   rw [List.take_of_length_le (by rw [HX.out];exact Nat.le_refl _)] at h
   exact HFL.out.own (by unfold maxLen;omega) h hsr
end Go.Proofs.Ytbnfdhidgdfbeaa
