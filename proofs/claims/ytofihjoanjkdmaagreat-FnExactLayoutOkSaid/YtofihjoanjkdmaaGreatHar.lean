/- The contracts of the laws' own helpers: copying, comparing, marking slices of integers; the tests of a range. -/
import Derived.Test.YtofihjoanjkdmaaGreatBase
namespace Go.Proofs.YtofihjoanjkdmaaGreat
set_option maxHeartbeats 400000
set_option maxRecDepth 100000
open Go.RowKit
theorem aN (n lo hi:Int) (w:World) :
  Calls Tryz.prog 93 #[.int .i64 n,.int .i64 lo,.int .i64 hi] w fun e w'=>e = .returned (.bool (inR n lo hi))/\w=w':=by
 unfold inR
 by_cases h1:lo<=n
 ·have hd:decide (n≥lo)=true:=by simpa using h1
  go_enter Tryz.func93,Tryz.ntmps93
  go_wp2
  go_ret
  exact ⟨by simp [h1],rfl⟩
 ·have hd:decide (n≥lo)=false:=by simpa using h1
  go_enter Tryz.func93,Tryz.ntmps93
  go_wp2
  go_ret
  exact ⟨by simp,rfl⟩
theorem af (n lo hi:Int) (w:World) :
  Calls Tryz.prog 83 #[.int .i64 n,.int .i64 lo,.int .i64 hi] w fun e w'=>e = .returned (.bool (inR n lo hi))/\w=w':=by
 unfold inR
 by_cases h1:lo<=n
 ·have hd:decide (n≥lo)=true:=by simpa using h1
  go_enter Tryz.func83,Tryz.ntmps83
  go_wp2
  go_ret
  exact ⟨by simp [h1],rfl⟩
 ·have hd:decide (n≥lo)=false:=by simpa using h1
  go_enter Tryz.func83,Tryz.ntmps83
  go_wp2
  go_ret
  exact ⟨by simp,rfl⟩
theorem oJ (d:Dev) (w:World) :
  Calls Tryz.prog 9 #[.agg #[.int .i64 d.W,.int .i64 d.H,.int .i64 d.T,.int .i64 d.R]] w fun e w'=>e = .returned (.agg #[.int .i64 d.W,.int .i64 d.H,.int .i64 d.T,.int .i64 d.R])/\Below w.heap.size w w':=by
 go_enter Tryz.func9,Tryz.ntmps9
 go_wp2_with fail
 exact bodyPost_ret (v := .agg #[.int .i64 d.W,.int .i64 d.H,.int .i64 d.T,.int .i64 d.R]) (by simp [results,Tryz.results9,go_sem]) rfl ⟨rfl,aF (aF (aF (Below.refl _ _) _) _) _⟩
/-! ### toIntS -/
def jZ (xs:List Int) (n k:Nat):Array Value:=((xs.take k++List.replicate (n - k) 0).map (Value.int .i64)).toArray
theorem ul {xs:List Int} {n k:Nat} (h:xs.length=n) (hk:k<=n):(jZ xs n k).size=n:=by
 simp [jZ];omega
theorem vz {xs:List Int} {n k:Nat} (h:xs.length=n) (hk:k<n):(jZ xs n k)[k]?=some (.int .i64 0):=by
 have h1:¬k<min k xs.length:=by omega
 have h2:k - min k xs.length<n - k:=by omega
 simp only [jZ,List.getElem?_toArray,List.getElem?_map,List.getElem?_append,List.length_take,h1,if_false,List.getElem?_replicate,h2,if_true,Option.map_some]
theorem wB {xs:List Int} {n k:Nat} (h:xs.length=n) (hk:k<n):(jZ xs n k).setIfInBounds k (.int .i64 (xs[k]?.getD 0))=jZ xs n (k+1):=by
 apply Array.ext'
 apply List.ext_getElem?
 intro i
 have hk':k<xs.length:=by omega
 have e1:min k xs.length=k:=by omega
 have e2:min (k+1) xs.length=k+1:=by omega
 simp only [jZ,List.setIfInBounds_toArray,List.getElem?_set,List.length_map,List.length_append,List.length_take,List.length_replicate,List.getElem?_map,List.getElem?_append,List.getElem?_take,List.getElem?_replicate,e1,e2]
 by_cases hi:k=i
 ·subst hi
  have h3:k<k+(n - k):=by omega
  simp [hk',h3]
 ·simp only [hi,if_false]
  by_cases h1:i<k
  ·have:i<k+1:=by omega
   simp [h1,this]
  ·have h2:¬i<k+1:=by omega
   simp only [h1,h2,if_false]
   have e3:(i - k<n - k)=(i - (k+1)<n - (k+1)):=propext (by omega)
   simp only [e3]
theorem um (xs:List Int) (n:Nat):jZ xs n 0=madeCells #[Value.int .i64 0] n:=by
 apply Array.ext'
 rw [toList_madeCells_one]
 simp [jZ]
theorem uo {xs:List Int} {n:Nat} (h:xs.length=n):(jZ xs n n).toList=xs.map (Value.int .i64):=by
 simp [jZ,←h]
theorem wC (A:Option Addr) (n c:Nat) (xs:List Int) (w:World) (h:dA w A n xs) (hn:n<=16777216) :
  Calls Tryz.prog 43 #[.slice A n c] w fun e w'=>∃A',e = .returned (.slice A' n n)/\Own w.heap.size w' A' n n xs/\Below w.heap.size w w':=by
 obtain ⟨i0,hi,hz0,hz1,hz2⟩:=info_parts jC
 have hmk:=fun W=>dB (P:=Tryz.prog) 26 3 i0 _ Tryz.underlying26 hi hz0 .i64 .i64 n n (Nat.le_refl _) (by rw [hz2];omega) (by omega) W
 rw [hz1,Nat.mul_one,show (Value.int .i64 0).cells=#[Value.int .i64 0] from rfl,←um xs n] at hmk
 clear hi hz0 hz1 hz2
 obtain ⟨hx,hA⟩:=h
 have HX:=Hd hx
 clear hx
 go_enter Tryz.func43,Tryz.ntmps43
 go_wp2_with fail
 go_loopw [4] (fun i wr=>∃k:Nat,k<=n/\i = .int .i64 k/\wr=w.alloc (.cells (jZ xs n k) 3)) (fun i _=>n - (intOf i).toNat)
 case atStart=>exact ⟨0,Nat.zero_le _,rfl,rfl⟩
 case round =>
  obtain ⟨k,hk,rfl,rfl⟩:=hrel
  by_cases hlt:k<n
  ·obtain ⟨b,o,rfl,hb,hc⟩:=hA (by omega)
   have hck:=hc k hlt
   have hsz:k<(jZ xs n k).size:=by rw [ul HX.out hk];exact hlt
   have hg:=vz HX.out hlt
   have HS:=Hd (wB HX.out hlt)
   clear hc
   go_wp2
   go_roundw
   case rel=>exact ⟨k+1,by omega,by go_num,by rw [HS.out]⟩
   case measure=>simp [intOf];omega
  ·have hkn:k=n:=by omega
   subst hkn
   go_wp2
   go_ret
   exact ⟨_,rfl,Own.made (cur:=jZ xs k k) (aK _ _) (Nat.le_refl _) (by simp [maxLen];omega) (uo HX.out) HX.out,aF (Below.refl _ _) _⟩
/-! ### eqIntS -/
theorem sW {xs ys:List Int} {k:Nat} (h:xs.take k=ys.take k) (hx:k<xs.length) (hy:k<ys.length) (he:xs[k]?.getD 0=ys[k]?.getD 0):xs.take (k+1)=ys.take (k+1):=by
 rw [List.take_succ_eq_append_getElem hx,List.take_succ_eq_append_getElem hy,h]
 simp [hx,hy] at he
 rw [he]
theorem wD (A B:Option Addr) (n m c d:Nat) (xs ys:List Int) (w:World) (hA:dA w A n xs) (hB:dA w B m ys) (hn:n<=1099511627776) :
  Calls Tryz.prog 53 #[.slice A n c,.slice B m d] w fun e w'=>e = .returned (.bool (decide (xs=ys)))/\Below w.heap.size w w':=by
 obtain ⟨hx,hA⟩:=hA
 obtain ⟨hy,hB⟩:=hB
 by_cases hnm:n=m
 ·subst hnm
  have HX:=Hd hx
  have HY:=Hd hy
  clear hx hy
  go_enter Tryz.func53,Tryz.ntmps53
  go_wp2_with fail
  go_loopw [5] (fun i wr=>∃k nq:Nat,k<=n/\i = .int .i64 k/\wr=w.drewN nq/\xs.take k=ys.take k) (fun i _=>n - (intOf i).toNat)
  case atStart=>exact ⟨0,0,Nat.zero_le _,rfl,rfl,rfl⟩
  case round =>
   obtain ⟨k,nq,hk,rfl,rfl,ht⟩:=hrel
   have HT:=Hd ht
   clear ht
   by_cases hlt:k<n
   ·obtain ⟨b,o,rfl,hb,hc⟩:=hA (by omega)
    obtain ⟨b',o',rfl,hb',hc'⟩:=hB (by omega)
    have hck:=hc k hlt
    have hck':=hc' k hlt
    have hi0:(0:Int)<=(k:Int):=by omega
    have hi1:(k:Int)<(n:Int):=by omega
    clear hc hc'
    go_wp2
    go_quiet (fail)
    go_wp2
    ·have hne:xs[k]?.getD 0≠ys[k]?.getD 0:=bne_iff_ne.1 (by assumption)
     go_ret
     exact ⟨bT (by
      have:xs≠ys:=by rintro rfl;exact hne rfl
      simp [this]),ay (ay (Below.refl _ _) _) _⟩
    ·have he:xs[k]?.getD 0=ys[k]?.getD 0:=by simpa using ‹(xs[k]?.getD 0 != ys[k]?.getD 0)=false›
     go_roundw
     case rel=>exact ⟨k+1,_,by omega,by go_num,rfl,sW HT.out (by rw [HX.out];exact hlt) (by rw [HY.out];exact hlt) he⟩
     case measure=>simp [intOf];omega
   ·have hkn:k=n:=by omega
    subst hkn
    go_wp2
    go_ret
    exact ⟨bT (by
     have:=HT.out
     rw [List.take_of_length_le (by rw [HX.out];exact Nat.le_refl _),List.take_of_length_le (by rw [HY.out];exact Nat.le_refl _)] at this
     simp [this]),ay (Below.refl _ _) _⟩
 ·have hne:((n:Int)==(m:Int))=false:=by simp;omega
  have hne':((n:Int) != (m:Int))=true:=by simp;omega
  go_enter Tryz.func53,Tryz.ntmps53
  go_wp2_with fail
  go_ret
  exact ⟨bT (by
   have:xs≠ys:=by rintro rfl;omega
   simp [this]),Below.refl _ _⟩
/-! ### markIntS, heldIntS -/
theorem Own.block {base:Nat} {w:World} {A:Option Addr} {n c:Nat} {xs:List Int} (h:Own base w A n c xs) (hn:0<n) :
  ∃g cur,A=some ⟨g,0,none⟩/\base<=g/\g<w.heap.size/\w.heap[g]?=some (.cells cur 3 (0,0))/\n<=cur.size/\n<=c/\c<=maxLen/\cur.size=c/\cur.toList.take n=xs.map (Value.int .i64):=by
 have hl:=h.lt
 rcases h.2 with ⟨_,h0⟩|⟨g,cap,cur,hv,hb,hh,hnc,hcap,hsz,ht⟩
 ·omega
 ·injection hv with hA _ hc
  subst hA hc
  exact ⟨g,cur,rfl,hb,(hl _ rfl).2,hh,by omega,hnc,hcap,by omega,by simpa using ht⟩
theorem Own.stored {base:Nat} {w:World} {g n c k:Nat} {xs:List Int} (h:Own base w (some ⟨g,0,none⟩) n c xs) (hk:k<n) (x:Int) :
  Own base (w.setCell ⟨g,k,none⟩ (.int .i64 x)) (some ⟨g,0,none⟩) n c (xs.set k x):=by
 obtain ⟨g',cur,hA,hb,hlt,hh,hn,hnc,hcm,hsz,ht⟩:=h.block (by omega)
 injection hA with hA
 injection hA with hg
 subst hg
 refine ⟨by simp [h.len],.inr ⟨g,c,cur.setIfInBounds k (.int .i64 x),rfl,hb,by simp [World.setCell,Array.getElem?_modify,hh],hnc,hcm,by simp [hsz],?_⟩⟩
 simp only [Array.toList_setIfInBounds,Nat.mul_one,List.take_set,ht,List.map_set]
theorem Own.cellAt {base:Nat} {w:World} {g n c k:Nat} {xs:List Int} (h:Own base w (some ⟨g,0,none⟩) n c xs) (hk:k<n) :
  w.cell? ⟨g,k,none⟩=some (.int .i64 (xs[k]?.getD 0))/\w.frozen? ⟨g,k,none⟩=false:=by
 obtain ⟨b,o,hA,_,hc⟩:=h.ints.2 (by omega)
 obtain ⟨g',cur,hA',_,_,hh,_⟩:=h.block (by omega)
 injection hA with hA
 injection hA with h1 h2
 subst h1 h2
 injection hA' with hA'
 injection hA' with h1
 subst h1
 have:=hc k hk
 simp only [Nat.zero_add] at this
 exact ⟨this,by simp [World.frozen?,hh]⟩
theorem sZ (w:World) (r:Option Nat):w.grownBy w r:=⟨rfl,rfl,rfl,Nat.le_refl _,fun _ _ _=>rfl⟩
/-! ### equal by one list; rows that lie apart -/
theorem uq (A B:Option Addr) (n m c d:Nat) (xs:List Int) (w:World) (hA:dA w A n xs) (hB:dA w B m xs) (hn:n<=1099511627776) :
  Calls Tryz.prog 53 #[.slice A n c,.slice B m d] w fun e w'=>e = .returned (.bool true)/\Below w.heap.size w w' :=
 (wD A B n m c d xs xs w hA hB hn).mono fun e w' ⟨he,hb⟩=>⟨by rw [he];simp,hb⟩
def pQ (A:Option Addr) (lo hi:Nat):Prop:=∀a,A=some a→lo<=a.block/\a.block<hi
theorem Own.lies {base:Nat} {w:World} {A:Option Addr} {n c:Nat} {xs:List Int} (h:Own base w A n c xs):pQ A base w.heap.size:=h.lt
theorem Own.grown {base:Nat} {w w':World} {A A':Option Addr} {n c lo hi lo' hi':Nat} {xs:List Int} (h:Own base w A n c xs) (hg:w.grownBy w' (A'.map (·.block))) (l:pQ A lo hi) (l':pQ A' lo' hi') (ha:hi<=lo'∨hi'<=lo) :
  Own base w' A n c xs :=
 eZ h fun a e=>hg.block _ (h.lt a e).2 (by
  cases A' with
  | none=>simp
  | some a' =>
   have h1:=l a e
   have h2:=l' a' rfl
   simp only [Option.map_some,ne_eq,Option.some.injEq]
   omega)
theorem dA.grown {w w':World} {A A':Option Addr} {n lo hi hi':Nat} {xs:List Int} (h:dA w A n xs) (hg:w.grownBy w' (A'.map (·.block))) (l:pQ A 0 hi) (l':pQ A' lo hi') (ha:hi<=lo):dA w' A n xs:=by
 refine ⟨h.1,fun hn=>?_⟩
 obtain ⟨b,o,e,hlt,hc⟩:=h.2 hn
 refine ⟨b,o,e,Nat.lt_of_lt_of_le hlt hg.size,fun j hj=>?_⟩
 rw [←hc j hj]
 refine World.cell?_of_block (a:=⟨b,o+j,none⟩) (hg.block b hlt ?_)
 cases A' with
 | none=>simp
 | some a' =>
  have h1:=l _ e
  have h2:=l' a' rfl
  simp only [Option.map_some,ne_eq,Option.some.injEq]
  simp only at h1
  omega
theorem dA.lies {w:World} {A:Option Addr} {n:Nat} {xs:List Int} (h:dA w A n xs) (hn:0<n):pQ A 0 w.heap.size:=by
 obtain ⟨b,o,rfl,hlt,_⟩:=h.2 hn
 rintro a ha
 injection ha with ha
 subst ha
 exact ⟨Nat.zero_le _,hlt⟩
theorem Own.newAt {w:World} {base g:Nat} (hg:w.heap.size=g) (h:base<=g):Own base (w.alloc (.cells #[] 3)) (some ⟨g,0,none⟩) 0 0 []:=by
 subst hg
 exact ⟨rfl,.inr ⟨w.heap.size,0,#[],rfl,h,aK _ _,Nat.le_refl _,Nat.zero_le _,rfl,rfl⟩⟩
theorem dA.drewd {w:World} {A:Option Addr} {n:Nat} {xs:List Int} (h:dA w A n xs):dA w.drew A n xs:=h
theorem Own.drewd {base:Nat} {w:World} {A:Option Addr} {n c:Nat} {xs:List Int} (h:Own base w A n c xs):Own base w.drew A n c xs:=h
theorem Own.rd {base:Nat} {w:World} {A:Option Addr} {n c:Nat} {xs:List Int} (h:Own base w A n c xs):dA w A n xs:=h.ints
/-! ### append of one integer to a row of the call's own -/
theorem fV (A:Option Addr) (n c:Nat):(Value.slice A n c).ownBlock=A.map (·.block):=by cases A <;> rfl
theorem xY (a:Addr):a.add 0=a:=by simp [Addr.add]
theorem fA {ops:Array Oper} {rest:List Oper} {o:Oper} {a:Act} {Q:Exit→Act→World→Prop} {w W:World} (hgd:o.guard=none) (s x:Operand)
  (ho:o.op = .call { callee := .builtin .append,args:=#[s,x],argTypes:=#[26,26] })
  (base:Nat) (A:Option Addr) (n c:Nat) (xs:List Int) (v:Int) (hs:a.eval s = .slice A n c) (hown:Own base w A n c xs) (hx:a.eval x = .slice (some ⟨w.heap.size,0,none⟩) 1 1)
  (hn:n<=1099511627776) (hbase:base<=w.heap.size) (hB:Below base W w)
  (h:∀g cap w',Own base w' (some ⟨g,0,none⟩) (n+1) cap (xs++[v])→Below base W w'→(w.alloc (.cells #[.int .i64 v] 3)).grownBy w' (A.map (·.block))→(A.map (·.block)=some g∨g=w.heap.size+1) →
   wpList Tryz.prog ops Q rest (a.put o.dst (.slice (some ⟨g,0,none⟩) (n+1) cap)) w'):wpList Tryz.prog ops Q (o :: rest) a (w.alloc (.cells #[.int .i64 v] 3)):=by
 obtain ⟨i0,hi,hz0,hz1,hz2⟩:=info_parts jC
 have hl:=hown.lt
 refine wpList_append_lies (w.alloc (.cells #[.int .i64 v] 3)) hgd s x 26 ho base 3 i0 (.int .i64 0) 1 8 Tryz.underlying26 hi hz0 hz1 hz2 rfl (by omega) (.slice A n c) n (xs.map (Value.int .i64)) hs
  (eZ hown fun a ha=>Below.heap_alloc _ _ _ (hl a ha).2) ⟨w.heap.size,0,none⟩ 1 1 [.int .i64 v] hx rfl
  (fun j u hu=>?_) (fun u hu=>?_) (by omega) (by unfold maxLen;omega) (by omega) (by simp;omega) (w.heap.size+1) (by simp) ?_
 ·rcases j with _|j
  ·simp at hu
   subst hu
   rw [xY]
   unfold World.cell?
   rw [aK]
   rfl
  ·simp at hu
 ·simp at hu;subst hu;rfl
 ·intro g cap w' h1 h2 h3 _
  rw [fV] at h2 h3
  refine h g cap w' (by simpa [Own] using h1) ?_ h2 h3
  refine (hB.alloc hbase _).grown h2 (by simp;omega) ?_
  intro k hk
  cases A with
  | none=>cases hk
  | some a' =>
   injection hk with hk
   subst hk
   exact (hl a' rfl).1
theorem Own.new0 {w:World} {base:Nat} (h:base<=w.heap.size):Own base (w.alloc (.cells #[] 3)) (some ⟨w.heap.size,0,none⟩) 0 0 [] :=
 ⟨rfl,.inr ⟨w.heap.size,0,#[],rfl,h,aK _ _,Nat.le_refl _,Nat.zero_le _,rfl,rfl⟩⟩
structure Chg (lo hi:Nat) (w w':World):Prop where
 os:w'.os=w.os
 tape:w'.tape=w.tape
 output:w'.output=w.output
 size:w.heap.size<=w'.heap.size
 block:∀k,k<w.heap.size→(k<lo∨hi<=k)→w'.heap[k]?=w.heap[k]?
theorem Chg.refl (lo hi:Nat) (w:World):Chg lo hi w w:=⟨rfl,rfl,rfl,Nat.le_refl _,fun _ _ _=>rfl⟩
theorem Chg.trans {lo hi:Nat} {a b c:World} (h:Chg lo hi a b) (k:Chg lo hi b c):Chg lo hi a c :=
 ⟨k.os.trans h.os,k.tape.trans h.tape,k.output.trans h.output,Nat.le_trans h.size k.size,fun i hi' hne=>(k.block i (Nat.lt_of_lt_of_le hi' h.size) hne).trans (h.block i hi' hne)⟩
theorem jl {a w w':World} {lo hi:Nat} (h:Below a.heap.size a w) (hg:Chg lo hi w w') (hlo:a.heap.size<=lo):Below a.heap.size a w' :=
 h.trans ⟨hg.os,hg.tape,hg.output,hg.size,fun k hk=>hg.block k (Nat.lt_of_lt_of_le hk h.size) (.inl (by omega))⟩
end Go.Proofs.YtofihjoanjkdmaaGreat
