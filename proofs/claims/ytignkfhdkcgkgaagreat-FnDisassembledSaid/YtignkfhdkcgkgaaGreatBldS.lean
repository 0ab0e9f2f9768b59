/- Writing tiles into words: bits put one behind the other: the reference. Packed bits as integers. EncodeTile of the reference for a valid tile: its words. BuildFrames of the reference for valid tiles: the frames, which are valid. -/
import Derived.Test.YtignkfhdkcgkgaaGreatCopy
import Derived.Test.YtignkfhdkcgkgaaGreatData
import Derived.Test.YtignkfhdkcgkgaaGreatEmpty
import Derived.Test.YtignkfhdkcgkgaaGreatTileRd
import Derived.Test.YtignkfhdkcgkgaaGreatVal
namespace Go.Proofs.YtignkfhdkcgkgaaGreat
set_option maxRecDepth 100000
open Go.RowKit Cw

def natI (xs:List Nat):List Int:=xs.map fun (x:Nat)=>(x:Int)
theorem natI_append (xs ys:List Nat):natI (xs++ys)=natI xs++natI ys:=by simp [natI]
theorem putB_take {n k:Nat} {x:Nat} (h:k<n):(putB n (x:Int)).take (k+1)=(putB n (x:Int)).take k++[bit x k]:=by
 rw [List.take_add_one,putB_get h,Int.toNat_natCast]
 rfl
set_option maxHeartbeats 1000000 in
theorem l38Put_any (base:Nat) (A:Option Addr) (n c:Nat) (bs:List Nat) (x cnt:Nat) (W w:World) (hown:Own base w A n c (natI bs)) (hB:Below base W w) (hbw:base≤w.heap.size) (hc:cnt≤16) (hx:x<65536) (hn:n≤1000000) :
  Calls Tryz.prog 221 #[.slice A n c,.int .i64 (x:Int),.int .i64 (cnt:Int)] w fun e w'=>∃A' c',e = .returned (.slice A' (n+cnt) c')∧Own base w' A' (n+cnt) c' (natI (bs++putB cnt (x:Int)))∧Below base W w'∧w.heap.size≤w'.heap.size:=by
 have HO:=Lib.hid hown
 have HB:=Lib.hid hB
 clear hown hB
 go_enter Tryz.func221,Tryz.ntmps221
 go_wp2_with fail
 go_loopw [0,7] (fun v i wr=>∃(k:Nat) (A':Option Addr) (c':Nat),k≤cnt∧i = .int .i64 k∧v = .slice A' (n+k) c'∧Own base wr A' (n+k) c' (natI (bs++(putB cnt (x:Int)).take k))∧Below base W wr∧w.heap.size≤wr.heap.size) (fun _ i _=>cnt - (intOf i).toNat)
 case atStart=>exact ⟨0,A,c,Nat.zero_le _,rfl,rfl,by simpa using HO.out,HB.out,Nat.le_refl _⟩
 case round =>
  obtain ⟨k,A',c',hk,rfl,rfl,ho,hb,hs⟩:=hrel
  have HO2:=Lib.hid ho
  have HB2:=Lib.hid hb
  clear ho hb
  by_cases hlt:k<cnt
  ·have hdk:decide ((k:Int)<(cnt:Int))=true:=by simp;omega
   have HT:=Lib.hid (putB_take (x:=x) hlt)
   have HSN:Hid (natI [bit x k]=[bits .and .i64 ((x:Int) / 2 ^ k) 1]):=by show _=_;rw [shr_bit x k (by omega)];rfl
   go_wp2_with (at_builtin;refine wpList_push rfl _ _ rfl base A' (n+k) c' (natI (bs++(putB cnt (x:Int)).take k)) _ rfl HO2.out rfl (by omega) (by omega) HB2.out ?_;rintro g9 cap w9 o9 b9 hgr hat)
   go_roundw
   case rel=>exact ⟨k+1,_,_,by omega,by go_num,rfl,by rw [HT.out,←List.append_assoc,natI_append,HSN.out];exact o9,b9,by have:=hgr.size;simp only [World.size_alloc] at this;omega⟩
   case measure=>simp [intOf];omega
  ·have hkc:k=cnt:=by omega
   subst hkc
   have hdk:decide ((k:Int)<(k:Int))=false:=by simp
   go_wp2_with fail
   go_ret
   exact ⟨_,_,rfl,by have h:=HO2.out;rwa [List.take_of_length_le (by rw [putB_length];exact Nat.le_refl _)] at h,HB2.out,hs⟩
theorem cell4 {w:World} {g:Nat} {v0 v1 v2 v3:Value} {t:TypeId} (h:w.heap[g]?=some (.cells #[v0,v1,v2,v3] t (0,0))):w.cell? ⟨g,0,none⟩=some v0∧w.cell? ⟨g,1,none⟩=some v1∧w.cell? ⟨g,2,none⟩=some v2∧w.cell? ⟨g,3,none⟩=some v3:=⟨cell_heap h rfl,cell_heap h rfl,cell_heap h rfl,cell_heap h rfl⟩
set_option maxHeartbeats 4000000 in
theorem stileConfigOk_yes (d:Dev) (t:Tile) (MA:Option Addr) (mn mc:Nat) (LA:Option Addr) (ln lc:Nat) (w:World) (hM:Ints w MA mn t.mux) (hL:RdC w w.heap.size (celE t.les) (.slice LA ln lc)) (hk:tileOk d t=true) :
  Calls Tryz.prog 220 #[.agg #[.int .i64 d.W,.int .i64 d.H,.int .i64 d.T,.int .i64 d.R],.agg #[.slice MA mn mc,.slice LA ln lc,.int .i64 t.pad,.int .i64 t.ram]] w fun e w'=>e = .returned (.bool true)∧Below w.heap.size w w':=by
 have hf:=tileOk_iff hk
 have hd:=hf.dev
 have hmn:(mn:Int)=5+4 * d.T:=by have:=hM.1;have:=hf.mux;have:=(muxN_bd hd).1;omega
 obtain ⟨e0,e1,hles,hl0,hl1⟩:=hf.les
 have hln:ln=2:=by have:=hL.elen;rw [hles] at this;exact this.symm
 subst hln
 have h1:inR t.pad 0 3=true:=inR_iff.2 hf.pad
 have h2:inR t.ram 0 31=true:=inR_iff.2 hf.ram
 have HD:=Lib.hid hd
 have HM:=Lib.hid hM
 have HL:=Lib.hid hL
 have HF:=Lib.hid hf
 have HLS:=Lib.hid hles
 have q1:((mn:Int) != 5+4 * d.T)=false:=by simp [hmn]
 have HMN:=Lib.hid hmn
 have HDO:=Lib.hid (fun w'=>by have h:=sdeviceOk_any d w';rw [hd] at h;exact h)
 have HMC:=Lib.hid (fun w'=>smuxCount_any d w' hd)
 clear hM hL hk hf hles hmn hd
 go_enter Tryz.func220,Tryz.ntmps220
 go_wp2_with fail
 have X0:=Lib.hid (heap_al (.cells #[.slice MA mn mc,.slice LA 2 lc,.int .i64 t.pad,.int .i64 t.ram] 103) (heap_new w (.cells #[.int .i64 d.W,.int .i64 d.H,.int .i64 d.T,.int .i64 d.R] 25)))
 have X1:=Lib.hid (heap_newAt (w:=w.alloc (.cells #[.int .i64 d.W,.int .i64 d.H,.int .i64 d.T,.int .i64 d.R] 25)) (o := .cells #[.slice MA mn mc,.slice LA 2 lc,.int .i64 t.pad,.int .i64 t.ram] 103) (g:=w.heap.size+1) (by simp))
 have HB0:=Lib.hid (below_new (below_new (Below.refl w.heap.size w) (.cells #[.int .i64 d.W,.int .i64 d.H,.int .i64 d.T,.int .i64 d.R] 25)) (.cells #[.slice MA mn mc,.slice LA 2 lc,.int .i64 t.pad,.int .i64 t.ram] 103))
 generalize hW:(w.alloc (.cells #[.int .i64 d.W,.int .i64 d.H,.int .i64 d.T,.int .i64 d.R] 25)).alloc (.cells #[.slice MA mn mc,.slice LA 2 lc,.int .i64 t.pad,.int .i64 t.ram] 103)=w0 at *
 clear hW
 have hD:=(Below.refl w0.heap.size w0).drew
 have hl0':=heap_lt0 X0.out
 have hl1':=heap_lt0 X1.out
 obtain ⟨z0,z1,z2,z3⟩:=cell4 X0.out
 obtain ⟨y0,y1,y2,y3⟩:=cell4 X1.out
 go_region_held3 (fun w'=>Below w0.heap.size w0 w'∧∀b o,b<w0.heap.size→w'.cell? ⟨b,o,none⟩=w0.cell? ⟨b,o,none⟩)
  (first|exact ⟨hD,(bcell hD).1⟩)
  (first
   | (go_at_call 138;refine (HDO.out _).mono ?_;rintro e w5 ⟨rfl,b5⟩;replace hD:=below_tr hD b5;clear b5)
   | (go_at_call 207;refine (HMC.out _).mono ?_;rintro e w6 ⟨rfl,b6⟩;replace hD:=below_tr hD b6;clear b6)
   | (go_at_call 175;refine (l01In_any _ _ _ _).mono ?_;rintro e' w' ⟨rfl,rfl⟩;first|rw [h1]|rw [h2]))
 have HW6:=Lib.hid (below_tr HB0.out hD)
 have X06:=Lib.hid (heap_tr hD X0.out)
 have X16:=Lib.hid (heap_tr hD X1.out)
 have HLE:Hid (∀e:Nat,e<2→LeFit (t.les[e]?.getD Le.zero)):=by
  intro e he
  rw [HLS.out]
  have:e=0∨e=1:=by omega
  rcases this with rfl|rfl
  ·exact leOk_iff hl0
  ·exact leOk_iff hl1
 have HML:Hid (t.mux.length=mn):=HM.out.1
 have hmb:mn≤21:=by have h1:=HF.out.mux;have h2:=(muxN_bd HD.out).2.2.1;have h3:=HML.out;omega
 clear z0 z1 z2 z3 y0 y1 y2 y3 hl0' hl1' X0 X1 HB0 h1 h2 q1 hl0 hl1 hD
 obtain ⟨y0,y1,y2,y3⟩:=cell4 X16.out
 go_wp2_with fail
 go_loopw [5] (fun i wr=>∃k:Nat,k≤mn∧i = .int .i64 k∧w6=wr) (fun i _=>mn - (intOf i).toNat)
 case atStart=>exact ⟨0,Nat.zero_le _,rfl,rfl⟩
 case round =>
  obtain ⟨k,hk,rfl,rfl⟩:=hrel
  by_cases hlt:k<mn
  ·have hdk:decide ((k:Int)<(mn:Int))=true:=by simp;omega
   obtain ⟨b,o,rfl,hb,hc⟩:=HM.out.2 (by omega)
   have hck:=hc k hlt
   rw [←HW6.out.cell (p:=⟨b,o+k,none⟩) hb] at hck
   have hin:inR (t.mux[k]?.getD 0) 0 31=true:=inR_iff.2 (HF.out.muxIn k (by rw [HML.out];exact hlt))
   have i0:(0:Int)≤(k:Int):=by omega
   have i1:(k:Int)<(mn:Int):=by omega
   clear hc
   generalize t.mux[k]?.getD 0=x at *
   go_wp2_with (go_at_call 175;refine (l01In_any _ _ _ _).mono ?_;rintro e' w' ⟨rfl,hq⟩;subst hq;rw [hin])
   go_roundw
   case rel=>exact ⟨k+1,by omega,by go_num,trivial⟩
   case measure=>simp [intOf];omega
  ·have hkn:k=mn:=by omega
   subst hkn
   have hdk:decide ((k:Int)<(k:Int))=false:=by simp
   clear hlt hk
   go_wp2_with fail
   go_loopw [6] (fun i wr=>∃e:Nat,e≤2∧i = .int .i64 e∧Below w6.heap.size w6 wr) (fun i _=>2 - (intOf i).toNat)
   case atStart=>exact ⟨0,by omega,rfl,Below.refl _ _⟩
   case round =>
    obtain ⟨e,he,rfl,hb⟩:=hrel
    have HB:=Lib.hid hb
    have HWR:=Lib.hid (below_tr HW6.out hb)
    have X1R:=Lib.hid (heap_tr hb X16.out)
    have hl1:=heap_lt0 X1R.out
    clear hb y0 y1 y2 y3
    obtain ⟨y0,y1,y2,y3⟩:=cell4 X1R.out
    by_cases hlt:e<2
    ·have hde:decide ((e:Int)<2)=true:=by simp;omega
     have hle:=HLE.out e hlt
     obtain ⟨bl,ol,S4,m4,p4,rfl,hbl,d0,d1,d2,d3,r4⟩:=HL.out.le (k:=e) (by rw [HLS.out];exact hlt)
     have hS:=RdC.ints r4
     have hS4:m4=4:=by have:=hS.1;obtain ⟨a,b,c,d',h,_⟩:=hle.sel;rw [h] at this;exact this.symm
     subst hS4
     have h1:inR (t.les[e]?.getD Le.zero).mask 0 65535=true:=inR_iff.2 hle.mask
     have h2:inR (t.les[e]?.getD Le.zero).flop 0 1=true:=inR_iff.2 hle.flop
     have h3:inR (t.les[e]?.getD Le.zero).init 0 1=true:=inR_iff.2 hle.init
     have hsi:=(sel_fit hle).2
     have HSI:=Lib.hid hsi
     have HSE:=Lib.hid hS
     obtain ⟨hcc,hff⟩:=bcell HWR.out
     have j0:(0:Int)≤(e:Int):=by omega
     have j1:(e:Int)<2:=by omega
     clear hle hS r4 hsi
     generalize t.les[e]?.getD Le.zero=le at *
     go_wp2_with (go_at_call 175;refine (l01In_any _ _ _ _).mono ?_;rintro e' w' ⟨rfl,hq⟩;subst hq;first|rw [h1]|rw [h2]|rw [h3])
     obtain ⟨bs,os,rfl,hbs,hcs⟩:=HSE.out.2 (by omega)
     have hbsr:bs<wr.heap.size:=by have:=HWR.out.size;omega
     have hw0:w.heap.size+1<wr.heap.size:=hl1
     have HBX:=Lib.hid (below_new (Below.refl wr.heap.size wr) (.cells #[.slice (some ⟨bs,os,none⟩) 4 p4,.int .i64 le.mask,.int .i64 le.flop,.int .i64 le.init] 107))
     go_loopw [8] (fun i wx=>∃j:Nat,j≤4∧i = .int .i64 j∧(wr.alloc (.cells #[.slice (some ⟨bs,os,none⟩) 4 p4,.int .i64 le.mask,.int .i64 le.flop,.int .i64 le.init] 107))=wx) (fun i _=>4 - (intOf i).toNat)
     case atStart=>exact ⟨0,by omega,rfl,rfl⟩
     case round =>
      obtain ⟨j,hj,rfl,rfl⟩:=hrel
      by_cases hjl:j<4
      ·have hdj:decide ((j:Int)<4)=true:=by simp;omega
       have hck:=hcs j hjl
       have hin:inR (le.sel[j]?.getD 0) 0 7=true:=inR_iff.2 (HSI.out j hjl)
       have m0:(0:Int)≤(j:Int):=by omega
       have m1:(j:Int)<4:=by omega
       clear hcs
       generalize le.sel[j]?.getD 0=x at *
       go_wp2_with (go_at_call 175;refine (l01In_any _ _ _ _).mono ?_;rintro e' w' ⟨rfl,rfl⟩;rw [hin])
       go_roundw
       case rel=>exact ⟨j+1,by omega,by go_num,trivial⟩
       case measure=>simp [intOf];omega
      ·have hj4:j=4:=by omega
       subst hj4
       have hdj:decide (((4:Nat):Int)<4)=false:=by decide
       clear hjl hj
       go_wp2_with fail
       go_roundw
       case rel=>exact ⟨e+1,by omega,by go_num,below_tr HB.out HBX.out⟩
       case measure=>simp [intOf];omega
    ·have he2:e=2:=by omega
     subst he2
     have hde:decide (((2:Nat):Int)<2)=false:=by decide
     clear hlt he
     go_wp2_with fail
     go_ret
     exact ⟨rfl,HWR.out⟩
end Go.Proofs.YtignkfhdkcgkgaaGreat

namespace Go.Proofs.YtignkfhdkcgkgaaGreat
set_option maxRecDepth 100000
open Go.RowKit Cw

def packI (N:Nat) (bs:List Nat) (k:Nat):List Int:=(packTo N bs k).map fun (x:Nat)=>(x:Int)
theorem packI_length (N:Nat) (bs:List Nat) (k:Nat):(packI N bs k).length=N:=by simp [packI,packTo_length]
theorem packI_get (N:Nat) (bs:List Nat) (k j:Nat):(packI N bs k)[j]?.getD 0=(((packTo N bs k)[j]?.getD 0:Nat):Int):=by
 simp only [packI,List.getElem?_map]
 cases (packTo N bs k)[j]? <;> rfl
theorem packI_succ (N:Nat) (bs:List Nat) (k:Nat):packI N bs (k+1)=(packI N bs k).set (k / 16) ((((packTo N bs k)[k / 16]?.getD 0+(bs[k]?.getD 0) * 2 ^ (k % 16):Nat)):Int):=by
 simp only [packI,packTo,List.map_set]
end Go.Proofs.YtignkfhdkcgkgaaGreat

namespace Go.Proofs.YtignkfhdkcgkgaaGreat
set_option maxRecDepth 100000
open Go.RowKit Cw

theorem flat_snoc {α β:Type} {f:α→List β} {xs:List α} {k:Nat} {x:α} (h:xs[k]?=some x):(xs.take (k+1)).flatMap f=(xs.take k).flatMap f++f x:=by
 rw [List.take_add_one,h]
 simp
theorem add_bit15 {a b k:Nat} (ha:a<2 ^ k) (hb:b≤1) (hk:k≤15):wrap64 ((a:Int)+wrap64 ((b:Int) * 2 ^ k))=((a+b * 2 ^ k:Nat):Int):=by
 rw [wrap_bit hb (by omega)]
 have hp:2 ^ k≤2 ^ 15:=Nat.pow_le_pow_right (by omega) hk
 have h2:b * 2 ^ k≤1 * 2 ^ k:=Nat.mul_le_mul_right _ hb
 rw [←Int.natCast_add]
 exact IntWalk.wrap64_in _ (by omega)
theorem natPos {x:Int} {M:Int} (h:0≤x∧x≤M):∃n:Nat,x=(n:Int)∧(n:Int)≤M:=by
 obtain ⟨n,rfl⟩:=Int.eq_ofNat_of_zero_le h.1
 exact ⟨n,rfl,h.2⟩
set_option maxHeartbeats 4000000 in
theorem sencodeTile_yes (d:Dev) (t:Tile) (MA:Option Addr) (mn mc:Nat) (LA:Option Addr) (ln lc:Nat) (w:World) (hM:Ints w MA mn t.mux) (hL:RdC w w.heap.size (celE t.les) (.slice LA ln lc)) (hk:tileOk d t=true) :
  Calls Tryz.prog 180 #[.agg #[.int .i64 d.W,.int .i64 d.H,.int .i64 d.T,.int .i64 d.R],.agg #[.slice MA mn mc,.slice LA ln lc,.int .i64 t.pad,.int .i64 t.ram]] w fun e w'=>∃A' n' c',e = .returned (.tuple #[.slice A' n' c',.bool true])∧Own w.heap.size w' A' n' c' (encT d t)∧Below w.heap.size w w':=by
 have hf:=tileOk_iff hk
 have hd:=hf.dev
 obtain ⟨e0,e1,hles,hl0,hl1⟩:=hf.les
 have hln:ln=2:=by have:=hL.elen;rw [hles] at this;exact this.symm
 subst hln
 have HB0:=Lib.hid (below_new (below_new (Below.refl w.heap.size w) (.cells #[.int .i64 d.W,.int .i64 d.H,.int .i64 d.T,.int .i64 d.R] 25)) (.cells #[.slice MA mn mc,.slice LA 2 lc,.int .i64 t.pad,.int .i64 t.ram] 103))
 have X0:=Lib.hid (heap_al (.cells #[.slice MA mn mc,.slice LA 2 lc,.int .i64 t.pad,.int .i64 t.ram] 103) (heap_new w (.cells #[.int .i64 d.W,.int .i64 d.H,.int .i64 d.T,.int .i64 d.R] 25)))
 have X1:=Lib.hid (heap_newAt (w:=w.alloc (.cells #[.int .i64 d.W,.int .i64 d.H,.int .i64 d.T,.int .i64 d.R] 25)) (o := .cells #[.slice MA mn mc,.slice LA 2 lc,.int .i64 t.pad,.int .i64 t.ram] 103) (g:=w.heap.size+1) (by simp))
 have HTC:=Lib.hid (stileConfigOk_yes d t MA mn mc LA 2 lc ((w.alloc (.cells #[.int .i64 d.W,.int .i64 d.H,.int .i64 d.T,.int .i64 d.R] 25)).alloc (.cells #[.slice MA mn mc,.slice LA 2 lc,.int .i64 t.pad,.int .i64 t.ram] 103)) (hM.below HB0.out) (hL.below HB0.out) hk)
 have HM:=Lib.hid hM
 have HL:=Lib.hid hL
 have HF:=Lib.hid hf
 have HK:=Lib.hid hk
 have HD:=Lib.hid hd
 have HML:Hid (t.mux.length=mn):=hM.1
 have hmb:mn≤21:=by have h1:=hf.mux;have h2:=(muxN_bd hd).2.2.1;have h3:=HML.out;omega
 have HMN:Hid (mn=muxN d):=by show _=_;rw [←HML.out];exact hf.mux
 have HLS:Hid (t.les.length=2):=by show _=_;rw [hles];rfl
 have HLE:Hid (∀e:Nat,e<2→LeFit (t.les[e]?.getD Le.zero)):=by
  intro e he
  rw [hles]
  have:e=0∨e=1:=by omega
  rcases this with rfl|rfl
  ·exact leOk_iff hl0
  ·exact leOk_iff hl1
 clear hM hL hk hf hles hl0 hl1 hd
 go_enter Tryz.func180,Tryz.ntmps180
 go_wp2_with fail
 refine HTC.out.mono ?_
 rintro e w1 ⟨rfl,b1⟩
 have HW1:=Lib.hid (below_tr HB0.out b1)
 have hs1:=b1.size
 simp only [World.size_alloc] at hs1
 replace X0:=Lib.hid (heap_tr b1 X0.out)
 replace X1:=Lib.hid (heap_tr b1 X1.out)
 clear b1
 obtain ⟨y0,y1,y2,y3⟩:=cell4 X1.out
 go_wp2_with fail
 have O0:=Lib.hid (Own.new0 (w:=w1) (base:=w1.heap.size) (Nat.le_refl _))
 have B0:=Lib.hid (below_new (Below.refl w1.heap.size w1) (.cells #[] 3))
 go_loopw [6,7] (fun v i wr=>∃(k:Nat) (A':Option Addr) (c':Nat),k≤mn∧i = .int .i64 k∧v = .slice A' (5 * k) c'∧Own w1.heap.size wr A' (5 * k) c' (natI ((t.mux.take k).flatMap (putB 5)))∧Below w1.heap.size w1 wr) (fun _ i _=>mn - (intOf i).toNat)
 case atStart=>exact ⟨0,_,0,Nat.zero_le _,rfl,rfl,O0.out,B0.out⟩
 case round =>
  obtain ⟨k,A',c',hk,rfl,rfl,ho,hb⟩:=hrel
  have HO:=Lib.hid ho
  have HB:=Lib.hid hb
  have hsr:=hb.size
  have HWR:=Lib.hid (below_tr HW1.out hb)
  have X1R:=Lib.hid (heap_tr hb X1.out)
  clear ho hb y0 y1 y2 y3
  obtain ⟨y0,y1,y2,y3⟩:=cell4 X1R.out
  by_cases hlt:k<mn
  ·have hdk:decide ((k:Int)<(mn:Int))=true:=by simp;omega
   obtain ⟨b,o,rfl,hb,hc⟩:=HM.out.2 (by omega)
   have hck:=hc k hlt
   rw [←HWR.out.cell (p:=⟨b,o+k,none⟩) hb] at hck
   obtain ⟨x,hx,hx2⟩:=natPos (HF.out.muxIn k (by rw [HML.out];exact hlt))
   have HSN:=Lib.hid (flat_snoc (f:=putB 5) (getD_some 0 (by rw [HML.out];exact hlt):t.mux[k]?=some (t.mux[k]?.getD 0)))
   have i0:(0:Int)≤(k:Int):=by omega
   have i1:(k:Int)<(mn:Int):=by omega
   rw [hx] at hck HSN
   clear hc hx
   go_wp2_with fail
   refine (l38Put_any w1.heap.size A' (5 * k) c' ((t.mux.take k).flatMap (putB 5)) x 5 w1 _ HO.out HB.out (by omega) (by omega) (by omega) (by omega)).mono ?_
   rintro e w5 ⟨A5,c5,rfl,o5,b5,s5⟩
   have O5:=Lib.hid o5
   have B5:=Lib.hid b5
   clear o5 b5
   go_wp2_with fail
   go_roundw
   case rel=>exact ⟨k+1,A5,c5,by omega,by go_num,by rw [show 5 * (k+1)=5 * k+5 by omega],by rw [HSN.out,show 5 * (k+1)=5 * k+5 by omega];exact O5.out,B5.out⟩
   case measure=>simp [intOf];omega
  ·have hkn:k=mn:=by omega
   subst hkn
   have hdk:decide ((k:Int)<(k:Int))=false:=by simp
   have HO2:Hid (Own w1.heap.size wr A' (5 * k) c' (natI (t.mux.flatMap (putB 5)))):=by
    have h:=HO.out
    rwa [List.take_of_length_le (by rw [HML.out];exact Nat.le_refl _)] at h
   clear hlt hk
   go_wp2_with fail
   generalize hB0:t.mux.flatMap (putB 5)=bs0 at *
   have HBS0:=Lib.hid hB0
   clear hB0 y0 y1 y2 y3
   have HBR:=HB
   go_loopw [6,8] (fun v i wx=>∃(e:Nat) (A':Option Addr) (c':Nat),e≤2∧i = .int .i64 e∧v = .slice A' (5 * k+30 * e) c'∧Own w1.heap.size wx A' (5 * k+30 * e) c' (natI (bs0++(t.les.take e).flatMap Le.bits))∧Below w1.heap.size w1 wx) (fun _ i _=>2 - (intOf i).toNat)
   case atStart=>exact ⟨0,A',c',by omega,rfl,rfl,by simpa using HO2.out,HBR.out⟩
   case round =>
    obtain ⟨e,A2,c2,he,rfl,rfl,ho,hb⟩:=hrel
    have HO3:=Lib.hid ho
    have HB3:=Lib.hid hb
    clear ho hb
    by_cases hlt:e<2
    ·have hde:decide ((e:Int)<2)=true:=by simp;omega
     have hle:=HLE.out e hlt
     obtain ⟨bl,ol,S4,m4,p4,rfl,hbl,d0,d1,d2,d3,r4⟩:=HL.out.le (k:=e) (by rw [HLS.out];exact hlt)
     have hS:=RdC.ints r4
     have hS4:m4=4:=by have:=hS.1;obtain ⟨a,b,c,d',h,_⟩:=hle.sel;rw [h] at this;exact this.symm
     subst hS4
     have HSL:Hid ((t.les[e]?.getD Le.zero).sel.length=4):=hS.1
     have HSN:=Lib.hid (flat_snoc (f:=Le.bits) (getD_some Le.zero (by rw [HLS.out];exact hlt):t.les[e]?=some (t.les[e]?.getD Le.zero)))
     have hsi:=(sel_fit hle).2
     have HSI:=Lib.hid hsi
     have HSE:=Lib.hid hS
     have HLF:=Lib.hid hle
     have j0:(0:Int)≤(e:Int):=by omega
     have j1:(e:Int)<2:=by omega
     have D0:=Lib.hid d0
     have D1:=Lib.hid d1
     have D2:=Lib.hid d2
     have D3:=Lib.hid d3
     clear hle hS r4 hsi d0 d1 d2 d3
     generalize t.les[e]?.getD Le.zero=le at *
     generalize hBe:bs0++(t.les.take e).flatMap Le.bits=bse at *
     have HBE:=Lib.hid hBe
     clear hBe
     go_wp2_with fail
     go_loopw [6,9] (fun v i wx=>∃(j:Nat) (A':Option Addr) (c':Nat),j≤4∧i = .int .i64 j∧v = .slice A' (5 * k+30 * e+3 * j) c'∧Own w1.heap.size wx A' (5 * k+30 * e+3 * j) c' (natI (bse++(le.sel.take j).flatMap (putB 3)))∧Below w1.heap.size w1 wx) (fun _ i _=>4 - (intOf i).toNat)
     case atStart=>exact ⟨0,A2,c2,by omega,rfl,rfl,by simpa using HO3.out,HB3.out⟩
     case round =>
      obtain ⟨j,A3,c3,hj,rfl,rfl,ho,hb⟩:=hrel
      have HO4:=Lib.hid ho
      have HB4:=Lib.hid hb
      have hsr4:=hb.size
      have X1R:=Lib.hid (heap_tr hb X1.out)
      obtain ⟨y0,y1,y2,y3⟩:=cell4 X1R.out
      obtain ⟨hcc,hff⟩:=bcell (below_tr HW1.out hb)
      have hblr:bl<wr.heap.size:=by omega
      clear ho hb
      by_cases hjl:j<4
      ·have hdj:decide ((j:Int)<4)=true:=by simp;omega
       obtain ⟨bs,os,rfl,hbs,hcs⟩:=HSE.out.2 (by omega)
       have hck:=hcs j hjl
       have hbsr:bs<wr.heap.size:=by omega
       obtain ⟨x,hx,hx2⟩:=natPos (HSI.out j hjl)
       have HSM:=Lib.hid (flat_snoc (f:=putB 3) (getD_some 0 (by rw [HSL.out];exact hjl):le.sel[j]?=some (le.sel[j]?.getD 0)))
       have m0:(0:Int)≤(j:Int):=by omega
       have m1:(j:Int)<4:=by omega
       have d0:=D0.out
       rw [hx] at hck HSM
       clear hcs hx
       go_wp2_with fail
       refine (l38Put_any w1.heap.size A3 (5 * k+30 * e+3 * j) c3 (bse++(le.sel.take j).flatMap (putB 3)) x 3 w1 _ HO4.out HB4.out (by omega) (by omega) (by omega) (by omega)).mono ?_
       rintro e5 w5 ⟨A5,c5,rfl,o5,b5,s5⟩
       have O5:=Lib.hid o5
       have B5:=Lib.hid b5
       clear o5 b5 hcc hff
       go_wp2_with fail
       go_roundw
       case rel=>exact ⟨j+1,A5,c5,by omega,by go_num,by rw [show 5 * k+30 * e+3 * (j+1)=5 * k+30 * e+3 * j+3 by omega],by rw [HSM.out,←List.append_assoc,show 5 * k+30 * e+3 * (j+1)=5 * k+30 * e+3 * j+3 by omega];exact O5.out,B5.out⟩
       case measure=>simp [intOf];omega
      ·have hj4:j=4:=by omega
       subst hj4
       have hdj:decide (((4:Nat):Int)<4)=false:=by decide
       have HO5:Hid (Own w1.heap.size wr A3 (5 * k+30 * e+12) c3 (natI (bse++le.sel.flatMap (putB 3)))):=by
        have h:=HO4.out
        rwa [List.take_of_length_le (by rw [HSL.out];exact Nat.le_refl _)] at h
       obtain ⟨mk,hmk,hmk2⟩:=natPos HLF.out.mask
       obtain ⟨fl,hfl,hfl2⟩:=natPos HLF.out.flop
       obtain ⟨ini,hini,hini2⟩:=natPos HLF.out.init
       have d1:=D1.out
       have d2:=D2.out
       have d3:=D3.out
       rw [hmk] at d1
       rw [hfl] at d2
       rw [hini] at d3
       have HLB:Hid (((bse++le.sel.flatMap (putB 3))++putB 16 (mk:Int))++putB 1 (fl:Int)++putB 1 (ini:Int)=bse++le.bits):=by
        show _=_
        rw [Le.bits,hmk,hfl,hini]
        simp only [List.append_assoc]
       clear hjl hj hmk hfl hini
       go_wp2_with fail
       refine (l38Put_any w1.heap.size A3 (5 * k+30 * e+12) c3 (bse++le.sel.flatMap (putB 3)) mk 16 w1 _ HO5.out HB4.out (by omega) (by omega) (by omega) (by omega)).mono ?_
       rintro e5 w5 ⟨A5,c5,rfl,o5,b5,s5⟩
       have O5:=Lib.hid o5
       have B5:=Lib.hid b5
       have hw5:w.heap.size+1<w5.heap.size:=by omega
       have X5:=Lib.hid (heap_tr B5.out X1.out)
       obtain ⟨hcc5,hff5⟩:=bcell (below_tr HW1.out B5.out)
       clear o5 b5
       obtain ⟨u0,u1,u2,u3⟩:=cell4 X5.out
       clear hcc hff y0 y1 y2 y3
       go_wp2_with fail
       refine (l38Put_any w1.heap.size A5 (5 * k+30 * e+12+16) c5 ((bse++le.sel.flatMap (putB 3))++putB 16 (mk:Int)) fl 1 w1 _ O5.out B5.out (by omega) (by omega) (by omega) (by omega)).mono ?_
       rintro e6 w6 ⟨A6,c6,rfl,o6,b6,s6⟩
       have O6:=Lib.hid o6
       have B6:=Lib.hid b6
       have hw6:w.heap.size+1<w6.heap.size:=by omega
       have X6:=Lib.hid (heap_tr B6.out X1.out)
       obtain ⟨hcc6,hff6⟩:=bcell (below_tr HW1.out B6.out)
       clear o6 b6
       clear hcc5 hff5 u0 u1 u2 u3
       obtain ⟨u0,u1,u2,u3⟩:=cell4 X6.out
       go_wp2_with fail
       refine (l38Put_any w1.heap.size A6 (5 * k+30 * e+12+16+1) c6 (((bse++le.sel.flatMap (putB 3))++putB 16 (mk:Int))++putB 1 (fl:Int)) ini 1 w1 _ O6.out B6.out (by omega) (by omega) (by omega) (by omega)).mono ?_
       rintro e7 w7 ⟨A7,c7,rfl,o7,b7,s7⟩
       have O7:=Lib.hid o7
       have B7:=Lib.hid b7
       have hw7:w.heap.size+1<w7.heap.size:=by omega
       have X7:=Lib.hid (heap_tr B7.out X1.out)
       obtain ⟨hcc7,hff7⟩:=bcell (below_tr HW1.out B7.out)
       clear o7 b7
       clear hcc6 hff6 u0 u1 u2 u3 hcc7 hff7
       go_wp2_with fail
       go_roundw
       case rel=>exact ⟨e+1,A7,c7,by omega,by go_num,by rw [show 5 * k+30 * (e+1)=5 * k+30 * e+12+16+1+1 by omega],by rw [HSN.out,←List.append_assoc,HBE.out,show 5 * k+30 * (e+1)=5 * k+30 * e+12+16+1+1 by omega,←HLB.out];exact O7.out,B7.out⟩
       case measure=>simp [intOf];omega
    ·have he2:e=2:=by omega
     subst he2
     have hde:decide (((2:Nat):Int)<2)=false:=by decide
     have HO8:Hid (Own w1.heap.size wr A2 (5 * k+60) c2 (natI (bs0++t.les.flatMap Le.bits))):=by
      have h:=HO3.out
      rwa [List.take_of_length_le (by rw [HLS.out];exact Nat.le_refl _)] at h
     have X1R:=Lib.hid (heap_tr HB3.out X1.out)
     have hsr8:=HB3.out.size
     have hwr8:w.heap.size+1<wr.heap.size:=by omega
     obtain ⟨pd,hpd,hpd2⟩:=natPos HF.out.pad
     obtain ⟨rm,hrm,hrm2⟩:=natPos HF.out.ram
     obtain ⟨y0,y1,y2,y3⟩:=cell4 X1R.out
     have HTB:Hid (((bs0++t.les.flatMap Le.bits)++putB 2 (pd:Int))++putB 5 (rm:Int)=t.bits):=by
      show _=_
      rw [Tile.bits,HBS0.out,hpd,hrm]
      simp only [List.append_assoc]
     have HTL:Hid (t.bits.length=5 * k+67):=by show _=_;rw [tile_bits_length HK.out,←HMN.out]
     rw [hpd] at y2
     clear hlt he hpd
     go_wp2_with fail
     refine (l38Put_any w1.heap.size A2 (5 * k+60) c2 (bs0++t.les.flatMap Le.bits) pd 2 w1 _ HO8.out HB3.out (by omega) (by omega) (by omega) (by omega)).mono ?_
     rintro e5 w5 ⟨A5,c5,rfl,o5,b5,s5⟩
     have O5:=Lib.hid o5
     have B5:=Lib.hid b5
     have X5:=Lib.hid (heap_tr B5.out X1.out)
     have hw5:w.heap.size+1<w5.heap.size:=by omega
     clear o5 b5
     clear y0 y1 y2 y3
     obtain ⟨y0,y1,y2,y3⟩:=cell4 X5.out
     rw [hrm] at y3
     clear hrm
     go_wp2_with fail
     refine (l38Put_any w1.heap.size A5 (5 * k+60+2) c5 ((bs0++t.les.flatMap Le.bits)++putB 2 (pd:Int)) rm 5 w1 _ O5.out B5.out (by omega) (by omega) (by omega) (by omega)).mono ?_
     rintro e6 w6 ⟨A6,c6,rfl,o6,b6,s6⟩
     have O6:=Lib.hid o6
     have B6:=Lib.hid b6
     have X6:=Lib.hid (heap_tr B6.out X1.out)
     have hw6:w.heap.size+1<w6.heap.size:=by omega
     clear o6 b6
     clear y0 y1 y2 y3
     have HO6:Hid (Own w1.heap.size w6 A6 (5 * k+67) c6 (natI t.bits)):=by
      have h:=O6.out
      rw [HTB.out] at h
      exact h
     have X06:=Lib.hid (heap_tr B6.out X0.out)
     obtain ⟨z0,z1,z2,z3⟩:=cell4 X06.out
     have hw60:w.heap.size<w6.heap.size:=by omega
     go_wp2_with fail
     have hfw:=sframeWords_any d w6 HD.out
     obtain ⟨N,hN⟩:∃N:Nat,fwI d=(N:Int):=⟨(fwI d).toNat,by have:=(fwI_bd HD.out).1;omega⟩
     have hNb:5 * k+67≤16 * N∧N≤11:=by
      have h1:=muxN_bd HD.out
      have h2:=HMN.out
      have h3:(fwI d).toNat=N:=by omega
      rw [h3] at h1
      omega
     have HENC:Hid (encT d t=packI N t.bits (5 * k+67)):=by
      show _=_
      rw [encT,HTL.out,show (fwI d).toNat=N by omega]
      rfl
     rw [hN] at hfw
     clear hN
     refine hfw.mono ?_
     rintro e7 w7 ⟨rfl,b7⟩
     have B7:=Lib.hid (below_tr B6.out b7)
     have HO7:=Lib.hid (HO6.out.below b7)
     have hs7:=b7.size
     obtain ⟨i0,hi,hz0,hz1,hz2⟩:=info_parts int_info
     have hmk:=fun W=>run_make_rowN (P:=Tryz.prog) 27 3 i0 _ Tryz.underlying27 hi hz0 .i64 .i64 N N (Nat.le_refl _) (by rw [hz2];omega) (by omega) W
     rw [hz1,Nat.mul_one,show (Value.int .i64 0).cells=#[Value.int .i64 0] from rfl,arr_made] at hmk
     clear hi hz0 hz1 hz2 b7 hfw z0 z1 z2 z3
     go_wp2_with fail
     clear hmk
     obtain ⟨gb,curb,rfl,hgb,hgb2,-⟩:=HO7.out.block (by omega)
     have hrep:packI N t.bits 0=List.replicate N 0:=by simp [packI,packTo]
     have H0:Hid ((w7.alloc (.cells (arr (List.replicate N 0)) 3)).heap[w7.heap.size]?=some (.cells (arr (packI N t.bits 0)) 3 (0,0))):=by rw [hrep];exact heap_new w7 _
     have hb01:=Tile.bits01 t
     clear hrep
     generalize t.bits=tb at *
     generalize hL:5 * k+67=L at *
     have HLL:=Lib.hid hL
     have hLb:L≤176:=by omega
     clear hL
     go_loopw [11] (fun i wx=>∃a:Nat,a≤L∧i = .int .i64 a∧wx.heap[w7.heap.size]?=some (.cells (arr (packI N tb a)) 3 (0,0))∧Below w7.heap.size w7 wx) (fun i _=>L - (intOf i).toNat)
     case atStart=>exact ⟨0,by omega,rfl,H0.out,below_new (Below.refl _ _) _⟩
     case round =>
      obtain ⟨a,ha,rfl,hg,hb⟩:=hrel
      have HG:=Lib.hid hg
      have HB:=Lib.hid hb
      by_cases hal:a<L
      ·have hda:decide ((a:Int)<(L:Int))=true:=by simp;omega
       obtain ⟨zb,yb⟩:=(HO7.out.below hb).cellAt hal
       have hv:(natI tb)[a]?.getD 0=((tb[a]?.getD 0:Nat):Int):=by
        simp only [natI,List.getElem?_map]
        cases tb[a]? <;> rfl
       rw [hv] at zb
       have zg:=cell_heap (k:=a / 16) hg (arr_get (by rw [packI_length];omega))
       have yg:=frozen_heap hg (a / 16)
       rw [packI_get] at zg
       have hgbw:gb<wr.heap.size:=by have:=hb.size;omega
       have hne:gb≠w7.heap.size:=by omega
       have hP:=packTo_top (N:=N) hb01 a
       have hb1:=hb01 a
       have HPS:=Lib.hid (packI_succ N tb a)
       have e1:(a:Int).tmod 16=((a % 16:Nat):Int):=by rw [Int.tmod_eq_emod_of_nonneg (by omega)];omega
       have e2:IntKind.i64.wrap ((a:Int).tdiv 16)=((a / 16:Nat):Int):=by rw [IntWalk.i64_quo _ _ ⟨by omega,by omega,by omega⟩];omega
       have f1:IntKind.i64.wrap ((a:Int) / 16)=(a:Int) / 16:=IntWalk.i64_in _ (by omega)
       have q0:(0:Int)≤((a / 16:Nat):Int):=by omega
       have q1:((a / 16:Nat):Int)<(N:Int):=by omega
       have p0:(0:Int)≤(a:Int) / 16:=by omega
       have p1:(a:Int) / 16<(N:Int):=by omega
       have p2:(0:Int)≤(a:Int) % 16:=by omega
       have p3:(a:Int) % 16<16:=by omega
       have i0:(0:Int)≤(a:Int):=by omega
       have i1:(a:Int)<(L:Int):=by omega
       have zg2:wr.cell? ⟨w7.heap.size,((a:Int) / 16).toNat,none⟩=some (.int .i64 (((packTo N tb a)[a / 16]?.getD 0:Nat):Int)):=by rw [show ((a:Int) / 16).toNat=a / 16 by omega];exact zg
       have yg2:wr.frozen? ⟨w7.heap.size,((a:Int) / 16).toNat,none⟩=false:=by rw [show ((a:Int) / 16).toNat=a / 16 by omega];exact yg
       clear hg hb hv
       generalize (packTo N tb a)[a / 16]?.getD 0=P at *
       generalize tb[a]?.getD 0=bt at *
       have HVAL:=Lib.hid (add_bit15 hP hb1 (show a % 16≤15 by omega))
       clear hP hb1
       go_wp2_with fail
       go_region_with (fail)
       all_goals
        go_wp2_with fail
        go_roundw
        case rel =>
         refine ⟨a+1,by omega,by go_num,?_,?_⟩
         ·rw [HPS.out,←arr_set,←HVAL.out]
          repeat (first|exact heap_set HG.out (a / 16) _|exact heap_set (heap_dr HG.out) (a / 16) _|refine heap_dr ?_)
         ·repeat (first|exact HB.out|refine Below.setCell ?_ (by simp) _|refine Below.drew ?_)
        case measure=>simp [intOf];omega
      ·have haL:a=L:=by omega
       subst haL
       have hda:decide ((a:Int)<(a:Int))=false:=by simp
       have HFIN:Hid (Own w.heap.size wr (some ⟨w7.heap.size,0,none⟩) N N (encT d t)):=by
        show Own _ _ _ _ _ _
        rw [HENC.out]
        exact Own.arr HG.out (by have:=(below_tr HW1.out B7.out).size;omega) (by unfold maxLen;omega) (packI_length _ _ _)
       go_wp2_with fail
       go_ret2
       exact ⟨_,_,_,rfl,HFIN.out,below_tr HW1.out (below_tr B7.out HB.out)⟩
end Go.Proofs.YtignkfhdkcgkgaaGreat

namespace Go.Proofs.YtignkfhdkcgkgaaGreat
set_option maxRecDepth 100000
open Go.RowKit Cw

def encI (x:Int):Int:=((encW x.toNat:Nat):Int)
def rowOf (d:Dev) (t:Tile):List Int:=(encT d t).map encI
def buildF (d:Dev) (ts:List Tile):List (List Int):=ts.map (rowOf d)
theorem encI_bd (x:Int):0≤encI x∧encI x≤4194303:=by
 have:=encW_lt x.toNat
 unfold encI
 omega
theorem rowOf_length (d:Dev) (t:Tile):(rowOf d t).length=(fwI d).toNat:=by simp [rowOf,encT_length]
theorem rowOf_ok {d:Dev} (hd:devOk d=true) (t:Tile):wordsOk (rowOf d t) (fwI d) 4194303=true:=by
 unfold wordsOk
 rw [Bool.and_eq_true,decide_eq_true_eq,rowOf_length]
 refine ⟨by have:=(fwI_bd hd).1;omega,allIn_good fun j hj=>inR_iff.2 ?_⟩
 rw [rowOf,List.getElem?_map,getD_some 0 (by rw [rowOf_length] at hj;rw [encT_length];exact hj)]
 exact encI_bd _
theorem buildF_ok {d:Dev} {ts:List Tile} (hd:devOk d=true) (hl:ts.length=tiles d):framesOk d (buildF d ts)=true:=by
 refine framesOk_good hd (by rw [buildF,List.length_map,hl]) fun j hj=>?_
 rw [buildF,List.length_map] at hj
 rw [buildF,List.getElem?_map,getD_some Tile.zero hj]
 exact rowOf_ok hd _
theorem map_snoc {α β:Type} {f:α→β} {xs:List α} {k:Nat} {x:α} (h:xs[k]?=some x):(xs.take (k+1)).map f=(xs.take k).map f++[f x]:=by
 rw [List.take_add_one,h]
 simp
theorem below_tr2' {B:Nat} {a b c:World} (h:Below B a b) (k:Below b.heap.size b c) (hB:B≤b.heap.size):Below B a c:=⟨k.os.trans h.os,k.tape.trans h.tape,k.output.trans h.output,Nat.le_trans h.size k.size,fun i hi=>(k.block i (Nat.lt_of_lt_of_le hi hB)).trans (h.block i hi)⟩
set_option maxHeartbeats 4000000 in
theorem sbuildFrames_yes (d:Dev) (A:Option Addr) (n c:Nat) (ts:List Tile) (w:World) (hT:RdC w w.heap.size (celT ts) (.slice A n c)) (hd:devOk d=true) (hl:ts.length=tiles d) (hok:∀j,j<n→tileOk d (ts[j]?.getD Tile.zero)=true) :
  Calls Tryz.prog 133 #[.agg #[.int .i64 d.W,.int .i64 d.H,.int .i64 d.T,.int .i64 d.R],.slice A n c] w fun e w'=>∃A' c',e = .returned (.tuple #[.slice A' n c',.bool true])∧Own2 w.heap.size w'.heap.size w' A' n c' (buildF d ts)∧Below w.heap.size w w':=by
 have HT:=Lib.hid hT
 have HTL:=Lib.hid hT.tlen
 have HD:=Lib.hid hd
 have HOK:=Lib.hid hok
 have e1:d.W * d.H=(n:Int):=by have h1:=hT.tlen;have h2:=(tiles_eq hd).1;omega
 have hn36:n≤36:=by have h1:=hT.tlen;have h2:=(tiles_eq hd).2;omega
 have a0:IntKind.i64.wrap (n:Int)=(n:Int):=IntWalk.i64_in _ (by omega)
 have hne:((n:Int) != (n:Int))=false:=by simp
 have HDO:=Lib.hid (fun w'=>by have h:=sdeviceOk_any d w';rw [hd] at h;exact h)
 have HB0:=Lib.hid (below_new (below_new (Below.refl w.heap.size w) (.cells #[.int .i64 d.W,.int .i64 d.H,.int .i64 d.T,.int .i64 d.R] 25)) (.cells #[] 27))
 clear hT hok hd
 go_enter Tryz.func133,Tryz.ntmps133
 go_wp2_with fail
 refine (HDO.out _).mono ?_
 rintro e w1 ⟨rfl,b1⟩
 have hs1:=b1.size
 simp only [World.size_alloc] at hs1
 have HW1:=Lib.hid (below_tr HB0.out b1)
 obtain ⟨q0,q1,q2,q3⟩:=keep4 b1 (by simp;omega) (keep4 (below_new (Below.refl _ _) _) (by simp) (box4 w d))
 have HNIL:Hid (Own2 (w.heap.size+1) w1.heap.size w1 (some ⟨w.heap.size+1,0,none⟩) 0 0 []):=by
  have h:=(Own2.new0 (w:=w.alloc (.cells #[.int .i64 d.W,.int .i64 d.H,.int .i64 d.T,.int .i64 d.R] 25)) (g:=w.heap.size+1) (by simp)).below b1
  exact h.widen (Nat.le_refl _) b1.size
 have HE1:Hid (Below (w.heap.size+1) (w.alloc (.cells #[.int .i64 d.W,.int .i64 d.H,.int .i64 d.T,.int .i64 d.R] 25)) w1):=by
  have h:=below_tr (below_new (Below.refl (w.alloc (.cells #[.int .i64 d.W,.int .i64 d.H,.int .i64 d.T,.int .i64 d.R] 25)).heap.size (w.alloc (.cells #[.int .i64 d.W,.int .i64 d.H,.int .i64 d.T,.int .i64 d.R] 25))) (.cells #[] 27)) b1
  rwa [World.size_alloc] at h
 have hw0:w.heap.size<w1.heap.size:=by omega
 clear b1
 go_wp2_with fail
 clear q0 q1 q2 q3
 go_loopw [6,7] (fun v i wr=>∃(k:Nat) (A':Option Addr) (c':Nat),k≤n∧i = .int .i64 k∧v = .slice A' k c'∧Own2 (w.heap.size+1) wr.heap.size wr A' k c' ((ts.take k).map (rowOf d))∧Below (w.heap.size+1) (w.alloc (.cells #[.int .i64 d.W,.int .i64 d.H,.int .i64 d.T,.int .i64 d.R] 25)) wr∧w.heap.size+1<wr.heap.size) (fun _ i _=>n - (intOf i).toNat)
 case atStart=>exact ⟨0,_,0,Nat.zero_le _,rfl,rfl,by simpa using HNIL.out,HE1.out,by omega⟩
 case round =>
  obtain ⟨k,A',c',hk,rfl,rfl,hoo,hb,hsr⟩:=hrel
  have HOO:=Lib.hid hoo
  have HB:=Lib.hid hb
  have hbx:Below (w.alloc (.cells #[.int .i64 d.W,.int .i64 d.H,.int .i64 d.T,.int .i64 d.R] 25)).heap.size (w.alloc (.cells #[.int .i64 d.W,.int .i64 d.H,.int .i64 d.T,.int .i64 d.R] 25)) wr:=by rw [World.size_alloc];exact hb
  have HW:=Lib.hid (below_tr (below_new (Below.refl w.heap.size w) _) hbx)
  obtain ⟨q0,q1,q2,q3⟩:=keep4 hbx (by simp) (box4 w d)
  clear hoo hb hbx
  by_cases hlt:k<n
  ·have hdk:decide ((k:Int)<(n:Int))=true:=by simp;omega
   obtain ⟨b,o,S,m3,p,L,l,q,rfl,hb,c0,c1,c2,c3,r0,r1⟩:=HT.out.tile (k:=k) (by rw [HTL.out];exact hlt)
   rw [←HW.out.cell (p:=⟨b,o+k * 4,none⟩) hb] at c0
   rw [←HW.out.cell (p:=⟨b,o+k * 4+1,none⟩) hb] at c1
   rw [←HW.out.cell (p:=⟨b,o+k * 4+2,none⟩) hb] at c2
   rw [←HW.out.cell (p:=⟨b,o+k * 4+3,none⟩) hb] at c3
   have hbr:b<wr.heap.size:=by have:=HW.out.size;omega
   have hwr0:w.heap.size<wr.heap.size:=by omega
   have HSN:=Lib.hid (map_snoc (f:=rowOf d) (getD_some Tile.zero (by rw [HTL.out];exact hlt):ts[k]?=some (ts[k]?.getD Tile.zero)))
   have HET:=Lib.hid (fun (w':World) (hb':Below wr.heap.size wr w')=>sencodeTile_yes d (ts[k]?.getD Tile.zero) S m3 p L l q w' ((RdC.ints (r0.below HW.out)).below hb') ((r1.below HW.out).below hb') (HOK.out k hlt))
   have i0:(0:Int)≤(k:Int):=by omega
   have i1:(k:Int)<(n:Int):=by omega
   have hD:=(Below.refl wr.heap.size wr).drew
   clear r0 r1
   generalize ts[k]?.getD Tile.zero=t at *
   go_wp2_with fail
   go_region_held3 (fun w'=>Below wr.heap.size wr w'∧∀b o,b<wr.heap.size→w'.cell? ⟨b,o,none⟩=wr.cell? ⟨b,o,none⟩)
    (first|exact ⟨hD,(bcell hD).1⟩)
    ((go_at_call 180;(with_reducible refine (HET.out _ hD).mono ?_);rintro e5 w5 ⟨A5,n5,c5,rfl,o5,b5⟩;have O5:=Lib.hid o5;replace hD:=below_tr hD b5;clear b5 o5))
   have HD5:=Lib.hid hD
   have hs5:=hD.size
   have hn5:n5=(encT d t).length:=O5.out.len.symm
   have hs50:w.heap.size+1<w5.heap.size:=by omega
   have hN5:n5≤11:=by rw [hn5,encT_length];have:=fwI_bd HD.out;omega
   have HN5:=Lib.hid hn5
   clear hD hn5 c0 c1 c2 c3 q0 q1 q2 q3
   go_wp2_with fail
   have HEB:=Lib.hid (fun j=>encT_bd d t j)
   have HRW:Hid (rowOf d t=(encT d t).map encI):=rfl
   have HLO:=Lib.hid (O5.out.ints)
   have R0:=Lib.hid (Own.new0 (w:=w5) (base:=w5.heap.size) (Nat.le_refl _))
   have RB:=Lib.hid (below_new (Below.refl w5.heap.size w5) (.cells #[] 3))
   generalize encT d t=ws at *
   go_loopw [10,11] (fun v i wx=>∃(j:Nat) (A2:Option Addr) (c2:Nat),j≤n5∧i = .int .i64 j∧v = .slice A2 j c2∧Own w5.heap.size wx A2 j c2 ((ws.take j).map encI)∧Below w5.heap.size w5 wx) (fun _ i _=>n5 - (intOf i).toNat)
   case atStart=>exact ⟨0,_,0,Nat.zero_le _,rfl,rfl,by simpa using R0.out,RB.out⟩
   case round =>
    obtain ⟨j,A2,c2,hj,rfl,rfl,ho,hb2⟩:=hrel
    have HO2:=Lib.hid ho
    have HB2:=Lib.hid hb2
    have hs2:=hb2.size
    by_cases hjl:j<n5
    ·have hdj:decide ((j:Int)<(n5:Int))=true:=by simp;omega
     obtain ⟨bw,ow,rfl,hbw,hcw⟩:=HLO.out.2 (by omega)
     have hck:=hcw j hjl
     rw [←hb2.cell (p:=⟨bw,ow+j,none⟩) hbw] at hck
     obtain ⟨x,hx,hx2⟩:=natPos (HEB.out j)
     have HSM:=Lib.hid (map_snoc (f:=encI) (getD_some 0 (by rw [←HN5.out];exact hjl):ws[j]?=some (ws[j]?.getD 0)))
     have j0:(0:Int)≤(j:Int):=by omega
     have j1:(j:Int)<(n5:Int):=by omega
     rw [hx] at hck HSM
     have HEI:Hid (encI (x:Int)=((encW x:Nat):Int)):=by show _=_;unfold encI;rw [Int.toNat_natCast]
     clear hcw hx ho hb2
     go_wp2_with fail
     refine (sencodeWord_any x _ (by omega)).mono ?_
     rintro e8 w8 ⟨rfl,b8⟩
     have B8:=Lib.hid b8
     have hs8:=b8.size
     clear b8
     go_wp2_with (at_builtin;refine wpList_push rfl _ _ rfl w5.heap.size A2 j c2 ((ws.take j).map encI) _ rfl (HO2.out.below B8.out) rfl (by omega) (by omega) (below_tr HB2.out B8.out) ?_;rintro g9 cap w9 o9 b9 - -)
     go_roundw
     case rel=>exact ⟨j+1,_,_,by omega,by go_num,rfl,by rw [HSM.out,HEI.out];exact o9,b9⟩
     case measure=>simp [intOf];omega
    ·have hjn:j=n5:=by omega
     subst hjn
     have hdj:decide ((j:Int)<(j:Int))=false:=by simp
     have HROW:Hid (Own w5.heap.size wr A2 j c2 (rowOf d t)):=by
      have h:=HO2.out
      rw [List.take_of_length_le (by rw [←HN5.out];exact Nat.le_refl _),←HRW.out] at h
      exact h
     have HOO5:=Lib.hid ((HOO.out.below HD5.out).below HB2.out)
     have HBB:=Lib.hid (below_tr2' (below_tr2' HB.out HD5.out (by omega)) HB2.out (by omega))
     clear ho hb2 hjl hj
     go_wp2_with (at_builtin;refine wpList_push2 rfl _ _ rfl (w.heap.size+1) _ A' k c' ((ts.take k).map (rowOf d)) w5.heap.size A2 j c2 _ rfl HOO5.out HROW.out rfl (by omega) (by omega) (by omega) (by omega) (by omega) HBB.out ?_;rintro g6 cap w6 o6 b6)
     go_roundw
     case rel=>exact ⟨k+1,_,_,by omega,by go_num,rfl,by rw [HSN.out];exact o6,b6,by obtain ⟨vs,k1,k2,-⟩:=o6;have q1:=ownsRow_lt k1 _ rfl;have q2:=k2 _ rfl;simp only at q1 q2;omega⟩
     case measure=>simp [intOf];omega
  ·have hkn:k=n:=by omega
   subst hkn
   have hdk:decide ((k:Int)<(k:Int))=false:=by simp
   have HFIN:Hid (Own2 (w.heap.size+1) wr.heap.size wr A' k c' (buildF d ts)):=by
    have h:=HOO.out
    rwa [List.take_of_length_le (by rw [HTL.out];exact Nat.le_refl _)] at h
   go_wp2_with fail
   go_ret2
   exact ⟨_,_,rfl,HFIN.out.widen (by omega) (Nat.le_refl _),HW.out⟩
end Go.Proofs.YtignkfhdkcgkgaaGreat
