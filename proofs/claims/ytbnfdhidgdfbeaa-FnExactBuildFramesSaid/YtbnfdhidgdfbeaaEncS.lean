/- Look-up tables and output pins of the program's emulator. Writing tiles into words: bits put one behind the other: the reference. -/
import Derived.Test.YtbnfdhidgdfbeaaDec
import Derived.Test.YtbnfdhidgdfbeaaEmpty
import Derived.Test.YtbnfdhidgdfbeaaTileRd
import Derived.Test.YtbnfdhidgdfbeaaValPure
namespace Go.Proofs.Ytbnfdhidgdfbeaa
set_option maxRecDepth 100000
open Go.RowKit Cw

theorem sel_fit {e:Le} (h:LeFit e):e.sel.length=4∧∀j,j<4→0≤e.sel[j]?.getD 0∧e.sel[j]?.getD 0≤7:=by
 obtain ⟨a,b,c,d,hs,ha,hb,hc,hd⟩:=h.sel
 rw [hs]
 refine ⟨rfl,fun j hj=>?_⟩
 have:j=0∨j=1∨j=2∨j=3:=by omega
 rcases this with rfl|rfl|rfl|rfl <;> simp <;> omega
end Go.Proofs.Ytbnfdhidgdfbeaa

namespace Go.Proofs.Ytbnfdhidgdfbeaa
set_option maxRecDepth 100000
open Go.RowKit Cw

def natI (xs:List Nat):List Int:=xs.map fun (x:Nat)=>(x:Int)
theorem natI_append (xs ys:List Nat):natI (xs++ys)=natI xs++natI ys:=by simp [natI]
theorem putB_take {n k:Nat} {x:Nat} (h:k<n):(putB n (x:Int)).take (k+1)=(putB n (x:Int)).take k++[bit x k]:=by
 rw [List.take_add_one,putB_get h,Int.toNat_natCast]
 rfl
set_option maxHeartbeats 1000000 in
theorem l38Put_any (base:Nat) (A:Option Addr) (n c:Nat) (bs:List Nat) (x cnt:Nat) (W w:World) (hown:Own base w A n c (natI bs)) (hB:Below base W w) (hbw:base≤w.heap.size) (hc:cnt≤16) (hx:x<65536) (hn:n≤1000000) :
  Calls Try.prog 87 #[.slice A n c,.int .i64 (x:Int),.int .i64 (cnt:Int)] w fun e w'=>∃A' c',e = .returned (.slice A' (n+cnt) c')∧Own base w' A' (n+cnt) c' (natI (bs++putB cnt (x:Int)))∧Below base W w'∧w.heap.size≤w'.heap.size:=by
 have HO:=Lib.hid hown
 have HB:=Lib.hid hB
 clear hown hB
 go_enter Try.func87,Try.ntmps87
 go_wp2_with fail
 go_loopw [0,7] (fun v i wr=>∃(k:Nat) (A':Option Addr) (c':Nat),k≤cnt∧i = .int .i64 k∧v = .slice A' (n+k) c'∧Own base wr A' (n+k) c' (natI (bs++(putB cnt (x:Int)).take k))∧Below base W wr∧w.heap.size≤wr.heap.size) (fun _ i _=>cnt - (intOf i).toNat)
 case atStart=>exact ⟨0,A,c,Nat.zero_le _,rfl,rfl,by simpa using HO.out,HB.out,Nat.le_refl _⟩
 case round =>
  obtain ⟨k,A',c',hk,rfl,rfl,ho,hb,hs⟩:=hrel
  have HO2:=Lib.hid ho
  have HB2:=Lib.hid hb
  clear ho hb
  by_cases hlt:k<cnt
  ·have hdk:decide ((k:Int)<(cnt:Int))=true:=by simp;omega
   have HT:=Lib.hid (putB_take (x:=x) hlt)
   have HSN:Hid (natI [bit x k]=[bits .and .i64 ((x:Int) / 2 ^ k) 1]):=by show _=_;rw [shr_bit x k (by omega)];rfl
   go_wp2_with (at_builtin;refine wpList_push rfl _ _ rfl base A' (n+k) c' (natI (bs++(putB cnt (x:Int)).take k)) _ rfl HO2.out rfl (by omega) (by omega) HB2.out ?_;rintro g9 cap w9 o9 b9 hgr hat)
   go_roundw
   case rel=>exact ⟨k+1,_,_,by omega,by go_num,rfl,by rw [HT.out,←List.append_assoc,natI_append,HSN.out];exact o9,b9,by have:=hgr.size;simp only [World.size_alloc] at this;omega⟩
   case measure=>simp [intOf];omega
  ·have hkc:k=cnt:=by omega
   subst hkc
   have hdk:decide ((k:Int)<(k:Int))=false:=by simp
   go_wp2_with fail
   go_ret
   exact ⟨_,_,rfl,by have h:=HO2.out;rwa [List.take_of_length_le (by rw [putB_length];exact Nat.le_refl _)] at h,HB2.out,hs⟩
theorem cell4 {w:World} {g:Nat} {v0 v1 v2 v3:Value} {t:TypeId} (h:w.heap[g]?=some (.cells #[v0,v1,v2,v3] t (0,0))):w.cell? ⟨g,0,none⟩=some v0∧w.cell? ⟨g,1,none⟩=some v1∧w.cell? ⟨g,2,none⟩=some v2∧w.cell? ⟨g,3,none⟩=some v3:=⟨cell_heap h rfl,cell_heap h rfl,cell_heap h rfl,cell_heap h rfl⟩
set_option maxHeartbeats 4000000 in
theorem stileConfigOk_yes (d:Dev) (t:Tile) (MA:Option Addr) (mn mc:Nat) (LA:Option Addr) (ln lc:Nat) (w:World) (hM:Ints w MA mn t.mux) (hL:RdC w w.heap.size (celE t.les) (.slice LA ln lc)) (hk:tileOk d t=true) :
  Calls Try.prog 86 #[.agg #[.int .i64 d.W,.int .i64 d.H,.int .i64 d.T,.int .i64 d.R],.agg #[.slice MA mn mc,.slice LA ln lc,.int .i64 t.pad,.int .i64 t.ram]] w fun e w'=>e = .returned (.bool true)∧Below w.heap.size w w':=by
 have hf:=tileOk_iff hk
 have hd:=hf.dev
 have hmn:(mn:Int)=5+4 * d.T:=by have:=hM.1;have:=hf.mux;have:=(muxN_bd hd).1;omega
 obtain ⟨e0,e1,hles,hl0,hl1⟩:=hf.les
 have hln:ln=2:=by have:=hL.elen;rw [hles] at this;exact this.symm
 subst hln
 have h1:inR t.pad 0 3=true:=inR_iff.2 hf.pad
 have h2:inR t.ram 0 31=true:=inR_iff.2 hf.ram
 have HD:=Lib.hid hd
 have HM:=Lib.hid hM
 have HL:=Lib.hid hL
 have HF:=Lib.hid hf
 have HLS:=Lib.hid hles
 have q1:((mn:Int) != 5+4 * d.T)=false:=by simp [hmn]
 have HMN:=Lib.hid hmn
 have HDO:=Lib.hid (fun w'=>by have h:=sdeviceOk_any d w';rw [hd] at h;exact h)
 have HMC:=Lib.hid (fun w'=>smuxCount_any d w' hd)
 clear hM hL hk hf hles hmn hd
 go_enter Try.func86,Try.ntmps86
 go_wp2_with fail
 have X0:=Lib.hid (heap_al (.cells #[.slice MA mn mc,.slice LA 2 lc,.int .i64 t.pad,.int .i64 t.ram] 52) (heap_new w (.cells #[.int .i64 d.W,.int .i64 d.H,.int .i64 d.T,.int .i64 d.R] 29)))
 have X1:=Lib.hid (heap_newAt (w:=w.alloc (.cells #[.int .i64 d.W,.int .i64 d.H,.int .i64 d.T,.int .i64 d.R] 29)) (o := .cells #[.slice MA mn mc,.slice LA 2 lc,.int .i64 t.pad,.int .i64 t.ram] 52) (g:=w.heap.size+1) (by simp))
 have HB0:=Lib.hid (below_new (below_new (Below.refl w.heap.size w) (.cells #[.int .i64 d.W,.int .i64 d.H,.int .i64 d.T,.int .i64 d.R] 29)) (.cells #[.slice MA mn mc,.slice LA 2 lc,.int .i64 t.pad,.int .i64 t.ram] 52))
 generalize hW:(w.alloc (.cells #[.int .i64 d.W,.int .i64 d.H,.int .i64 d.T,.int .i64 d.R] 29)).alloc (.cells #[.slice MA mn mc,.slice LA 2 lc,.int .i64 t.pad,.int .i64 t.ram] 52)=w0 at *
 clear hW
 have hD:=(Below.refl w0.heap.size w0).drew
 have hl0':=heap_lt0 X0.out
 have hl1':=heap_lt0 X1.out
 obtain ⟨z0,z1,z2,z3⟩:=cell4 X0.out
 obtain ⟨y0,y1,y2,y3⟩:=cell4 X1.out
 go_region_held3 (fun w'=>Below w0.heap.size w0 w'∧∀b o,b<w0.heap.size→w'.cell? ⟨b,o,none⟩=w0.cell? ⟨b,o,none⟩)
  (first|exact ⟨hD,(bcell hD).1⟩)
  (first
   | (go_at_call 42;refine (HDO.out _).mono ?_;rintro e w5 ⟨rfl,b5⟩;replace hD:=below_tr hD b5;clear b5)
   | (go_at_call 122;refine (HMC.out _).mono ?_;rintro e w6 ⟨rfl,b6⟩;replace hD:=below_tr hD b6;clear b6)
   | (go_at_call 85;refine (l01In_any _ _ _ _).mono ?_;rintro e' w' ⟨rfl,rfl⟩;first|rw [h1]|rw [h2]))
 have HW6:=Lib.hid (below_tr HB0.out hD)
 have X06:=Lib.hid (heap_tr hD X0.out)
 have X16:=Lib.hid (heap_tr hD X1.out)
 have HLE:Hid (∀e:Nat,e<2→LeFit (t.les[e]?.getD Le.zero)):=by
  intro e he
  rw [HLS.out]
  have:e=0∨e=1:=by omega
  rcases this with rfl|rfl
  ·exact leOk_iff hl0
  ·exact leOk_iff hl1
 have HML:Hid (t.mux.length=mn):=HM.out.1
 have hmb:mn≤21:=by have h1:=HF.out.mux;have h2:=(muxN_bd HD.out).2.2.1;have h3:=HML.out;omega
 clear z0 z1 z2 z3 y0 y1 y2 y3 hl0' hl1' X0 X1 HB0 h1 h2 q1 hl0 hl1 hD
 obtain ⟨y0,y1,y2,y3⟩:=cell4 X16.out
 go_wp2_with fail
 go_loopw [5] (fun i wr=>∃k:Nat,k≤mn∧i = .int .i64 k∧w6=wr) (fun i _=>mn - (intOf i).toNat)
 case atStart=>exact ⟨0,Nat.zero_le _,rfl,rfl⟩
 case round =>
  obtain ⟨k,hk,rfl,rfl⟩:=hrel
  by_cases hlt:k<mn
  ·have hdk:decide ((k:Int)<(mn:Int))=true:=by simp;omega
   obtain ⟨b,o,rfl,hb,hc⟩:=HM.out.2 (by omega)
   have hck:=hc k hlt
   rw [←HW6.out.cell (p:=⟨b,o+k,none⟩) hb] at hck
   have hin:inR (t.mux[k]?.getD 0) 0 31=true:=inR_iff.2 (HF.out.muxIn k (by rw [HML.out];exact hlt))
   have i0:(0:Int)≤(k:Int):=by omega
   have i1:(k:Int)<(mn:Int):=by omega
   clear hc
   generalize t.mux[k]?.getD 0=x at *
   go_wp2_with (go_at_call 85;refine (l01In_any _ _ _ _).mono ?_;rintro e' w' ⟨rfl,hq⟩;subst hq;rw [hin])
   go_roundw
   case rel=>exact ⟨k+1,by omega,by go_num,trivial⟩
   case measure=>simp [intOf];omega
  ·have hkn:k=mn:=by omega
   subst hkn
   have hdk:decide ((k:Int)<(k:Int))=false:=by simp
   clear hlt hk
   go_wp2_with fail
   go_loopw [6] (fun i wr=>∃e:Nat,e≤2∧i = .int .i64 e∧Below w6.heap.size w6 wr) (fun i _=>2 - (intOf i).toNat)
   case atStart=>exact ⟨0,by omega,rfl,Below.refl _ _⟩
   case round =>
    obtain ⟨e,he,rfl,hb⟩:=hrel
    have HB:=Lib.hid hb
    have HWR:=Lib.hid (below_tr HW6.out hb)
    have X1R:=Lib.hid (heap_tr hb X16.out)
    have hl1:=heap_lt0 X1R.out
    clear hb y0 y1 y2 y3
    obtain ⟨y0,y1,y2,y3⟩:=cell4 X1R.out
    by_cases hlt:e<2
    ·have hde:decide ((e:Int)<2)=true:=by simp;omega
     have hle:=HLE.out e hlt
     obtain ⟨bl,ol,S4,m4,p4,rfl,hbl,d0,d1,d2,d3,r4⟩:=HL.out.le (k:=e) (by rw [HLS.out];exact hlt)
     have hS:=RdC.ints r4
     have hS4:m4=4:=by have:=hS.1;obtain ⟨a,b,c,d',h,_⟩:=hle.sel;rw [h] at this;exact this.symm
     subst hS4
     have h1:inR (t.les[e]?.getD Le.zero).mask 0 65535=true:=inR_iff.2 hle.mask
     have h2:inR (t.les[e]?.getD Le.zero).flop 0 1=true:=inR_iff.2 hle.flop
     have h3:inR (t.les[e]?.getD Le.zero).init 0 1=true:=inR_iff.2 hle.init
     have hsi:=(sel_fit hle).2
     have HSI:=Lib.hid hsi
     have HSE:=Lib.hid hS
     obtain ⟨hcc,hff⟩:=bcell HWR.out
     have j0:(0:Int)≤(e:Int):=by omega
     have j1:(e:Int)<2:=by omega
     clear hle hS r4 hsi
     generalize t.les[e]?.getD Le.zero=le at *
     go_wp2_with (go_at_call 85;refine (l01In_any _ _ _ _).mono ?_;rintro e' w' ⟨rfl,hq⟩;subst hq;first|rw [h1]|rw [h2]|rw [h3])
     obtain ⟨bs,os,rfl,hbs,hcs⟩:=HSE.out.2 (by omega)
     have hbsr:bs<wr.heap.size:=by have:=HWR.out.size;omega
     have hw0:w.heap.size+1<wr.heap.size:=hl1
     have HBX:=Lib.hid (below_new (Below.refl wr.heap.size wr) (.cells #[.slice (some ⟨bs,os,none⟩) 4 p4,.int .i64 le.mask,.int .i64 le.flop,.int .i64 le.init] 107))
     go_loopw [8] (fun i wx=>∃j:Nat,j≤4∧i = .int .i64 j∧(wr.alloc (.cells #[.slice (some ⟨bs,os,none⟩) 4 p4,.int .i64 le.mask,.int .i64 le.flop,.int .i64 le.init] 107))=wx) (fun i _=>4 - (intOf i).toNat)
     case atStart=>exact ⟨0,by omega,rfl,rfl⟩
     case round =>
      obtain ⟨j,hj,rfl,rfl⟩:=hrel
      by_cases hjl:j<4
      ·have hdj:decide ((j:Int)<4)=true:=by simp;omega
       have hck:=hcs j hjl
       have hin:inR (le.sel[j]?.getD 0) 0 7=true:=inR_iff.2 (HSI.out j hjl)
       have m0:(0:Int)≤(j:Int):=by omega
       have m1:(j:Int)<4:=by omega
       clear hcs
       generalize le.sel[j]?.getD 0=x at *
       go_wp2_with (go_at_call 85;refine (l01In_any _ _ _ _).mono ?_;rintro e' w' ⟨rfl,rfl⟩;rw [hin])
       go_roundw
       case rel=>exact ⟨j+1,by omega,by go_num,trivial⟩
       case measure=>simp [intOf];omega
      ·have hj4:j=4:=by omega
       subst hj4
       have hdj:decide (((4:Nat):Int)<4)=false:=by decide
       clear hjl hj
       go_wp2_with fail
       go_roundw
       case rel=>exact ⟨e+1,by omega,by go_num,below_tr HB.out HBX.out⟩
       case measure=>simp [intOf];omega
    ·have he2:e=2:=by omega
     subst he2
     have hde:decide (((2:Nat):Int)<2)=false:=by decide
     clear hlt he
     go_wp2_with fail
     go_ret
     exact ⟨rfl,HWR.out⟩
end Go.Proofs.Ytbnfdhidgdfbeaa
