/- Packed bits as integers. EncodeTile of the reference for a valid tile: its words. -/
import Derived.Test.YtbnfdhidgdfbeaaDec
import Derived.Test.YtbnfdhidgdfbeaaEncS
import Derived.Test.YtbnfdhidgdfbeaaFrame
namespace Go.Proofs.Ytbnfdhidgdfbeaa
set_option maxRecDepth 100000
open Go.RowKit Cw

def packI (N:Nat) (bs:List Nat) (k:Nat):List Int:=(packTo N bs k).map fun (x:Nat)=>(x:Int)
theorem packI_length (N:Nat) (bs:List Nat) (k:Nat):(packI N bs k).length=N:=by simp [packI,packTo_length]
theorem packI_get (N:Nat) (bs:List Nat) (k j:Nat):(packI N bs k)[j]?.getD 0=(((packTo N bs k)[j]?.getD 0:Nat):Int):=by
 simp only [packI,List.getElem?_map]
 cases (packTo N bs k)[j]? <;> rfl
theorem packI_succ (N:Nat) (bs:List Nat) (k:Nat):packI N bs (k+1)=(packI N bs k).set (k / 16) ((((packTo N bs k)[k / 16]?.getD 0+(bs[k]?.getD 0) * 2 ^ (k % 16):Nat)):Int):=by
 simp only [packI,packTo,List.map_set]
end Go.Proofs.Ytbnfdhidgdfbeaa

namespace Go.Proofs.Ytbnfdhidgdfbeaa
set_option maxRecDepth 100000
open Go.RowKit Cw

theorem flat_snoc {α β:Type} {f:α→List β} {xs:List α} {k:Nat} {x:α} (h:xs[k]?=some x):(xs.take (k+1)).flatMap f=(xs.take k).flatMap f++f x:=by
 rw [List.take_add_one,h]
 simp
theorem add_bit15 {a b k:Nat} (ha:a<2 ^ k) (hb:b≤1) (hk:k≤15):wrap64 ((a:Int)+wrap64 ((b:Int) * 2 ^ k))=((a+b * 2 ^ k:Nat):Int):=by
 rw [wrap_bit hb (by omega)]
 have hp:2 ^ k≤2 ^ 15:=Nat.pow_le_pow_right (by omega) hk
 have h2:b * 2 ^ k≤1 * 2 ^ k:=Nat.mul_le_mul_right _ hb
 rw [←Int.natCast_add]
 exact IntWalk.wrap64_in _ (by omega)
theorem natPos {x:Int} {M:Int} (h:0≤x∧x≤M):∃n:Nat,x=(n:Int)∧(n:Int)≤M:=by
 obtain ⟨n,rfl⟩:=Int.eq_ofNat_of_zero_le h.1
 exact ⟨n,rfl,h.2⟩
set_option maxHeartbeats 4000000 in
theorem sencodeTile_yes (d:Dev) (t:Tile) (MA:Option Addr) (mn mc:Nat) (LA:Option Addr) (ln lc:Nat) (w:World) (hM:Ints w MA mn t.mux) (hL:RdC w w.heap.size (celE t.les) (.slice LA ln lc)) (hk:tileOk d t=true) :
  Calls Try.prog 43 #[.agg #[.int .i64 d.W,.int .i64 d.H,.int .i64 d.T,.int .i64 d.R],.agg #[.slice MA mn mc,.slice LA ln lc,.int .i64 t.pad,.int .i64 t.ram]] w fun e w'=>∃A' n' c',e = .returned (.tuple #[.slice A' n' c',.bool true])∧Own w.heap.size w' A' n' c' (encT d t)∧Below w.heap.size w w':=by
 have hf:=tileOk_iff hk
 have hd:=hf.dev
 obtain ⟨e0,e1,hles,hl0,hl1⟩:=hf.les
 have hln:ln=2:=by have:=hL.elen;rw [hles] at this;exact this.symm
 subst hln
 have HB0:=Lib.hid (below_new (below_new (Below.refl w.heap.size w) (.cells #[.int .i64 d.W,.int .i64 d.H,.int .i64 d.T,.int .i64 d.R] 29)) (.cells #[.slice MA mn mc,.slice LA 2 lc,.int .i64 t.pad,.int .i64 t.ram] 52))
 have X0:=Lib.hid (heap_al (.cells #[.slice MA mn mc,.slice LA 2 lc,.int .i64 t.pad,.int .i64 t.ram] 52) (heap_new w (.cells #[.int .i64 d.W,.int .i64 d.H,.int .i64 d.T,.int .i64 d.R] 29)))
 have X1:=Lib.hid (heap_newAt (w:=w.alloc (.cells #[.int .i64 d.W,.int .i64 d.H,.int .i64 d.T,.int .i64 d.R] 29)) (o := .cells #[.slice MA mn mc,.slice LA 2 lc,.int .i64 t.pad,.int .i64 t.ram] 52) (g:=w.heap.size+1) (by simp))
 have HTC:=Lib.hid (stileConfigOk_yes d t MA mn mc LA 2 lc ((w.alloc (.cells #[.int .i64 d.W,.int .i64 d.H,.int .i64 d.T,.int .i64 d.R] 29)).alloc (.cells #[.slice MA mn mc,.slice LA 2 lc,.int .i64 t.pad,.int .i64 t.ram] 52)) (hM.below HB0.out) (hL.below HB0.out) hk)
 have HM:=Lib.hid hM
 have HL:=Lib.hid hL
 have HF:=Lib.hid hf
 have HK:=Lib.hid hk
 have HD:=Lib.hid hd
 have HML:Hid (t.mux.length=mn):=hM.1
 have hmb:mn≤21:=by have h1:=hf.mux;have h2:=(muxN_bd hd).2.2.1;have h3:=HML.out;omega
 have HMN:Hid (mn=muxN d):=by show _=_;rw [←HML.out];exact hf.mux
 have HLS:Hid (t.les.length=2):=by show _=_;rw [hles];rfl
 have HLE:Hid (∀e:Nat,e<2→LeFit (t.les[e]?.getD Le.zero)):=by
  intro e he
  rw [hles]
  have:e=0∨e=1:=by omega
  rcases this with rfl|rfl
  ·exact leOk_iff hl0
  ·exact leOk_iff hl1
 clear hM hL hk hf hles hl0 hl1 hd
 go_enter Try.func43,Try.ntmps43
 go_wp2_with fail
 refine HTC.out.mono ?_
 rintro e w1 ⟨rfl,b1⟩
 have HW1:=Lib.hid (below_tr HB0.out b1)
 have hs1:=b1.size
 simp only [World.size_alloc] at hs1
 replace X0:=Lib.hid (heap_tr b1 X0.out)
 replace X1:=Lib.hid (heap_tr b1 X1.out)
 clear b1
 obtain ⟨y0,y1,y2,y3⟩:=cell4 X1.out
 go_wp2_with fail
 have O0:=Lib.hid (Own.new0 (w:=w1) (base:=w1.heap.size) (Nat.le_refl _))
 have B0:=Lib.hid (below_new (Below.refl w1.heap.size w1) (.cells #[] 3))
 go_loopw [6,7] (fun v i wr=>∃(k:Nat) (A':Option Addr) (c':Nat),k≤mn∧i = .int .i64 k∧v = .slice A' (5 * k) c'∧Own w1.heap.size wr A' (5 * k) c' (natI ((t.mux.take k).flatMap (putB 5)))∧Below w1.heap.size w1 wr) (fun _ i _=>mn - (intOf i).toNat)
 case atStart=>exact ⟨0,_,0,Nat.zero_le _,rfl,rfl,O0.out,B0.out⟩
 case round =>
  obtain ⟨k,A',c',hk,rfl,rfl,ho,hb⟩:=hrel
  have HO:=Lib.hid ho
  have HB:=Lib.hid hb
  have hsr:=hb.size
  have HWR:=Lib.hid (below_tr HW1.out hb)
  have X1R:=Lib.hid (heap_tr hb X1.out)
  clear ho hb y0 y1 y2 y3
  obtain ⟨y0,y1,y2,y3⟩:=cell4 X1R.out
  by_cases hlt:k<mn
  ·have hdk:decide ((k:Int)<(mn:Int))=true:=by simp;omega
   obtain ⟨b,o,rfl,hb,hc⟩:=HM.out.2 (by omega)
   have hck:=hc k hlt
   rw [←HWR.out.cell (p:=⟨b,o+k,none⟩) hb] at hck
   obtain ⟨x,hx,hx2⟩:=natPos (HF.out.muxIn k (by rw [HML.out];exact hlt))
   have HSN:=Lib.hid (flat_snoc (f:=putB 5) (getD_some 0 (by rw [HML.out];exact hlt):t.mux[k]?=some (t.mux[k]?.getD 0)))
   have i0:(0:Int)≤(k:Int):=by omega
   have i1:(k:Int)<(mn:Int):=by omega
   rw [hx] at hck HSN
   clear hc hx
   go_wp2_with fail
   refine (l38Put_any w1.heap.size A' (5 * k) c' ((t.mux.take k).flatMap (putB 5)) x 5 w1 _ HO.out HB.out (by omega) (by omega) (by omega) (by omega)).mono ?_
   rintro e w5 ⟨A5,c5,rfl,o5,b5,s5⟩
   have O5:=Lib.hid o5
   have B5:=Lib.hid b5
   clear o5 b5
   go_wp2_with fail
   go_roundw
   case rel=>exact ⟨k+1,A5,c5,by omega,by go_num,by rw [show 5 * (k+1)=5 * k+5 by omega],by rw [HSN.out,show 5 * (k+1)=5 * k+5 by omega];exact O5.out,B5.out⟩
   case measure=>simp [intOf];omega
  ·have hkn:k=mn:=by omega
   subst hkn
   have hdk:decide ((k:Int)<(k:Int))=false:=by simp
   have HO2:Hid (Own w1.heap.size wr A' (5 * k) c' (natI (t.mux.flatMap (putB 5)))):=by
    have h:=HO.out
    rwa [List.take_of_length_le (by rw [HML.out];exact Nat.le_refl _)] at h
   clear hlt hk
   go_wp2_with fail
   generalize hB0:t.mux.flatMap (putB 5)=bs0 at *
   have HBS0:=Lib.hid hB0
   clear hB0 y0 y1 y2 y3
   have HBR:=HB
   go_loopw [6,8] (fun v i wx=>∃(e:Nat) (A':Option Addr) (c':Nat),e≤2∧i = .int .i64 e∧v = .slice A' (5 * k+30 * e) c'∧Own w1.heap.size wx A' (5 * k+30 * e) c' (natI (bs0++(t.les.take e).flatMap Le.bits))∧Below w1.heap.size w1 wx) (fun _ i _=>2 - (intOf i).toNat)
   case atStart=>exact ⟨0,A',c',by omega,rfl,rfl,by simpa using HO2.out,HBR.out⟩
   case round =>
    obtain ⟨e,A2,c2,he,rfl,rfl,ho,hb⟩:=hrel
    have HO3:=Lib.hid ho
    have HB3:=Lib.hid hb
    clear ho hb
    by_cases hlt:e<2
    ·have hde:decide ((e:Int)<2)=true:=by simp;omega
     have hle:=HLE.out e hlt
     obtain ⟨bl,ol,S4,m4,p4,rfl,hbl,d0,d1,d2,d3,r4⟩:=HL.out.le (k:=e) (by rw [HLS.out];exact hlt)
     have hS:=RdC.ints r4
     have hS4:m4=4:=by have:=hS.1;obtain ⟨a,b,c,d',h,_⟩:=hle.sel;rw [h] at this;exact this.symm
     subst hS4
     have HSL:Hid ((t.les[e]?.getD Le.zero).sel.length=4):=hS.1
     have HSN:=Lib.hid (flat_snoc (f:=Le.bits) (getD_some Le.zero (by rw [HLS.out];exact hlt):t.les[e]?=some (t.les[e]?.getD Le.zero)))
     have hsi:=(sel_fit hle).2
     have HSI:=Lib.hid hsi
     have HSE:=Lib.hid hS
     have HLF:=Lib.hid hle
     have j0:(0:Int)≤(e:Int):=by omega
     have j1:(e:Int)<2:=by omega
     have D0:=Lib.hid d0
     have D1:=Lib.hid d1
     have D2:=Lib.hid d2
     have D3:=Lib.hid d3
     clear hle hS r4 hsi d0 d1 d2 d3
     generalize t.les[e]?.getD Le.zero=le at *
     generalize hBe:bs0++(t.les.take e).flatMap Le.bits=bse at *
     have HBE:=Lib.hid hBe
     clear hBe
     go_wp2_with fail
     go_loopw [6,9] (fun v i wx=>∃(j:Nat) (A':Option Addr) (c':Nat),j≤4∧i = .int .i64 j∧v = .slice A' (5 * k+30 * e+3 * j) c'∧Own w1.heap.size wx A' (5 * k+30 * e+3 * j) c' (natI (bse++(le.sel.take j).flatMap (putB 3)))∧Below w1.heap.size w1 wx) (fun _ i _=>4 - (intOf i).toNat)
     case atStart=>exact ⟨0,A2,c2,by omega,rfl,rfl,by simpa using HO3.out,HB3.out⟩
     case round =>
      obtain ⟨j,A3,c3,hj,rfl,rfl,ho,hb⟩:=hrel
      have HO4:=Lib.hid ho
      have HB4:=Lib.hid hb
      have hsr4:=hb.size
      have X1R:=Lib.hid (heap_tr hb X1.out)
      obtain ⟨y0,y1,y2,y3⟩:=cell4 X1R.out
      obtain ⟨hcc,hff⟩:=bcell (below_tr HW1.out hb)
      have hblr:bl<wr.heap.size:=by omega
      clear ho hb
      by_cases hjl:j<4
      ·have hdj:decide ((j:Int)<4)=true:=by simp;omega
       obtain ⟨bs,os,rfl,hbs,hcs⟩:=HSE.out.2 (by omega)
       have hck:=hcs j hjl
       have hbsr:bs<wr.heap.size:=by omega
       obtain ⟨x,hx,hx2⟩:=natPos (HSI.out j hjl)
       have HSM:=Lib.hid (flat_snoc (f:=putB 3) (getD_some 0 (by rw [HSL.out];exact hjl):le.sel[j]?=some (le.sel[j]?.getD 0)))
       have m0:(0:Int)≤(j:Int):=by omega
       have m1:(j:Int)<4:=by omega
       have d0:=D0.out
       rw [hx] at hck HSM
       clear hcs hx
       go_wp2_with fail
       refine (l38Put_any w1.heap.size A3 (5 * k+30 * e+3 * j) c3 (bse++(le.sel.take j).flatMap (putB 3)) x 3 w1 _ HO4.out HB4.out (by omega) (by omega) (by omega) (by omega)).mono ?_
       rintro e5 w5 ⟨A5,c5,rfl,o5,b5,s5⟩
       have O5:=Lib.hid o5
       have B5:=Lib.hid b5
       clear o5 b5 hcc hff
       go_wp2_with fail
       go_roundw
       case rel=>exact ⟨j+1,A5,c5,by omega,by go_num,by rw [show 5 * k+30 * e+3 * (j+1)=5 * k+30 * e+3 * j+3 by omega],by rw [HSM.out,←List.append_assoc,show 5 * k+30 * e+3 * (j+1)=5 * k+30 * e+3 * j+3 by omega];exact O5.out,B5.out⟩
       case measure=>simp [intOf];omega
      ·have hj4:j=4:=by omega
       subst hj4
       have hdj:decide (((4:Nat):Int)<4)=false:=by decide
       have HO5:Hid (Own w1.heap.size wr A3 (5 * k+30 * e+12) c3 (natI (bse++le.sel.flatMap (putB 3)))):=by
        have h:=HO4.out
        rwa [List.take_of_length_le (by rw [HSL.out];exact Nat.le_refl _)] at h
       obtain ⟨mk,hmk,hmk2⟩:=natPos HLF.out.mask
       obtain ⟨fl,hfl,hfl2⟩:=natPos HLF.out.flop
       obtain ⟨ini,hini,hini2⟩:=natPos HLF.out.init
       have d1:=D1.out
       have d2:=D2.out
       have d3:=D3.out
       rw [hmk] at d1
       rw [hfl] at d2
       rw [hini] at d3
       have HLB:Hid (((bse++le.sel.flatMap (putB 3))++putB 16 (mk:Int))++putB 1 (fl:Int)++putB 1 (ini:Int)=bse++le.bits):=by
        show _=_
        rw [Le.bits,hmk,hfl,hini]
        simp only [List.append_assoc]
       clear hjl hj hmk hfl hini
       go_wp2_with fail
       refine (l38Put_any w1.heap.size A3 (5 * k+30 * e+12) c3 (bse++le.sel.flatMap (putB 3)) mk 16 w1 _ HO5.out HB4.out (by omega) (by omega) (by omega) (by omega)).mono ?_
       rintro e5 w5 ⟨A5,c5,rfl,o5,b5,s5⟩
       have O5:=Lib.hid o5
       have B5:=Lib.hid b5
       have hw5:w.heap.size+1<w5.heap.size:=by omega
       have X5:=Lib.hid (heap_tr B5.out X1.out)
       obtain ⟨hcc5,hff5⟩:=bcell (below_tr HW1.out B5.out)
       clear o5 b5
       obtain ⟨u0,u1,u2,u3⟩:=cell4 X5.out
       clear hcc hff y0 y1 y2 y3
       go_wp2_with fail
       refine (l38Put_any w1.heap.size A5 (5 * k+30 * e+12+16) c5 ((bse++le.sel.flatMap (putB 3))++putB 16 (mk:Int)) fl 1 w1 _ O5.out B5.out (by omega) (by omega) (by omega) (by omega)).mono ?_
       rintro e6 w6 ⟨A6,c6,rfl,o6,b6,s6⟩
       have O6:=Lib.hid o6
       have B6:=Lib.hid b6
       have hw6:w.heap.size+1<w6.heap.size:=by omega
       have X6:=Lib.hid (heap_tr B6.out X1.out)
       obtain ⟨hcc6,hff6⟩:=bcell (below_tr HW1.out B6.out)
       clear o6 b6
       clear hcc5 hff5 u0 u1 u2 u3
       obtain ⟨u0,u1,u2,u3⟩:=cell4 X6.out
       go_wp2_with fail
       refine (l38Put_any w1.heap.size A6 (5 * k+30 * e+12+16+1) c6 (((bse++le.sel.flatMap (putB 3))++putB 16 (mk:Int))++putB 1 (fl:Int)) ini 1 w1 _ O6.out B6.out (by omega) (by omega) (by omega) (by omega)).mono ?_
       rintro e7 w7 ⟨A7,c7,rfl,o7,b7,s7⟩
       have O7:=Lib.hid o7
       have B7:=Lib.hid b7
       have hw7:w.heap.size+1<w7.heap.size:=by omega
       have X7:=Lib.hid (heap_tr B7.out X1.out)
       obtain ⟨hcc7,hff7⟩:=bcell (below_tr HW1.out B7.out)
       clear o7 b7
       clear hcc6 hff6 u0 u1 u2 u3 hcc7 hff7
       go_wp2_with fail
       go_roundw
       case rel=>exact ⟨e+1,A7,c7,by omega,by go_num,by rw [show 5 * k+30 * (e+1)=5 * k+30 * e+12+16+1+1 by omega],by rw [HSN.out,←List.append_assoc,HBE.out,show 5 * k+30 * (e+1)=5 * k+30 * e+12+16+1+1 by omega,←HLB.out];exact O7.out,B7.out⟩
       case measure=>simp [intOf];omega
    ·have he2:e=2:=by omega
     subst he2
     have hde:decide (((2:Nat):Int)<2)=false:=by decide
     have HO8:Hid (Own w1.heap.size wr A2 (5 * k+60) c2 (natI (bs0++t.les.flatMap Le.bits))):=by
      have h:=HO3.out
      rwa [List.take_of_length_le (by rw [HLS.out];exact Nat.le_refl _)] at h
     have X1R:=Lib.hid (heap_tr HB3.out X1.out)
     have hsr8:=HB3.out.size
     have hwr8:w.heap.size+1<wr.heap.size:=by omega
     obtain ⟨pd,hpd,hpd2⟩:=natPos HF.out.pad
     obtain ⟨rm,hrm,hrm2⟩:=natPos HF.out.ram
     obtain ⟨y0,y1,y2,y3⟩:=cell4 X1R.out
     have HTB:Hid (((bs0++t.les.flatMap Le.bits)++putB 2 (pd:Int))++putB 5 (rm:Int)=t.bits):=by
      show _=_
      rw [Tile.bits,HBS0.out,hpd,hrm]
      simp only [List.append_assoc]
     have HTL:Hid (t.bits.length=5 * k+67):=by show _=_;rw [tile_bits_length HK.out,←HMN.out]
     rw [hpd] at y2
     clear hlt he hpd
     go_wp2_with fail
     refine (l38Put_any w1.heap.size A2 (5 * k+60) c2 (bs0++t.les.flatMap Le.bits) pd 2 w1 _ HO8.out HB3.out (by omega) (by omega) (by omega) (by omega)).mono ?_
     rintro e5 w5 ⟨A5,c5,rfl,o5,b5,s5⟩
     have O5:=Lib.hid o5
     have B5:=Lib.hid b5
     have X5:=Lib.hid (heap_tr B5.out X1.out)
     have hw5:w.heap.size+1<w5.heap.size:=by omega
     clear o5 b5
     clear y0 y1 y2 y3
     obtain ⟨y0,y1,y2,y3⟩:=cell4 X5.out
     rw [hrm] at y3
     clear hrm
     go_wp2_with fail
     refine (l38Put_any w1.heap.size A5 (5 * k+60+2) c5 ((bs0++t.les.flatMap Le.bits)++putB 2 (pd:Int)) rm 5 w1 _ O5.out B5.out (by omega) (by omega) (by omega) (by omega)).mono ?_
     rintro e6 w6 ⟨A6,c6,rfl,o6,b6,s6⟩
     have O6:=Lib.hid o6
     have B6:=Lib.hid b6
     have X6:=Lib.hid (heap_tr B6.out X1.out)
     have hw6:w.heap.size+1<w6.heap.size:=by omega
     clear o6 b6
     clear y0 y1 y2 y3
     have HO6:Hid (Own w1.heap.size w6 A6 (5 * k+67) c6 (natI t.bits)):=by
      have h:=O6.out
      rw [HTB.out] at h
      exact h
     have X06:=Lib.hid (heap_tr B6.out X0.out)
     obtain ⟨z0,z1,z2,z3⟩:=cell4 X06.out
     have hw60:w.heap.size<w6.heap.size:=by omega
     go_wp2_with fail
     have hfw:=sframeWords_any d w6 HD.out
     obtain ⟨N,hN⟩:∃N:Nat,fwI d=(N:Int):=⟨(fwI d).toNat,by have:=(fwI_bd HD.out).1;omega⟩
     have hNb:5 * k+67≤16 * N∧N≤11:=by
      have h1:=muxN_bd HD.out
      have h2:=HMN.out
      have h3:(fwI d).toNat=N:=by omega
      rw [h3] at h1
      omega
     have HENC:Hid (encT d t=packI N t.bits (5 * k+67)):=by
      show _=_
      rw [encT,HTL.out,show (fwI d).toNat=N by omega]
      rfl
     rw [hN] at hfw
     clear hN
     refine hfw.mono ?_
     rintro e7 w7 ⟨rfl,b7⟩
     have B7:=Lib.hid (below_tr B6.out b7)
     have HO7:=Lib.hid (HO6.out.below b7)
     have hs7:=b7.size
     obtain ⟨i0,hi,hz0,hz1,hz2⟩:=info_parts int_info
     have hmk:=fun W=>run_make_rowN (P:=Try.prog) 44 3 i0 _ Try.underlying44 hi hz0 .i64 .i64 N N (Nat.le_refl _) (by rw [hz2];omega) (by omega) W
     rw [hz1,Nat.mul_one,show (Value.int .i64 0).cells=#[Value.int .i64 0] from rfl,arr_made] at hmk
     clear hi hz0 hz1 hz2 b7 hfw z0 z1 z2 z3
     go_wp2_with fail
     clear hmk
     obtain ⟨gb,curb,rfl,hgb,hgb2,-⟩:=HO7.out.block (by omega)
     have hrep:packI N t.bits 0=List.replicate N 0:=by simp [packI,packTo]
     have H0:Hid ((w7.alloc (.cells (arr (List.replicate N 0)) 3)).heap[w7.heap.size]?=some (.cells (arr (packI N t.bits 0)) 3 (0,0))):=by rw [hrep];exact heap_new w7 _
     have hb01:=Tile.bits01 t
     clear hrep
     generalize t.bits=tb at *
     generalize hL:5 * k+67=L at *
     have HLL:=Lib.hid hL
     have hLb:L≤176:=by omega
     clear hL
     go_loopw [11] (fun i wx=>∃a:Nat,a≤L∧i = .int .i64 a∧wx.heap[w7.heap.size]?=some (.cells (arr (packI N tb a)) 3 (0,0))∧Below w7.heap.size w7 wx) (fun i _=>L - (intOf i).toNat)
     case atStart=>exact ⟨0,by omega,rfl,H0.out,below_new (Below.refl _ _) _⟩
     case round =>
      obtain ⟨a,ha,rfl,hg,hb⟩:=hrel
      have HG:=Lib.hid hg
      have HB:=Lib.hid hb
      by_cases hal:a<L
      ·have hda:decide ((a:Int)<(L:Int))=true:=by simp;omega
       obtain ⟨zb,yb⟩:=(HO7.out.below hb).cellAt hal
       have hv:(natI tb)[a]?.getD 0=((tb[a]?.getD 0:Nat):Int):=by
        simp only [natI,List.getElem?_map]
        cases tb[a]? <;> rfl
       rw [hv] at zb
       have zg:=cell_heap (k:=a / 16) hg (arr_get (by rw [packI_length];omega))
       have yg:=frozen_heap hg (a / 16)
       rw [packI_get] at zg
       have hgbw:gb<wr.heap.size:=by have:=hb.size;omega
       have hne:gb≠w7.heap.size:=by omega
       have hP:=packTo_top (N:=N) hb01 a
       have hb1:=hb01 a
       have HPS:=Lib.hid (packI_succ N tb a)
       have e1:(a:Int).tmod 16=((a % 16:Nat):Int):=by rw [Int.tmod_eq_emod_of_nonneg (by omega)];omega
       have e2:IntKind.i64.wrap ((a:Int).tdiv 16)=((a / 16:Nat):Int):=by rw [IntWalk.i64_quo _ _ ⟨by omega,by omega,by omega⟩];omega
       have f1:IntKind.i64.wrap ((a:Int) / 16)=(a:Int) / 16:=IntWalk.i64_in _ (by omega)
       have q0:(0:Int)≤((a / 16:Nat):Int):=by omega
       have q1:((a / 16:Nat):Int)<(N:Int):=by omega
       have p0:(0:Int)≤(a:Int) / 16:=by omega
       have p1:(a:Int) / 16<(N:Int):=by omega
       have p2:(0:Int)≤(a:Int) % 16:=by omega
       have p3:(a:Int) % 16<16:=by omega
       have i0:(0:Int)≤(a:Int):=by omega
       have i1:(a:Int)<(L:Int):=by omega
       have zg2:wr.cell? ⟨w7.heap.size,((a:Int) / 16).toNat,none⟩=some (.int .i64 (((packTo N tb a)[a / 16]?.getD 0:Nat):Int)):=by rw [show ((a:Int) / 16).toNat=a / 16 by omega];exact zg
       have yg2:wr.frozen? ⟨w7.heap.size,((a:Int) / 16).toNat,none⟩=false:=by rw [show ((a:Int) / 16).toNat=a / 16 by omega];exact yg
       clear hg hb hv
       generalize (packTo N tb a)[a / 16]?.getD 0=P at *
       generalize tb[a]?.getD 0=bt at *
       have HVAL:=Lib.hid (add_bit15 hP hb1 (show a % 16≤15 by omega))
       clear hP hb1
       go_wp2_with fail
       go_region_with (fail)
       all_goals
        go_wp2_with fail
        go_roundw
        case rel =>
         refine ⟨a+1,by omega,by go_num,?_,?_⟩
         ·rw [HPS.out,←arr_set,←HVAL.out]
          repeat (first|exact heap_set HG.out (a / 16) _|exact heap_set (heap_dr HG.out) (a / 16) _|refine heap_dr ?_)
         ·repeat (first|exact HB.out|refine Below.setCell ?_ (by simp) _|refine Below.drew ?_)
        case measure=>simp [intOf];omega
      ·have haL:a=L:=by omega
       subst haL
       have hda:decide ((a:Int)<(a:Int))=false:=by simp
       have HFIN:Hid (Own w.heap.size wr (some ⟨w7.heap.size,0,none⟩) N N (encT d t)):=by
        show Own _ _ _ _ _ _
        rw [HENC.out]
        exact Own.arr HG.out (by have:=(below_tr HW1.out B7.out).size;omega) (by unfold maxLen;omega) (packI_length _ _ _)
       go_wp2_with fail
       go_ret2
       exact ⟨_,_,_,rfl,HFIN.out,below_tr HW1.out (below_tr B7.out HB.out)⟩
end Go.Proofs.Ytbnfdhidgdfbeaa
