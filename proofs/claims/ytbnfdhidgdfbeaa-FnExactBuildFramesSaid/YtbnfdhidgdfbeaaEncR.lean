/- EncodeTile of the program. -/
import Derived.Test.YtbnfdhidgdfbeaaEncQ
namespace Go.Proofs.Ytbnfdhidgdfbeaa
set_option maxRecDepth 100000
open Go.RowKit Cw

theorem packI_zero (N:Nat) (bs:List Nat):packI N bs 0=List.replicate N 0:=by simp [packI,packTo]
theorem two_below {g gw Z:Nat} {w w':World} (h:Two2 g gw w w') (h1:Z≤g) (h2:Z≤gw):Below Z w w':=⟨h.os,h.tape,h.output,Nat.le_of_eq h.size.symm,fun k hk=>h.block k (by omega) (by omega)⟩
/-- A writer of bits that has put k of them, and that all else from gw on is new. -/
structure PW (W w:World) (gw N:Nat) (bs:List Nat) (k:Nat):Prop where
 wr:w.heap[gw+1]?=some (.cells #[.slice (some ⟨gw,0,none⟩) N N,.int .i64 (k:Int)] 113 (0,0))
 wo:w.heap[gw]?=some (.cells (arr (packI N bs k)) 3 (0,0))
 be:Below gw W w
theorem PW.put {W w:World} {gw N:Nat} {bs:List Nat} {k:Nat} (h:PW W w gw N bs k) (hb:Bits01 bs) (cnt x:Nat) (hx:∀i,i<cnt→bs[k+i]?.getD 0=bit x i) (hc:cnt≤16) (hxb:x<65536) (hN:k+cnt≤16 * N) (hN2:N≤1000) :
  Calls Try.prog 95 #[.pointer (some ⟨gw+1,0,none⟩),.int .i64 (x:Int),.int .i64 (cnt:Int)] w fun e' w'=>e' = .returned (.tuple #[])∧PW W w' gw N bs (k+cnt)∧Two2 (gw+1) gw w w' :=
 (put_any (gw+1) gw N bs hb k cnt x w h.wr h.wo hx hc hxb hN hN2 (by omega)).mono fun _ _ ⟨h1,h2,h3,h4⟩=>⟨h1,⟨h2,h3,h.be.trans (two_below h4 (by omega) (Nat.le_refl _))⟩,h4⟩
theorem PW.below {W w w':World} {gw N:Nat} {bs:List Nat} {k:Nat} (h:PW W w gw N bs k) (hb:Below w.heap.size w w') (hl:gw≤w.heap.size):PW W w' gw N bs k :=
 ⟨heap_tr hb h.wr,heap_tr hb h.wo,h.be.trans (hb.mono hl)⟩
set_option maxHeartbeats 4000000 in
theorem encodeTile_no (d:Dev) (t:Tile) (MA:Option Addr) (mn mc:Nat) (LA:Option Addr) (ln lc:Nat) (w:World) (hM:Ints w MA mn t.mux) (hL:RdC w w.heap.size (celE t.les) (.slice LA ln lc)) (hmn:mn≤1099511627776) (hsl:∀e:Nat,(t.les[e]?.getD Le.zero).sel.length≤1099511627776) (hk:tileOk d t=false) :
  Calls Try.prog 47 #[.agg #[.int .i64 d.W,.int .i64 d.H,.int .i64 d.T,.int .i64 d.R],.agg #[.slice MA mn mc,.slice LA ln lc,.int .i64 t.pad,.int .i64 t.ram]] w fun e w'=>e = .returned (.tuple #[.slice none 0 0,.bool false])∧Below w.heap.size w w':=by
 have HB0:=Lib.hid (below_new (below_new (Below.refl w.heap.size w) (.cells #[.int .i64 d.W,.int .i64 d.H,.int .i64 d.T,.int .i64 d.R] 29)) (.cells #[.slice MA mn mc,.slice LA ln lc,.int .i64 t.pad,.int .i64 t.ram] 52))
 have HTC:Hid (Calls Try.prog 94 #[.agg #[.int .i64 d.W,.int .i64 d.H,.int .i64 d.T,.int .i64 d.R],.agg #[.slice MA mn mc,.slice LA ln lc,.int .i64 t.pad,.int .i64 t.ram]] ((w.alloc (.cells #[.int .i64 d.W,.int .i64 d.H,.int .i64 d.T,.int .i64 d.R] 29)).alloc (.cells #[.slice MA mn mc,.slice LA ln lc,.int .i64 t.pad,.int .i64 t.ram] 52)) fun e w'=>e = .returned (.bool false)∧Below ((w.alloc (.cells #[.int .i64 d.W,.int .i64 d.H,.int .i64 d.T,.int .i64 d.R] 29)).alloc (.cells #[.slice MA mn mc,.slice LA ln lc,.int .i64 t.pad,.int .i64 t.ram] 52)).heap.size ((w.alloc (.cells #[.int .i64 d.W,.int .i64 d.H,.int .i64 d.T,.int .i64 d.R] 29)).alloc (.cells #[.slice MA mn mc,.slice LA ln lc,.int .i64 t.pad,.int .i64 t.ram] 52)) w'):=by
  have h:=tileConfigOk_any d t MA mn mc LA ln lc ((w.alloc (.cells #[.int .i64 d.W,.int .i64 d.H,.int .i64 d.T,.int .i64 d.R] 29)).alloc (.cells #[.slice MA mn mc,.slice LA ln lc,.int .i64 t.pad,.int .i64 t.ram] 52)) (hM.below HB0.out) (hL.below HB0.out) hmn hsl
  rwa [hk] at h
 clear hM hL hsl hk
 go_enter Try.func47,Try.ntmps47
 go_wp2_with fail
 refine HTC.out.mono ?_
 rintro e w1 ⟨rfl,b1⟩
 have HW1:=Lib.hid (below_tr HB0.out b1)
 clear b1
 go_wp2_with fail
 go_ret2
 exact ⟨rfl,HW1.out⟩
set_option maxHeartbeats 4000000 in
theorem encodeTile_yes (d:Dev) (t:Tile) (MA:Option Addr) (mn mc:Nat) (LA:Option Addr) (ln lc:Nat) (w:World) (hM:Ints w MA mn t.mux) (hL:RdC w w.heap.size (celE t.les) (.slice LA ln lc)) (hmn:mn≤1099511627776) (hsl:∀e:Nat,(t.les[e]?.getD Le.zero).sel.length≤1099511627776) (hk:tileOk d t=true) :
  Calls Try.prog 47 #[.agg #[.int .i64 d.W,.int .i64 d.H,.int .i64 d.T,.int .i64 d.R],.agg #[.slice MA mn mc,.slice LA ln lc,.int .i64 t.pad,.int .i64 t.ram]] w fun e w'=>∃A' n' c',e = .returned (.tuple #[.slice A' n' c',.bool true])∧Own w.heap.size w' A' n' c' (encT d t)∧Below w.heap.size w w':=by
 have HB0:=Lib.hid (below_new (below_new (Below.refl w.heap.size w) (.cells #[.int .i64 d.W,.int .i64 d.H,.int .i64 d.T,.int .i64 d.R] 29)) (.cells #[.slice MA mn mc,.slice LA ln lc,.int .i64 t.pad,.int .i64 t.ram] 52))
 have HTC:Hid (Calls Try.prog 94 #[.agg #[.int .i64 d.W,.int .i64 d.H,.int .i64 d.T,.int .i64 d.R],.agg #[.slice MA mn mc,.slice LA ln lc,.int .i64 t.pad,.int .i64 t.ram]] ((w.alloc (.cells #[.int .i64 d.W,.int .i64 d.H,.int .i64 d.T,.int .i64 d.R] 29)).alloc (.cells #[.slice MA mn mc,.slice LA ln lc,.int .i64 t.pad,.int .i64 t.ram] 52)) fun e w'=>e = .returned (.bool true)∧Below ((w.alloc (.cells #[.int .i64 d.W,.int .i64 d.H,.int .i64 d.T,.int .i64 d.R] 29)).alloc (.cells #[.slice MA mn mc,.slice LA ln lc,.int .i64 t.pad,.int .i64 t.ram] 52)).heap.size ((w.alloc (.cells #[.int .i64 d.W,.int .i64 d.H,.int .i64 d.T,.int .i64 d.R] 29)).alloc (.cells #[.slice MA mn mc,.slice LA ln lc,.int .i64 t.pad,.int .i64 t.ram] 52)) w'):=by
  have h:=tileConfigOk_any d t MA mn mc LA ln lc ((w.alloc (.cells #[.int .i64 d.W,.int .i64 d.H,.int .i64 d.T,.int .i64 d.R] 29)).alloc (.cells #[.slice MA mn mc,.slice LA ln lc,.int .i64 t.pad,.int .i64 t.ram] 52)) (hM.below HB0.out) (hL.below HB0.out) hmn hsl
  rwa [hk] at h
 have hf:=tileOk_iff hk
 have hd:=hf.dev
 obtain ⟨e0,e1,hles,hl0,hl1⟩:=hf.les
 have hln:ln=2:=by have:=hL.elen;rw [hles] at this;exact this.symm
 subst hln
 have hb0:=le_bits_length hl0
 have hb1:=le_bits_length hl1
 have hML:t.mux.length=mn:=hM.1
 have hmb:mn≤21:=by have h1:=hf.mux;have h2:=(muxN_bd hd).2.2.1;omega
 have hmn5:5 * mn+67≤16 * (fwI d).toNat:=by have h1:=hf.mux;have h2:=(muxN_bd hd).2.2.2.1;omega
 have hfw:=fwI_bd hd
 obtain ⟨N,hN⟩:∃N:Nat,fwI d=(N:Int):=⟨(fwI d).toNat,by omega⟩
 have hNN:(fwI d).toNat=N:=by omega
 have HBS:=Lib.hid t.bits01
 have HET:Hid (encT d t=packI N t.bits (5 * mn+67)):=by
  show _=_
  have hbl:=tile_bits_length hk
  rw [←hf.mux,hML] at hbl
  unfold encT packI
  rw [hNN,hbl]
 have HMB:Hid (∀i j,i<mn→j<5→t.bits[5 * i+j]?.getD 0=bit (t.mux[i]?.getD 0).toNat j):=fun i j hi hj=>tile_mux_bit hML hi hj
 have HLB:Hid (∀e q,e<2→q<30→t.bits[5 * mn+30 * e+q]?.getD 0=(t.les[e]?.getD Le.zero).bits[q]?.getD 0):=fun e q he hq=>tile_les_bit hML hles hb0 hb1 he hq
 have HPB:Hid (∀q,q<2→t.bits[5 * mn+60+q]?.getD 0=bit t.pad.toNat q):=fun q hq=>tile_pad_bit hML hles hb0 hb1 hq
 have HRB:Hid (∀q,q<5→t.bits[5 * mn+62+q]?.getD 0=bit t.ram.toNat q):=fun q hq=>tile_ram_bit hML hles hb0 hb1 hq
 have HLE:Hid (∀e:Nat,e<2→LeFit (t.les[e]?.getD Le.zero)):=by
  intro e he
  rw [hles]
  have:e=0∨e=1:=by omega
  rcases this with rfl|rfl
  ·exact leOk_iff hl0
  ·exact leOk_iff hl1
 have HLS:Hid (t.les.length=2):=by show _=_;rw [hles];rfl
 have HMI:Hid (∀i:Nat,i<mn→0≤t.mux[i]?.getD 0∧t.mux[i]?.getD 0≤31):=fun i hi=>hf.muxIn i (by omega)
 have HPR:=Lib.hid (And.intro hf.pad hf.ram)
 have HT:=devOk_bd hd
 have HFW:=Lib.hid (fun w=>by have h:=frameWords_any d w (by omega) (by omega);rw [hN] at h;exact h)
 have HM:=Lib.hid hM
 have HL:=Lib.hid hL
 rw [hN] at hfw
 rw [hNN] at hmn5
 have X0:=Lib.hid (heap_al (.cells #[.slice MA mn mc,.slice LA 2 lc,.int .i64 t.pad,.int .i64 t.ram] 52) (heap_new w (.cells #[.int .i64 d.W,.int .i64 d.H,.int .i64 d.T,.int .i64 d.R] 29)))
 have X1:=Lib.hid (heap_newAt (w:=w.alloc (.cells #[.int .i64 d.W,.int .i64 d.H,.int .i64 d.T,.int .i64 d.R] 29)) (o := .cells #[.slice MA mn mc,.slice LA 2 lc,.int .i64 t.pad,.int .i64 t.ram] 52) (g:=w.heap.size+1) (by simp))
 obtain ⟨i0,hi,hz0,hz1,hz2⟩:=info_parts int_info
 have hmk:=fun W=>run_make_rowN (P:=Try.prog) 44 3 i0 _ Try.underlying44 hi hz0 .i64 .i64 N N (Nat.le_refl _) (by rw [hz2];omega) (by omega) W
 rw [hz1,Nat.mul_one,show (Value.int .i64 0).cells=#[Value.int .i64 0] from rfl,arr_made] at hmk
 clear hM hL hsl hk hf hd hles hl0 hl1 hb0 hb1 hML hN hNN hi hz0 hz1 hz2
 go_enter Try.func47,Try.ntmps47
 go_wp2_with fail
 refine HTC.out.mono ?_
 rintro e w1 ⟨rfl,b1⟩
 replace HB0:=Lib.hid (below_tr HB0.out b1)
 have hs1:=b1.size
 simp only [World.size_alloc] at hs1
 replace X0:=Lib.hid (heap_tr b1 X0.out)
 replace X1:=Lib.hid (heap_tr b1 X1.out)
 clear b1
 obtain ⟨z0,z1,z2,z3⟩:=cell4 X0.out
 go_wp2_with fail
 refine (HFW.out _).mono ?_
 rintro e w2 ⟨rfl,b2⟩
 have hs2:=b2.size
 replace HB0:=Lib.hid (below_tr HB0.out b2)
 replace X1:=Lib.hid (heap_tr b2 X1.out)
 clear b2 X0 z0 z1 z2 z3
 obtain ⟨y0,y1,y2,y3⟩:=cell4 X1.out
 have hlw:w.heap.size+1<w2.heap.size:=by omega
 have hlw2:w.heap.size+1<w2.heap.size+1:=by omega
 have HP0:Hid (PW w2 ((w2.alloc (.cells (arr (List.replicate N 0)) 3)).alloc (.cells #[.slice (some ⟨w2.heap.size,0,none⟩) N N,.int .i64 0] 113)) w2.heap.size N t.bits 0) :=
  ⟨heap_newAt (by simp),by rw [packI_zero];exact heap_al _ (heap_new _ _),below_new (below_new (Below.refl _ _) _) _⟩
 have hz3:w2.heap.size+2≤((w2.alloc (.cells (arr (List.replicate N 0)) 3)).alloc (.cells #[.slice (some ⟨w2.heap.size,0,none⟩) N N,.int .i64 0] 113)).heap.size:=by simp
 go_wp2_with fail
 clear y0 y1 y2 y3
 generalize ((w2.alloc (.cells (arr (List.replicate N 0)) 3)).alloc (.cells #[.slice (some ⟨w2.heap.size,0,none⟩) N N,.int .i64 0] 113))=w3 at *
 generalize hgw:w2.heap.size=gw at *
 have HGW:=Lib.hid hgw
 clear hgw hmk
 go_loopw [25] (fun i wr=>∃k:Nat,k≤mn∧i = .int .i64 k∧PW w2 wr gw N t.bits (5 * k)∧gw+2≤wr.heap.size) (fun i _=>mn - (intOf i).toNat)
 case atStart=>exact ⟨0,Nat.zero_le _,rfl,HP0.out,hz3⟩
 case round =>
  obtain ⟨k,hk,rfl,hpw,hsr⟩:=hrel
  have HP:=Lib.hid hpw
  have HWR:Hid (Below w.heap.size w wr):=HB0.out.trans (hpw.be.mono (by omega))
  have HX1:Hid (wr.heap[w.heap.size+1]?=some (.cells #[.slice MA mn mc,.slice LA 2 lc,.int .i64 t.pad,.int .i64 t.ram] 52 (0,0))):=(hpw.be.block _ (by omega)).trans X1.out
  clear hpw
  obtain ⟨y0,y1,y2,y3⟩:=cell4 HX1.out
  by_cases hlt:k<mn
  ·have hdk:decide ((k:Int)<(mn:Int))=true:=decide_eq_true (by omega)
   obtain ⟨b,o,rfl,hb,hc⟩:=HM.out.2 (by omega)
   have hck:=hc k hlt
   rw [←HWR.out.cell (p:=⟨b,o+k,none⟩) hb] at hck
   obtain ⟨x,hx,hx2⟩:=natPos (HMI.out k hlt)
   have hbits:=fun j hj=>HMB.out k j hlt hj
   rw [hx] at hck hbits
   rw [Int.toNat_natCast] at hbits
   have HBI:=Lib.hid hbits
   have i0:(0:Int)≤(k:Int):=by omega
   have i1:(k:Int)<(mn:Int):=by omega
   clear hc hx hbits
   go_wp2_with fail
   refine (HP.out.put HBS.out 5 x HBI.out (by omega) (by omega) (by omega) (by omega)).mono ?_
   rintro e w5 ⟨rfl,hp,ht⟩
   have HQ:=Lib.hid hp
   have hs5:=ht.size
   clear hp ht hck
   go_wp2_with fail
   go_roundw
   case rel=>exact ⟨k+1,by omega,by go_num,by rw [show 5 * (k+1)=5 * k+5 by omega];exact HQ.out,by omega⟩
   case measure=>simp [intOf];omega
  ·have hkm:k=mn:=by omega
   subst hkm
   have hdk:decide ((k:Int)<(k:Int))=false:=by simp
   clear hlt hk
   go_wp2_with fail
   clear y0 y1 y2 y3
   go_loopw [36] (fun i wr=>∃e:Nat,e≤2∧i = .int .i64 e∧PW w2 wr gw N t.bits (5 * k+30 * e)∧gw+2≤wr.heap.size) (fun i _=>2 - (intOf i).toNat)
   case atStart=>exact ⟨0,by omega,rfl,HP.out,hsr⟩
   case round =>
    obtain ⟨e,he,rfl,hpw,hsr⟩:=hrel
    have HP:=Lib.hid hpw
    have HWR:Hid (Below w.heap.size w wr):=HB0.out.trans (hpw.be.mono (by omega))
    have HX1:Hid (wr.heap[w.heap.size+1]?=some (.cells #[.slice MA k mc,.slice LA 2 lc,.int .i64 t.pad,.int .i64 t.ram] 52 (0,0))):=(hpw.be.block _ (by omega)).trans X1.out
    clear hpw
    by_cases hlt:e<2
    ·have hde:decide ((e:Int)<2)=true:=decide_eq_true (by omega)
     have hle:=HLE.out e hlt
     obtain ⟨bl,ol,S4,m4,p4,rfl,hbl,d0,d1,d2,d3,r4⟩:=HL.out.le (k:=e) (by rw [HLS.out];exact hlt)
     have hS4:m4=4:=by have:=r4.ints.1;have:=(sel_fit hle).1;omega
     subst hS4
     have cc:=fun (j:Nat)=>HWR.out.cell (p:=⟨bl,j,none⟩) hbl
     rw [←cc] at d0 d1 d2 d3
     have HSOLD:Hid (∀wx:World,Below gw w2 wx→Ints wx S4 4 (t.les[e]?.getD Le.zero).sel):=fun wx hb=>r4.ints.below (HB0.out.trans (hb.mono (by omega)))
     have HSF:=Lib.hid (sel_fit hle).2
     have HSL:=Lib.hid (sel_fit hle).1
     have HLQ:=Lib.hid (fun q hq=>HLB.out e q hlt hq)
     obtain ⟨xm,hxm,hxm2⟩:=natPos hle.mask
     obtain ⟨xf,hxf,hxf2⟩:=natPos hle.flop
     obtain ⟨xi,hxi,hxi2⟩:=natPos hle.init
     obtain ⟨hr1,hr2,hr3⟩:=le_rest_bit (sel_fit hle).1
     have hq1:=fun (j i:Nat) (hj:j<4) (hi:i<3)=>le_sel_bit (e:=t.les[e]?.getD Le.zero) (sel_fit hle).1 (j:=j) (i:=i) hj hi
     have j0:(0:Int)≤(e:Int):=by omega
     have j1:(e:Int)<2:=by omega
     have hblr:bl<wr.heap.size:=by have:=HWR.out.size;omega
     generalize t.les[e]?.getD Le.zero=le at *
     rw [hxm] at d1 hr1
     rw [hxf] at d2 hr2
     rw [hxi] at d3 hr3
     rw [Int.toNat_natCast] at hr1 hr2 hr3
     have HR1:Hid (∀i,i<16→t.bits[5 * k+30 * e+12+i]?.getD 0=bit xm i):=fun i hi=>by rw [←hr1 i hi,←HLQ.out (12+i) (by omega)];congr 2;omega
     have HR2:Hid (∀i,i<1→t.bits[5 * k+30 * e+28+i]?.getD 0=bit xf i):=fun i hi=>by rw [←hr2 i hi,←HLQ.out (28+i) (by omega)];congr 2;omega
     have HR3:Hid (∀i,i<1→t.bits[5 * k+30 * e+29+i]?.getD 0=bit xi i):=fun i hi=>by rw [←hr3 i hi,←HLQ.out (29+i) (by omega)];congr 2;omega
     have HQ1:Hid (∀j i,j<4→i<3→t.bits[5 * k+30 * e+3 * j+i]?.getD 0=bit (le.sel[j]?.getD 0).toNat i):=fun j i hj hi=>by rw [←hq1 j i hj hi,←HLQ.out (3 * j+i) (by omega)];congr 2;omega
     clear hle r4 cc hr1 hr2 hr3 hq1 hxm hxf hxi
     have hAB:=below_new (Below.refl wr.heap.size wr) (.cells #[.slice S4 4 p4,.int .i64 (xm:Int),.int .i64 (xf:Int),.int .i64 (xi:Int)] 107)
     have HXB:=Lib.hid (heap_new wr (.cells #[.slice S4 4 p4,.int .i64 (xm:Int),.int .i64 (xf:Int),.int .i64 (xi:Int)] 107))
     have HPA:=Lib.hid (HP.out.below hAB (by omega))
     have hsB:wr.heap.size<(wr.alloc (.cells #[.slice S4 4 p4,.int .i64 (xm:Int),.int .i64 (xf:Int),.int .i64 (xi:Int)] 107)).heap.size:=by simp
     obtain ⟨y0,y1,y2,y3⟩:=cell4 HX1.out
     go_wp2_with fail
     clear y0 y1 y2 y3 d0 d1 d2 d3 hAB
     generalize (wr.alloc (.cells #[.slice S4 4 p4,.int .i64 (xm:Int),.int .i64 (xf:Int),.int .i64 (xi:Int)] 107))=wb at *
     generalize hgb:wr.heap.size=gb at *
     clear hgb
     go_loopw [43] (fun i wx=>∃j:Nat,j≤4∧i = .int .i64 j∧PW w2 wx gw N t.bits (5 * k+30 * e+3 * j)∧wx.heap[gb]?=some (.cells #[.slice S4 4 p4,.int .i64 (xm:Int),.int .i64 (xf:Int),.int .i64 (xi:Int)] 107 (0,0))∧gb<wx.heap.size) (fun i _=>4 - (intOf i).toNat)
     case atStart=>exact ⟨0,by omega,rfl,HPA.out,HXB.out,hsB⟩
     case round =>
      obtain ⟨j,hj,rfl,hpw,hxb,hsx⟩:=hrel
      have HP:=Lib.hid hpw
      have HXX:=Lib.hid hxb
      clear hpw hxb
      by_cases hjl:j<4
      ·have hdj:decide ((j:Int)<4)=true:=decide_eq_true (by omega)
       have HBX:Hid (Below gw w2 wr):=HP.out.be
       have hSx:=HSOLD.out wr HP.out.be
       obtain ⟨bs,os,rfl,hbs,hcs⟩:=hSx.2 (by omega)
       have hck:=hcs j hjl
       obtain ⟨x,hx,hx2⟩:=natPos (HSF.out j hjl)
       have hbits:=fun i hi=>HQ1.out j i hjl hi
       rw [hx] at hck hbits
       rw [Int.toNat_natCast] at hbits
       have HBI:=Lib.hid hbits
       have m0:(0:Int)≤(j:Int):=by omega
       have m1:(j:Int)<4:=by omega
       clear hcs hx hbits hSx
       go_wp2_with fail
       refine (HP.out.put HBS.out 3 x HBI.out (by omega) (by omega) (by omega) (by omega)).mono ?_
       rintro e' w5 ⟨rfl,hp,ht⟩
       have HQ:=Lib.hid hp
       have HX5:=Lib.hid ((ht.block gb (by omega) (by omega)).trans HXX.out)
       have hs5:=ht.size
       clear hp ht hck
       go_wp2_with fail
       go_roundw
       case rel=>exact ⟨j+1,by omega,by go_num,by rw [show 5 * k+30 * e+3 * (j+1)=5 * k+30 * e+3 * j+3 by omega];exact HQ.out,HX5.out,by omega⟩
       case measure=>simp [intOf];omega
      ·have hj4:j=4:=by omega
       subst hj4
       have hdj:decide (((4:Nat):Int)<4)=false:=by decide
       have HP2:Hid (PW w2 wr gw N t.bits (5 * k+30 * e+12)):=HP.out
       clear hjl hj
       obtain ⟨y0,y1,y2,y3⟩:=cell4 HXX.out
       go_wp2_with fail
       refine (HP2.out.put HBS.out 16 xm HR1.out (by omega) (by omega) (by omega) (by omega)).mono ?_
       rintro e' w5 ⟨rfl,hp,ht⟩
       have HP3:=Lib.hid hp
       replace HXX:=Lib.hid ((ht.block gb (by omega) (by omega)).trans HXX.out)
       have hs5:=ht.size
       clear hp ht y0 y1 y2 y3
       obtain ⟨y0,y1,y2,y3⟩:=cell4 HXX.out
       go_wp2_with fail
       refine (HP3.out.put HBS.out 1 xf HR2.out (by omega) (by omega) (by omega) (by omega)).mono ?_
       rintro e' w6 ⟨rfl,hp,ht⟩
       have HP4:=Lib.hid hp
       replace HXX:=Lib.hid ((ht.block gb (by omega) (by omega)).trans HXX.out)
       have hs6:=ht.size
       clear hp ht y0 y1 y2 y3
       obtain ⟨y0,y1,y2,y3⟩:=cell4 HXX.out
       go_wp2_with fail
       refine (HP4.out.put HBS.out 1 xi HR3.out (by omega) (by omega) (by omega) (by omega)).mono ?_
       rintro e' w7 ⟨rfl,hp,ht⟩
       have HP5:=Lib.hid hp
       have hs7:=ht.size
       clear hp ht y0 y1 y2 y3
       go_wp2_with fail
       go_roundw
       case rel=>exact ⟨e+1,by omega,by go_num,by rw [show 5 * k+30 * (e+1)=5 * k+30 * e+12+16+1+1 by omega];exact HP5.out,by omega⟩
       case measure=>simp [intOf];omega
    ·have he2:e=2:=by omega
     subst he2
     have hde:decide (((2:Nat):Int)<2)=false:=by decide
     obtain ⟨xp,hxp,hxp2⟩:=natPos HPR.out.1
     obtain ⟨xr,hxr,hxr2⟩:=natPos HPR.out.2
     have hb1:=HPB.out
     have hb2:=HRB.out
     have hx1:=HX1.out
     rw [hxp] at hb1 hx1
     rw [hxr] at hb2 hx1
     rw [Int.toNat_natCast] at hb1 hb2
     have HB1:=Lib.hid hb1
     have HB2:=Lib.hid hb2
     have HXX:=Lib.hid hx1
     have HXP:=Lib.hid hxp
     have HXR:=Lib.hid hxr
     have HP2:Hid (PW w2 wr gw N t.bits (5 * k+60)):=HP.out
     clear hb1 hb2 hx1 hxp hxr hlt he
     obtain ⟨y0,y1,y2,y3⟩:=cell4 HXX.out
     go_wp2_with fail
     refine (HP2.out.put HBS.out 2 xp HB1.out (by omega) (by omega) (by omega) (by omega)).mono ?_
     rintro e' w5 ⟨rfl,hp,ht⟩
     have HP3:=Lib.hid hp
     replace HXX:=Lib.hid ((ht.block (w.heap.size+1) (by omega) (by omega)).trans HXX.out)
     have hs5:=ht.size
     clear hp ht y0 y1 y2 y3
     obtain ⟨y0,y1,y2,y3⟩:=cell4 HXX.out
     go_wp2_with fail
     refine (HP3.out.put HBS.out 5 xr HB2.out (by omega) (by omega) (by omega) (by omega)).mono ?_
     rintro e' w6 ⟨rfl,hp,ht⟩
     have HP4:=Lib.hid hp
     clear hp ht y0 y1 y2 y3
     have c0:=cell_heap (k:=0) HP4.out.wr rfl
     go_wp2_with fail
     go_ret2
     exact ⟨_,N,N,rfl,by rw [HET.out];exact Own.arr HP4.out.wo (by omega) (by unfold maxLen;omega) (packI_length _ _ _),HB0.out.trans (HP4.out.be.mono (by omega))⟩
end Go.Proofs.Ytbnfdhidgdfbeaa
