/- The walk of the law FnExactBuildFrames (printed by gen.py). -/
import Derived.Test.YtbnfdhidgdfbeaaBldSQ
import Derived.Test.YtbnfdhidgdfbeaaFrLen
import Derived.Test.YtbnfdhidgdfbeaaOtw
namespace Go.Proofs.Ytbnfdhidgdfbeaa
set_option maxRecDepth 100000
open Go.RowKit
theorem eqTileConfigS_same (A B:Option Addr) (n m c d:Nat) (ts:List Tile) (w:World) (hA:RdC w w.heap.size (celT ts) (.slice A n c)) (hB:RdC w w.heap.size (celT ts) (.slice B m d)) (hz:tsN ts ts.length≤1099511627776) :
  Calls Try.prog 15 #[.slice A n c,.slice B m d] w fun e w'=>e = .returned (.bool true)∧Below w.heap.size w w':=eqTiles_any A B n m c d ts w hA hB (bdTs_of hz)
theorem tsBd_of {ts:List Tile} (h:szTs ts≤1048576):TsBd ts:=fun i=>by
 obtain ⟨_,h1,h2⟩:=szTs_bd h i
 exact ⟨by omega,fun e=>by have:=(szL_bd h2 e).2;omega⟩
theorem bfF_le (d:Dev) (ts:List Tile):size2 (bfF d ts)≤1099511627776:=by
 unfold bfF
 split
 ·rename_i ho
  unfold bfOk at ho
  simp only [Bool.and_eq_true,decide_eq_true_eq] at ho
  have hf:=buildF_ok ho.1 ho.2.1
  exact Nat.le_trans (rows_le (fun j _=>frame_len hf j) (frames_n hf).2) (by omega)
 ·simp [size2,sizeTo]
set_option maxHeartbeats 400000 in
theorem law_buildFrames (a0:Dev) (A1:Option Addr) (n1 c1:Nat) (x1:List Tile) (w:World) (_hw0:a0.wf) (h1:RdC w w.heap.size (celT x1) (.slice A1 n1 c1)) (m1:n1≤maxLen) (_hw1:TlBd x1) :
  Calls Try.prog 3 #[.agg #[.int .i64 a0.W,.int .i64 a0.H,.int .i64 a0.T,.int .i64 a0.R],.slice A1 n1 c1] w fun e w'=>e = .returned (.bool true)∧Below w.heap.size w w':=by
 unfold maxLen at *
 go_enter Try.func3,Try.ntmps3
 have hB:Below w.heap.size w (w.alloc (.cells #[.int .i64 a0.W,.int .i64 a0.H,.int .i64 a0.T,.int .i64 a0.R] 23)):=(below_new (Below.refl _ _) _)
 have hD:Below (w.alloc (.cells #[.int .i64 a0.W,.int .i64 a0.H,.int .i64 a0.T,.int .i64 a0.R] 23)).heap.size (w.alloc (.cells #[.int .i64 a0.W,.int .i64 a0.H,.int .i64 a0.T,.int .i64 a0.R] 23)) (w.alloc (.cells #[.int .i64 a0.W,.int .i64 a0.H,.int .i64 a0.T,.int .i64 a0.R] 23)):=Below.refl _ _
 have hs0:w.heap.size≤(w.alloc (.cells #[.int .i64 a0.W,.int .i64 a0.H,.int .i64 a0.T,.int .i64 a0.R] 23)).heap.size:=hB.size
 go_wp2_with fail
 obtain ⟨hcc,hff⟩:=bcell hD
 refine (szTileConfigS_any A1 n1 c1 x1 (1048576) _ (h1.below hB) (by omega) (by omega) (by omega) _hw1).mono ?_
 rintro e w00 ⟨rfl,b00⟩
 have s00:=b00.size
 replace hB:=below_tr hB b00
 replace hD:=below_tr hD b00
 clear b00
 clear hcc hff
 obtain ⟨hcc,hff⟩:=bcell hD
 by_cases g1:(szTs x1:Int)≤1048576
 rotate_left
 ·rw [leftOf_neg g1]
  go_wp2_with fail
  go_ret
  exact ⟨rfl,hB⟩
 rw [leftOf_pos g1]
 have bd1:szTs x1≤1048576:=by omega
 have be1:tsN x1 x1.length≤1099511627776:=by have:=tsN_szTs bd1;omega
 have bn1:n1≤1048576:=by have h1:=h1.tlen;have h2:=(szTs_bd bd1 0).1;omega
 go_wp2_with fail
 clear hcc hff
 refine (toDevice_any a0 _ ).mono ?_
 rintro e w1 ⟨rfl,b1⟩
 have s1:w00.heap.size≤w1.heap.size:=b1.size
 replace hB:=below_tr hB b1
 replace hD:=below_tr hD b1
 obtain ⟨hcc,hff⟩:=bcell hD
 go_wp2_with fail
 clear hcc hff
 refine (toTileConfigS_any A1 n1 c1 x1 _ (h1.below hB) bd1).mono ?_
 rintro e w2 ⟨Bs1,rfl,os1,b2⟩
 have s2:w1.heap.size≤w2.heap.size:=b2.size
 replace hB:=below_tr hB b2
 replace hD:=below_tr hD b2
 replace os1:OwnT w1.heap.size w2.heap.size w2 (celT _) (.slice Bs1 _ _):=os1
 obtain ⟨hcc,hff⟩:=bcell hD
 go_wp2_with fail
 clear hcc hff
 refine (sbuildFrames_any a0 Bs1 n1 n1 x1 _ (os1.rd) (tsBd_of bd1) (by omega)).mono ?_
 rintro e w3 ⟨Rs0,rns0,rcs0,rfl,rs0,b3⟩
 have s3:w2.heap.size≤w3.heap.size:=b3.size
 replace os1:=os1.below b3
 replace hB:=below_tr hB b3
 replace hD:=below_tr hD b3
 replace rs0:Own2 w2.heap.size w3.heap.size w3 Rs0 rns0 rcs0 _:=rs0
 obtain ⟨hcc,hff⟩:=bcell hD
 have le_s0:=bfF_le a0 x1
 have ln_s0:rns0≤1099511627776:=(size2_bd rs0.len le_s0).1
 go_wp2_with fail
 clear hcc hff
 refine (toTileConfigS_any A1 n1 c1 x1 _ (h1.below hB) bd1).mono ?_
 rintro e w4 ⟨Bx1,rfl,ox1,b4⟩
 have s4:w3.heap.size≤w4.heap.size:=b4.size
 replace os1:=os1.below b4
 replace rs0:=rs0.below b4
 replace hB:=below_tr hB b4
 replace hD:=below_tr hD b4
 replace ox1:OwnT w3.heap.size w4.heap.size w4 (celT _) (.slice Bx1 _ _):=ox1
 obtain ⟨hcc,hff⟩:=bcell hD
 go_wp2_with fail
 clear hcc hff
 refine (toDevice_any a0 _ ).mono ?_
 rintro e w5 ⟨rfl,b5⟩
 have s5:w4.heap.size≤w5.heap.size:=b5.size
 replace os1:=os1.below b5
 replace rs0:=rs0.below b5
 replace ox1:=ox1.below b5
 replace hB:=below_tr hB b5
 replace hD:=below_tr hD b5
 obtain ⟨hcc,hff⟩:=bcell hD
 go_wp2_with fail
 clear hcc hff
 refine (buildFrames_any a0 Bx1 n1 n1 x1 _ (ox1.rd) (tsBd_of bd1) (by omega)).mono ?_
 rintro e w6 ⟨Rg0,rng0,rcg0,rfl,rg0,b6⟩
 have s6:w5.heap.size≤w6.heap.size:=b6.size
 replace os1:=os1.below b6
 replace rs0:=rs0.below b6
 replace ox1:=ox1.below b6
 replace hB:=below_tr hB b6
 replace hD:=below_tr hD b6
 replace rg0:Own2 w5.heap.size w6.heap.size w6 Rg0 rng0 rcg0 _:=rg0
 obtain ⟨hcc,hff⟩:=bcell hD
 have le_g0:=bfF_le a0 x1
 have ln_g0:rng0≤1099511627776:=(size2_bd rg0.len le_g0).1
 go_wp2_with fail
 clear hcc hff
 refine (eqIntSS_same Rg0 Rs0 rng0 rns0 rcg0 rcs0 _ _ rg0.rd rs0.rd le_g0).mono ?_
 rintro e w7 ⟨rfl,b7⟩
 have s7:w6.heap.size≤w7.heap.size:=b7.size
 replace os1:=os1.below b7
 replace rs0:=rs0.below b7
 replace ox1:=ox1.below b7
 replace rg0:=rg0.below b7
 replace hB:=below_tr hB b7
 replace hD:=below_tr hD b7
 obtain ⟨hcc,hff⟩:=bcell hD
 go_wp2_with fail
 clear hcc hff
 refine (toTileConfigS_any A1 n1 c1 x1 _ (h1.below hB) bd1).mono ?_
 rintro e w8 ⟨By11,rfl,oy11,b8⟩
 have s8:w7.heap.size≤w8.heap.size:=b8.size
 replace os1:=os1.below b8
 replace rs0:=rs0.below b8
 replace ox1:=ox1.below b8
 replace rg0:=rg0.below b8
 replace hB:=below_tr hB b8
 replace hD:=below_tr hD b8
 replace oy11:OwnT w7.heap.size w8.heap.size w8 (celT _) (.slice By11 _ _):=oy11
 obtain ⟨hcc,hff⟩:=bcell hD
 go_wp2_with fail
 clear hcc hff
 refine (eqTileConfigS_same Bx1 By11 n1 n1 n1 n1 x1 _ ox1.rd oy11.rd be1).mono ?_
 rintro e w9 ⟨rfl,b9⟩
 have s9:w8.heap.size≤w9.heap.size:=b9.size
 replace os1:=os1.below b9
 replace rs0:=rs0.below b9
 replace ox1:=ox1.below b9
 replace rg0:=rg0.below b9
 replace oy11:=oy11.below b9
 replace hB:=below_tr hB b9
 replace hD:=below_tr hD b9
 obtain ⟨hcc,hff⟩:=bcell hD
 go_wp2_with fail
 clear hcc hff
 refine (markTileConfigS_chg _ _ Bx1 n1 n1 x1 1 _ ox1 (by omega) (by omega) be1).mono ?_
 rintro e w10 ⟨rfl,omox1,g10⟩
 have s10:w9.heap.size≤w10.heap.size:=g10.size
 replace os1:=os1.chg g10 (by omega)
 replace rs0:=rs0.chg g10 (by omega)
 replace rg0:=rg0.chg g10 (by omega)
 replace oy11:=oy11.chg g10 (by omega)
 clear ox1
 replace hB:=below_chg hB g10 (by omega)
 replace hD:=below_chg hD g10 (by omega)
 obtain ⟨hcc,hff⟩:=bcell hD
 go_wp2_with fail
 clear hcc hff
 refine (eqIntSS_same Rg0 Rs0 rng0 rns0 rcg0 rcs0 _ _ rg0.rd rs0.rd le_g0).mono ?_
 rintro e w11 ⟨rfl,b11⟩
 have s11:w10.heap.size≤w11.heap.size:=b11.size
 replace os1:=os1.below b11
 replace rs0:=rs0.below b11
 replace rg0:=rg0.below b11
 replace oy11:=oy11.below b11
 replace omox1:=omox1.below b11
 replace hB:=below_tr hB b11
 replace hD:=below_tr hD b11
 obtain ⟨hcc,hff⟩:=bcell hD
 go_wp2_with fail
 clear hcc hff
 refine (markIntSS_chg _ _ Rg0 rng0 rcg0 _ 1 _ rg0 (by omega) (by omega) le_g0).mono ?_
 rintro e w12 ⟨rfl,omrg0,g12⟩
 have s12:w11.heap.size≤w12.heap.size:=g12.size
 replace os1:=os1.chg g12 (by omega)
 replace rs0:=rs0.chg g12 (by omega)
 replace oy11:=oy11.chg g12 (by omega)
 replace omox1:=omox1.chg g12 (by omega)
 clear rg0
 replace hB:=below_chg hB g12 (by omega)
 replace hD:=below_chg hD g12 (by omega)
 obtain ⟨hcc,hff⟩:=bcell hD
 go_wp2_with fail
 clear hcc hff
 refine (heldIntSS_any Rg0 rng0 rcg0 _ 1 _ omrg0.rd rfl (by omega) (by omega) le_g0).mono ?_
 rintro e w13 ⟨rfl,b13⟩
 have s13:w12.heap.size≤w13.heap.size:=b13.size
 replace os1:=os1.below b13
 replace rs0:=rs0.below b13
 replace oy11:=oy11.below b13
 replace omox1:=omox1.below b13
 replace omrg0:=omrg0.below b13
 replace hB:=below_tr hB b13
 replace hD:=below_tr hD b13
 obtain ⟨hcc,hff⟩:=bcell hD
 go_wp2_with fail
 clear hcc hff
 refine (toDevice_any a0 _ ).mono ?_
 rintro e w14 ⟨rfl,b14⟩
 have s14:w13.heap.size≤w14.heap.size:=b14.size
 replace os1:=os1.below b14
 replace rs0:=rs0.below b14
 replace oy11:=oy11.below b14
 replace omox1:=omox1.below b14
 replace omrg0:=omrg0.below b14
 replace hB:=below_tr hB b14
 replace hD:=below_tr hD b14
 obtain ⟨hcc,hff⟩:=bcell hD
 go_wp2_with fail
 clear hcc hff
 refine (toTileConfigS_any A1 n1 c1 x1 _ (h1.below hB) bd1).mono ?_
 rintro e w15 ⟨Bh1,rfl,oh1,b15⟩
 have s15:w14.heap.size≤w15.heap.size:=b15.size
 replace os1:=os1.below b15
 replace rs0:=rs0.below b15
 replace oy11:=oy11.below b15
 replace omox1:=omox1.below b15
 replace omrg0:=omrg0.below b15
 replace hB:=below_tr hB b15
 replace hD:=below_tr hD b15
 replace oh1:OwnT w14.heap.size w15.heap.size w15 (celT _) (.slice Bh1 _ _):=oh1
 obtain ⟨hcc,hff⟩:=bcell hD
 go_wp2_with fail
 clear hcc hff
 refine (buildFrames_any a0 Bh1 n1 n1 x1 _ (oh1.rd) (tsBd_of bd1) (by omega)).mono ?_
 rintro e w16 ⟨Rh0,rnh0,rch0,rfl,rh0,b16⟩
 have s16:w15.heap.size≤w16.heap.size:=b16.size
 replace os1:=os1.below b16
 replace rs0:=rs0.below b16
 replace oy11:=oy11.below b16
 replace omox1:=omox1.below b16
 replace omrg0:=omrg0.below b16
 replace oh1:=oh1.below b16
 replace hB:=below_tr hB b16
 replace hD:=below_tr hD b16
 replace rh0:Own2 w15.heap.size w16.heap.size w16 Rh0 rnh0 rch0 _:=rh0
 obtain ⟨hcc,hff⟩:=bcell hD
 have le_h0:=bfF_le a0 x1
 have ln_h0:rnh0≤1099511627776:=(size2_bd rh0.len le_h0).1
 go_wp2_with fail
 clear hcc hff
 refine (eqIntSS_same Rh0 Rs0 rnh0 rns0 rch0 rcs0 _ _ rh0.rd rs0.rd le_h0).mono ?_
 rintro e w17 ⟨rfl,b17⟩
 have s17:w16.heap.size≤w17.heap.size:=b17.size
 replace os1:=os1.below b17
 replace rs0:=rs0.below b17
 replace oy11:=oy11.below b17
 replace omox1:=omox1.below b17
 replace omrg0:=omrg0.below b17
 replace oh1:=oh1.below b17
 replace rh0:=rh0.below b17
 replace hB:=below_tr hB b17
 replace hD:=below_tr hD b17
 obtain ⟨hcc,hff⟩:=bcell hD
 go_wp2_with fail
 clear hcc hff
 refine (heldIntSS_any Rg0 rng0 rcg0 _ 1 _ omrg0.rd rfl (by omega) (by omega) le_g0).mono ?_
 rintro e w18 ⟨rfl,b18⟩
 have s18:w17.heap.size≤w18.heap.size:=b18.size
 replace os1:=os1.below b18
 replace rs0:=rs0.below b18
 replace oy11:=oy11.below b18
 replace omox1:=omox1.below b18
 replace omrg0:=omrg0.below b18
 replace oh1:=oh1.below b18
 replace rh0:=rh0.below b18
 replace hB:=below_tr hB b18
 replace hD:=below_tr hD b18
 obtain ⟨hcc,hff⟩:=bcell hD
 go_wp2_with fail
 go_ret
 exact ⟨rfl,hB⟩
end Go.Proofs.Ytbnfdhidgdfbeaa
