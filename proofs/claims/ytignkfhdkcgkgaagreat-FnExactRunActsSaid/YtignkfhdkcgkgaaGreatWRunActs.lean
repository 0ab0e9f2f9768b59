/- The walk of the law FnExactRunActs (printed by gen.py). -/
import Derived.Test.YtignkfhdkcgkgaaGreatAcx
import Derived.Test.YtignkfhdkcgkgaaGreatMfo
import Derived.Test.YtignkfhdkcgkgaaGreatOb
import Derived.Test.YtignkfhdkcgkgaaGreatRaS
namespace Go.Proofs.YtignkfhdkcgkgaaGreat
set_option maxHeartbeats 4000000
set_option maxRecDepth 100000
open Go.RowKit
theorem AA (b0:Bd) (s0:Sl3) (A1:Option Addr) (n1 c1:Nat) (x1:List Ac) (w:World) (h0:bV w b0 s0) (m0:s0.n1<=maxLen) (mm0:s0.n2<=maxLen) (mn0:s0.n3<=maxLen) (_q0:∀ys∈b0.frames,ys.length<=maxLen/\∀y∈ys,Wf y) (_r0:∀ys∈b0.saved,ys.length<=maxLen/\∀y∈ys,Wf y) (h1:iM w A1 n1 x1) (m1:n1<=maxLen) (_hw1:∀y∈x1,y.words.length<=maxLen) :
  Calls Tryz.prog 5 #[.agg (aD b0 s0),.slice A1 n1 c1] w fun e w'=>e = .returned (.bool true)/\Below w.heap.size w w':=by
 unfold maxLen at *
 have H0:=Hd h0
 have H1:=Hd h1
 have Q0:=Hd (BO _q0)
 have R0:=Hd (BO _r0)
 have Q1:=Hd _hw1
 clear h0 h1 _q0 _r0 _hw1
 go_enter Tryz.func5,Tryz.ntmps5
 have X0:Hid ((World.alloc w (.cells (aD b0 s0) 44)).heap[w.heap.size]?=some (.cells (aD b0 s0) 44)):=ae (by simp)
 have HB:=Hd ((aB (Below.refl w.heap.size w) (.cells (aD b0 s0) 44)))
 obtain ⟨z0_0,z0_1,z0_2,z0_3,z0_4,z0_5,z0_6,z0_7,z0_8,z0_9,z0_10,z0_11⟩:=aK X0.out
 go_wp2_with fail
 clear z0_0 z0_1 z0_2 z0_3 z0_4 z0_5 z0_6 z0_7 z0_8 z0_9 z0_10 z0_11
 refine (BG b0 s0 _ (H0.out.below HB.out) (by omega) (by omega) (by omega) Q0.out R0.out).mono ?_
 rintro e w1 ⟨L0,rfl,hx0,bw1⟩
 have sz1:=bw1.size
 simp only [World.size_alloc] at sz1
 replace X0:=Hd (aF bw1 X0.out)
 replace HB:=Hd (aA HB.out bw1)
 clear bw1
 rcases hx0 with hx0|⟨hx0,hy0,hz0⟩
 ·have hd:decide (L0<0)=true:=by simpa using hx0
  obtain ⟨z0_0,z0_1,z0_2,z0_3,z0_4,z0_5,z0_6,z0_7,z0_8,z0_9,z0_10,z0_11⟩:=aK X0.out
  go_wp2_with fail
  clear z0_0 z0_1 z0_2 z0_3 z0_4 z0_5 z0_6 z0_7 z0_8 z0_9 z0_10 z0_11
  go_ret
  exact ⟨rfl,HB.out⟩
 have hd0:decide (L0<0)=false:=by simp;omega
 have HBD0:Hid (kF b0):=⟨by omega,by have e2:=H0.out.state.1;omega,by omega⟩
 obtain ⟨z0_0,z0_1,z0_2,z0_3,z0_4,z0_5,z0_6,z0_7,z0_8,z0_9,z0_10,z0_11⟩:=aK X0.out
 go_wp2_with fail
 clear z0_0 z0_1 z0_2 z0_3 z0_4 z0_5 z0_6 z0_7 z0_8 z0_9 z0_10 z0_11
 refine (DD A1 n1 c1 x1 L0 _ (H1.out.below HB.out) (by omega) (by omega) (by omega) Q1.out).mono ?_
 rintro e w2 ⟨rfl,bw2⟩
 have sz2:=bw2.size
 replace X0:=Hd (aF bw2 X0.out)
 replace HB:=Hd (aA HB.out bw2)
 clear bw2
 by_cases g1:(szA x1:Int)<=L0
 rotate_left
 ·rw [eD g1]
  obtain ⟨z0_0,z0_1,z0_2,z0_3,z0_4,z0_5,z0_6,z0_7,z0_8,z0_9,z0_10,z0_11⟩:=aK X0.out
  go_wp2_with fail
  clear z0_0 z0_1 z0_2 z0_3 z0_4 z0_5 z0_6 z0_7 z0_8 z0_9 z0_10 z0_11
  go_ret
  exact ⟨rfl,HB.out⟩
 rw [fG g1]
 have bd1:szA x1<=1048576:=by omega
 have hd1:decide (L0 - (szA x1:Int)<0)=false:=by simp;omega
 have hn1:n1<=1048576:=by have h1:=(uH bd1 0).1;have h2:=H1.out.1;omega
 have be1:Hid (∀i:Nat,(x1[i]?.getD Ac.zero).words.length<=1099511627776):=fun j=>by have:=(uH bd1 j).2;omega
 have resle0:=Hd ((FT (by decide) (show BdB 1048576 b0 from ⟨by omega,by have e2:=H0.out.state.1;omega,by omega⟩) x1).ok (by decide))
 have resn0:=(FT (by decide) (show BdB 1048576 b0 from ⟨by omega,by have e2:=H0.out.state.1;omega,by omega⟩) x1).n
 have resle1:=Hd (Gz b0 x1)
 obtain ⟨z0_0,z0_1,z0_2,z0_3,z0_4,z0_5,z0_6,z0_7,z0_8,z0_9,z0_10,z0_11⟩:=aK X0.out
 go_wp2_with fail
 clear z0_0 z0_1 z0_2 z0_3 z0_4 z0_5 z0_6 z0_7 z0_8 z0_9 z0_10 z0_11
 refine (mo b0 s0 _ (H0.out.below HB.out) (by omega) (by omega) (by omega)).mono ?_
 rintro e w3 ⟨ts0,rfl,os0,bw3⟩
 have sz3:=bw3.size
 replace X0:=Hd (aF bw3 X0.out)
 replace HB:=Hd (aA HB.out bw3)
 replace os0:=Hd os0
 clear bw3
 have hn_ts0:ts0.n2<=1048576:=by have e1:=os0.out.rd.state.1;have e2:=H0.out.state.1;omega
 obtain ⟨z0_0,z0_1,z0_2,z0_3,z0_4,z0_5,z0_6,z0_7,z0_8,z0_9,z0_10,z0_11⟩:=aK X0.out
 go_wp2_with fail
 clear z0_0 z0_1 z0_2 z0_3 z0_4 z0_5 z0_6 z0_7 z0_8 z0_9 z0_10 z0_11
 refine (oL A1 n1 c1 x1 _ (H1.out.below HB.out) bd1).mono ?_
 rintro e w4 ⟨Bs1,rfl,os1,bw4⟩
 have sz4:=bw4.size
 replace os0:=Hd (os0.out.below bw4)
 replace X0:=Hd (aF bw4 X0.out)
 replace HB:=Hd (aA HB.out bw4)
 replace os1:=Hd os1
 clear bw4
 obtain ⟨z0_0,z0_1,z0_2,z0_3,z0_4,z0_5,z0_6,z0_7,z0_8,z0_9,z0_10,z0_11⟩:=aK X0.out
 go_wp2_with fail
 clear z0_0 z0_1 z0_2 z0_3 z0_4 z0_5 z0_6 z0_7 z0_8 z0_9 z0_10 z0_11
 refine (zY b0 ts0 Bs1 n1 n1 x1 _ os0.out.rd (lK os1.out) (by omega) (by omega) (by omega) be1.out).mono ?_
 rintro e w5 ⟨Rs0,Rs1,rns1,rcs1,rfl,rs0,rs1,bw5⟩
 have sz5:=bw5.size
 replace os0:=Hd (os0.out.below bw5)
 replace os1:=Hd (os1.out.below bw5)
 replace X0:=Hd (aF bw5 X0.out)
 replace HB:=Hd (aA HB.out bw5)
 replace rs0:=Hd rs0
 have l_rs1:=rs1.lies
 replace rs1:=Hd rs1
 clear bw5
 have le_s1:rns1<=1099511627776:=by have h1:=rs1.out.len;have h2:=resle1.out;omega
 replace os0:=Hd (os0.out.below (aB (Below.refl _ _) (.cells (aD (raB b0 x1) Rs0) 31)))
 replace os1:=Hd (os1.out.below (aB (Below.refl _ _) (.cells (aD (raB b0 x1) Rs0) 31)))
 replace rs0:=Hd (rs0.out.below (aB (Below.refl _ _) (.cells (aD (raB b0 x1) Rs0) 31)))
 replace rs1:=Hd (rs1.out.below (aB (Below.refl _ _) (.cells (aD (raB b0 x1) Rs0) 31)))
 replace X0:=Hd (aR (.cells (aD (raB b0 x1) Rs0) 31) X0.out)
 have Ys0:=Hd (aL w5 (.cells (aD (raB b0 x1) Rs0) 31))
 replace HB:=Hd (aB HB.out (.cells (aD (raB b0 x1) Rs0) 31))
 clear os0 os1
 obtain ⟨z0_0,z0_1,z0_2,z0_3,z0_4,z0_5,z0_6,z0_7,z0_8,z0_9,z0_10,z0_11⟩:=aK X0.out
 obtain ⟨z1_0,z1_1,z1_2,z1_3,z1_4,z1_5,z1_6,z1_7,z1_8,z1_9,z1_10,z1_11⟩:=aK Ys0.out
 go_wp2_with fail
 clear z0_0 z0_1 z0_2 z0_3 z0_4 z0_5 z0_6 z0_7 z0_8 z0_9 z0_10 z0_11 z1_0 z1_1 z1_2 z1_3 z1_4 z1_5 z1_6 z1_7 z1_8 z1_9 z1_10 z1_11
 refine (mo b0 s0 _ (H0.out.below HB.out) (by omega) (by omega) (by omega)).mono ?_
 rintro e w6 ⟨tx0,rfl,ox0,bw6⟩
 have sz6:=bw6.size
 simp only [World.size_alloc] at sz6
 replace rs0:=Hd (rs0.out.below bw6)
 replace rs1:=Hd (rs1.out.below bw6)
 replace X0:=Hd (aF bw6 X0.out)
 replace Ys0:=Hd (aF bw6 Ys0.out)
 replace HB:=Hd (aA HB.out bw6)
 simp only [World.size_alloc] at ox0
 replace ox0:=Hd ox0
 clear bw6
 have hn_tx0:tx0.n2<=1048576:=by have e1:=ox0.out.rd.state.1;have e2:=H0.out.state.1;omega
 replace rs0:=Hd (rs0.out.below (aB (Below.refl _ _) (.cells (aD b0 tx0) 31)))
 replace rs1:=Hd (rs1.out.below (aB (Below.refl _ _) (.cells (aD b0 tx0) 31)))
 replace ox0:=Hd (ox0.out.below (aB (Below.refl _ _) (.cells (aD b0 tx0) 31)))
 replace X0:=Hd (aR (.cells (aD b0 tx0) 31) X0.out)
 replace Ys0:=Hd (aR (.cells (aD b0 tx0) 31) Ys0.out)
 have Yx0:=Hd (aL w6 (.cells (aD b0 tx0) 31))
 replace HB:=Hd (aB HB.out (.cells (aD b0 tx0) 31))
 obtain ⟨z0_0,z0_1,z0_2,z0_3,z0_4,z0_5,z0_6,z0_7,z0_8,z0_9,z0_10,z0_11⟩:=aK X0.out
 obtain ⟨z1_0,z1_1,z1_2,z1_3,z1_4,z1_5,z1_6,z1_7,z1_8,z1_9,z1_10,z1_11⟩:=aK Ys0.out
 obtain ⟨z2_0,z2_1,z2_2,z2_3,z2_4,z2_5,z2_6,z2_7,z2_8,z2_9,z2_10,z2_11⟩:=aK Yx0.out
 go_wp2_with fail
 clear z0_0 z0_1 z0_2 z0_3 z0_4 z0_5 z0_6 z0_7 z0_8 z0_9 z0_10 z0_11 z1_0 z1_1 z1_2 z1_3 z1_4 z1_5 z1_6 z1_7 z1_8 z1_9 z1_10 z1_11 z2_0 z2_1 z2_2 z2_3 z2_4 z2_5 z2_6 z2_7 z2_8 z2_9 z2_10 z2_11
 refine (oL A1 n1 c1 x1 _ (H1.out.below HB.out) bd1).mono ?_
 rintro e w7 ⟨Bx1,rfl,ox1,bw7⟩
 have sz7:=bw7.size
 simp only [World.size_alloc] at sz7
 replace rs0:=Hd (rs0.out.below bw7)
 replace rs1:=Hd (rs1.out.below bw7)
 replace ox0:=Hd (ox0.out.below bw7)
 replace X0:=Hd (aF bw7 X0.out)
 replace Ys0:=Hd (aF bw7 Ys0.out)
 replace Yx0:=Hd (aF bw7 Yx0.out)
 replace HB:=Hd (aA HB.out bw7)
 simp only [World.size_alloc] at ox1
 replace ox1:=Hd ox1
 clear bw7
 obtain ⟨z0_0,z0_1,z0_2,z0_3,z0_4,z0_5,z0_6,z0_7,z0_8,z0_9,z0_10,z0_11⟩:=aK X0.out
 obtain ⟨z1_0,z1_1,z1_2,z1_3,z1_4,z1_5,z1_6,z1_7,z1_8,z1_9,z1_10,z1_11⟩:=aK Ys0.out
 obtain ⟨z2_0,z2_1,z2_2,z2_3,z2_4,z2_5,z2_6,z2_7,z2_8,z2_9,z2_10,z2_11⟩:=aK Yx0.out
 go_wp2_with fail
 clear z0_0 z0_1 z0_2 z0_3 z0_4 z0_5 z0_6 z0_7 z0_8 z0_9 z0_10 z0_11 z1_0 z1_1 z1_2 z1_3 z1_4 z1_5 z1_6 z1_7 z1_8 z1_9 z1_10 z1_11 z2_0 z2_1 z2_2 z2_3 z2_4 z2_5 z2_6 z2_7 z2_8 z2_9 z2_10 z2_11
 refine (ui b0 tx0 Bx1 n1 n1 x1 _ ox0.out.rd (lK ox1.out) (by omega) (by omega) (by omega) be1.out).mono ?_
 rintro e w8 ⟨Rg0,Rg1,rng1,rcg1,rfl,rg0,rg1,bw8⟩
 have sz8:=bw8.size
 replace rs0:=Hd (rs0.out.below bw8)
 replace rs1:=Hd (rs1.out.below bw8)
 replace ox0:=Hd (ox0.out.below bw8)
 replace ox1:=Hd (ox1.out.below bw8)
 replace X0:=Hd (aF bw8 X0.out)
 replace Ys0:=Hd (aF bw8 Ys0.out)
 replace Yx0:=Hd (aF bw8 Yx0.out)
 replace HB:=Hd (aA HB.out bw8)
 replace rg0:=Hd rg0
 have l_rg1:=rg1.lies
 replace rg1:=Hd rg1
 clear bw8
 have le_g1:rng1<=1099511627776:=by have h1:=rg1.out.len;have h2:=resle1.out;omega
 replace rs0:=Hd (rs0.out.below (aB (Below.refl _ _) (.cells (aD (raB b0 x1) Rg0) 31)))
 replace rs1:=Hd (rs1.out.below (aB (Below.refl _ _) (.cells (aD (raB b0 x1) Rg0) 31)))
 replace ox0:=Hd (ox0.out.below (aB (Below.refl _ _) (.cells (aD (raB b0 x1) Rg0) 31)))
 replace ox1:=Hd (ox1.out.below (aB (Below.refl _ _) (.cells (aD (raB b0 x1) Rg0) 31)))
 replace rg0:=Hd (rg0.out.below (aB (Below.refl _ _) (.cells (aD (raB b0 x1) Rg0) 31)))
 replace rg1:=Hd (rg1.out.below (aB (Below.refl _ _) (.cells (aD (raB b0 x1) Rg0) 31)))
 replace X0:=Hd (aR (.cells (aD (raB b0 x1) Rg0) 31) X0.out)
 replace Ys0:=Hd (aR (.cells (aD (raB b0 x1) Rg0) 31) Ys0.out)
 replace Yx0:=Hd (aR (.cells (aD (raB b0 x1) Rg0) 31) Yx0.out)
 have Yg0:=Hd (aL w8 (.cells (aD (raB b0 x1) Rg0) 31))
 replace HB:=Hd (aB HB.out (.cells (aD (raB b0 x1) Rg0) 31))
 obtain ⟨z0_0,z0_1,z0_2,z0_3,z0_4,z0_5,z0_6,z0_7,z0_8,z0_9,z0_10,z0_11⟩:=aK X0.out
 obtain ⟨z1_0,z1_1,z1_2,z1_3,z1_4,z1_5,z1_6,z1_7,z1_8,z1_9,z1_10,z1_11⟩:=aK Ys0.out
 obtain ⟨z2_0,z2_1,z2_2,z2_3,z2_4,z2_5,z2_6,z2_7,z2_8,z2_9,z2_10,z2_11⟩:=aK Yx0.out
 obtain ⟨z3_0,z3_1,z3_2,z3_3,z3_4,z3_5,z3_6,z3_7,z3_8,z3_9,z3_10,z3_11⟩:=aK Yg0.out
 go_wp2_with fail
 clear z0_0 z0_1 z0_2 z0_3 z0_4 z0_5 z0_6 z0_7 z0_8 z0_9 z0_10 z0_11 z1_0 z1_1 z1_2 z1_3 z1_4 z1_5 z1_6 z1_7 z1_8 z1_9 z1_10 z1_11 z2_0 z2_1 z2_2 z2_3 z2_4 z2_5 z2_6 z2_7 z2_8 z2_9 z2_10 z2_11 z3_0 z3_1 z3_2 z3_3 z3_4 z3_5 z3_6 z3_7 z3_8 z3_9 z3_10 z3_11
 refine (lD _ Rg0 Rs0 _ rg0.out.rd rs0.out.rd resle0.out).mono ?_
 rintro e w9 ⟨rfl,bw9⟩
 have sz9:=bw9.size
 simp only [World.size_alloc] at sz9
 replace rs0:=Hd (rs0.out.below bw9)
 replace rs1:=Hd (rs1.out.below bw9)
 replace ox0:=Hd (ox0.out.below bw9)
 replace ox1:=Hd (ox1.out.below bw9)
 replace rg0:=Hd (rg0.out.below bw9)
 replace rg1:=Hd (rg1.out.below bw9)
 replace X0:=Hd (aF bw9 X0.out)
 replace Ys0:=Hd (aF bw9 Ys0.out)
 replace Yx0:=Hd (aF bw9 Yx0.out)
 replace Yg0:=Hd (aF bw9 Yg0.out)
 replace HB:=Hd (aA HB.out bw9)
 clear bw9
 obtain ⟨z0_0,z0_1,z0_2,z0_3,z0_4,z0_5,z0_6,z0_7,z0_8,z0_9,z0_10,z0_11⟩:=aK X0.out
 obtain ⟨z1_0,z1_1,z1_2,z1_3,z1_4,z1_5,z1_6,z1_7,z1_8,z1_9,z1_10,z1_11⟩:=aK Ys0.out
 obtain ⟨z2_0,z2_1,z2_2,z2_3,z2_4,z2_5,z2_6,z2_7,z2_8,z2_9,z2_10,z2_11⟩:=aK Yx0.out
 obtain ⟨z3_0,z3_1,z3_2,z3_3,z3_4,z3_5,z3_6,z3_7,z3_8,z3_9,z3_10,z3_11⟩:=aK Yg0.out
 go_wp2_with fail
 clear z0_0 z0_1 z0_2 z0_3 z0_4 z0_5 z0_6 z0_7 z0_8 z0_9 z0_10 z0_11 z1_0 z1_1 z1_2 z1_3 z1_4 z1_5 z1_6 z1_7 z1_8 z1_9 z1_10 z1_11 z2_0 z2_1 z2_2 z2_3 z2_4 z2_5 z2_6 z2_7 z2_8 z2_9 z2_10 z2_11 z3_0 z3_1 z3_2 z3_3 z3_4 z3_5 z3_6 z3_7 z3_8 z3_9 z3_10 z3_11
 refine (ja Rg1 Rs1 rng1 rns1 rcg1 rcs1 _ _ rg1.out.rd rs1.out.rd le_g1).mono ?_
 rintro e w10 ⟨rfl,bw10⟩
 have sz10:=bw10.size
 replace rs0:=Hd (rs0.out.below bw10)
 replace rs1:=Hd (rs1.out.below bw10)
 replace ox0:=Hd (ox0.out.below bw10)
 replace ox1:=Hd (ox1.out.below bw10)
 replace rg0:=Hd (rg0.out.below bw10)
 replace rg1:=Hd (rg1.out.below bw10)
 replace X0:=Hd (aF bw10 X0.out)
 replace Ys0:=Hd (aF bw10 Ys0.out)
 replace Yx0:=Hd (aF bw10 Yx0.out)
 replace Yg0:=Hd (aF bw10 Yg0.out)
 replace HB:=Hd (aA HB.out bw10)
 clear bw10
 obtain ⟨z0_0,z0_1,z0_2,z0_3,z0_4,z0_5,z0_6,z0_7,z0_8,z0_9,z0_10,z0_11⟩:=aK X0.out
 obtain ⟨z1_0,z1_1,z1_2,z1_3,z1_4,z1_5,z1_6,z1_7,z1_8,z1_9,z1_10,z1_11⟩:=aK Ys0.out
 obtain ⟨z2_0,z2_1,z2_2,z2_3,z2_4,z2_5,z2_6,z2_7,z2_8,z2_9,z2_10,z2_11⟩:=aK Yx0.out
 obtain ⟨z3_0,z3_1,z3_2,z3_3,z3_4,z3_5,z3_6,z3_7,z3_8,z3_9,z3_10,z3_11⟩:=aK Yg0.out
 go_wp2_with fail
 have hD:=(Below.refl w10.heap.size w10).drew
 have hl_X0:=aX X0.out
 have hl_Ys0:=aX Ys0.out
 have hl_Yx0:=aX Yx0.out
 have hl_Yg0:=aX Yg0.out
 go_region_held3 (fun w'=>Below w10.heap.size w10 w'/\∀b o,b<w10.heap.size→w'.cell? ⟨b,o,none⟩=w10.cell? ⟨b,o,none⟩)
  (first|exact ⟨hD,(aO hD).1⟩)
  (first
   | (go_at_call 17;refine (mo b0 s0 _ (H0.out.below (aA HB.out hD)) (by omega) (by omega) (by omega)).mono ?_;rintro e w11 ⟨ty00,rfl,oy00,bw11⟩;have sz11:=bw11.size;have sy11:w10.heap.size<=w11.heap.size:=bw11.size;replace hD:=aA hD bw11;replace oy00:=Hd oy00;clear bw11;have hn_ty00:ty00.n2<=1048576:=by have e1:=oy00.out.rd.state.1;have e2:=H0.out.state.1;omega)
   | (go_at_call 19;refine (lD b0 tx0 ty00 _ (ox0.out.rd.below hD) oy00.out.rd HBD0.out).mono ?_;rintro e w12 ⟨rfl,bw12⟩;have sz12:=bw12.size;have sy12:w11.heap.size<=w12.heap.size:=bw12.size;replace oy00:=Hd (oy00.out.below bw12);replace hD:=aA hD bw12;clear bw12))
 clear z0_0 z0_1 z0_2 z0_3 z0_4 z0_5 z0_6 z0_7 z0_8 z0_9 z0_10 z0_11 z1_0 z1_1 z1_2 z1_3 z1_4 z1_5 z1_6 z1_7 z1_8 z1_9 z1_10 z1_11 z2_0 z2_1 z2_2 z2_3 z2_4 z2_5 z2_6 z2_7 z2_8 z2_9 z2_10 z2_11 z3_0 z3_1 z3_2 z3_3 z3_4 z3_5 z3_6 z3_7 z3_8 z3_9 z3_10 z3_11
 clear hl_X0 hl_Ys0 hl_Yx0 hl_Yg0
 have sda12:w10.drew.heap.size<=w10.heap.size:=Nat.le_refl _
 have sdb12:w10.heap.size<=w10.drew.heap.size:=Nat.le_refl _
 replace rs0:=Hd (rs0.out.below hD)
 replace rs1:=Hd (rs1.out.below hD)
 replace ox0:=Hd (ox0.out.below hD)
 replace ox1:=Hd (ox1.out.below hD)
 replace rg0:=Hd (rg0.out.below hD)
 replace rg1:=Hd (rg1.out.below hD)
 replace X0:=Hd (aF hD X0.out)
 replace Ys0:=Hd (aF hD Ys0.out)
 replace Yx0:=Hd (aF hD Yx0.out)
 replace Yg0:=Hd (aF hD Yg0.out)
 replace HB:=Hd (aA HB.out hD)
 clear hD
 obtain ⟨z0_0,z0_1,z0_2,z0_3,z0_4,z0_5,z0_6,z0_7,z0_8,z0_9,z0_10,z0_11⟩:=aK X0.out
 obtain ⟨z1_0,z1_1,z1_2,z1_3,z1_4,z1_5,z1_6,z1_7,z1_8,z1_9,z1_10,z1_11⟩:=aK Ys0.out
 obtain ⟨z2_0,z2_1,z2_2,z2_3,z2_4,z2_5,z2_6,z2_7,z2_8,z2_9,z2_10,z2_11⟩:=aK Yx0.out
 obtain ⟨z3_0,z3_1,z3_2,z3_3,z3_4,z3_5,z3_6,z3_7,z3_8,z3_9,z3_10,z3_11⟩:=aK Yg0.out
 go_wp2_with fail
 clear z0_0 z0_1 z0_2 z0_3 z0_4 z0_5 z0_6 z0_7 z0_8 z0_9 z0_10 z0_11 z1_0 z1_1 z1_2 z1_3 z1_4 z1_5 z1_6 z1_7 z1_8 z1_9 z1_10 z1_11 z2_0 z2_1 z2_2 z2_3 z2_4 z2_5 z2_6 z2_7 z2_8 z2_9 z2_10 z2_11 z3_0 z3_1 z3_2 z3_3 z3_4 z3_5 z3_6 z3_7 z3_8 z3_9 z3_10 z3_11
 refine (oL A1 n1 c1 x1 _ (H1.out.below HB.out) bd1).mono ?_
 rintro e w13 ⟨By11,rfl,oy11,bw13⟩
 have sz13:=bw13.size
 replace rs0:=Hd (rs0.out.below bw13)
 replace rs1:=Hd (rs1.out.below bw13)
 replace ox0:=Hd (ox0.out.below bw13)
 replace ox1:=Hd (ox1.out.below bw13)
 replace rg0:=Hd (rg0.out.below bw13)
 replace rg1:=Hd (rg1.out.below bw13)
 replace oy00:=Hd (oy00.out.below bw13)
 replace X0:=Hd (aF bw13 X0.out)
 replace Ys0:=Hd (aF bw13 Ys0.out)
 replace Yx0:=Hd (aF bw13 Yx0.out)
 replace Yg0:=Hd (aF bw13 Yg0.out)
 replace HB:=Hd (aA HB.out bw13)
 replace oy11:=Hd oy11
 clear bw13
 obtain ⟨z0_0,z0_1,z0_2,z0_3,z0_4,z0_5,z0_6,z0_7,z0_8,z0_9,z0_10,z0_11⟩:=aK X0.out
 obtain ⟨z1_0,z1_1,z1_2,z1_3,z1_4,z1_5,z1_6,z1_7,z1_8,z1_9,z1_10,z1_11⟩:=aK Ys0.out
 obtain ⟨z2_0,z2_1,z2_2,z2_3,z2_4,z2_5,z2_6,z2_7,z2_8,z2_9,z2_10,z2_11⟩:=aK Yx0.out
 obtain ⟨z3_0,z3_1,z3_2,z3_3,z3_4,z3_5,z3_6,z3_7,z3_8,z3_9,z3_10,z3_11⟩:=aK Yg0.out
 go_wp2_with fail
 clear z0_0 z0_1 z0_2 z0_3 z0_4 z0_5 z0_6 z0_7 z0_8 z0_9 z0_10 z0_11 z1_0 z1_1 z1_2 z1_3 z1_4 z1_5 z1_6 z1_7 z1_8 z1_9 z1_10 z1_11 z2_0 z2_1 z2_2 z2_3 z2_4 z2_5 z2_6 z2_7 z2_8 z2_9 z2_10 z2_11 z3_0 z3_1 z3_2 z3_3 z3_4 z3_5 z3_6 z3_7 z3_8 z3_9 z3_10 z3_11
 refine (BI Bx1 By11 n1 n1 n1 n1 x1 _ (lK ox1.out) (lK oy11.out) be1.out (by omega)).mono ?_
 rintro e w14 ⟨rfl,bw14⟩
 have sz14:=bw14.size
 replace rs0:=Hd (rs0.out.below bw14)
 replace rs1:=Hd (rs1.out.below bw14)
 replace ox0:=Hd (ox0.out.below bw14)
 replace ox1:=Hd (ox1.out.below bw14)
 replace rg0:=Hd (rg0.out.below bw14)
 replace rg1:=Hd (rg1.out.below bw14)
 replace oy00:=Hd (oy00.out.below bw14)
 replace oy11:=Hd (oy11.out.below bw14)
 replace X0:=Hd (aF bw14 X0.out)
 replace Ys0:=Hd (aF bw14 Ys0.out)
 replace Yx0:=Hd (aF bw14 Yx0.out)
 replace Yg0:=Hd (aF bw14 Yg0.out)
 replace HB:=Hd (aA HB.out bw14)
 clear bw14
 clear oy00 oy11
 have bz0:bdN b0<=2097152:=by have e2:=H0.out.state.1;unfold bdN;unfold af at hz0;omega
 obtain ⟨z0_0,z0_1,z0_2,z0_3,z0_4,z0_5,z0_6,z0_7,z0_8,z0_9,z0_10,z0_11⟩:=aK X0.out
 obtain ⟨z1_0,z1_1,z1_2,z1_3,z1_4,z1_5,z1_6,z1_7,z1_8,z1_9,z1_10,z1_11⟩:=aK Ys0.out
 obtain ⟨z2_0,z2_1,z2_2,z2_3,z2_4,z2_5,z2_6,z2_7,z2_8,z2_9,z2_10,z2_11⟩:=aK Yx0.out
 obtain ⟨z3_0,z3_1,z3_2,z3_3,z3_4,z3_5,z3_6,z3_7,z3_8,z3_9,z3_10,z3_11⟩:=aK Yg0.out
 go_wp2_with fail
 clear z0_0 z0_1 z0_2 z0_3 z0_4 z0_5 z0_6 z0_7 z0_8 z0_9 z0_10 z0_11 z1_0 z1_1 z1_2 z1_3 z1_4 z1_5 z1_6 z1_7 z1_8 z1_9 z1_10 z1_11 z2_0 z2_1 z2_2 z2_3 z2_4 z2_5 z2_6 z2_7 z2_8 z2_9 z2_10 z2_11 z3_0 z3_1 z3_2 z3_3 z3_4 z3_5 z3_6 z3_7 z3_8 z3_9 z3_10 z3_11
 refine (xG _ _ b0 tx0 1 _ ox0.out (by omega) ⟨by omega,by have e2:=H0.out.state.1;omega,by omega⟩ (by omega) (by omega) (by omega)).mono ?_
 rintro e w15 ⟨rfl,omox0,gw15⟩
 have sz15:=gw15.size
 replace rs0:=Hd (rs0.out.chg gw15 (by omega))
 replace rs1:=Hd (rs1.out.chg gw15 l_rs1 (by omega))
 replace ox1:=Hd (ox1.out.chg gw15 (by omega))
 replace rg0:=Hd (rg0.out.chg gw15 (by omega))
 replace rg1:=Hd (rg1.out.chg gw15 l_rg1 (by omega))
 replace X0:=Hd ((gw15.block _ (aX X0.out) (by omega)).trans X0.out)
 replace Ys0:=Hd ((gw15.block _ (aX Ys0.out) (by omega)).trans Ys0.out)
 replace Yx0:=Hd ((gw15.block _ (aX Yx0.out) (by omega)).trans Yx0.out)
 replace Yg0:=Hd ((gw15.block _ (aX Yg0.out) (by omega)).trans Yg0.out)
 replace HB:=Hd (dR HB.out gw15 (by omega))
 clear ox0 gw15
 replace omox0:=Hd omox0
 obtain ⟨z0_0,z0_1,z0_2,z0_3,z0_4,z0_5,z0_6,z0_7,z0_8,z0_9,z0_10,z0_11⟩:=aK X0.out
 obtain ⟨z1_0,z1_1,z1_2,z1_3,z1_4,z1_5,z1_6,z1_7,z1_8,z1_9,z1_10,z1_11⟩:=aK Ys0.out
 obtain ⟨z2_0,z2_1,z2_2,z2_3,z2_4,z2_5,z2_6,z2_7,z2_8,z2_9,z2_10,z2_11⟩:=aK Yx0.out
 obtain ⟨z3_0,z3_1,z3_2,z3_3,z3_4,z3_5,z3_6,z3_7,z3_8,z3_9,z3_10,z3_11⟩:=aK Yg0.out
 go_wp2_with fail
 clear z0_0 z0_1 z0_2 z0_3 z0_4 z0_5 z0_6 z0_7 z0_8 z0_9 z0_10 z0_11 z1_0 z1_1 z1_2 z1_3 z1_4 z1_5 z1_6 z1_7 z1_8 z1_9 z1_10 z1_11 z2_0 z2_1 z2_2 z2_3 z2_4 z2_5 z2_6 z2_7 z2_8 z2_9 z2_10 z2_11 z3_0 z3_1 z3_2 z3_3 z3_4 z3_5 z3_6 z3_7 z3_8 z3_9 z3_10 z3_11
 refine (zD _ _ Bx1 n1 n1 x1 _ _ ox1.out (by omega) (by omega) bd1).mono ?_
 rintro e w16 ⟨k1,rfl,hk1,gw16⟩
 have hdk1:decide (k1<0)=false:=by simp;omega
 have sz16:=gw16.size
 replace rs0:=Hd (rs0.out.chg gw16 (by omega))
 replace rs1:=Hd (rs1.out.chg gw16 l_rs1 (by omega))
 replace rg0:=Hd (rg0.out.chg gw16 (by omega))
 replace rg1:=Hd (rg1.out.chg gw16 l_rg1 (by omega))
 replace omox0:=Hd (omox0.out.chg gw16 (by omega))
 replace X0:=Hd ((gw16.block _ (aX X0.out) (by omega)).trans X0.out)
 replace Ys0:=Hd ((gw16.block _ (aX Ys0.out) (by omega)).trans Ys0.out)
 replace Yx0:=Hd ((gw16.block _ (aX Yx0.out) (by omega)).trans Yx0.out)
 replace Yg0:=Hd ((gw16.block _ (aX Yg0.out) (by omega)).trans Yg0.out)
 replace HB:=Hd (dR HB.out gw16 (by omega))
 clear ox1 gw16
 obtain ⟨z0_0,z0_1,z0_2,z0_3,z0_4,z0_5,z0_6,z0_7,z0_8,z0_9,z0_10,z0_11⟩:=aK X0.out
 obtain ⟨z1_0,z1_1,z1_2,z1_3,z1_4,z1_5,z1_6,z1_7,z1_8,z1_9,z1_10,z1_11⟩:=aK Ys0.out
 obtain ⟨z2_0,z2_1,z2_2,z2_3,z2_4,z2_5,z2_6,z2_7,z2_8,z2_9,z2_10,z2_11⟩:=aK Yx0.out
 obtain ⟨z3_0,z3_1,z3_2,z3_3,z3_4,z3_5,z3_6,z3_7,z3_8,z3_9,z3_10,z3_11⟩:=aK Yg0.out
 go_wp2_with fail
 clear z0_0 z0_1 z0_2 z0_3 z0_4 z0_5 z0_6 z0_7 z0_8 z0_9 z0_10 z0_11 z1_0 z1_1 z1_2 z1_3 z1_4 z1_5 z1_6 z1_7 z1_8 z1_9 z1_10 z1_11 z2_0 z2_1 z2_2 z2_3 z2_4 z2_5 z2_6 z2_7 z2_8 z2_9 z2_10 z2_11 z3_0 z3_1 z3_2 z3_3 z3_4 z3_5 z3_6 z3_7 z3_8 z3_9 z3_10 z3_11
 refine (lD _ Rg0 Rs0 _ rg0.out.rd rs0.out.rd resle0.out).mono ?_
 rintro e w17 ⟨rfl,bw17⟩
 have sz17:=bw17.size
 replace rs0:=Hd (rs0.out.below bw17)
 replace rs1:=Hd (rs1.out.below bw17)
 replace rg0:=Hd (rg0.out.below bw17)
 replace rg1:=Hd (rg1.out.below bw17)
 replace omox0:=Hd (omox0.out.below bw17)
 replace X0:=Hd (aF bw17 X0.out)
 replace Ys0:=Hd (aF bw17 Ys0.out)
 replace Yx0:=Hd (aF bw17 Yx0.out)
 replace Yg0:=Hd (aF bw17 Yg0.out)
 replace HB:=Hd (aA HB.out bw17)
 clear bw17
 obtain ⟨z0_0,z0_1,z0_2,z0_3,z0_4,z0_5,z0_6,z0_7,z0_8,z0_9,z0_10,z0_11⟩:=aK X0.out
 obtain ⟨z1_0,z1_1,z1_2,z1_3,z1_4,z1_5,z1_6,z1_7,z1_8,z1_9,z1_10,z1_11⟩:=aK Ys0.out
 obtain ⟨z2_0,z2_1,z2_2,z2_3,z2_4,z2_5,z2_6,z2_7,z2_8,z2_9,z2_10,z2_11⟩:=aK Yx0.out
 obtain ⟨z3_0,z3_1,z3_2,z3_3,z3_4,z3_5,z3_6,z3_7,z3_8,z3_9,z3_10,z3_11⟩:=aK Yg0.out
 go_wp2_with fail
 clear z0_0 z0_1 z0_2 z0_3 z0_4 z0_5 z0_6 z0_7 z0_8 z0_9 z0_10 z0_11 z1_0 z1_1 z1_2 z1_3 z1_4 z1_5 z1_6 z1_7 z1_8 z1_9 z1_10 z1_11 z2_0 z2_1 z2_2 z2_3 z2_4 z2_5 z2_6 z2_7 z2_8 z2_9 z2_10 z2_11 z3_0 z3_1 z3_2 z3_3 z3_4 z3_5 z3_6 z3_7 z3_8 z3_9 z3_10 z3_11
 refine (ja Rg1 Rs1 rng1 rns1 rcg1 rcs1 _ _ rg1.out.rd rs1.out.rd le_g1).mono ?_
 rintro e w18 ⟨rfl,bw18⟩
 have sz18:=bw18.size
 replace rs0:=Hd (rs0.out.below bw18)
 replace rs1:=Hd (rs1.out.below bw18)
 replace rg0:=Hd (rg0.out.below bw18)
 replace rg1:=Hd (rg1.out.below bw18)
 replace omox0:=Hd (omox0.out.below bw18)
 replace X0:=Hd (aF bw18 X0.out)
 replace Ys0:=Hd (aF bw18 Ys0.out)
 replace Yx0:=Hd (aF bw18 Yx0.out)
 replace Yg0:=Hd (aF bw18 Yg0.out)
 replace HB:=Hd (aA HB.out bw18)
 clear bw18
 obtain ⟨z0_0,z0_1,z0_2,z0_3,z0_4,z0_5,z0_6,z0_7,z0_8,z0_9,z0_10,z0_11⟩:=aK X0.out
 obtain ⟨z1_0,z1_1,z1_2,z1_3,z1_4,z1_5,z1_6,z1_7,z1_8,z1_9,z1_10,z1_11⟩:=aK Ys0.out
 obtain ⟨z2_0,z2_1,z2_2,z2_3,z2_4,z2_5,z2_6,z2_7,z2_8,z2_9,z2_10,z2_11⟩:=aK Yx0.out
 obtain ⟨z3_0,z3_1,z3_2,z3_3,z3_4,z3_5,z3_6,z3_7,z3_8,z3_9,z3_10,z3_11⟩:=aK Yg0.out
 go_wp2_with fail
 clear z0_0 z0_1 z0_2 z0_3 z0_4 z0_5 z0_6 z0_7 z0_8 z0_9 z0_10 z0_11 z1_0 z1_1 z1_2 z1_3 z1_4 z1_5 z1_6 z1_7 z1_8 z1_9 z1_10 z1_11 z2_0 z2_1 z2_2 z2_3 z2_4 z2_5 z2_6 z2_7 z2_8 z2_9 z2_10 z2_11 z3_0 z3_1 z3_2 z3_3 z3_4 z3_5 z3_6 z3_7 z3_8 z3_9 z3_10 z3_11
 refine (zI _ _ _ _ Rg0 1 _ rg0.out (by omega) resle0.out (by omega) (by omega) (by omega)).mono ?_
 rintro e w19 ⟨rfl,omrg0,gw19,hp19⟩
 have sz19:=gw19.size
 replace rs0:=Hd (rs0.out.chg gw19 (by omega))
 replace rs1:=Hd (rs1.out.chg gw19 l_rs1 (by omega))
 replace omox0:=Hd (omox0.out.chg gw19 (by omega))
 replace X0:=Hd ((gw19.block _ (aX X0.out) (by omega)).trans X0.out)
 replace Ys0:=Hd ((gw19.block _ (aX Ys0.out) (by omega)).trans Ys0.out)
 replace Yx0:=Hd ((gw19.block _ (aX Yx0.out) (by omega)).trans Yx0.out)
 replace Yg0:=Hd ((gw19.block _ (aX Yg0.out) (by omega)).trans Yg0.out)
 replace HB:=Hd (dR HB.out gw19 (by omega))
 have hz19:=aa rg1.out fun a ha=>hp19 a.block (rg1.out.lt a ha).2 ⟨a,ha,rfl⟩
 replace rg1:=Hd hz19
 clear hz19 hp19
 clear rg0 gw19
 replace omrg0:=Hd omrg0
 obtain ⟨z0_0,z0_1,z0_2,z0_3,z0_4,z0_5,z0_6,z0_7,z0_8,z0_9,z0_10,z0_11⟩:=aK X0.out
 obtain ⟨z1_0,z1_1,z1_2,z1_3,z1_4,z1_5,z1_6,z1_7,z1_8,z1_9,z1_10,z1_11⟩:=aK Ys0.out
 obtain ⟨z2_0,z2_1,z2_2,z2_3,z2_4,z2_5,z2_6,z2_7,z2_8,z2_9,z2_10,z2_11⟩:=aK Yx0.out
 obtain ⟨z3_0,z3_1,z3_2,z3_3,z3_4,z3_5,z3_6,z3_7,z3_8,z3_9,z3_10,z3_11⟩:=aK Yg0.out
 go_wp2_with fail
 clear z0_0 z0_1 z0_2 z0_3 z0_4 z0_5 z0_6 z0_7 z0_8 z0_9 z0_10 z0_11 z1_0 z1_1 z1_2 z1_3 z1_4 z1_5 z1_6 z1_7 z1_8 z1_9 z1_10 z1_11 z2_0 z2_1 z2_2 z2_3 z2_4 z2_5 z2_6 z2_7 z2_8 z2_9 z2_10 z2_11 z3_0 z3_1 z3_2 z3_3 z3_4 z3_5 z3_6 z3_7 z3_8 z3_9 z3_10 z3_11
 refine (BL _ _ Rg1 rng1 rcg1 _ _ _ rg1.out l_rg1 (by omega) (by omega) le_g1).mono ?_
 rintro e w20 ⟨rfl,omrg1,gw20,hp20⟩
 have sz20:=gw20.size
 replace rs0:=Hd (rs0.out.chg gw20 (by omega))
 replace rs1:=Hd (rs1.out.chg gw20 l_rs1 (by omega))
 replace omox0:=Hd (omox0.out.chg gw20 (by omega))
 replace X0:=Hd ((gw20.block _ (aX X0.out) (by omega)).trans X0.out)
 replace Ys0:=Hd ((gw20.block _ (aX Ys0.out) (by omega)).trans Ys0.out)
 replace Yx0:=Hd ((gw20.block _ (aX Yx0.out) (by omega)).trans Yx0.out)
 replace Yg0:=Hd ((gw20.block _ (aX Yg0.out) (by omega)).trans Yg0.out)
 replace HB:=Hd (dR HB.out gw20 (by omega))
 have hz20:=omrg0.out.keep fun k hk _ _ hn=>hp20 k hk hn
 replace omrg0:=Hd hz20
 clear hz20 hp20
 clear rg1 gw20
 replace omrg1:=Hd omrg1
 obtain ⟨z0_0,z0_1,z0_2,z0_3,z0_4,z0_5,z0_6,z0_7,z0_8,z0_9,z0_10,z0_11⟩:=aK X0.out
 obtain ⟨z1_0,z1_1,z1_2,z1_3,z1_4,z1_5,z1_6,z1_7,z1_8,z1_9,z1_10,z1_11⟩:=aK Ys0.out
 obtain ⟨z2_0,z2_1,z2_2,z2_3,z2_4,z2_5,z2_6,z2_7,z2_8,z2_9,z2_10,z2_11⟩:=aK Yx0.out
 obtain ⟨z3_0,z3_1,z3_2,z3_3,z3_4,z3_5,z3_6,z3_7,z3_8,z3_9,z3_10,z3_11⟩:=aK Yg0.out
 go_wp2_with fail
 clear z0_0 z0_1 z0_2 z0_3 z0_4 z0_5 z0_6 z0_7 z0_8 z0_9 z0_10 z0_11 z1_0 z1_1 z1_2 z1_3 z1_4 z1_5 z1_6 z1_7 z1_8 z1_9 z1_10 z1_11 z2_0 z2_1 z2_2 z2_3 z2_4 z2_5 z2_6 z2_7 z2_8 z2_9 z2_10 z2_11 z3_0 z3_1 z3_2 z3_3 z3_4 z3_5 z3_6 z3_7 z3_8 z3_9 z3_10 z3_11
 refine (qi _ Rg0 1 _ omrg0.out.rd resle0.out (by omega) (by omega) (by omega)).mono ?_
 rintro e w21 ⟨rfl,bw21⟩
 have sz21:=bw21.size
 replace rs0:=Hd (rs0.out.below bw21)
 replace rs1:=Hd (rs1.out.below bw21)
 replace omox0:=Hd (omox0.out.below bw21)
 replace omrg0:=Hd (omrg0.out.below bw21)
 replace omrg1:=Hd (omrg1.out.below bw21)
 replace X0:=Hd (aF bw21 X0.out)
 replace Ys0:=Hd (aF bw21 Ys0.out)
 replace Yx0:=Hd (aF bw21 Yx0.out)
 replace Yg0:=Hd (aF bw21 Yg0.out)
 replace HB:=Hd (aA HB.out bw21)
 clear bw21
 obtain ⟨z0_0,z0_1,z0_2,z0_3,z0_4,z0_5,z0_6,z0_7,z0_8,z0_9,z0_10,z0_11⟩:=aK X0.out
 obtain ⟨z1_0,z1_1,z1_2,z1_3,z1_4,z1_5,z1_6,z1_7,z1_8,z1_9,z1_10,z1_11⟩:=aK Ys0.out
 obtain ⟨z2_0,z2_1,z2_2,z2_3,z2_4,z2_5,z2_6,z2_7,z2_8,z2_9,z2_10,z2_11⟩:=aK Yx0.out
 obtain ⟨z3_0,z3_1,z3_2,z3_3,z3_4,z3_5,z3_6,z3_7,z3_8,z3_9,z3_10,z3_11⟩:=aK Yg0.out
 go_wp2_with fail
 clear z0_0 z0_1 z0_2 z0_3 z0_4 z0_5 z0_6 z0_7 z0_8 z0_9 z0_10 z0_11 z1_0 z1_1 z1_2 z1_3 z1_4 z1_5 z1_6 z1_7 z1_8 z1_9 z1_10 z1_11 z2_0 z2_1 z2_2 z2_3 z2_4 z2_5 z2_6 z2_7 z2_8 z2_9 z2_10 z2_11 z3_0 z3_1 z3_2 z3_3 z3_4 z3_5 z3_6 z3_7 z3_8 z3_9 z3_10 z3_11
 refine (lI Rg1 rng1 rcg1 _ _ _ omrg1.out.rd rfl (by omega) (by omega) le_g1).mono ?_
 rintro e w22 ⟨rfl,bw22⟩
 have sz22:=bw22.size
 replace rs0:=Hd (rs0.out.below bw22)
 replace rs1:=Hd (rs1.out.below bw22)
 replace omox0:=Hd (omox0.out.below bw22)
 replace omrg0:=Hd (omrg0.out.below bw22)
 replace omrg1:=Hd (omrg1.out.below bw22)
 replace X0:=Hd (aF bw22 X0.out)
 replace Ys0:=Hd (aF bw22 Ys0.out)
 replace Yx0:=Hd (aF bw22 Yx0.out)
 replace Yg0:=Hd (aF bw22 Yg0.out)
 replace HB:=Hd (aA HB.out bw22)
 clear bw22
 obtain ⟨z0_0,z0_1,z0_2,z0_3,z0_4,z0_5,z0_6,z0_7,z0_8,z0_9,z0_10,z0_11⟩:=aK X0.out
 obtain ⟨z1_0,z1_1,z1_2,z1_3,z1_4,z1_5,z1_6,z1_7,z1_8,z1_9,z1_10,z1_11⟩:=aK Ys0.out
 obtain ⟨z2_0,z2_1,z2_2,z2_3,z2_4,z2_5,z2_6,z2_7,z2_8,z2_9,z2_10,z2_11⟩:=aK Yx0.out
 obtain ⟨z3_0,z3_1,z3_2,z3_3,z3_4,z3_5,z3_6,z3_7,z3_8,z3_9,z3_10,z3_11⟩:=aK Yg0.out
 go_wp2_with fail
 clear z0_0 z0_1 z0_2 z0_3 z0_4 z0_5 z0_6 z0_7 z0_8 z0_9 z0_10 z0_11 z1_0 z1_1 z1_2 z1_3 z1_4 z1_5 z1_6 z1_7 z1_8 z1_9 z1_10 z1_11 z2_0 z2_1 z2_2 z2_3 z2_4 z2_5 z2_6 z2_7 z2_8 z2_9 z2_10 z2_11 z3_0 z3_1 z3_2 z3_3 z3_4 z3_5 z3_6 z3_7 z3_8 z3_9 z3_10 z3_11
 refine (mo b0 s0 _ (H0.out.below HB.out) (by omega) (by omega) (by omega)).mono ?_
 rintro e w23 ⟨th0,rfl,oh0,bw23⟩
 have sz23:=bw23.size
 replace rs0:=Hd (rs0.out.below bw23)
 replace rs1:=Hd (rs1.out.below bw23)
 replace omox0:=Hd (omox0.out.below bw23)
 replace omrg0:=Hd (omrg0.out.below bw23)
 replace omrg1:=Hd (omrg1.out.below bw23)
 replace X0:=Hd (aF bw23 X0.out)
 replace Ys0:=Hd (aF bw23 Ys0.out)
 replace Yx0:=Hd (aF bw23 Yx0.out)
 replace Yg0:=Hd (aF bw23 Yg0.out)
 replace HB:=Hd (aA HB.out bw23)
 replace oh0:=Hd oh0
 clear bw23
 have hn_th0:th0.n2<=1048576:=by have e1:=oh0.out.rd.state.1;have e2:=H0.out.state.1;omega
 obtain ⟨z0_0,z0_1,z0_2,z0_3,z0_4,z0_5,z0_6,z0_7,z0_8,z0_9,z0_10,z0_11⟩:=aK X0.out
 obtain ⟨z1_0,z1_1,z1_2,z1_3,z1_4,z1_5,z1_6,z1_7,z1_8,z1_9,z1_10,z1_11⟩:=aK Ys0.out
 obtain ⟨z2_0,z2_1,z2_2,z2_3,z2_4,z2_5,z2_6,z2_7,z2_8,z2_9,z2_10,z2_11⟩:=aK Yx0.out
 obtain ⟨z3_0,z3_1,z3_2,z3_3,z3_4,z3_5,z3_6,z3_7,z3_8,z3_9,z3_10,z3_11⟩:=aK Yg0.out
 go_wp2_with fail
 clear z0_0 z0_1 z0_2 z0_3 z0_4 z0_5 z0_6 z0_7 z0_8 z0_9 z0_10 z0_11 z1_0 z1_1 z1_2 z1_3 z1_4 z1_5 z1_6 z1_7 z1_8 z1_9 z1_10 z1_11 z2_0 z2_1 z2_2 z2_3 z2_4 z2_5 z2_6 z2_7 z2_8 z2_9 z2_10 z2_11 z3_0 z3_1 z3_2 z3_3 z3_4 z3_5 z3_6 z3_7 z3_8 z3_9 z3_10 z3_11
 refine (oL A1 n1 c1 x1 _ (H1.out.below HB.out) bd1).mono ?_
 rintro e w24 ⟨Bh1,rfl,oh1,bw24⟩
 have sz24:=bw24.size
 replace rs0:=Hd (rs0.out.below bw24)
 replace rs1:=Hd (rs1.out.below bw24)
 replace omox0:=Hd (omox0.out.below bw24)
 replace omrg0:=Hd (omrg0.out.below bw24)
 replace omrg1:=Hd (omrg1.out.below bw24)
 replace oh0:=Hd (oh0.out.below bw24)
 replace X0:=Hd (aF bw24 X0.out)
 replace Ys0:=Hd (aF bw24 Ys0.out)
 replace Yx0:=Hd (aF bw24 Yx0.out)
 replace Yg0:=Hd (aF bw24 Yg0.out)
 replace HB:=Hd (aA HB.out bw24)
 replace oh1:=Hd oh1
 clear bw24
 obtain ⟨z0_0,z0_1,z0_2,z0_3,z0_4,z0_5,z0_6,z0_7,z0_8,z0_9,z0_10,z0_11⟩:=aK X0.out
 obtain ⟨z1_0,z1_1,z1_2,z1_3,z1_4,z1_5,z1_6,z1_7,z1_8,z1_9,z1_10,z1_11⟩:=aK Ys0.out
 obtain ⟨z2_0,z2_1,z2_2,z2_3,z2_4,z2_5,z2_6,z2_7,z2_8,z2_9,z2_10,z2_11⟩:=aK Yx0.out
 obtain ⟨z3_0,z3_1,z3_2,z3_3,z3_4,z3_5,z3_6,z3_7,z3_8,z3_9,z3_10,z3_11⟩:=aK Yg0.out
 go_wp2_with fail
 clear z0_0 z0_1 z0_2 z0_3 z0_4 z0_5 z0_6 z0_7 z0_8 z0_9 z0_10 z0_11 z1_0 z1_1 z1_2 z1_3 z1_4 z1_5 z1_6 z1_7 z1_8 z1_9 z1_10 z1_11 z2_0 z2_1 z2_2 z2_3 z2_4 z2_5 z2_6 z2_7 z2_8 z2_9 z2_10 z2_11 z3_0 z3_1 z3_2 z3_3 z3_4 z3_5 z3_6 z3_7 z3_8 z3_9 z3_10 z3_11
 refine (ui b0 th0 Bh1 n1 n1 x1 _ oh0.out.rd (lK oh1.out) (by omega) (by omega) (by omega) be1.out).mono ?_
 rintro e w25 ⟨Rh0,Rh1,rnh1,rch1,rfl,rh0,rh1,bw25⟩
 have sz25:=bw25.size
 replace rs0:=Hd (rs0.out.below bw25)
 replace rs1:=Hd (rs1.out.below bw25)
 replace omox0:=Hd (omox0.out.below bw25)
 replace omrg0:=Hd (omrg0.out.below bw25)
 replace omrg1:=Hd (omrg1.out.below bw25)
 replace oh0:=Hd (oh0.out.below bw25)
 replace oh1:=Hd (oh1.out.below bw25)
 replace X0:=Hd (aF bw25 X0.out)
 replace Ys0:=Hd (aF bw25 Ys0.out)
 replace Yx0:=Hd (aF bw25 Yx0.out)
 replace Yg0:=Hd (aF bw25 Yg0.out)
 replace HB:=Hd (aA HB.out bw25)
 replace rh0:=Hd rh0
 have l_rh1:=rh1.lies
 replace rh1:=Hd rh1
 clear bw25
 have le_h1:rnh1<=1099511627776:=by have h1:=rh1.out.len;have h2:=resle1.out;omega
 replace rs0:=Hd (rs0.out.below (aB (Below.refl _ _) (.cells (aD (raB b0 x1) Rh0) 31)))
 replace rs1:=Hd (rs1.out.below (aB (Below.refl _ _) (.cells (aD (raB b0 x1) Rh0) 31)))
 replace omox0:=Hd (omox0.out.below (aB (Below.refl _ _) (.cells (aD (raB b0 x1) Rh0) 31)))
 replace omrg0:=Hd (omrg0.out.below (aB (Below.refl _ _) (.cells (aD (raB b0 x1) Rh0) 31)))
 replace omrg1:=Hd (omrg1.out.below (aB (Below.refl _ _) (.cells (aD (raB b0 x1) Rh0) 31)))
 replace oh0:=Hd (oh0.out.below (aB (Below.refl _ _) (.cells (aD (raB b0 x1) Rh0) 31)))
 replace oh1:=Hd (oh1.out.below (aB (Below.refl _ _) (.cells (aD (raB b0 x1) Rh0) 31)))
 replace rh0:=Hd (rh0.out.below (aB (Below.refl _ _) (.cells (aD (raB b0 x1) Rh0) 31)))
 replace rh1:=Hd (rh1.out.below (aB (Below.refl _ _) (.cells (aD (raB b0 x1) Rh0) 31)))
 replace X0:=Hd (aR (.cells (aD (raB b0 x1) Rh0) 31) X0.out)
 replace Ys0:=Hd (aR (.cells (aD (raB b0 x1) Rh0) 31) Ys0.out)
 replace Yx0:=Hd (aR (.cells (aD (raB b0 x1) Rh0) 31) Yx0.out)
 replace Yg0:=Hd (aR (.cells (aD (raB b0 x1) Rh0) 31) Yg0.out)
 have Yh0:=Hd (aL w25 (.cells (aD (raB b0 x1) Rh0) 31))
 replace HB:=Hd (aB HB.out (.cells (aD (raB b0 x1) Rh0) 31))
 clear oh0 oh1
 obtain ⟨z0_0,z0_1,z0_2,z0_3,z0_4,z0_5,z0_6,z0_7,z0_8,z0_9,z0_10,z0_11⟩:=aK X0.out
 obtain ⟨z1_0,z1_1,z1_2,z1_3,z1_4,z1_5,z1_6,z1_7,z1_8,z1_9,z1_10,z1_11⟩:=aK Ys0.out
 obtain ⟨z2_0,z2_1,z2_2,z2_3,z2_4,z2_5,z2_6,z2_7,z2_8,z2_9,z2_10,z2_11⟩:=aK Yx0.out
 obtain ⟨z3_0,z3_1,z3_2,z3_3,z3_4,z3_5,z3_6,z3_7,z3_8,z3_9,z3_10,z3_11⟩:=aK Yg0.out
 obtain ⟨z4_0,z4_1,z4_2,z4_3,z4_4,z4_5,z4_6,z4_7,z4_8,z4_9,z4_10,z4_11⟩:=aK Yh0.out
 go_wp2_with fail
 clear z0_0 z0_1 z0_2 z0_3 z0_4 z0_5 z0_6 z0_7 z0_8 z0_9 z0_10 z0_11 z1_0 z1_1 z1_2 z1_3 z1_4 z1_5 z1_6 z1_7 z1_8 z1_9 z1_10 z1_11 z2_0 z2_1 z2_2 z2_3 z2_4 z2_5 z2_6 z2_7 z2_8 z2_9 z2_10 z2_11 z3_0 z3_1 z3_2 z3_3 z3_4 z3_5 z3_6 z3_7 z3_8 z3_9 z3_10 z3_11 z4_0 z4_1 z4_2 z4_3 z4_4 z4_5 z4_6 z4_7 z4_8 z4_9 z4_10 z4_11
 refine (lD _ Rh0 Rs0 _ rh0.out.rd rs0.out.rd resle0.out).mono ?_
 rintro e w26 ⟨rfl,bw26⟩
 have sz26:=bw26.size
 simp only [World.size_alloc] at sz26
 replace rs0:=Hd (rs0.out.below bw26)
 replace rs1:=Hd (rs1.out.below bw26)
 replace omox0:=Hd (omox0.out.below bw26)
 replace omrg0:=Hd (omrg0.out.below bw26)
 replace omrg1:=Hd (omrg1.out.below bw26)
 replace rh0:=Hd (rh0.out.below bw26)
 replace rh1:=Hd (rh1.out.below bw26)
 replace X0:=Hd (aF bw26 X0.out)
 replace Ys0:=Hd (aF bw26 Ys0.out)
 replace Yx0:=Hd (aF bw26 Yx0.out)
 replace Yg0:=Hd (aF bw26 Yg0.out)
 replace Yh0:=Hd (aF bw26 Yh0.out)
 replace HB:=Hd (aA HB.out bw26)
 clear bw26
 obtain ⟨z0_0,z0_1,z0_2,z0_3,z0_4,z0_5,z0_6,z0_7,z0_8,z0_9,z0_10,z0_11⟩:=aK X0.out
 obtain ⟨z1_0,z1_1,z1_2,z1_3,z1_4,z1_5,z1_6,z1_7,z1_8,z1_9,z1_10,z1_11⟩:=aK Ys0.out
 obtain ⟨z2_0,z2_1,z2_2,z2_3,z2_4,z2_5,z2_6,z2_7,z2_8,z2_9,z2_10,z2_11⟩:=aK Yx0.out
 obtain ⟨z3_0,z3_1,z3_2,z3_3,z3_4,z3_5,z3_6,z3_7,z3_8,z3_9,z3_10,z3_11⟩:=aK Yg0.out
 obtain ⟨z4_0,z4_1,z4_2,z4_3,z4_4,z4_5,z4_6,z4_7,z4_8,z4_9,z4_10,z4_11⟩:=aK Yh0.out
 go_wp2_with fail
 clear z0_0 z0_1 z0_2 z0_3 z0_4 z0_5 z0_6 z0_7 z0_8 z0_9 z0_10 z0_11 z1_0 z1_1 z1_2 z1_3 z1_4 z1_5 z1_6 z1_7 z1_8 z1_9 z1_10 z1_11 z2_0 z2_1 z2_2 z2_3 z2_4 z2_5 z2_6 z2_7 z2_8 z2_9 z2_10 z2_11 z3_0 z3_1 z3_2 z3_3 z3_4 z3_5 z3_6 z3_7 z3_8 z3_9 z3_10 z3_11 z4_0 z4_1 z4_2 z4_3 z4_4 z4_5 z4_6 z4_7 z4_8 z4_9 z4_10 z4_11
 refine (ja Rh1 Rs1 rnh1 rns1 rch1 rcs1 _ _ rh1.out.rd rs1.out.rd le_h1).mono ?_
 rintro e w27 ⟨rfl,bw27⟩
 have sz27:=bw27.size
 replace rs0:=Hd (rs0.out.below bw27)
 replace rs1:=Hd (rs1.out.below bw27)
 replace omox0:=Hd (omox0.out.below bw27)
 replace omrg0:=Hd (omrg0.out.below bw27)
 replace omrg1:=Hd (omrg1.out.below bw27)
 replace rh0:=Hd (rh0.out.below bw27)
 replace rh1:=Hd (rh1.out.below bw27)
 replace X0:=Hd (aF bw27 X0.out)
 replace Ys0:=Hd (aF bw27 Ys0.out)
 replace Yx0:=Hd (aF bw27 Yx0.out)
 replace Yg0:=Hd (aF bw27 Yg0.out)
 replace Yh0:=Hd (aF bw27 Yh0.out)
 replace HB:=Hd (aA HB.out bw27)
 clear bw27
 obtain ⟨z0_0,z0_1,z0_2,z0_3,z0_4,z0_5,z0_6,z0_7,z0_8,z0_9,z0_10,z0_11⟩:=aK X0.out
 obtain ⟨z1_0,z1_1,z1_2,z1_3,z1_4,z1_5,z1_6,z1_7,z1_8,z1_9,z1_10,z1_11⟩:=aK Ys0.out
 obtain ⟨z2_0,z2_1,z2_2,z2_3,z2_4,z2_5,z2_6,z2_7,z2_8,z2_9,z2_10,z2_11⟩:=aK Yx0.out
 obtain ⟨z3_0,z3_1,z3_2,z3_3,z3_4,z3_5,z3_6,z3_7,z3_8,z3_9,z3_10,z3_11⟩:=aK Yg0.out
 obtain ⟨z4_0,z4_1,z4_2,z4_3,z4_4,z4_5,z4_6,z4_7,z4_8,z4_9,z4_10,z4_11⟩:=aK Yh0.out
 go_wp2_with fail
 clear z0_0 z0_1 z0_2 z0_3 z0_4 z0_5 z0_6 z0_7 z0_8 z0_9 z0_10 z0_11 z1_0 z1_1 z1_2 z1_3 z1_4 z1_5 z1_6 z1_7 z1_8 z1_9 z1_10 z1_11 z2_0 z2_1 z2_2 z2_3 z2_4 z2_5 z2_6 z2_7 z2_8 z2_9 z2_10 z2_11 z3_0 z3_1 z3_2 z3_3 z3_4 z3_5 z3_6 z3_7 z3_8 z3_9 z3_10 z3_11 z4_0 z4_1 z4_2 z4_3 z4_4 z4_5 z4_6 z4_7 z4_8 z4_9 z4_10 z4_11
 refine (qi _ Rg0 1 _ omrg0.out.rd resle0.out (by omega) (by omega) (by omega)).mono ?_
 rintro e w28 ⟨rfl,bw28⟩
 have sz28:=bw28.size
 replace rs0:=Hd (rs0.out.below bw28)
 replace rs1:=Hd (rs1.out.below bw28)
 replace omox0:=Hd (omox0.out.below bw28)
 replace omrg0:=Hd (omrg0.out.below bw28)
 replace omrg1:=Hd (omrg1.out.below bw28)
 replace rh0:=Hd (rh0.out.below bw28)
 replace rh1:=Hd (rh1.out.below bw28)
 replace X0:=Hd (aF bw28 X0.out)
 replace Ys0:=Hd (aF bw28 Ys0.out)
 replace Yx0:=Hd (aF bw28 Yx0.out)
 replace Yg0:=Hd (aF bw28 Yg0.out)
 replace Yh0:=Hd (aF bw28 Yh0.out)
 replace HB:=Hd (aA HB.out bw28)
 clear bw28
 obtain ⟨z0_0,z0_1,z0_2,z0_3,z0_4,z0_5,z0_6,z0_7,z0_8,z0_9,z0_10,z0_11⟩:=aK X0.out
 obtain ⟨z1_0,z1_1,z1_2,z1_3,z1_4,z1_5,z1_6,z1_7,z1_8,z1_9,z1_10,z1_11⟩:=aK Ys0.out
 obtain ⟨z2_0,z2_1,z2_2,z2_3,z2_4,z2_5,z2_6,z2_7,z2_8,z2_9,z2_10,z2_11⟩:=aK Yx0.out
 obtain ⟨z3_0,z3_1,z3_2,z3_3,z3_4,z3_5,z3_6,z3_7,z3_8,z3_9,z3_10,z3_11⟩:=aK Yg0.out
 obtain ⟨z4_0,z4_1,z4_2,z4_3,z4_4,z4_5,z4_6,z4_7,z4_8,z4_9,z4_10,z4_11⟩:=aK Yh0.out
 go_wp2_with fail
 clear z0_0 z0_1 z0_2 z0_3 z0_4 z0_5 z0_6 z0_7 z0_8 z0_9 z0_10 z0_11 z1_0 z1_1 z1_2 z1_3 z1_4 z1_5 z1_6 z1_7 z1_8 z1_9 z1_10 z1_11 z2_0 z2_1 z2_2 z2_3 z2_4 z2_5 z2_6 z2_7 z2_8 z2_9 z2_10 z2_11 z3_0 z3_1 z3_2 z3_3 z3_4 z3_5 z3_6 z3_7 z3_8 z3_9 z3_10 z3_11 z4_0 z4_1 z4_2 z4_3 z4_4 z4_5 z4_6 z4_7 z4_8 z4_9 z4_10 z4_11
 refine (lI Rg1 rng1 rcg1 _ _ _ omrg1.out.rd rfl (by omega) (by omega) le_g1).mono ?_
 rintro e w29 ⟨rfl,bw29⟩
 have sz29:=bw29.size
 replace rs0:=Hd (rs0.out.below bw29)
 replace rs1:=Hd (rs1.out.below bw29)
 replace omox0:=Hd (omox0.out.below bw29)
 replace omrg0:=Hd (omrg0.out.below bw29)
 replace omrg1:=Hd (omrg1.out.below bw29)
 replace rh0:=Hd (rh0.out.below bw29)
 replace rh1:=Hd (rh1.out.below bw29)
 replace X0:=Hd (aF bw29 X0.out)
 replace Ys0:=Hd (aF bw29 Ys0.out)
 replace Yx0:=Hd (aF bw29 Yx0.out)
 replace Yg0:=Hd (aF bw29 Yg0.out)
 replace Yh0:=Hd (aF bw29 Yh0.out)
 replace HB:=Hd (aA HB.out bw29)
 clear bw29
 obtain ⟨z0_0,z0_1,z0_2,z0_3,z0_4,z0_5,z0_6,z0_7,z0_8,z0_9,z0_10,z0_11⟩:=aK X0.out
 obtain ⟨z1_0,z1_1,z1_2,z1_3,z1_4,z1_5,z1_6,z1_7,z1_8,z1_9,z1_10,z1_11⟩:=aK Ys0.out
 obtain ⟨z2_0,z2_1,z2_2,z2_3,z2_4,z2_5,z2_6,z2_7,z2_8,z2_9,z2_10,z2_11⟩:=aK Yx0.out
 obtain ⟨z3_0,z3_1,z3_2,z3_3,z3_4,z3_5,z3_6,z3_7,z3_8,z3_9,z3_10,z3_11⟩:=aK Yg0.out
 obtain ⟨z4_0,z4_1,z4_2,z4_3,z4_4,z4_5,z4_6,z4_7,z4_8,z4_9,z4_10,z4_11⟩:=aK Yh0.out
 go_wp2_with fail
 clear z0_0 z0_1 z0_2 z0_3 z0_4 z0_5 z0_6 z0_7 z0_8 z0_9 z0_10 z0_11 z1_0 z1_1 z1_2 z1_3 z1_4 z1_5 z1_6 z1_7 z1_8 z1_9 z1_10 z1_11 z2_0 z2_1 z2_2 z2_3 z2_4 z2_5 z2_6 z2_7 z2_8 z2_9 z2_10 z2_11 z3_0 z3_1 z3_2 z3_3 z3_4 z3_5 z3_6 z3_7 z3_8 z3_9 z3_10 z3_11 z4_0 z4_1 z4_2 z4_3 z4_4 z4_5 z4_6 z4_7 z4_8 z4_9 z4_10 z4_11
 go_ret
 exact ⟨rfl,HB.out⟩
end Go.Proofs.YtignkfhdkcgkgaaGreat
