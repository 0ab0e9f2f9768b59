/- Boards that come in: the laws' copy of a board. -/
import Derived.Test.YtignkfhdkcgkgaaGreatBx
namespace Go.Proofs.YtignkfhdkcgkgaaGreat
set_option maxHeartbeats 4000000
set_option maxRecDepth 100000
open Go.RowKit
theorem mo (b:Bd) (s:Sl3) (w:World) (h:bV w b s) (zf:af b.frames<=16777216) (zs:s.n2<=16777216) (zv:af b.saved<=16777216) :
  Calls Tryz.prog 17 #[.agg (aD b s)] w fun e w'=>∃t,e = .returned (.agg (aD b t))/\dm w.heap.size w'.heap.size w' b t/\Below w.heap.size w w':=by
 obtain ⟨d,fs,st,ph,r,sv⟩:=b
 obtain ⟨A1,n1,c1,A2,n2,c2,A3,n3,c3⟩:=s
 have HI:=Hd h
 dsimp only at zf zs zv
 clear h
 go_enter Tryz.func17,Tryz.ntmps17
 go_wp2_with fail
 refine (zV d _).mono ?_
 rintro e w1 ⟨rfl,b1⟩
 have hs1:=b1.size
 simp only [World.size_alloc] at hs1
 have HB:=Hd (aA (aB (aB (aB (Below.refl w.heap.size w) _) _) _) b1)
 have HT:Hid (mE w1 w.heap.size (w.heap.size+1) (w.heap.size+1+1) (aD ⟨d,fs,st,ph,r,sv⟩ ⟨A1,n1,c1,A2,n2,c2,A3,n3,c3⟩) #[.int .i64 0,.int .i64 0,.int .i64 0,.int .i64 0,.slice none 0 0,.slice none 0 0,.int .i64 0,.int .i64 0,.int .i64 0,.int .i64 0,.int .i64 0,.slice none 0 0] #[.int .i64 0,.int .i64 0,.int .i64 0,.int .i64 0,.slice none 0 0,.slice none 0 0,.int .i64 0,.int .i64 0,.int .i64 0,.int .i64 0,.int .i64 0,.slice none 0 0]) :=
  ⟨aF b1 (aR _ (aR _ (aL _ _))),aF b1 (aR _ (ae (by simp))),aF b1 (ae (by simp))⟩
 have hg:w.heap.size≠w.heap.size+1+1:=by omega
 have hg1:w.heap.size+1≠w.heap.size+1+1:=by omega
 obtain ⟨x0,x1,x2,x3,x4,x5,x6,x7,x8,x9,x10,x11⟩:=aK HT.out.1
 obtain ⟨z0,z1,z2,z3,z4,z5,z6,z7,z8,z9,z10,z11⟩:=aK HT.out.2.2
 obtain ⟨u0,u1,u2,u3,u4,u5,u6,u7,u8,u9,u10,u11⟩:=aK HT.out.2.1
 have y0:=fun k=>aJ HT.out.1 k
 have y1:=fun k=>aJ HT.out.2.1 k
 have y2:=fun k=>aJ HT.out.2.2 k
 clear b1
 go_wp2_with fail
 refine (uf A1 n1 c1 fs _ (HI.out.frames.below (by repeat (first|with_reducible exact HB.out|with_reducible refine Below.setCell ?_ (by simp only;omega) _|with_reducible refine aB ?_ _|with_reducible exact Below.refl _ _))) zf).mono ?_
 rintro e w2 ⟨B1,rfl,o1,b2⟩
 have hs2:=b2.size
 simp only [World.size_setCell] at hs2
 replace HB:=Hd (aA (a:=w) (by repeat (first|with_reducible exact HB.out|with_reducible refine Below.setCell ?_ (by simp only;omega) _|with_reducible refine aB ?_ _|with_reducible exact Below.refl _ _)) b2)
 replace HT:Hid (mE w2 w.heap.size (w.heap.size+1) (w.heap.size+1+1) (aD ⟨d,fs,st,ph,r,sv⟩ ⟨A1,n1,c1,A2,n2,c2,A3,n3,c3⟩) #[.int .i64 0,.int .i64 0,.int .i64 0,.int .i64 0,.slice none 0 0,.slice none 0 0,.int .i64 0,.int .i64 0,.int .i64 0,.int .i64 0,.int .i64 0,.slice none 0 0] #[.int .i64 d.W,.int .i64 d.H,.int .i64 d.T,.int .i64 d.R,.slice none 0 0,.slice none 0 0,.int .i64 0,.int .i64 0,.int .i64 0,.int .i64 0,.int .i64 0,.slice none 0 0]):=mE.tr ((((HT.out.set hg hg1 (.int .i64 d.W) rfl).set hg hg1 (.int .i64 d.H) rfl).set hg hg1 (.int .i64 d.T) rfl).set hg hg1 (.int .i64 d.R) rfl) b2
 have O2:=Hd o1
 clear x0 z0 u0 x1 z1 u1 x2 z2 u2 x3 z3 u3 x4 z4 u4 x5 z5 u5 x6 z6 u6 x7 z7 u7 x8 z8 u8 x9 z9 u9 x10 z10 u10 x11 z11 u11 y0 y1 y2
 obtain ⟨x0,x1,x2,x3,x4,x5,x6,x7,x8,x9,x10,x11⟩:=aK HT.out.1
 obtain ⟨z0,z1,z2,z3,z4,z5,z6,z7,z8,z9,z10,z11⟩:=aK HT.out.2.2
 obtain ⟨u0,u1,u2,u3,u4,u5,u6,u7,u8,u9,u10,u11⟩:=aK HT.out.2.1
 have y0:=fun k=>aJ HT.out.1 k
 have y1:=fun k=>aJ HT.out.2.1 k
 have y2:=fun k=>aJ HT.out.2.2 k
 clear b2 o1
 go_wp2_with fail
 refine (rY A2 n2 c2 st _ (HI.out.state.below (by repeat (first|with_reducible exact HB.out|with_reducible refine Below.setCell ?_ (by simp only;omega) _|with_reducible refine aB ?_ _|with_reducible exact Below.refl _ _))) zs).mono ?_
 rintro e w3 ⟨B2,rfl,o2,b3⟩
 have hs3:=b3.size
 simp only [World.size_setCell] at hs3
 replace HB:=Hd (aA (a:=w) (by repeat (first|with_reducible exact HB.out|with_reducible refine Below.setCell ?_ (by simp only;omega) _|with_reducible refine aB ?_ _|with_reducible exact Below.refl _ _)) b3)
 replace HT:Hid (mE w3 w.heap.size (w.heap.size+1) (w.heap.size+1+1) (aD ⟨d,fs,st,ph,r,sv⟩ ⟨A1,n1,c1,A2,n2,c2,A3,n3,c3⟩) #[.int .i64 0,.int .i64 0,.int .i64 0,.int .i64 0,.slice none 0 0,.slice none 0 0,.int .i64 0,.int .i64 0,.int .i64 0,.int .i64 0,.int .i64 0,.slice none 0 0] #[.int .i64 d.W,.int .i64 d.H,.int .i64 d.T,.int .i64 d.R,.slice B1 n1 n1,.slice none 0 0,.int .i64 0,.int .i64 0,.int .i64 0,.int .i64 0,.int .i64 0,.slice none 0 0]):=mE.tr (HT.out.set hg hg1 (.slice B1 n1 n1) rfl) b3
 replace O2:=Hd ((O2.out.chg (lo':=w.heap.size+2) (hi':=w.heap.size+3) (by repeat (first|with_reducible exact Chg.refl _ _ _|with_reducible refine Chg.set ?_ (by omega) (by omega) _)) (by simp only [World.size_setCell];omega)).below b3)
 have lO3:=o2.lies
 have O3:=Hd o2
 simp only [World.size_setCell] at lO3
 clear x0 z0 u0 x1 z1 u1 x2 z2 u2 x3 z3 u3 x4 z4 u4 x5 z5 u5 x6 z6 u6 x7 z7 u7 x8 z8 u8 x9 z9 u9 x10 z10 u10 x11 z11 u11 y0 y1 y2
 obtain ⟨x0,x1,x2,x3,x4,x5,x6,x7,x8,x9,x10,x11⟩:=aK HT.out.1
 obtain ⟨z0,z1,z2,z3,z4,z5,z6,z7,z8,z9,z10,z11⟩:=aK HT.out.2.2
 obtain ⟨u0,u1,u2,u3,u4,u5,u6,u7,u8,u9,u10,u11⟩:=aK HT.out.2.1
 have y0:=fun k=>aJ HT.out.1 k
 have y1:=fun k=>aJ HT.out.2.1 k
 have y2:=fun k=>aJ HT.out.2.2 k
 clear b3 o2
 go_wp2_with fail
 refine (tQ r _).mono ?_
 rintro e w4 ⟨rfl,b4⟩
 have hs4:=b4.size
 simp only [World.size_setCell] at hs4
 replace HB:=Hd (aA (a:=w) (by repeat (first|with_reducible exact HB.out|with_reducible refine Below.setCell ?_ (by simp only;omega) _|with_reducible refine aB ?_ _|with_reducible exact Below.refl _ _)) b4)
 replace HT:Hid (mE w4 w.heap.size (w.heap.size+1) (w.heap.size+1+1) (aD ⟨d,fs,st,ph,r,sv⟩ ⟨A1,n1,c1,A2,n2,c2,A3,n3,c3⟩) #[.int .i64 0,.int .i64 0,.int .i64 0,.int .i64 0,.slice none 0 0,.slice none 0 0,.int .i64 0,.int .i64 0,.int .i64 0,.int .i64 0,.int .i64 0,.slice none 0 0] #[.int .i64 d.W,.int .i64 d.H,.int .i64 d.T,.int .i64 d.R,.slice B1 n1 n1,.slice B2 n2 n2,.int .i64 ph,.int .i64 0,.int .i64 0,.int .i64 0,.int .i64 0,.slice none 0 0]):=mE.tr ((HT.out.set hg hg1 (.slice B2 n2 n2) rfl).set hg hg1 (.int .i64 ph) rfl) b4
 replace O2:=Hd ((O2.out.chg (lo':=w.heap.size+2) (hi':=w.heap.size+3) (by repeat (first|with_reducible exact Chg.refl _ _ _|with_reducible refine Chg.set ?_ (by omega) (by omega) _)) (by simp only [World.size_setCell];omega)).below b4)
 replace O3:=Hd ((O3.out.chg (lo':=w.heap.size+2) (hi':=w.heap.size+3) (by repeat (first|with_reducible exact Chg.refl _ _ _|with_reducible refine Chg.set ?_ (by omega) (by omega) _)) lO3 (by omega)).below b4)
 clear x0 z0 u0 x1 z1 u1 x2 z2 u2 x3 z3 u3 x4 z4 u4 x5 z5 u5 x6 z6 u6 x7 z7 u7 x8 z8 u8 x9 z9 u9 x10 z10 u10 x11 z11 u11 y0 y1 y2
 obtain ⟨x0,x1,x2,x3,x4,x5,x6,x7,x8,x9,x10,x11⟩:=aK HT.out.1
 obtain ⟨z0,z1,z2,z3,z4,z5,z6,z7,z8,z9,z10,z11⟩:=aK HT.out.2.2
 obtain ⟨u0,u1,u2,u3,u4,u5,u6,u7,u8,u9,u10,u11⟩:=aK HT.out.2.1
 have y0:=fun k=>aJ HT.out.1 k
 have y1:=fun k=>aJ HT.out.2.1 k
 have y2:=fun k=>aJ HT.out.2.2 k
 clear b4
 go_wp2_with fail
 refine (uf A3 n3 c3 sv _ (HI.out.saved.below (by repeat (first|with_reducible exact HB.out|with_reducible refine Below.setCell ?_ (by simp only;omega) _|with_reducible refine aB ?_ _|with_reducible exact Below.refl _ _))) zv).mono ?_
 rintro e w5 ⟨B3,rfl,o3,b5⟩
 have hs5:=b5.size
 simp only [World.size_setCell] at hs5
 replace HB:=Hd (aA (a:=w) (by repeat (first|with_reducible exact HB.out|with_reducible refine Below.setCell ?_ (by simp only;omega) _|with_reducible refine aB ?_ _|with_reducible exact Below.refl _ _)) b5)
 replace HT:Hid (mE w5 w.heap.size (w.heap.size+1) (w.heap.size+1+1) (aD ⟨d,fs,st,ph,r,sv⟩ ⟨A1,n1,c1,A2,n2,c2,A3,n3,c3⟩) #[.int .i64 0,.int .i64 0,.int .i64 0,.int .i64 0,.slice none 0 0,.slice none 0 0,.int .i64 0,.int .i64 0,.int .i64 0,.int .i64 0,.int .i64 0,.slice none 0 0] #[.int .i64 d.W,.int .i64 d.H,.int .i64 d.T,.int .i64 d.R,.slice B1 n1 n1,.slice B2 n2 n2,.int .i64 ph,.int .i64 r.X0,.int .i64 r.Y0,.int .i64 r.X1,.int .i64 r.Y1,.slice none 0 0]):=mE.tr ((((HT.out.set hg hg1 (.int .i64 r.X0) rfl).set hg hg1 (.int .i64 r.Y0) rfl).set hg hg1 (.int .i64 r.X1) rfl).set hg hg1 (.int .i64 r.Y1) rfl) b5
 replace O2:=Hd ((O2.out.chg (lo':=w.heap.size+2) (hi':=w.heap.size+3) (by repeat (first|with_reducible exact Chg.refl _ _ _|with_reducible refine Chg.set ?_ (by omega) (by omega) _)) (by simp only [World.size_setCell];omega)).below b5)
 replace O3:=Hd ((O3.out.chg (lo':=w.heap.size+2) (hi':=w.heap.size+3) (by repeat (first|with_reducible exact Chg.refl _ _ _|with_reducible refine Chg.set ?_ (by omega) (by omega) _)) lO3 (by omega)).below b5)
 have O5:=Hd o3
 clear x0 z0 u0 x1 z1 u1 x2 z2 u2 x3 z3 u3 x4 z4 u4 x5 z5 u5 x6 z6 u6 x7 z7 u7 x8 z8 u8 x9 z9 u9 x10 z10 u10 x11 z11 u11 y0 y1 y2
 obtain ⟨x0,x1,x2,x3,x4,x5,x6,x7,x8,x9,x10,x11⟩:=aK HT.out.1
 obtain ⟨z0,z1,z2,z3,z4,z5,z6,z7,z8,z9,z10,z11⟩:=aK HT.out.2.2
 obtain ⟨u0,u1,u2,u3,u4,u5,u6,u7,u8,u9,u10,u11⟩:=aK HT.out.2.1
 have y0:=fun k=>aJ HT.out.1 k
 have y1:=fun k=>aJ HT.out.2.1 k
 have y2:=fun k=>aJ HT.out.2.2 k
 clear b5 o3
 go_wp2_with fail
 generalize hWF:World.setCell _ _ _=WF
 have hb:WF.heap[w.heap.size+1]?=some (.cells (aD ⟨d,fs,st,ph,r,sv⟩ ⟨B1,n1,n1,B2,n2,n2,B3,n3,n3⟩) 31 (0,0)):=by
  rw [←hWF]
  exact EG (gp HT.out.2.1 hg1 _)
 have hsz:WF.heap.size=w5.heap.size:=by rw [←hWF];simp only [World.size_setCell]
 have hB:Below w.heap.size w WF:=by rw [←hWF];repeat (first|with_reducible exact HB.out|with_reducible refine Below.setCell ?_ (by simp only;omega) _|with_reducible refine aB ?_ _|with_reducible exact Below.refl _ _)
 have hC:Chg (w.heap.size+1) (w.heap.size+3) w5 WF:=by rw [←hWF];repeat (first|with_reducible exact Chg.refl _ _ _|with_reducible refine Chg.set ?_ (by omega) (by omega) _)
 clear hWF x0 x1 x2 x3 x4 x5 x6 x7 x8 x9 x10 x11 z0 z1 z2 z3 z4 z5 z6 z7 z8 z9 z10 z11 u0 u1 u2 u3 u4 u5 u6 u7 u8 u9 u10 u11 y0 y1 y2
 refine bodyPost_ret (v := .agg (aD ⟨d,fs,st,ph,r,sv⟩ ⟨B1,n1,n1,B2,n2,n2,B3,n3,n3⟩)) (iJ Tryz.results17 rfl hb Tryz.underlying31 (by kernel_rfl)) rfl ⟨⟨B1,n1,n1,B2,n2,n2,B3,n3,n3⟩,rfl,?_,hB⟩
 have K2:=O2.out.chg hC (by simp only [World.size_setCell];omega)
 have K3:=O3.out.chg hC lO3 (by omega)
 have K5:=O5.out.chg hC (by simp only [World.size_setCell];omega)
 simp only [World.size_setCell] at K2 K3 K5
 exact wJ K2 K3 lO3 K5 (by omega)
end Go.Proofs.YtignkfhdkcgkgaaGreat
