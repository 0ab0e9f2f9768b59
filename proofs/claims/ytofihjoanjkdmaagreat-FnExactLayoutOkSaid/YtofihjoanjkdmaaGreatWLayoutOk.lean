/- The walk of the law FnExactLayoutOk (printed by mklayw.py). -/
import Derived.Test.YtofihjoanjkdmaaGreatLayBd
import Derived.Test.YtofihjoanjkdmaaGreatLayEq
import Derived.Test.YtofihjoanjkdmaaGreatLayS14
import Derived.Test.YtofihjoanjkdmaaGreatLayTo
namespace Go.Proofs.YtofihjoanjkdmaaGreat
set_option maxHeartbeats 8000000
set_option maxRecDepth 100000
open Go.RowKit
theorem yF (x:Lay) (SA LA OA BA CA PA RA:Option Addr) (sn sc ln lc on oc bn bc cn cc pn pc rn rc:Nat) (w:World) (h:jy w x SA LA OA BA CA PA RA sn sc ln lc on oc bn bc cn cc pn pc rn rc) (hz:ae x.cells<=1048576) :
  Calls Tryz.prog 10 #[sH x SA LA OA BA CA PA RA sn sc ln lc on oc bn bc cn cc pn pc rn rc] w fun e w'=>∃B0 B1 B2 B3 B4 B5 B6,e = .returned (sH x B0 B1 B2 B3 B4 B5 B6 sn sn ln ln on on bn bn cn cn pn pn rn rn)/\jy w' x B0 B1 B2 B3 B4 B5 B6 sn sn ln ln on on bn bn cn cn pn pn rn rn/\Below w.heap.size w w' :=
 (sw SA LA OA BA CA PA RA sn sc ln lc on oc bn bc cn cc pn pc rn rc x w h.sq h.lt h.ou h.bl h.cn h.pl h.ro hz).mono fun _ _ ⟨B0,B1,B2,B3,B4,B5,B6,h1,h2,h3⟩=>⟨B0,B1,B2,B3,B4,B5,B6,h1,jy.own h2,h3⟩
theorem zS (x:Lay) (X0 X1 X2 X3 X4 X5 X6 B0 B1 B2 B3 B4 B5 B6:Option Addr) (sn ln on bn cn pn rn:Nat) (w:World) (h:jy w x X0 X1 X2 X3 X4 X5 X6 sn sn ln ln on on bn bn cn cn pn pn rn rn) (k:jy w x B0 B1 B2 B3 B4 B5 B6 sn sn ln ln on on bn bn cn cn pn pn rn rn) (hz:ae x.cells<=1048576) :
  Calls Tryz.prog 12 #[sH x X0 X1 X2 X3 X4 X5 X6 sn sn ln ln on on bn bn cn cn pn pn rn rn,sH x B0 B1 B2 B3 B4 B5 B6 sn sn ln ln on on bn bn cn cn pn pn rn rn] w fun e w'=>e = .returned (.bool true)/\Below w.heap.size w w' :=
 qP X0 B0 X1 B1 X2 B2 X3 B3 X4 B4 X5 B5 X6 B6 sn sn sn sn ln ln ln ln on on on on bn bn bn bn cn cn cn cn pn pn pn pn rn rn rn rn x w h.sq k.sq h.lt k.lt h.ou k.ou h.bl k.bl h.cn k.cn h.pl k.pl h.ro k.ro (by omega)
theorem ry (a0:Dev) (x:Lay) (SA LA OA BA CA PA RA:Option Addr) (sn sc ln lc on oc bn bc cn cc pn pc rn rc:Nat) (w:World) (_hw0:a0.wf) (hN:fI w x.net SA LA OA sn sc ln lc on oc) (hB:RdC w w.heap.size (bE x.blocks) (.slice BA bn bc)) (hC:RdC w w.heap.size (bD x.conns) (.slice CA cn cc)) (hP:RdC w w.heap.size (aJ x.place) (.slice PA pn pc)) (hR:RdC w w.heap.size (bR x.routes) (.slice RA rn rc)) (hb:BdL x.cells) :
  Calls Tryz.prog 3 #[.agg #[.int .i64 a0.W,.int .i64 a0.H,.int .i64 a0.T,.int .i64 a0.R],sH x SA LA OA BA CA PA RA sn sc ln lc on oc bn bc cn cc pn pc rn rc] w fun e w'=>e = .returned (.bool true)/\Below w.heap.size w w':=by
 have h1:jy w x SA LA OA BA CA PA RA sn sc ln lc on oc bn bc cn cc pn pc rn rc:=⟨hN.sq,hN.lt,hN.ou,hB,hC,hP,hR⟩
 clear hN hB hC hP hR
 have H1:=Hd h1
 clear h1
 have HB0:=Hd (aF (aF (Below.refl w.heap.size w) (.cells #[.int .i64 a0.W,.int .i64 a0.H,.int .i64 a0.T,.int .i64 a0.R] 23)) (.cells #[.int .i64 x.net.inputs,.slice SA sn sc,.slice LA ln lc,.slice OA on oc,.slice BA bn bc,.slice CA cn cc,.slice PA pn pc,.slice RA rn rc] 33))
 have hx:=bg (.cells #[.int .i64 x.net.inputs,.slice SA sn sc,.slice LA ln lc,.slice OA on oc,.slice BA bn bc,.slice CA cn cc,.slice PA pn pc,.slice RA rn rc] 33) (aK w (.cells #[.int .i64 a0.W,.int .i64 a0.H,.int .i64 a0.T,.int .i64 a0.R] 23))
 have hy:=aK (w.alloc (.cells #[.int .i64 a0.W,.int .i64 a0.H,.int .i64 a0.T,.int .i64 a0.R] 23)) (.cells #[.int .i64 x.net.inputs,.slice SA sn sc,.slice LA ln lc,.slice OA on oc,.slice BA bn bc,.slice CA cn cc,.slice PA pn pc,.slice RA rn rc] 33)
 simp only [World.size_alloc] at hy
 have HXB:=Hd hx
 have HYB:=Hd hy
 clear hx hy
 go_enter Tryz.func3,Tryz.ntmps3
 go_upto_region 1 with fail
 generalize (w.alloc (.cells #[.int .i64 a0.W,.int .i64 a0.H,.int .i64 a0.T,.int .i64 a0.R] 23)).alloc (.cells #[.int .i64 x.net.inputs,.slice SA sn sc,.slice LA ln lc,.slice OA on oc,.slice BA bn bc,.slice CA cn cc,.slice PA pn pc,.slice RA rn rc] 33)=W9 at *
 have hx:=HXB.out
 have hy:=HYB.out
 have x0:=aA (k:=0) hx rfl
 have x1:=aA (k:=1) hx rfl
 have x2:=aA (k:=2) hx rfl
 have x3:=aA (k:=3) hx rfl
 have y0:=aA (k:=0) hy rfl
 have y1:=aA (k:=1) hy rfl
 have y2:=aA (k:=2) hy rfl
 have y3:=aA (k:=3) hy rfl
 have y4:=aA (k:=4) hy rfl
 have y5:=aA (k:=5) hy rfl
 have y6:=aA (k:=6) hy rfl
 have y7:=aA (k:=7) hy rfl
 have lx:=aC hx
 have ly:=aC hy
 clear hx hy
 go_wp2_with fail
 have K0:=Hd (H1.out.below HB0.out)
 refine (sG SA LA OA BA CA PA RA sn sc ln lc on oc bn bc cn cc pn pc rn rc x 1048576 _ K0.out.sq K0.out.lt K0.out.ou K0.out.bl K0.out.cn K0.out.pl K0.out.ro (by omega) (by omega) hb).mono ?_
 rintro e w1 ⟨rfl,b1⟩
 have HB1:=Hd (aB HB0.out b1)
 have B1:=Hd b1
 clear x0 x1 x2 x3 y0 y1 y2 y3 y4 y5 y6 y7 lx ly
 clear b1 K0
 by_cases g1:(ae x.cells:Int)<=1048576
 rotate_left
 ·rw [aY g1]
  go_wp2_with fail
  go_ret
  exact ⟨rfl,HB1.out⟩
 rw [ax g1]
 have hz:ae x.cells<=1048576:=by omega
 obtain ⟨hbl,hcl,hpl,hrl,hbb,hbc,hbr⟩:=yg hz
 obtain ⟨e1,e2,e3,e4⟩:=H1.out.lens
 rw [e1] at hbl
 rw [e2] at hcl
 rw [e3] at hpl
 have HBB:=Hd hbb
 have HBC:=Hd hbc
 have HBR:=Hd hbr
 clear hbb hbc hbr hb e1 e2 e3 e4 hrl
 obtain ⟨r,hr⟩:∃r,tb (jg a0 x)=r:=⟨_,rfl⟩
 have HSL:=Hd (fun (v:World) (B0 B1 B2 B3 B4 B5 B6:Option Addr) (h:jy v x B0 B1 B2 B3 B4 B5 B6 sn sn ln ln on on bn bn cn cn pn pn rn rn)=>(by
  have h2:=qm a0 x B0 B1 B2 B3 B4 B5 B6 sn sn ln ln on on bn bn cn cn pn pn rn rn v h.net h.bl h.cn h.pl h.ro hbl hcl (Nat.le_refl _) hpl HBB.out HBC.out HBR.out
  rwa [hr] at h2:Calls Tryz.prog 8 #[.agg #[.int .i64 a0.W,.int .i64 a0.H,.int .i64 a0.T,.int .i64 a0.R],sH x B0 B1 B2 B3 B4 B5 B6 sn sn ln ln on on bn bn cn cn pn pn rn rn] v fun e w'=>e = .returned (.bool r)/\Below v.heap.size v w'))
 have HIL:=Hd (fun (v:World) (B0 B1 B2 B3 B4 B5 B6:Option Addr) (h:jy v x B0 B1 B2 B3 B4 B5 B6 sn sn ln ln on on bn bn cn cn pn pn rn rn)=>(by
  have h2:=sI a0 x B0 B1 B2 B3 B4 B5 B6 sn sn ln ln on on bn bn cn cn pn pn rn rn v h.net h.bl h.cn h.pl h.ro hbl hcl (Nat.le_refl _) hpl HBB.out HBC.out HBR.out
  rwa [hr] at h2:Calls Tryz.prog 11 #[.agg #[.int .i64 a0.W,.int .i64 a0.H,.int .i64 a0.T,.int .i64 a0.R],sH x B0 B1 B2 B3 B4 B5 B6 sn sn ln ln on on bn bn cn cn pn pn rn rn] v fun e w'=>e = .returned (.bool r)/\Below v.heap.size v w'))
 clear hr
 have hx:=aD B1.out HXB.out
 have hy:=aD B1.out HYB.out
 have x0:=aA (k:=0) hx rfl
 have x1:=aA (k:=1) hx rfl
 have x2:=aA (k:=2) hx rfl
 have x3:=aA (k:=3) hx rfl
 have y0:=aA (k:=0) hy rfl
 have y1:=aA (k:=1) hy rfl
 have y2:=aA (k:=2) hy rfl
 have y3:=aA (k:=3) hy rfl
 have y4:=aA (k:=4) hy rfl
 have y5:=aA (k:=5) hy rfl
 have y6:=aA (k:=6) hy rfl
 have y7:=aA (k:=7) hy rfl
 have lx:=aC hx
 have ly:=aC hy
 clear hx hy
 go_upto_region 5 with fail
 have HTL:=Hd (fun (v:World) (hv:Below w1.heap.size w1 v)=>yF x SA LA OA BA CA PA RA sn sc ln lc on oc bn bc cn cc pn pc rn rc v (H1.out.below (aB HB1.out hv)) hz)
 have hD:=(Below.refl w1.heap.size w1).drew
 go_region_held3 (fun w'=>Below w1.heap.size w1 w'/\∀b o,b<w1.heap.size→w'.cell? ⟨b,o,none⟩=w1.cell? ⟨b,o,none⟩)
  (first|exact ⟨hD,(bI hD).1⟩)
  (first
   | (go_at_call 9;(with_reducible refine (oJ a0 _).mono ?_);rintro e v2 ⟨rfl,b2⟩;replace hD:=aB hD b2;clear b2)
   | (go_at_call 10;(with_reducible refine (HTL.out _ hD).mono ?_);rintro e v3 ⟨A0,A1,A2,A3,A4,A5,A6,rfl,o3,b3⟩;have O3:=Hd o3;replace hD:=aB hD b3;clear b3 o3)
   | (go_at_call 8;(with_reducible refine (HSL.out _ A0 A1 A2 A3 A4 A5 A6 O3.out).mono ?_);rintro _ v4 ⟨rfl,b4⟩;replace hD:=aB hD b4;clear b4))
 have B2:=Hd (aB B1.out hD)
 have HB2:=Hd (aB HB0.out B2.out)
 obtain ⟨w2,rfl⟩:∃y,y=v4:=⟨v4,rfl⟩
 clear hD HTL O3
 clear x0 x1 x2 x3 y0 y1 y2 y3 y4 y5 y6 y7 lx ly
 have hx:=aD B2.out HXB.out
 have hy:=aD B2.out HYB.out
 have x0:=aA (k:=0) hx rfl
 have x1:=aA (k:=1) hx rfl
 have x2:=aA (k:=2) hx rfl
 have x3:=aA (k:=3) hx rfl
 have y0:=aA (k:=0) hy rfl
 have y1:=aA (k:=1) hy rfl
 have y2:=aA (k:=2) hy rfl
 have y3:=aA (k:=3) hy rfl
 have y4:=aA (k:=4) hy rfl
 have y5:=aA (k:=5) hy rfl
 have y6:=aA (k:=6) hy rfl
 have y7:=aA (k:=7) hy rfl
 have lx:=aC hx
 have ly:=aC hy
 clear hx hy
 go_wp2_with fail
 refine (yF x SA LA OA BA CA PA RA sn sc ln lc on oc bn bc cn cc pn pc rn rc _ (H1.out.below HB2.out) hz).mono ?_
 rintro e w3 ⟨X0,X1,X2,X3,X4,X5,X6,rfl,o3,b3⟩
 have HB3:=Hd (aB HB2.out b3)
 have B3:=Hd (aB B2.out b3)
 have O3:=Hd o3
 clear b3 o3
 clear x0 x1 x2 x3 y0 y1 y2 y3 y4 y5 y6 y7 lx ly
 go_upto_region 7 with fail
 have HZ0:=Hd (aK w3 (.cells #[.int .i64 x.net.inputs,.slice X0 sn sn,.slice X1 ln ln,.slice X2 on on,.slice X3 bn bn,.slice X4 cn cn,.slice X5 pn pn,.slice X6 rn rn] 46))
 have HB4:=Hd (aF HB3.out (.cells #[.int .i64 x.net.inputs,.slice X0 sn sn,.slice X1 ln ln,.slice X2 on on,.slice X3 bn bn,.slice X4 cn cn,.slice X5 pn pn,.slice X6 rn rn] 46))
 have B4:=Hd (aF B3.out (.cells #[.int .i64 x.net.inputs,.slice X0 sn sn,.slice X1 ln ln,.slice X2 on on,.slice X3 bn bn,.slice X4 cn cn,.slice X5 pn pn,.slice X6 rn rn] 46))
 have O4:=Hd (O3.out.below (aF (Below.refl w3.heap.size w3) (.cells #[.int .i64 x.net.inputs,.slice X0 sn sn,.slice X1 ln ln,.slice X2 on on,.slice X3 bn bn,.slice X4 cn cn,.slice X5 pn pn,.slice X6 rn rn] 46)))
 generalize hw4:w3.alloc (.cells #[.int .i64 x.net.inputs,.slice X0 sn sn,.slice X1 ln ln,.slice X2 on on,.slice X3 bn bn,.slice X4 cn cn,.slice X5 pn pn,.slice X6 rn rn] 46)=w4 at *
 have hgz:w3.heap.size<w4.heap.size:=by rw [←hw4];simp
 clear hw4 O3
 obtain ⟨gz,hgz2⟩:∃g,w3.heap.size=g:=⟨_,rfl⟩
 rw [hgz2] at HZ0 hgz
 (try rw [hgz2])
 clear hgz2
 have hx:=aD B4.out HXB.out
 have hy:=aD B4.out HYB.out
 have x0:=aA (k:=0) hx rfl
 have x1:=aA (k:=1) hx rfl
 have x2:=aA (k:=2) hx rfl
 have x3:=aA (k:=3) hx rfl
 have y0:=aA (k:=0) hy rfl
 have y1:=aA (k:=1) hy rfl
 have y2:=aA (k:=2) hy rfl
 have y3:=aA (k:=3) hy rfl
 have y4:=aA (k:=4) hy rfl
 have y5:=aA (k:=5) hy rfl
 have y6:=aA (k:=6) hy rfl
 have y7:=aA (k:=7) hy rfl
 have lx:=aC hx
 have ly:=aC hy
 clear hx hy
 have z0:=aA (k:=0) HZ0.out rfl
 have z1:=aA (k:=1) HZ0.out rfl
 have z2:=aA (k:=2) HZ0.out rfl
 have z3:=aA (k:=3) HZ0.out rfl
 have z4:=aA (k:=4) HZ0.out rfl
 have z5:=aA (k:=5) HZ0.out rfl
 have z6:=aA (k:=6) HZ0.out rfl
 have z7:=aA (k:=7) HZ0.out rfl
 have hD:=(Below.refl w4.heap.size w4).drew
 go_region_held3 (fun w'=>Below w4.heap.size w4 w'/\∀b o,b<w4.heap.size→w'.cell? ⟨b,o,none⟩=w4.cell? ⟨b,o,none⟩)
  (first|exact ⟨hD,(bI hD).1⟩)
  (first
   | (go_at_call 9;(with_reducible refine (oJ a0 _).mono ?_);rintro e v2 ⟨rfl,b2⟩;replace hD:=aB hD b2;clear b2)
   | (go_at_call 11;(with_reducible refine (HIL.out _ X0 X1 X2 X3 X4 X5 X6 (O4.out.below hD)).mono ?_);rintro _ v4 ⟨rfl,b4⟩;replace hD:=aB hD b4;clear b4))
 have B5:=Hd (aB B4.out hD)
 have HB5:=Hd (aB HB0.out B5.out)
 have O5:=Hd (O4.out.below hD)
 have HZ5:=Hd (aD hD HZ0.out)
 obtain ⟨w5,rfl⟩:∃y,y=v4:=⟨v4,rfl⟩
 clear hD O4 HZ0 hgz z0 z1 z2 z3 z4 z5 z6 z7
 clear x0 x1 x2 x3 y0 y1 y2 y3 y4 y5 y6 y7 lx ly
 have hx:=aD B5.out HXB.out
 have hy:=aD B5.out HYB.out
 have x0:=aA (k:=0) hx rfl
 have x1:=aA (k:=1) hx rfl
 have x2:=aA (k:=2) hx rfl
 have x3:=aA (k:=3) hx rfl
 have y0:=aA (k:=0) hy rfl
 have y1:=aA (k:=1) hy rfl
 have y2:=aA (k:=2) hy rfl
 have y3:=aA (k:=3) hy rfl
 have y4:=aA (k:=4) hy rfl
 have y5:=aA (k:=5) hy rfl
 have y6:=aA (k:=6) hy rfl
 have y7:=aA (k:=7) hy rfl
 have lx:=aC hx
 have ly:=aC hy
 clear hx hy
 have z0:=aA (k:=0) HZ5.out rfl
 have z1:=aA (k:=1) HZ5.out rfl
 have z2:=aA (k:=2) HZ5.out rfl
 have z3:=aA (k:=3) HZ5.out rfl
 have z4:=aA (k:=4) HZ5.out rfl
 have z5:=aA (k:=5) HZ5.out rfl
 have z6:=aA (k:=6) HZ5.out rfl
 have z7:=aA (k:=7) HZ5.out rfl
 have lz:=aC HZ5.out
 go_upto_region 10 with fail
 have HTL:=Hd (fun (v:World) (hv:Below w5.heap.size w5 v)=>yF x SA LA OA BA CA PA RA sn sc ln lc on oc bn bc cn cc pn pc rn rc v (H1.out.below (aB HB5.out hv)) hz)
 have hD:=(Below.refl w5.heap.size w5).drew
 go_region_held3 (fun w'=>Below w5.heap.size w5 w'/\∀b o,b<w5.heap.size→w'.cell? ⟨b,o,none⟩=w5.cell? ⟨b,o,none⟩)
  (first|exact ⟨hD,(bI hD).1⟩)
  (first
   | (go_at_call 10;(with_reducible refine (HTL.out _ hD).mono ?_);rintro e v3 ⟨A0,A1,A2,A3,A4,A5,A6,rfl,o3,b3⟩;have O6:=Hd o3;replace hD:=aB hD b3;clear b3 o3)
   | (go_at_call 12;(with_reducible refine (zS x X0 X1 X2 X3 X4 X5 X6 A0 A1 A2 A3 A4 A5 A6 sn ln on bn cn pn rn _ (O5.out.below hD) O6.out hz).mono ?_);rintro _ v7 ⟨rfl,b7⟩;replace hD:=aB hD b7;clear b7))
 go_wp2_with fail
 go_ret
 exact ⟨rfl,aB HB5.out hD⟩
end Go.Proofs.YtofihjoanjkdmaaGreat
