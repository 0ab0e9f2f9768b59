/- WriteRegion of the program (printed by mkop.py). -/
import Derived.Test.YtignkfhdkcgkgaaGreatAb
namespace Go.Proofs.YtignkfhdkcgkgaaGreat
set_option maxHeartbeats 4000000
set_option maxRecDepth 100000
open Go.RowKit
theorem G8 {R:Sl3} {A:Option Addr} (h:R.A1=A):R=⟨A,R.n1,R.c1,R.A2,R.n2,R.c2,R.A3,R.n3,R.c3⟩:=by cases R;cases h;rfl
theorem yV {w w':World} {a1:Addr} {v1:Value} (hb:Below w.heap.size w w') (h1:a1.block<w.heap.size) (h:w.cell? a1=some v1):w'.cell? a1=some v1:=(hb.cell h1).trans h
theorem FV {w:World} {p a1:Addr} {v v1:Value} (h1:a1.block≠p.block) (h:w.cell? a1=some v1):(w.setCell p v).cell? a1=some v1:=(World.cell?_of_block (Below.heap_setCell w p v _ h1)).trans h
theorem sN {ws:List Int} {n:Int} (h:bN ws n 65535=true):(∀j,j<ws.length→0<=ws[j]?.getD 0/\ws[j]?.getD 0<=65535)/\(ws.length:Int)=n:=by
 simp only [bN,Bool.and_eq_true,decide_eq_true_eq] at h
 exact ⟨fun j hj=>nR h.2 hj,h.1⟩
theorem CU (A:Option Addr) (n c:Nat) (ws:List Int) (count most:Int) (w:World) (h:bH w A n ws) (hn:n<=1099511627776) (hlen:(n:Int)≠count) :
  Calls Tryz.prog 159 #[.slice A n c,.int .i64 count,.int .i64 most] w fun e w'=>e = .returned (.bool false)/\Below w.heap.size w w':=by
 obtain ⟨hx,hA⟩:=h
 have HX:=Hd hx
 have hd:((n:Int)==count)=false:=by simp [hlen]
 have HN:=Hd hlen
 clear hx hlen
 go_enter Tryz.func159,Tryz.ntmps159
 go_wp2_with fail
 go_loop [7] (fun i=>∃k:Nat,k<=n/\i = .int .i64 k) (fun i=>n - (intOf i).toNat)
 case atStart=>exact ⟨0,Nat.zero_le _,rfl⟩
 case round =>
  obtain ⟨k,hk,rfl⟩:=hrel
  by_cases hlt:k<n
  ·obtain ⟨b,o,rfl,hb,hc⟩:=hA (by omega)
   have hck:=hc k hlt
   clear hc
   generalize ws[k]?.getD 0=x at *
   cases hin:inR x 0 most with
   | true =>
    go_wp2_with (go_at_call 175;refine (aW _ _ _ _).mono ?_;rintro e w' ⟨rfl,rfl⟩)
    go_round
    case rel=>exact ⟨k+1,by omega,by go_num⟩
    case measure=>simp [intOf];omega
   | false =>
    go_wp2_with (go_at_call 175;refine (aW _ _ _ _).mono ?_;rintro e w' ⟨rfl,rfl⟩)
    go_ret
    exact ⟨rfl,Below.refl _ _⟩
  ·have hkn:k=n:=by omega
   subst hkn
   go_wp2
   go_ret
   exact ⟨rfl,Below.refl _ _⟩
theorem AB (A:Option Addr) (n c:Nat) (ws:List Int) (count most:Int) (w:World) (h:bH w A n ws) (hn:n<=1099511627776) :
  Calls Tryz.prog 159 #[.slice A n c,.int .i64 count,.int .i64 most] w fun e w'=>e = .returned (.bool (bN ws count most))/\Below w.heap.size w w':=by
 by_cases hl:(n:Int)=count
 ·rw [show bN ws count most=kT ws most by unfold bN;rw [h.1,decide_eq_true hl];rfl]
  exact uT A n c ws count most w h hn hl
 ·rw [show bN ws count most=false by unfold bN;rw [h.1,decide_eq_false hl];rfl]
  exact CU A n c ws count most w h hn hl
theorem ut (b:Bd) (s:Sl3) (t:Int) (WA:Option Addr) (wn wc:Nat) (ws:List Int) (w:World) (hA:bV w b s) (hI:bH w WA wn ws) (hz1:af b.frames<=1099511627776) (h2:s.n2<=16777216) (h3:af b.saved<=1099511627776) (hwn:wn<=1099511627776) :
  Calls Tryz.prog 109 #[.agg (aD b s),.int .i64 t,.slice WA wn wc] w fun e w'=>∃R,e = .returned (.tuple #[.agg (aD (wrB b t ws) R),.bool (wrO b t ws)])/\aG w.heap.size w'.heap.size w' (wrB b t ws) R/\Below w.heap.size w w':=by
 have hz:kF b:=⟨hz1,by have:=hA.state.1;omega,h3⟩
 have HI:=Hd hA
 have HB:=Hd (aB (aB (Below.refl w.heap.size w) (.cells (aD b s) 31)) (.cells z12 31))
 have HX:Hid (bC ((w.alloc (.cells (aD b s) 31)).alloc (.cells z12 31)) w.heap.size b s):=aR _ (aL _ _)
 have HZ:Hid (bC ((w.alloc (.cells (aD b s) 31)).alloc (.cells z12 31)) (w.heap.size+1) zBd zSl):=ae (by simp)
 have hsz:w.heap.size+2<=((w.alloc (.cells (aD b s) 31)).alloc (.cells z12 31)).heap.size:=by simp
 have HIW:=Hd hI
 clear hI
 have HFN:Hid (b.frames.length=s.n1):=hA.frames.1
 have hN1:s.n1<=1099511627776:=(dz hA.frames.1 hz1).1
 clear hA
 go_enter Tryz.func109,Tryz.ntmps109
 go_wp2_with fail
 generalize hW:((w.alloc (.cells (aD b s) 31)).alloc (.cells z12 31))=W at *
 clear hW
 refine (cB b s _ (HI.out.below HB.out) hz).mono ?_
 rintro e w1 ⟨R,rfl,a1,b1⟩
 have HF:=Hd a1.fp
 have hs0:=b1.size
 replace HB:=Hd (aA HB.out b1)
 replace HX:=Hd (HX.out.tr b1)
 replace HZ:=Hd (HZ.out.tr b1)
 clear a1 b1
 have b2:Below w1.heap.size w1 (w1.alloc (.cells (aD b R) 31)):=aB (Below.refl _ _) _
 have HO:Hid (bC (w1.alloc (.cells (aD b R) 31)) w1.heap.size b R):=aL _ _
 have hs2:w1.heap.size<(w1.alloc (.cells (aD b R) 31)).heap.size:=by simp
 replace HF:=Hd (HF.out.below b2)
 replace HB:=Hd (aA HB.out b2)
 replace HX:=Hd (HX.out.tr b2)
 replace HZ:=Hd (HZ.out.tr b2)
 obtain ⟨x0,x1,x2,x3,x4,x5,x6,x7,x8,x9,x10,x11⟩:=HX.out.cells
 go_wp2_with fail
 generalize hW2:(w1.alloc (.cells (aD b R) 31))=W2 at *
 clear x0 x1 x2 x3 x4 x5 x6 x7 x8 x9 x10 x11
 clear hW2 b2
 refine (fq b s _ (HI.out.below HB.out) hz1 h2 h3).mono ?_
 rintro e w3 ⟨rfl,b3⟩
 have hs2:=b3.size
 replace HB:=Hd (aA HB.out b3)
 replace HX:=Hd (HX.out.tr b3)
 replace HZ:=Hd (HZ.out.tr b3)
 replace HO:=Hd (HO.out.tr b3)
 replace HF:=Hd (HF.out.below b3)
 clear b3
 cases hb:bkF b with
 | false =>
  have hO:wrO b t ws=false:=by unfold wrO;rw [hb];rfl
  clear hb
  have HU:Hid (wrB b t ws=b):=by show _=_;unfold wrB;rw [hO];rfl
  have HV:Hid (wrO b t ws=false):=hO
  clear hO
  obtain ⟨z0,z1,z2,z3,z4,z5,z6,z7,z8,z9,z10,z11⟩:=HZ.out.cells
  have yz:=HZ.out.soft
  obtain ⟨o0,o1,o2,o3,o4,o5,o6,o7,o8,o9,o10,o11⟩:=HO.out.cells
  have yo:=HO.out.soft
  obtain ⟨x0,x1,x2,x3,x4,x5,x6,x7,x8,x9,x10,x11⟩:=HX.out.cells
  go_wp2_with fail
  clear z0 z1 z2 z3 z4 z5 z6 z7 z8 z9 z10 z11 yz o0 o1 o2 o3 o4 o5 o6 o7 o8 o9 o10 o11 yo x0 x1 x2 x3 x4 x5 x6 x7 x8 x9 x10 x11
  generalize hWF:World.setCell _ _ _=WF
  obtain ⟨hbk,hszF,hBF,hCF⟩:=bK (W:=w3) (b':=b) (s':=R) hWF (HZ.out) (HB.out) (by omega)
  have hR:aG w.heap.size WF.heap.size WF b R:=((HF.out).chg hCF (.inr (by omega))).widen (by omega) (by omega)
  clear hWF
  refine bodyPost_ret (v := .tuple #[.agg (aD b R),.bool false]) (aI Tryz.results109 rfl hbk Tryz.underlying31 (by kernel_rfl)) rfl ⟨R,by rw [HU.out,HV.out],by rw [HU.out];exact hR,hBF⟩
 | true =>
  by_cases hp:b.phase=1
  ·have HP:=Hd hp
   have hp0:(b.phase != 1)=false:=by rw [hp];rfl
   clear hp
   have hbk:=(dV hb).1
   have hdv:=(aj hbk).1
   have hdb:=aY hdv
   have HDV:=Hd hdv
   clear hbk hdv
   cases hC1:inR t 0 ((s.n1:Int) - 1) with
   | false =>
    have HC1:Hid (∀w',Calls Tryz.prog 116 #[.int .i64 t,.int .i64 0,.int .i64 ((s.n1:Int) - 1)] w' fun e w''=>e = .returned (.bool false)/\w'=w''):=fun w'=>by have h:=aN t 0 ((s.n1:Int) - 1) w';rwa [hC1] at h
    have hO:wrO b t ws=false:=by unfold wrO;rw [HFN.out,hC1];simp
    clear hb hC1
    have HU:Hid (wrB b t ws=b):=by show _=_;unfold wrB;rw [hO];rfl
    have HV:Hid (wrO b t ws=false):=hO
    clear hO
    obtain ⟨z0,z1,z2,z3,z4,z5,z6,z7,z8,z9,z10,z11⟩:=HZ.out.cells
    have yz:=HZ.out.soft
    obtain ⟨o0,o1,o2,o3,o4,o5,o6,o7,o8,o9,o10,o11⟩:=HO.out.cells
    have yo:=HO.out.soft
    obtain ⟨x0,x1,x2,x3,x4,x5,x6,x7,x8,x9,x10,x11⟩:=HX.out.cells
    go_wp2_with (go_at_call 116;refine (HC1.out _).mono ?_;rintro e w' ⟨rfl,rfl⟩)
    clear z0 z1 z2 z3 z4 z5 z6 z7 z8 z9 z10 z11 yz o0 o1 o2 o3 o4 o5 o6 o7 o8 o9 o10 o11 yo x0 x1 x2 x3 x4 x5 x6 x7 x8 x9 x10 x11
    generalize hWF:World.setCell _ _ _=WF
    obtain ⟨hbk,hszF,hBF,hCF⟩:=bK (W:=w3) (b':=b) (s':=R) hWF (HZ.out) (HB.out) (by omega)
    have hR:aG w.heap.size WF.heap.size WF b R:=((HF.out).chg hCF (.inr (by omega))).widen (by omega) (by omega)
    clear hWF
    refine bodyPost_ret (v := .tuple #[.agg (aD b R),.bool false]) (aI Tryz.results109 rfl hbk Tryz.underlying31 (by kernel_rfl)) rfl ⟨R,by rw [HU.out,HV.out],by rw [HU.out];exact hR,hBF⟩
   | true =>
    have HC1:Hid (∀w',Calls Tryz.prog 116 #[.int .i64 t,.int .i64 0,.int .i64 ((s.n1:Int) - 1)] w' fun e w''=>e = .returned (.bool true)/\w'=w''):=fun w'=>by have h:=aN t 0 ((s.n1:Int) - 1) w';rwa [hC1] at h
    obtain ⟨ht0,ht1⟩:=ak.1 hC1
    have HIR:Hid (inR t 0 ((b.frames.length:Int) - 1)=true):=by show _=_;rw [HFN.out];exact hC1
    clear hC1
    obtain ⟨tn,rfl⟩:=Int.eq_ofNat_of_zero_le (show (0:Int)<=t by omega)
    cases hC2:gY b.dev b.reg (tn:Int) with
    | false =>
     have HC2:Hid (∀w',Calls Tryz.prog 118 #[.agg #[.int .i64 b.dev.W,.int .i64 b.dev.H,.int .i64 b.dev.T,.int .i64 b.dev.R],.agg #[.int .i64 b.reg.X0,.int .i64 b.reg.Y0,.int .i64 b.reg.X1,.int .i64 b.reg.Y1],.int .i64 (tn:Int)] w' fun e w''=>e = .returned (.bool false)/\Below w'.heap.size w' w''):=fun w'=>by have h:=kw b.dev b.reg (tn:Int) w' (by omega) (by omega) (by omega) (by omega);rwa [hC2] at h
     have hO0:wrO b (tn:Int) ws=false:=by unfold wrO;rw [hC2];simp
     have HO0:=Hd hO0
     clear hb hC2 hO0
     obtain ⟨x0,x1,x2,x3,x4,x5,x6,x7,x8,x9,x10,x11⟩:=HX.out.cells
     obtain ⟨o0,o1,o2,o3,o4,o5,o6,o7,o8,o9,o10,o11⟩:=HO.out.cells
     have yo:=HO.out.soft
     go_wp2_with (go_at_call 116;refine (HC1.out _).mono ?_;rintro e w' ⟨rfl,rfl⟩)
     clear x0 x1 x2 x3 x4 x5 x6 x7 x8 x9 x10 x11 o0 o1 o2 o3 o4 o5 o6 o7 o8 o9 o10 o11 yo
     refine (HC2.out _).mono ?_
     rintro e w4 ⟨rfl,b4⟩
     have hs3:=b4.size
     replace HB:=Hd (aA HB.out b4)
     replace HX:=Hd (HX.out.tr b4)
     replace HZ:=Hd (HZ.out.tr b4)
     replace HO:=Hd (HO.out.tr b4)
     replace HF:=Hd (HF.out.below b4)
     clear b4
     have hO:=HO0.out
     have HU:Hid (wrB b (tn:Int) ws=b):=by show _=_;unfold wrB;rw [hO];rfl
     have HV:Hid (wrO b (tn:Int) ws=false):=hO
     clear hO
     obtain ⟨z0,z1,z2,z3,z4,z5,z6,z7,z8,z9,z10,z11⟩:=HZ.out.cells
     have yz:=HZ.out.soft
     obtain ⟨o0,o1,o2,o3,o4,o5,o6,o7,o8,o9,o10,o11⟩:=HO.out.cells
     have yo:=HO.out.soft
     go_wp2_with fail
     clear z0 z1 z2 z3 z4 z5 z6 z7 z8 z9 z10 z11 yz o0 o1 o2 o3 o4 o5 o6 o7 o8 o9 o10 o11 yo
     generalize hWF:World.setCell _ _ _=WF
     obtain ⟨hbk,hszF,hBF,hCF⟩:=bK (W:=w4) (b':=b) (s':=R) hWF (HZ.out) (HB.out) (by omega)
     have hR:aG w.heap.size WF.heap.size WF b R:=((HF.out).chg hCF (.inr (by omega))).widen (by omega) (by omega)
     clear hWF
     refine bodyPost_ret (v := .tuple #[.agg (aD b R),.bool false]) (aI Tryz.results109 rfl hbk Tryz.underlying31 (by kernel_rfl)) rfl ⟨R,by rw [HU.out,HV.out],by rw [HU.out];exact hR,hBF⟩
    | true =>
     have HC2:Hid (∀w',Calls Tryz.prog 118 #[.agg #[.int .i64 b.dev.W,.int .i64 b.dev.H,.int .i64 b.dev.T,.int .i64 b.dev.R],.agg #[.int .i64 b.reg.X0,.int .i64 b.reg.Y0,.int .i64 b.reg.X1,.int .i64 b.reg.Y1],.int .i64 (tn:Int)] w' fun e w''=>e = .returned (.bool true)/\Below w'.heap.size w' w''):=fun w'=>by have h:=kw b.dev b.reg (tn:Int) w' (by omega) (by omega) (by omega) (by omega);rwa [hC2] at h
     have HR2:=Hd hC2
     clear hC2
     obtain ⟨x0,x1,x2,x3,x4,x5,x6,x7,x8,x9,x10,x11⟩:=HX.out.cells
     obtain ⟨o0,o1,o2,o3,o4,o5,o6,o7,o8,o9,o10,o11⟩:=HO.out.cells
     have yo:=HO.out.soft
     go_wp2_with (go_at_call 116;refine (HC1.out _).mono ?_;rintro e w' ⟨rfl,rfl⟩)
     clear x0 x1 x2 x3 x4 x5 x6 x7 x8 x9 x10 x11 o0 o1 o2 o3 o4 o5 o6 o7 o8 o9 o10 o11 yo
     refine (HC2.out _).mono ?_
     rintro e w4 ⟨rfl,b4⟩
     have hs3:=b4.size
     replace HB:=Hd (aA HB.out b4)
     replace HX:=Hd (HX.out.tr b4)
     replace HZ:=Hd (HZ.out.tr b4)
     replace HO:=Hd (HO.out.tr b4)
     replace HF:=Hd (HF.out.below b4)
     clear b4
     obtain ⟨x0,x1,x2,x3,x4,x5,x6,x7,x8,x9,x10,x11⟩:=HX.out.cells
     obtain ⟨o0,o1,o2,o3,o4,o5,o6,o7,o8,o9,o10,o11⟩:=HO.out.cells
     have yo:=HO.out.soft
     go_wp2_with fail
     clear x0 x1 x2 x3 x4 x5 x6 x7 x8 x9 x10 x11 o0 o1 o2 o3 o4 o5 o6 o7 o8 o9 o10 o11 yo
     refine (iT b.dev _ (by omega) (by omega)).mono ?_
     rintro e w5 ⟨rfl,b5⟩
     have hs4:=b5.size
     replace HB:=Hd (aA HB.out b5)
     replace HX:=Hd (HX.out.tr b5)
     replace HZ:=Hd (HZ.out.tr b5)
     replace HO:=Hd (HO.out.tr b5)
     replace HF:=Hd (HF.out.below b5)
     clear b5
     cases hC3:bN ws (fwI b.dev) 65535 with
     | false =>
      have HC3:Hid (∀w',bH w' WA wn ws→Calls Tryz.prog 114 #[.slice WA wn wc,.int .i64 (fwI b.dev),.int .i64 65535] w' fun e w''=>e = .returned (.bool false)/\Below w'.heap.size w' w''):=fun w' hi=>by have h:=mf WA wn wc ws (fwI b.dev) 65535 w' hi hwn;rwa [hC3] at h
      have hO0:wrO b (tn:Int) ws=false:=by unfold wrO;rw [hC3];simp
      have HO0:=Hd hO0
      clear hb hC3 hO0
      obtain ⟨x0,x1,x2,x3,x4,x5,x6,x7,x8,x9,x10,x11⟩:=HX.out.cells
      go_wp2_with fail
      clear x0 x1 x2 x3 x4 x5 x6 x7 x8 x9 x10 x11
      refine (HC3.out _ (HIW.out.below HB.out)).mono ?_
      rintro e w6 ⟨rfl,b6⟩
      have hs5:=b6.size
      replace HB:=Hd (aA HB.out b6)
      replace HX:=Hd (HX.out.tr b6)
      replace HZ:=Hd (HZ.out.tr b6)
      replace HO:=Hd (HO.out.tr b6)
      replace HF:=Hd (HF.out.below b6)
      clear b6
      have hO:=HO0.out
      have HU:Hid (wrB b (tn:Int) ws=b):=by show _=_;unfold wrB;rw [hO];rfl
      have HV:Hid (wrO b (tn:Int) ws=false):=hO
      clear hO
      obtain ⟨z0,z1,z2,z3,z4,z5,z6,z7,z8,z9,z10,z11⟩:=HZ.out.cells
      have yz:=HZ.out.soft
      obtain ⟨o0,o1,o2,o3,o4,o5,o6,o7,o8,o9,o10,o11⟩:=HO.out.cells
      have yo:=HO.out.soft
      go_wp2_with fail
      clear z0 z1 z2 z3 z4 z5 z6 z7 z8 z9 z10 z11 yz o0 o1 o2 o3 o4 o5 o6 o7 o8 o9 o10 o11 yo
      generalize hWF:World.setCell _ _ _=WF
      obtain ⟨hbk,hszF,hBF,hCF⟩:=bK (W:=w6) (b':=b) (s':=R) hWF (HZ.out) (HB.out) (by omega)
      have hR:aG w.heap.size WF.heap.size WF b R:=((HF.out).chg hCF (.inr (by omega))).widen (by omega) (by omega)
      clear hWF
      refine bodyPost_ret (v := .tuple #[.agg (aD b R),.bool false]) (aI Tryz.results109 rfl hbk Tryz.underlying31 (by kernel_rfl)) rfl ⟨R,by rw [HU.out,HV.out],by rw [HU.out];exact hR,hBF⟩
     | true =>
      have HC3:Hid (∀w',bH w' WA wn ws→Calls Tryz.prog 114 #[.slice WA wn wc,.int .i64 (fwI b.dev),.int .i64 65535] w' fun e w''=>e = .returned (.bool true)/\Below w'.heap.size w' w''):=fun w' hi=>by have h:=mf WA wn wc ws (fwI b.dev) 65535 w' hi hwn;rwa [hC3] at h
      have hO0:wrO b (tn:Int) ws=true:=by unfold wrO;rw [hb,hC3,HP.out,HIR.out,HR2.out];rfl
      have HO0:=Hd hO0
      obtain ⟨hin,hwl⟩:=sN hC3
      have HIN:=Hd hin
      have hwb:wn<=11:=by have h1:=jq HDV.out;have h2:=HIW.out.1;omega
      clear hb hC3 hO0 hin hwl
      obtain ⟨x0,x1,x2,x3,x4,x5,x6,x7,x8,x9,x10,x11⟩:=HX.out.cells
      go_wp2_with fail
      clear x0 x1 x2 x3 x4 x5 x6 x7 x8 x9 x10 x11
      refine (HC3.out _ (HIW.out.below HB.out)).mono ?_
      rintro e w6 ⟨rfl,b6⟩
      have hs5:=b6.size
      replace HB:=Hd (aA HB.out b6)
      replace HX:=Hd (HX.out.tr b6)
      replace HZ:=Hd (HZ.out.tr b6)
      replace HO:=Hd (HO.out.tr b6)
      replace HF:=Hd (HF.out.below b6)
      clear b6
      have HU:Hid (wrB b (tn:Int) ws={ b with frames:=b.frames.set tn (kC ws) }):=by show _=_;unfold wrB;rw [HO0.out];rfl
      have HV:=HO0
      obtain ⟨g,G1,g1,g2,hA1,hgc,hgf,-,hg1,hg2,hg3⟩:=HF.out.row (k:=tn) (by have h:=HF.out.rd.frames.1;have h2:=HFN.out;omega)
      have hq1:R.n1=s.n1:=by have h:=HF.out.rd.frames.1;have h2:=HFN.out;omega
      have t0:(0:Int)<=(tn:Int):=by omega
      have t1:(tn:Int)<(R.n1:Int):=by omega
      have HQ1:=Hd hq1
      clear hq1
      obtain ⟨o0,o1,o2,o3,o4,o5,o6,o7,o8,o9,o10,o11⟩:=HO.out.cells
      have yo:=HO.out.soft
      rw [hA1] at o4
      have HA1:=Hd hA1
      clear hA1
      have hwr:w1.heap.size<w6.heap.size:=by omega
      have n2:w1.heap.size≠g:=by omega
      have HQ:=Hd o4
      have hD:=Below.refl w6.heap.size w6
      go_wp2_with fail
      go_region_held3 (fun w'=>w'.cell? ⟨w1.heap.size,4,none⟩=some (.slice (some ⟨g,0,none⟩) R.n1 R.c1))
       (first|with_reducible exact yV (hD) hwr HQ.out|with_reducible exact yV (hD.drew) hwr HQ.out|with_reducible exact FV n2 (yV (hD) hwr HQ.out)|with_reducible exact FV n2 (yV (hD.drew) hwr HQ.out))
       ((go_at_call 169;(with_reducible refine (uw WA wn wc ws _ (HIW.out.below (aA HB.out (by first|with_reducible exact hD|with_reducible exact hD.drew))) HIN.out (by omega)).mono ?_);rintro e w7 ⟨A7,c7,rfl,o7,b7⟩;have O7:=Hd (o7.more (base':=w6.heap.size) (Nat.le_refl _));have hD2:=aA (a:=w6) (by first|with_reducible exact hD|with_reducible exact hD.drew) b7;clear b7 o7;replace hD:=hD2;have hg6:=(hD.cell (p:=⟨g,tn,none⟩) hg3).trans hgc;have hf6:=oJ hD hg3 hgf))
      have hs7:=hD.size
      have HK:Hid (aG W.heap.size w7.heap.size (w7.setCell ⟨g,tn,none⟩ (.slice A7 wn c7)) { b with frames:=b.frames.set tn (kC ws) } R):=(HF.out.below hD).setRow (k:=tn) (by have h:=HQ1.out;omega) HA1.out O7.out (by omega) (by omega) (by omega) rfl rfl rfl
      have HB6:=Hd ((aA HB.out hD).setCell (p:=⟨g,tn,none⟩) (by simp only;omega) (.slice A7 wn c7))
      have HZ6:=Hd ((HZ.out.tr hD).far (p:=⟨g,tn,none⟩) (by simp only;omega) (.slice A7 wn c7))
      have HO6:=Hd ((HO.out.tr hD).far (p:=⟨g,tn,none⟩) (by simp only;omega) (.slice A7 wn c7))
      have hs8:w7.heap.size<=(w7.setCell ⟨g,tn,none⟩ (.slice A7 wn c7)).heap.size:=by simp
      generalize hW7:w7.setCell ⟨g,tn,none⟩ (.slice A7 wn c7)=W7 at *
      clear hW7
      clear o0 o1 o2 o3 o4 o5 o6 o7 o8 o9 o10 o11 yo hgc hgf hg6 hf6
      obtain ⟨o0,o1,o2,o3,o4,o5,o6,o7,o8,o9,o10,o11⟩:=HO6.out.cells
      obtain ⟨z0,z1,z2,z3,z4,z5,z6,z7,z8,z9,z10,z11⟩:=HZ6.out.cells
      have yz:=HZ6.out.soft
      go_wp2_with fail
      clear o0 o1 o2 o3 o4 o5 o6 o7 o8 o9 o10 o11 z0 z1 z2 z3 z4 z5 z6 z7 z8 z9 z10 z11 yz
      have HRS:=Hd (G8 HA1.out)
      replace HK:Hid (aG W.heap.size w7.heap.size W7 { b with frames:=b.frames.set tn (kC ws) } ⟨some ⟨g,0,none⟩,R.n1,R.c1,R.A2,R.n2,R.c2,R.A3,R.n3,R.c3⟩):=by have h:=HK.out;rwa [HRS.out] at h
      generalize hWF:World.setCell _ _ _=WF
      obtain ⟨hbk,hszF,hBF,hCF⟩:=bK (W:=W7) (b':={ b with frames:=b.frames.set tn (kC ws) }) (s':=⟨some ⟨g,0,none⟩,R.n1,R.c1,R.A2,R.n2,R.c2,R.A3,R.n3,R.c3⟩) hWF (HZ6.out) (HB6.out) (by omega)
      have hR:aG w.heap.size WF.heap.size WF { b with frames:=b.frames.set tn (kC ws) } ⟨some ⟨g,0,none⟩,R.n1,R.c1,R.A2,R.n2,R.c2,R.A3,R.n3,R.c3⟩:=((HK.out).chg hCF (.inr (by omega))).widen (by omega) (by omega)
      clear hWF
      refine bodyPost_ret (v := .tuple #[.agg (aD { b with frames:=b.frames.set tn (kC ws) } ⟨some ⟨g,0,none⟩,R.n1,R.c1,R.A2,R.n2,R.c2,R.A3,R.n3,R.c3⟩),.bool true]) (aI Tryz.results109 rfl hbk Tryz.underlying31 (by kernel_rfl)) rfl ⟨⟨some ⟨g,0,none⟩,R.n1,R.c1,R.A2,R.n2,R.c2,R.A3,R.n3,R.c3⟩,by rw [HU.out,HV.out],by rw [HU.out];exact hR,hBF⟩
  ·have hp0:(b.phase != 1)=true:=by simp [hp]
   have hO:wrO b t ws=false:=by unfold wrO;rw [hb,decide_eq_false hp];rfl
   clear hb hp
   have HU:Hid (wrB b t ws=b):=by show _=_;unfold wrB;rw [hO];rfl
   have HV:Hid (wrO b t ws=false):=hO
   clear hO
   obtain ⟨z0,z1,z2,z3,z4,z5,z6,z7,z8,z9,z10,z11⟩:=HZ.out.cells
   have yz:=HZ.out.soft
   obtain ⟨o0,o1,o2,o3,o4,o5,o6,o7,o8,o9,o10,o11⟩:=HO.out.cells
   have yo:=HO.out.soft
   obtain ⟨x0,x1,x2,x3,x4,x5,x6,x7,x8,x9,x10,x11⟩:=HX.out.cells
   go_wp2_with fail
   clear z0 z1 z2 z3 z4 z5 z6 z7 z8 z9 z10 z11 yz o0 o1 o2 o3 o4 o5 o6 o7 o8 o9 o10 o11 yo x0 x1 x2 x3 x4 x5 x6 x7 x8 x9 x10 x11
   generalize hWF:World.setCell _ _ _=WF
   obtain ⟨hbk,hszF,hBF,hCF⟩:=bK (W:=w3) (b':=b) (s':=R) hWF (HZ.out) (HB.out) (by omega)
   have hR:aG w.heap.size WF.heap.size WF b R:=((HF.out).chg hCF (.inr (by omega))).widen (by omega) (by omega)
   clear hWF
   refine bodyPost_ret (v := .tuple #[.agg (aD b R),.bool false]) (aI Tryz.results109 rfl hbk Tryz.underlying31 (by kernel_rfl)) rfl ⟨R,by rw [HU.out,HV.out],by rw [HU.out];exact hR,hBF⟩
end Go.Proofs.YtignkfhdkcgkgaaGreat
