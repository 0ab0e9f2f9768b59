/- running (printed by mkop.py). -/
import Derived.Test.YtignkfhdkcgkgaaGreatOps
namespace Go.Proofs.YtignkfhdkcgkgaaGreat
set_option maxHeartbeats 4000000
set_option maxRecDepth 100000
open Go.RowKit
theorem iI {fn:Func} {p u v:Tmp} {ty t:TypeId} {tmps cs:Array Value} {P:Program} {w:World} {g:Nat} {fs:Array Field} (h:fn.results=#[.cell p ty,.tmp u,.tmp v]) (ht:tmps.getD p undef = .pointer (some ⟨g,0,none⟩)) (hg:w.heap[g]?=some (.cells cs t (0,0)))
  (hu:P.underlying ty=some (.struct fs)) (hi:(P.info? ty).map (·.size)=some cs.size):(results fn tmps).run P w = .ok (.tuple #[.agg cs,tmps.getD u undef,tmps.getD v undef]) w:=by
 have hl:(loadVar ty ⟨g,0,none⟩).run P w = .ok (.agg cs) w:=run_loadVar_row w g t ty cs (0,0) (.struct fs) hg hu rfl hi
 simp only [results,h]
 simp only [Array.getD_eq_getD_getElem?] at ht
 simp [ht,asAddr,hl]
theorem p9 (b:Bd) (s:Sl3) (ph:Int) (w:World) :
  Calls Tryz.prog 167 #[.agg (aD b s),.int .i64 ph] w fun e w'=>e = .returned (.agg (aD ⟨b.dev,b.frames,b.state,ph,rZ,[]⟩ ⟨s.A1,s.n1,s.c1,s.A2,s.n2,s.c2,none,0,0⟩))/\Below w.heap.size w w':=by
 go_enter Tryz.func167,Tryz.ntmps167
 go_wp2_with fail
 refine bodyPost_ret (v := .agg (aD ⟨b.dev,b.frames,b.state,ph,rZ,[]⟩ ⟨s.A1,s.n1,s.c1,s.A2,s.n2,s.c2,none,0,0⟩)) (iJ Tryz.results167 rfl (ae (by simp)) Tryz.underlying31 (by kernel_rfl)) rfl ⟨rfl,aB (aB (Below.refl _ _) _) _⟩
theorem wD (b:Bd) (s:Sl3) (w:World) (hA:bV w b s) (hz1:af b.frames<=1099511627776) (h2:s.n2<=16777216) (h3:af b.saved<=1099511627776) :
  Calls Tryz.prog 106 #[.agg (aD b s)] w fun e w'=>∃R,e = .returned (.tuple #[.agg (aD (scB b) R),.int .i64 (scN b 1),.int .i64 (scN b 2)])/\aG w.heap.size w'.heap.size w' (scB b) R/\Below w.heap.size w w':=by
 have hz:kF b:=⟨hz1,by have:=hA.state.1;omega,h3⟩
 have HI:=Hd hA
 have HB:=Hd (aB (aB (Below.refl w.heap.size w) (.cells (aD b s) 31)) (.cells z12 31))
 have HX:Hid (bC ((w.alloc (.cells (aD b s) 31)).alloc (.cells z12 31)) w.heap.size b s):=aR _ (aL _ _)
 have HZ:Hid (bC ((w.alloc (.cells (aD b s) 31)).alloc (.cells z12 31)) (w.heap.size+1) zBd zSl):=ae (by simp)
 have hsz:w.heap.size+2<=((w.alloc (.cells (aD b s) 31)).alloc (.cells z12 31)).heap.size:=by simp
 clear hA
 go_enter Tryz.func106,Tryz.ntmps106
 go_wp2_with fail
 generalize hW:((w.alloc (.cells (aD b s) 31)).alloc (.cells z12 31))=W at *
 clear hW
 refine (cB b s _ (HI.out.below HB.out) hz).mono ?_
 rintro e w1 ⟨R,rfl,a1,b1⟩
 have HF:=Hd a1.fp
 have hs0:=b1.size
 replace HB:=Hd (aA HB.out b1)
 replace HX:=Hd (HX.out.tr b1)
 replace HZ:=Hd (HZ.out.tr b1)
 clear a1 b1
 have b2:Below w1.heap.size w1 (w1.alloc (.cells (aD b R) 31)):=aB (Below.refl _ _) _
 have HO:Hid (bC (w1.alloc (.cells (aD b R) 31)) w1.heap.size b R):=aL _ _
 have hs2:w1.heap.size<(w1.alloc (.cells (aD b R) 31)).heap.size:=by simp
 replace HF:=Hd (HF.out.below b2)
 replace HB:=Hd (aA HB.out b2)
 replace HX:=Hd (HX.out.tr b2)
 replace HZ:=Hd (HZ.out.tr b2)
 obtain ⟨x0,x1,x2,x3,x4,x5,x6,x7,x8,x9,x10,x11⟩:=HX.out.cells
 go_wp2_with fail
 generalize hW2:(w1.alloc (.cells (aD b R) 31))=W2 at *
 clear x0 x1 x2 x3 x4 x5 x6 x7 x8 x9 x10 x11
 clear hW2 b2
 refine (fq b s _ (HI.out.below HB.out) hz1 h2 h3).mono ?_
 rintro e w3 ⟨rfl,b3⟩
 have hs2:=b3.size
 replace HB:=Hd (aA HB.out b3)
 replace HX:=Hd (HX.out.tr b3)
 replace HZ:=Hd (HZ.out.tr b3)
 replace HO:=Hd (HO.out.tr b3)
 replace HF:=Hd (HF.out.below b3)
 clear b3
 cases hb:bkF b with
 | false =>
  have HU:Hid (scB b=b):=by show _=_;unfold scB;rw [hb];rfl
  have HV:Hid (∀k,scN b k=0):=by intro k;unfold scN;rw [hb];rfl
  clear hb
  obtain ⟨z0,z1,z2,z3,z4,z5,z6,z7,z8,z9,z10,z11⟩:=HZ.out.cells
  have yz:=HZ.out.soft
  obtain ⟨o0,o1,o2,o3,o4,o5,o6,o7,o8,o9,o10,o11⟩:=HO.out.cells
  have yo:=HO.out.soft
  go_wp2_with fail
  clear z0 z1 z2 z3 z4 z5 z6 z7 z8 z9 z10 z11 yz o0 o1 o2 o3 o4 o5 o6 o7 o8 o9 o10 o11 yo
  generalize hWF:World.setCell _ _ _=WF
  obtain ⟨hbk,hszF,hBF,hCF⟩:=bK (W:=w3) (b':=b) (s':=R) hWF (HZ.out) (HB.out) (by omega)
  have hR:aG w.heap.size WF.heap.size WF b R:=((HF.out).chg hCF (.inr (by omega))).widen (by omega) (by omega)
  clear hWF
  refine bodyPost_ret (v := .tuple #[.agg (aD b R),.int .i64 0,.int .i64 0]) (iI Tryz.results106 rfl hbk Tryz.underlying31 (by kernel_rfl)) rfl ⟨R,by rw [HU.out,HV.out,HV.out],by rw [HU.out];exact hR,hBF⟩
 | true =>
  have HV:Hid (∀k,scN b k=dF b.dev b.frames k):=by intro k;unfold scN;rw [hb];rfl
  have HU:Hid (scB b=if 0<dF b.dev b.frames 2 then ⟨b.dev,cu b.dev b.frames,b.state,2,rZ,[]⟩ else { b with frames:=cu b.dev b.frames }):=by show _=_;unfold scB;rw [hb];rfl
  clear hb
  obtain ⟨x0,x1,x2,x3,x4,x5,x6,x7,x8,x9,x10,x11⟩:=HX.out.cells
  go_wp2_with fail
  clear x0 x1 x2 x3 x4 x5 x6 x7 x8 x9 x10 x11
  refine (ul b.dev s.A1 s.n1 s.c1 b.frames _ (HI.out.frames.below HB.out) hz1).mono ?_
  rintro e w4 ⟨A4,n4,c4,rfl,o4,b4⟩
  have O4:=Hd o4
  have hs3:=b4.size
  replace HB:=Hd (aA HB.out b4)
  replace HX:=Hd (HX.out.tr b4)
  replace HZ:=Hd (HZ.out.tr b4)
  replace HO:=Hd (HO.out.tr b4)
  replace HF:=Hd (HF.out.below b4)
  clear b4 o4
  have hC4:Chg w1.heap.size (w1.heap.size+1) w4 (w4.setCell ⟨w1.heap.size,4,none⟩ (.slice A4 n4 c4)):=(Chg.set (Chg.refl _ _ _) (Nat.le_refl _) (Nat.lt_succ_self _) _)
  replace HF:=Hd (HF.out.chg hC4 (.inl (Nat.le_refl _)))
  replace O4:=Hd (O4.out.chg hC4 (.inr (by omega)))
  have hsW:=hC4.size
  have HC4:=Hd hC4
  clear hC4
  by_cases hd:0<dF b.dev b.frames 2
  ·rw [if_pos hd] at HU
   have hd0:decide (dF b.dev b.frames 2>0)=true:=by simp;omega
   obtain ⟨o0,o1,o2,o3,o4,o5,o6,o7,o8,o9,o10,o11⟩:=HO.out.cells
   have yo:=HO.out.soft
   go_wp2_with fail
   clear o0 o1 o2 o3 o4 o5 o6 o7 o8 o9 o10 o11 yo
   have HO4:Hid (bC (w4.setCell ⟨w1.heap.size,4,none⟩ (.slice A4 n4 c4)) w1.heap.size { b with frames:=cu b.dev b.frames } ⟨A4,n4,c4,R.A2,R.n2,R.c2,R.A3,R.n3,R.c3⟩):=(bD (k:=4) HO.out _ rfl)
   have HB4:=Hd (HB.out.setCell (p:=⟨w1.heap.size,4,none⟩) (by simp only;omega) (.slice A4 n4 c4))
   have HZ4:=Hd (HZ.out.chg HC4.out (.inl (by omega)))
   clear HB HZ HO HX HC4
   generalize hW4:(w4.setCell ⟨w1.heap.size,4,none⟩ (.slice A4 n4 c4))=W4 at *
   clear hW4
   refine (p9 { b with frames:=cu b.dev b.frames } ⟨A4,n4,c4,R.A2,R.n2,R.c2,R.A3,R.n3,R.c3⟩ 2 _).mono ?_
   rintro e w5 ⟨rfl,b5⟩
   have hs5:=b5.size
   have HB:=Hd (aA HB4.out b5)
   have HZ:=Hd (HZ4.out.tr b5)
   have HO:=Hd (HO4.out.tr b5)
   replace HF:=Hd (HF.out.below b5)
   replace O4:=Hd (O4.out.below b5)
   clear b5 HB4 HZ4 HO4
   obtain ⟨z0,z1,z2,z3,z4,z5,z6,z7,z8,z9,z10,z11⟩:=HZ.out.cells
   have yz:=HZ.out.soft
   obtain ⟨o0,o1,o2,o3,o4,o5,o6,o7,o8,o9,o10,o11⟩:=HO.out.cells
   have yo:=HO.out.soft
   go_wp2_with fail
   clear z0 z1 z2 z3 z4 z5 z6 z7 z8 z9 z10 z11 yz o0 o1 o2 o3 o4 o5 o6 o7 o8 o9 o10 o11 yo
   have hCP:Chg w1.heap.size (w1.heap.size+1) w5 (put12 w5 w1.heap.size ⟨b.dev,cu b.dev b.frames,b.state,2,rZ,[]⟩ ⟨A4,n4,c4,R.A2,R.n2,R.c2,none,0,0⟩):=xw _ _
   have hsP:=hCP.size
   generalize hWF:World.setCell _ _ _=WF
   obtain ⟨hbk,hszF,hBF,hCF⟩:=bK (W:=(put12 w5 w1.heap.size ⟨b.dev,cu b.dev b.frames,b.state,2,rZ,[]⟩ ⟨A4,n4,c4,R.A2,R.n2,R.c2,none,0,0⟩)) (b':=⟨b.dev,cu b.dev b.frames,b.state,2,rZ,[]⟩) (s':=⟨A4,n4,c4,R.A2,R.n2,R.c2,none,0,0⟩) hWF (HZ.out.chg hCP (.inl (by omega))) (dR HB.out hCP (by omega)) (by omega)
   have hR:aG w.heap.size WF.heap.size WF ⟨b.dev,cu b.dev b.frames,b.state,2,rZ,[]⟩ ⟨A4,n4,c4,R.A2,R.n2,R.c2,none,0,0⟩:=((((HF.out.chg hCP (.inl (Nat.le_refl _))).setFrames (b':={ b with frames:=cu b.dev b.frames }) (O4.out.chg hCP (.inr (by omega))) (by omega) (by omega) (by omega) rfl rfl).clear (b':=⟨b.dev,cu b.dev b.frames,b.state,2,rZ,[]⟩) rfl rfl rfl rfl rfl).chg hCF (.inr (by omega))).widen (by omega) (by omega)
   clear hWF
   refine bodyPost_ret (v := .tuple #[.agg (aD ⟨b.dev,cu b.dev b.frames,b.state,2,rZ,[]⟩ ⟨A4,n4,c4,R.A2,R.n2,R.c2,none,0,0⟩),.int .i64 (dF b.dev b.frames 1),.int .i64 (dF b.dev b.frames 2)]) (iI Tryz.results106 rfl hbk Tryz.underlying31 (by kernel_rfl)) rfl ⟨⟨A4,n4,c4,R.A2,R.n2,R.c2,none,0,0⟩,by rw [HU.out,HV.out,HV.out],by rw [HU.out];exact hR,hBF⟩
  ·rw [if_neg hd] at HU
   have hd0:decide (dF b.dev b.frames 2>0)=false:=by simp;omega
   obtain ⟨z0,z1,z2,z3,z4,z5,z6,z7,z8,z9,z10,z11⟩:=HZ.out.cells
   have yz:=HZ.out.soft
   obtain ⟨o0,o1,o2,o3,o4,o5,o6,o7,o8,o9,o10,o11⟩:=HO.out.cells
   have yo:=HO.out.soft
   go_wp2_with fail
   clear z0 z1 z2 z3 z4 z5 z6 z7 z8 z9 z10 z11 yz o0 o1 o2 o3 o4 o5 o6 o7 o8 o9 o10 o11 yo
   generalize hWF:World.setCell _ _ _=WF
   obtain ⟨hbk,hszF,hBF,hCF⟩:=bK (W:=(w4.setCell ⟨w1.heap.size,4,none⟩ (.slice A4 n4 c4))) (b':={ b with frames:=cu b.dev b.frames }) (s':=⟨A4,n4,c4,R.A2,R.n2,R.c2,R.A3,R.n3,R.c3⟩) hWF (HZ.out.chg HC4.out (.inl (by omega))) (HB.out.setCell (p:=⟨w1.heap.size,4,none⟩) (by simp only;omega) _) (by omega)
   have hR:aG w.heap.size WF.heap.size WF { b with frames:=cu b.dev b.frames } ⟨A4,n4,c4,R.A2,R.n2,R.c2,R.A3,R.n3,R.c3⟩:=((HF.out.setFrames (b':={ b with frames:=cu b.dev b.frames }) O4.out (by omega) (by omega) (by omega) rfl rfl).chg hCF (.inr (by omega))).widen (by omega) (by omega)
   clear hWF
   refine bodyPost_ret (v := .tuple #[.agg (aD { b with frames:=cu b.dev b.frames } ⟨A4,n4,c4,R.A2,R.n2,R.c2,R.A3,R.n3,R.c3⟩),.int .i64 (dF b.dev b.frames 1),.int .i64 (dF b.dev b.frames 2)]) (iI Tryz.results106 rfl hbk Tryz.underlying31 (by kernel_rfl)) rfl ⟨⟨A4,n4,c4,R.A2,R.n2,R.c2,R.A3,R.n3,R.c3⟩,by rw [HU.out,HV.out,HV.out],by rw [HU.out];exact hR,hBF⟩
theorem wE {w w':World} {a1 a2 a3:Addr} {v1 v2 v3:Value} (hb:Below w.heap.size w w') (h1:a1.block<w.heap.size) (h2:a2.block<w.heap.size) (h3:a3.block<w.heap.size) (h:w.cell? a1=some v1/\w.cell? a2=some v2/\w.cell? a3=some v3):w'.cell? a1=some v1/\w'.cell? a2=some v2/\w'.cell? a3=some v3 :=
 ⟨(hb.cell h1).trans h.1,(hb.cell h2).trans h.2.1,(hb.cell h3).trans h.2.2⟩
theorem Ce {w:World} {p a1 a2 a3:Addr} {v v1 v2 v3:Value} (h1:a1.block≠p.block) (h2:a2.block≠p.block) (h3:a3.block≠p.block) (h:w.cell? a1=some v1/\w.cell? a2=some v2/\w.cell? a3=some v3):(w.setCell p v).cell? a1=some v1/\(w.setCell p v).cell? a2=some v2/\(w.setCell p v).cell? a3=some v3 :=
 ⟨(World.cell?_of_block (Below.heap_setCell w p v _ h1)).trans h.1,(World.cell?_of_block (Below.heap_setCell w p v _ h2)).trans h.2.1,(World.cell?_of_block (Below.heap_setCell w p v _ h3)).trans h.2.2⟩
theorem oJ {w w':World} {b o:Nat} (hb:Below w.heap.size w w') (h:b<w.heap.size) (hf:w.frozen? ⟨b,o,none⟩=false):w'.frozen? ⟨b,o,none⟩=false:=by
 have e:=hb.block b h
 simp only [World.frozen?,e] at hf ⊢
 exact hf
theorem kg {w w':World} {a0 a1 a2 a3:Addr} {v0 v1 v2 v3:Value} (hb:Below w.heap.size w w') (h0:a0.block<w.heap.size) (h1:a1.block<w.heap.size) (h2:a2.block<w.heap.size) (h3:a3.block<w.heap.size) (h:w.cell? a0=some v0/\w.cell? a1=some v1/\w.cell? a2=some v2/\w.cell? a3=some v3):w'.cell? a0=some v0/\w'.cell? a1=some v1/\w'.cell? a2=some v2/\w'.cell? a3=some v3 :=
 ⟨(hb.cell h0).trans h.1,wE hb h1 h2 h3 h.2⟩
theorem uF {w:World} {p a0 a1 a2 a3:Addr} {v v0 v1 v2 v3:Value} (h0:a0.block≠p.block) (h1:a1.block≠p.block) (h2:a2.block≠p.block) (h3:a3.block≠p.block) (h:w.cell? a0=some v0/\w.cell? a1=some v1/\w.cell? a2=some v2/\w.cell? a3=some v3):(w.setCell p v).cell? a0=some v0/\(w.setCell p v).cell? a1=some v1/\(w.setCell p v).cell? a2=some v2/\(w.setCell p v).cell? a3=some v3 :=
 ⟨(World.cell?_of_block (Below.heap_setCell w p v _ h0)).trans h.1,Ce h1 h2 h3 h.2⟩
theorem BA {w:World} {A:Option Addr} {n:Nat} {xs:List Int} {p:Addr} (h:bH w A n xs) (v:Value) (hne:∀a,A=some a→a.block≠p.block):bH (w.setCell p v) A n xs:=by
 refine ⟨h.1,fun hn=>?_⟩
 obtain ⟨b,o,rfl,hb,hc⟩:=h.2 hn
 exact ⟨b,o,rfl,by simpa using hb,fun j hj=>(World.cell?_of_block (a:=⟨b,o+j,none⟩) (Below.heap_setCell w p v b (hne _ rfl))).trans (hc j hj)⟩
theorem BC {b:Bd} (h:abO b=true):b.frames.length=tiles b.dev/\b.saved.length=tiles b.dev/\(∀j:Nat,(b.saved[j]?.getD []).length<=11)/\tiles b.dev<=36:=by
 obtain ⟨hb,hp⟩:=lL h
 obtain ⟨hf,-,-,hr,-⟩:=dV hb
 have hs:=(pX (hr hp)).1
 exact ⟨(dW hf).1,(dW hs).1,ib hs,by have:=dW hf;omega⟩
theorem EB (b:Bd) (ts:List Int) (h:ts=aQ b.dev b.reg) (m:Nat) (hm:ts.length=m):abF b.saved (ts.take m) b.frames=(rbB b).frames:=by
 rw [List.take_of_length_le (by omega),h]
 rfl
theorem qA (b:Bd) (s:Sl3) (w:World) (hA:bV w b s) (ho:abO b=true) (hz1:af b.frames<=1099511627776) (h2:s.n2<=16777216) (h3:af b.saved<=1099511627776) :
  Calls Tryz.prog 172 #[.agg (aD b s)] w fun e w'=>∃R,e = .returned (.agg (aD (rbB b) R))/\aG w.heap.size w'.heap.size w' (rbB b) R/\Below w.heap.size w w':=by
 have hz:kF b:=⟨hz1,by have:=hA.state.1;omega,h3⟩
 have HI:=Hd hA
 have HB:=Hd (aB (aB (Below.refl w.heap.size w) (.cells (aD b s) 31)) (.cells z12 31))
 have HX:Hid (bC ((w.alloc (.cells (aD b s) 31)).alloc (.cells z12 31)) w.heap.size b s):=aR _ (aL _ _)
 have HZ:Hid (bC ((w.alloc (.cells (aD b s) 31)).alloc (.cells z12 31)) (w.heap.size+1) zBd zSl):=ae (by simp)
 have hsz:w.heap.size+2<=((w.alloc (.cells (aD b s) 31)).alloc (.cells z12 31)).heap.size:=by simp
 have HAP:=Hd (BC ho)
 clear ho
 clear hA
 go_enter Tryz.func172,Tryz.ntmps172
 go_wp2_with fail
 generalize hW:((w.alloc (.cells (aD b s) 31)).alloc (.cells z12 31))=W at *
 clear hW
 refine (cB b s _ (HI.out.below HB.out) hz).mono ?_
 rintro e w1 ⟨R,rfl,a1,b1⟩
 have HF:=Hd a1.fp
 have hs0:=b1.size
 replace HB:=Hd (aA HB.out b1)
 replace HX:=Hd (HX.out.tr b1)
 replace HZ:=Hd (HZ.out.tr b1)
 clear a1 b1
 have b2:Below w1.heap.size w1 (w1.alloc (.cells (aD b R) 31)):=aB (Below.refl _ _) _
 have HO:Hid (bC (w1.alloc (.cells (aD b R) 31)) w1.heap.size b R):=aL _ _
 have hs2:w1.heap.size<(w1.alloc (.cells (aD b R) 31)).heap.size:=by simp
 replace HF:=Hd (HF.out.below b2)
 replace HB:=Hd (aA HB.out b2)
 replace HX:=Hd (HX.out.tr b2)
 replace HZ:=Hd (HZ.out.tr b2)
 obtain ⟨x0,x1,x2,x3,x4,x5,x6,x7,x8,x9,x10,x11⟩:=HX.out.cells
 go_wp2_with fail
 generalize hW2:(w1.alloc (.cells (aD b R) 31))=W2 at *
 clear x0 x1 x2 x3 x4 x5 x6 x7 x8 x9 x10 x11
 clear hW2 b2
 refine (kV b.dev b.reg _).mono ?_
 rintro e w4 ⟨TA,m,tc,rfl,o4,b4⟩
 have hTL:=o4.len
 have hmb:m<=36:=by have h1:=kM b.dev b.reg;omega
 have HT:=Hd o4.ints
 have HTA:=Hd o4.lies
 have hs2:=b4.size
 replace HB:=Hd (aA HB.out b4)
 replace HX:=Hd (HX.out.tr b4)
 replace HZ:=Hd (HZ.out.tr b4)
 replace HO:=Hd (HO.out.tr b4)
 replace HF:=Hd (HF.out.below b4)
 clear b4 o4
 have hRT:∀j,j<(aQ b.dev b.reg).length→0<=(aQ b.dev b.reg)[j]?.getD 0/\(aQ b.dev b.reg)[j]?.getD 0<(tiles b.dev:Int):=fun j hj=>kP hj
 have HRT:=Hd hRT
 have HTL:=Hd hTL
 have HTE:Hid (aQ b.dev b.reg=aQ b.dev b.reg):=rfl
 clear hRT hTL
 generalize hts:aQ b.dev b.reg=ts at HT HRT HTL HTE
 have HTS:=Hd hts
 clear hts HTE
 go_wp2_with fail
 go_loopw [14] (fun i wr=>∃(k hi:Nat),k<=m/\i = .int .i64 k/\Below w.heap.size w wr/\bC wr w.heap.size b s/\bC wr (w.heap.size+1) zBd zSl/\bC wr w1.heap.size b R/\bH wr TA m ts/\hi<=wr.heap.size/\aG W.heap.size hi wr { b with frames:=abF b.saved (ts.take k) b.frames } R/\w4.heap.size<=wr.heap.size) (fun i _=>m - (intOf i).toNat)
 case atStart=>exact ⟨0,w1.heap.size,Nat.zero_le _,rfl,HB.out,HX.out,HZ.out,HO.out,HT.out,by omega,HF.out.dev rfl rfl rfl,Nat.le_refl _⟩
 case round =>
  obtain ⟨k,hi,hk,rfl,hb1,hx1,hz1,ho1,ht1,hhi,hf1,hsr⟩:=hrel
  have HBr:=Hd hb1
  have HXr:=Hd hx1
  have HZr:=Hd hz1
  have HOr:=Hd ho1
  have HTr:=Hd ht1
  have HFr:=Hd hf1
  clear hb1 hx1 hz1 ho1 ht1 hf1
  by_cases hlt:k<m
  ·have hdk:decide ((k:Int)<(m:Int))=true:=by simp;omega
   obtain ⟨t0,t1⟩:=HRT.out k (by rw [HTL.out];exact hlt)
   have HST:=Hd (AO (sv:=b.saved) (l:=b.frames) (ts:=ts) (k:=k) (by rw [HTL.out];exact hlt))
   obtain ⟨bt,ot,hTA,hbt,hct⟩:=HTr.out.2 (by omega)
   have hck:=hct k hlt
   have hbtl:w.heap.size+2<=bt:=by have h:=(HTA.out ⟨bt,ot,none⟩ hTA).1;simp only at h;omega
   have hbt1:w1.heap.size<bt:=by have h:=(HTA.out ⟨bt,ot,none⟩ hTA).1;simp only at h;omega
   subst hTA
   clear hct
   generalize ts[k]?.getD 0=t at *
   obtain ⟨tn,rfl⟩:=Int.eq_ofNat_of_zero_le t0
   rw [Int.toNat_natCast] at HST
   obtain ⟨p1,p2,p3,p4⟩:=HAP.out
   have q1:R.n1=tiles b.dev:=by have h:=HFr.out.rd.frames.1;have h2:=rE b.saved (ts.take k) b.frames;simp only at h;omega
   have q3:s.n3=tiles b.dev:=by have h:=HI.out.saved.1;omega
   obtain ⟨bs,os,hA3,hbs,hcs⟩:=HI.out.saved.2 (by omega)
   obtain ⟨A5,m5,c5,hcr,hIr⟩:=hcs tn (by omega)
   have hm5:m5<=1099511627776:=by have h:=p3 tn;have h2:=hIr.1;omega
   have HJ:=Hd (hIr.below HBr.out)
   rw [←HBr.out.cell (p:=⟨bs,os+tn,none⟩) hbs] at hcr
   obtain ⟨g,G1,g1,g2,hA1,hgc,hgf,-,hg1,hg2,hg3⟩:=HFr.out.row (k:=tn) (by omega)
   obtain ⟨S1,S2,S3,hfp⟩:=HF.out
   have hg4:W.heap.size<=g/\g<w1.heap.size:=hfp.i1 _ (hfp.f1 ⟨g,0,none⟩ hA1).1
   have t2:(tn:Int)<(s.n3:Int):=by omega
   have t3:(tn:Int)<(R.n1:Int):=by omega
   have hwr:w.heap.size<wr.heap.size:=by omega
   have hw1r:w1.heap.size<wr.heap.size:=by omega
   have hbsr:bs<wr.heap.size:=by omega
   have i0:(0:Int)<=(k:Int):=by omega
   have i1:(k:Int)<(m:Int):=by omega
   have hbw:bt<wr.heap.size:=hbt
   clear hfp S1 S2 S3 hcs hIr p1 p2 p3 q1 q3 hbt
   obtain ⟨x0,x1,x2,x3,x4,x5,x6,x7,x8,x9,x10,x11⟩:=HXr.out.cells
   obtain ⟨o0,o1,o2,o3,o4,o5,o6,o7,o8,o9,o10,o11⟩:=HOr.out.cells
   rw [hA3] at x11
   rw [hA1] at o4
   have HA1:=Hd hA1
   clear hA1 hA3
   have HQ:=Hd (And.intro x11 (And.intro o4 hcr))
   have hD:=Below.refl wr.heap.size wr
   have n1:w.heap.size≠g:=by omega
   have n2:w1.heap.size≠g:=by omega
   have n3:bs≠g:=by omega
   go_wp2_with fail
   go_region_held3 (fun w'=>w'.cell? ⟨w.heap.size,11,none⟩=some (.slice (some ⟨bs,os,none⟩) s.n3 s.c3)/\w'.cell? ⟨w1.heap.size,4,none⟩=some (.slice (some ⟨g,0,none⟩) R.n1 R.c1)/\w'.cell? ⟨bs,os+tn,none⟩=some (.slice A5 m5 c5))
    (first|with_reducible exact wE (hD) hwr hw1r hbsr HQ.out|with_reducible exact wE (hD.drew) hwr hw1r hbsr HQ.out|with_reducible exact Ce n1 n2 n3 (wE (hD) hwr hw1r hbsr HQ.out)|with_reducible exact Ce n1 n2 n3 (wE (hD.drew) hwr hw1r hbsr HQ.out))
    ((go_at_call 102;(with_reducible refine (lG A5 m5 c5 (b.saved[tn]?.getD []) _ (HJ.out.below (by first|with_reducible exact hD|with_reducible exact hD.drew)) hm5).mono ?_);rintro e w6 ⟨A6,c6,rfl,o6,b6⟩;have O6:=Hd (o6.more (base':=wr.heap.size) (Nat.le_refl _));have hD2:=aA (a:=wr) (by first|with_reducible exact hD|with_reducible exact hD.drew) b6;clear b6 o6;replace hD:=hD2;have hg6:=(hD.cell (p:=⟨g,tn,none⟩) hg3).trans hgc;have hf6:=oJ hD hg3 hgf))
   have hs6:=hD.size
   have HK:Hid (aG W.heap.size w6.heap.size (w6.setCell ⟨g,tn,none⟩ (.slice A6 m5 c6)) { b with frames:=abF b.saved (ts.take (k+1)) b.frames } R):=(HFr.out.below hD).setRow (k:=tn) (by omega) HA1.out O6.out (by omega) (by omega) (by omega) HST.out rfl rfl
   have HI6:=Hd (BA (p:=⟨g,tn,none⟩) (HTr.out.below hD) (.slice A6 m5 c6) (by rintro a ⟨⟩;simp only;omega))
   have HB6:=Hd ((aA HBr.out hD).setCell (p:=⟨g,tn,none⟩) (by simp only;omega) (.slice A6 m5 c6))
   have HX6:=Hd ((HXr.out.tr hD).far (p:=⟨g,tn,none⟩) (by simp only;omega) (.slice A6 m5 c6))
   have HZ6:=Hd ((HZr.out.tr hD).far (p:=⟨g,tn,none⟩) (by simp only;omega) (.slice A6 m5 c6))
   have HO6:=Hd ((HOr.out.tr hD).far (p:=⟨g,tn,none⟩) (by simp only;omega) (.slice A6 m5 c6))
   clear x0 x1 x2 x3 x4 x5 x6 x7 x8 x9 x10 x11 o0 o1 o2 o3 o4 o5 o6 o7 o8 o9 o10 o11 hcr hgc hgf hg6 hf6 hck
   go_wp2_with fail
   go_roundw
   case rel=>exact ⟨k+1,w6.heap.size,by omega,by go_num,HB6.out,HX6.out,HZ6.out,HO6.out,HI6.out,by simp,HK.out,by simp;omega⟩
   case measure=>simp [intOf];omega
  ·have hkm:k=m:=by omega
   subst hkm
   have hdk:decide ((k:Int)<(k:Int))=false:=by simp
   have HEQ:=Hd (EB b ts HTS.out.symm k HTL.out)
   obtain ⟨o0,o1,o2,o3,o4,o5,o6,o7,o8,o9,o10,o11⟩:=HOr.out.cells
   go_wp2_with fail
   clear o0 o1 o2 o3 o4 o5 o6 o7 o8 o9 o10 o11
   refine (p9 b R 0 _).mono ?_
   rintro e w5 ⟨rfl,b5⟩
   have hs5:=b5.size
   have HB5:=Hd (aA HBr.out b5)
   have HZ5:=Hd (HZr.out.tr b5)
   have HF5:=Hd (HFr.out.below b5)
   clear b5
   obtain ⟨z0,z1,z2,z3,z4,z5,z6,z7,z8,z9,z10,z11⟩:=HZ5.out.cells
   have yz:=HZ5.out.soft
   go_wp2_with fail
   clear z0 z1 z2 z3 z4 z5 z6 z7 z8 z9 z10 z11 yz
   have HU:Hid (rbB b=⟨b.dev,abF b.saved (aQ b.dev b.reg) b.frames,b.state,0,rZ,[]⟩):=rfl
   generalize hWF:World.setCell _ _ _=WF
   obtain ⟨hbk,hszF,hBF,hCF⟩:=bK (W:=w5) (b':=⟨b.dev,abF b.saved (aQ b.dev b.reg) b.frames,b.state,0,rZ,[]⟩) (s':=⟨R.A1,R.n1,R.c1,R.A2,R.n2,R.c2,none,0,0⟩) hWF (HZ5.out) (HB5.out) (by omega)
   have hR:aG w.heap.size WF.heap.size WF ⟨b.dev,abF b.saved (aQ b.dev b.reg) b.frames,b.state,0,rZ,[]⟩ ⟨R.A1,R.n1,R.c1,R.A2,R.n2,R.c2,none,0,0⟩:=((HF5.out.clear (b':=⟨b.dev,abF b.saved (aQ b.dev b.reg) b.frames,b.state,0,rZ,[]⟩) rfl rfl HEQ.out.symm rfl rfl).chg hCF (.inr (by omega))).widen (by omega) (by omega)
   clear hWF
   refine bodyPost_ret (v := .agg (aD ⟨b.dev,abF b.saved (aQ b.dev b.reg) b.frames,b.state,0,rZ,[]⟩ ⟨R.A1,R.n1,R.c1,R.A2,R.n2,R.c2,none,0,0⟩)) (iJ Tryz.results172 rfl hbk Tryz.underlying31 (by kernel_rfl)) rfl ⟨⟨R.A1,R.n1,R.c1,R.A2,R.n2,R.c2,none,0,0⟩,by rw [HU.out],by rw [HU.out];exact hR,hBF⟩
end Go.Proofs.YtignkfhdkcgkgaaGreat
