/- AbortRegion of the reference (printed by mkop.py). -/
import Derived.Test.YtignkfhdkcgkgaaGreatAb
namespace Go.Proofs.YtignkfhdkcgkgaaGreat
set_option maxHeartbeats 4000000
set_option maxRecDepth 100000
open Go.RowKit
theorem j4 (b:Bd) (s:Sl3) (w:World) (hA:bV w b s) (hz1:af b.frames<=1099511627776) (h2:s.n2<=16777216) (h3:af b.saved<=1099511627776) :
  Calls Tryz.prog 129 #[.agg (aD b s)] w fun e w'=>∃R,e = .returned (.tuple #[.agg (aD (abB b) R),.bool (abO b)])/\aG w.heap.size w'.heap.size w' (abB b) R/\Below w.heap.size w w':=by
 have hz:kF b:=⟨hz1,by have:=hA.state.1;omega,h3⟩
 have HI:=Hd hA
 have HB:=Hd (aB (aB (Below.refl w.heap.size w) (.cells (aD b s) 31)) (.cells z12 31))
 have HX:Hid (bC ((w.alloc (.cells (aD b s) 31)).alloc (.cells z12 31)) w.heap.size b s):=aR _ (aL _ _)
 have HZ:Hid (bC ((w.alloc (.cells (aD b s) 31)).alloc (.cells z12 31)) (w.heap.size+1) zBd zSl):=ae (by simp)
 have hsz:w.heap.size+2<=((w.alloc (.cells (aD b s) 31)).alloc (.cells z12 31)).heap.size:=by simp
 clear hA
 go_enter Tryz.func129,Tryz.ntmps129
 go_wp2_with fail
 generalize hW:((w.alloc (.cells (aD b s) 31)).alloc (.cells z12 31))=W at *
 clear hW
 refine (fA b s _ (HI.out.below HB.out) hz).mono ?_
 rintro e w1 ⟨R,rfl,a1,b1⟩
 have HF:=Hd a1.fp
 have hs0:=b1.size
 replace HB:=Hd (aA HB.out b1)
 replace HX:=Hd (HX.out.tr b1)
 replace HZ:=Hd (HZ.out.tr b1)
 clear a1 b1
 have b2:Below w1.heap.size w1 (w1.alloc (.cells (aD b R) 31)):=aB (Below.refl _ _) _
 have HO:Hid (bC (w1.alloc (.cells (aD b R) 31)) w1.heap.size b R):=aL _ _
 have hs2:w1.heap.size<(w1.alloc (.cells (aD b R) 31)).heap.size:=by simp
 replace HF:=Hd (HF.out.below b2)
 replace HB:=Hd (aA HB.out b2)
 replace HX:=Hd (HX.out.tr b2)
 replace HZ:=Hd (HZ.out.tr b2)
 obtain ⟨x0,x1,x2,x3,x4,x5,x6,x7,x8,x9,x10,x11⟩:=HX.out.cells
 go_wp2_with fail
 generalize hW2:(w1.alloc (.cells (aD b R) 31))=W2 at *
 clear x0 x1 x2 x3 x4 x5 x6 x7 x8 x9 x10 x11
 clear hW2 b2
 refine (ek b s _ (HI.out.below HB.out) hz1 h2 h3).mono ?_
 rintro e w3 ⟨rfl,b3⟩
 have hs2:=b3.size
 replace HB:=Hd (aA HB.out b3)
 replace HX:=Hd (HX.out.tr b3)
 replace HZ:=Hd (HZ.out.tr b3)
 replace HO:=Hd (HO.out.tr b3)
 replace HF:=Hd (HF.out.below b3)
 clear b3
 cases hb:bkF b with
 | false =>
  have hO:abO b=false:=by unfold abO;rw [hb];rfl
  clear hb
  have HU:Hid (abB b=b):=by show _=_;unfold abB;rw [hO];rfl
  have HV:Hid (abO b=false):=hO
  clear hO
  obtain ⟨z0,z1,z2,z3,z4,z5,z6,z7,z8,z9,z10,z11⟩:=HZ.out.cells
  have yz:=HZ.out.soft
  obtain ⟨o0,o1,o2,o3,o4,o5,o6,o7,o8,o9,o10,o11⟩:=HO.out.cells
  have yo:=HO.out.soft
  obtain ⟨x0,x1,x2,x3,x4,x5,x6,x7,x8,x9,x10,x11⟩:=HX.out.cells
  go_wp2_with fail
  clear z0 z1 z2 z3 z4 z5 z6 z7 z8 z9 z10 z11 yz o0 o1 o2 o3 o4 o5 o6 o7 o8 o9 o10 o11 yo x0 x1 x2 x3 x4 x5 x6 x7 x8 x9 x10 x11
  generalize hWF:World.setCell _ _ _=WF
  obtain ⟨hbk,hszF,hBF,hCF⟩:=bK (W:=w3) (b':=b) (s':=R) hWF (HZ.out) (HB.out) (by omega)
  have hR:aG w.heap.size WF.heap.size WF b R:=((HF.out).chg hCF (.inr (by omega))).widen (by omega) (by omega)
  clear hWF
  refine bodyPost_ret (v := .tuple #[.agg (aD b R),.bool false]) (aI Tryz.results129 rfl hbk Tryz.underlying31 (by kernel_rfl)) rfl ⟨R,by rw [HU.out,HV.out],by rw [HU.out];exact hR,hBF⟩
 | true =>
  by_cases hp:b.phase=1
  ·have HP:=Hd hp
   have hp0:(b.phase != 1)=false:=by rw [hp];rfl
   clear hp
   have hO:abO b=true:=by unfold abO;rw [hb,HP.out];rfl
   have HU:Hid (abB b=rbB b):=by show _=_;unfold abB;rw [hO];rfl
   have HV:=Hd hO
   have HAP:=Hd (BC hO)
   clear hO hb
   obtain ⟨x0,x1,x2,x3,x4,x5,x6,x7,x8,x9,x10,x11⟩:=HX.out.cells
   go_wp2_with fail
   clear x0 x1 x2 x3 x4 x5 x6 x7 x8 x9 x10 x11
   refine (nL b.dev b.reg _).mono ?_
   rintro e w4 ⟨TA,m,tc,rfl,o4,b4⟩
   have hTL:=o4.len
   have hmb:m<=36:=by have h1:=kM b.dev b.reg;omega
   have HT:=Hd o4.ints
   have HTA:=Hd o4.lies
   have hs3:=b4.size
   replace HB:=Hd (aA HB.out b4)
   replace HX:=Hd (HX.out.tr b4)
   replace HZ:=Hd (HZ.out.tr b4)
   replace HO:=Hd (HO.out.tr b4)
   replace HF:=Hd (HF.out.below b4)
   clear b4 o4
   have hRT:∀j,j<(aQ b.dev b.reg).length→0<=(aQ b.dev b.reg)[j]?.getD 0/\(aQ b.dev b.reg)[j]?.getD 0<(tiles b.dev:Int):=fun j hj=>kP hj
   have HRT:=Hd hRT
   have HTL:=Hd hTL
   have HTE:Hid (aQ b.dev b.reg=aQ b.dev b.reg):=rfl
   clear hRT hTL
   generalize hts:aQ b.dev b.reg=ts at HT HRT HTL HTE
   have HTS:=Hd hts
   clear hts HTE
   go_wp2_with fail
   go_loopw [6] (fun i wr=>∃(k hi:Nat),k<=m/\i = .int .i64 k/\Below w.heap.size w wr/\bC wr w.heap.size b s/\bC wr (w.heap.size+1) zBd zSl/\bC wr w1.heap.size b R/\bH wr TA m ts/\hi<=wr.heap.size/\dE w1.heap.size W.heap.size hi wr { b with frames:=abF b.saved (ts.take k) b.frames } R/\w4.heap.size<=wr.heap.size) (fun i _=>m - (intOf i).toNat)
   case atStart=>exact ⟨0,w1.heap.size,Nat.zero_le _,rfl,HB.out,HX.out,HZ.out,HO.out,HT.out,by omega,(HF.out.dev rfl rfl rfl).toN (Nat.le_refl _),Nat.le_refl _⟩
   case round =>
    obtain ⟨k,hi,hk,rfl,hb1,hx1,hz1,ho1,ht1,hhi,hf1,hsr⟩:=hrel
    have HBr:=Hd hb1
    have HXr:=Hd hx1
    have HZr:=Hd hz1
    have HOr:=Hd ho1
    have HTr:=Hd ht1
    have HFr:=Hd hf1
    clear hb1 hx1 hz1 ho1 ht1 hf1
    by_cases hlt:k<m
    ·have hdk:decide ((k:Int)<(m:Int))=true:=by simp;omega
     obtain ⟨t0,t1⟩:=HRT.out k (by rw [HTL.out];exact hlt)
     have HST:=Hd (AO (sv:=b.saved) (l:=b.frames) (ts:=ts) (k:=k) (by rw [HTL.out];exact hlt))
     obtain ⟨bt,ot,hTA,hbt,hct⟩:=HTr.out.2 (by omega)
     have hck:=hct k hlt
     have hbtl:w.heap.size+2<=bt:=by have h:=(HTA.out ⟨bt,ot,none⟩ hTA).1;simp only at h;omega
     have hbt1:w1.heap.size<bt:=by have h:=(HTA.out ⟨bt,ot,none⟩ hTA).1;simp only at h;omega
     subst hTA
     clear hct
     generalize ts[k]?.getD 0=t at *
     obtain ⟨tn,rfl⟩:=Int.eq_ofNat_of_zero_le t0
     rw [Int.toNat_natCast] at HST
     obtain ⟨p1,p2,p3,p4⟩:=HAP.out
     have q1:R.n1=tiles b.dev:=by have h:=HFr.out.fp.rd.frames.1;have h2:=rE b.saved (ts.take k) b.frames;simp only at h;omega
     have q3:s.n3=tiles b.dev:=by have h:=HI.out.saved.1;omega
     obtain ⟨bs,os,hA3,hbs,hcs⟩:=HI.out.saved.2 (by omega)
     obtain ⟨A5,m5,c5,hcr,hIr⟩:=hcs tn (by omega)
     have hm5:m5<=1099511627776:=by have h:=p3 tn;have h2:=hIr.1;omega
     have HJ:=Hd (hIr.below HBr.out)
     rw [←HBr.out.cell (p:=⟨bs,os+tn,none⟩) hbs] at hcr
     obtain ⟨g,G1,g1,g2,hA1,hgc,hgf,-,hg1,hg2,hg3⟩:=HFr.out.fp.row (k:=tn) (by omega)
     obtain ⟨S1,S2,S3,hfp⟩:=HF.out
     have hg4:W.heap.size<=g/\g<w1.heap.size:=hfp.i1 _ (hfp.f1 ⟨g,0,none⟩ hA1).1
     have t2:(tn:Int)<(s.n3:Int):=by omega
     have t3:(tn:Int)<(R.n1:Int):=by omega
     have hwr:w.heap.size<wr.heap.size:=by omega
     have hw1r:w1.heap.size<wr.heap.size:=by omega
     have hbsr:bs<wr.heap.size:=by omega
     have i0:(0:Int)<=(k:Int):=by omega
     have i1:(k:Int)<(m:Int):=by omega
     have hbw:bt<wr.heap.size:=hbt
     clear hfp S1 S2 S3 hcs hIr p1 p2 p3 q1 q3 hbt
     obtain ⟨x0,x1,x2,x3,x4,x5,x6,x7,x8,x9,x10,x11⟩:=HXr.out.cells
     obtain ⟨o0,o1,o2,o3,o4,o5,o6,o7,o8,o9,o10,o11⟩:=HOr.out.cells
     rw [hA3] at x11
     rw [hA1] at o4
     have HA1:=Hd hA1
     clear hA1 hA3
     have HQ:=Hd (And.intro x11 (And.intro o4 hcr))
     have hD:=Below.refl wr.heap.size wr
     have hbt2:bt≠g:=by omega
     have n1:w.heap.size≠g:=by omega
     have n2:w1.heap.size≠g:=by omega
     have n3:bs≠g:=by omega
     replace HQ:=Hd (And.intro hck HQ.out)
     go_wp2_with fail
     go_region_held3 (fun w'=>w'.cell? ⟨bt,ot+k,none⟩=some (.int .i64 (tn:Int))/\w'.cell? ⟨w.heap.size,11,none⟩=some (.slice (some ⟨bs,os,none⟩) s.n3 s.c3)/\w'.cell? ⟨w1.heap.size,4,none⟩=some (.slice (some ⟨g,0,none⟩) R.n1 R.c1)/\w'.cell? ⟨bs,os+tn,none⟩=some (.slice A5 m5 c5))
      (first|with_reducible exact kg (hD) hbw hwr hw1r hbsr HQ.out|with_reducible exact kg (hD.drew) hbw hwr hw1r hbsr HQ.out|with_reducible exact kg (aB hD _) hbw hwr hw1r hbsr HQ.out|with_reducible exact kg ((aB hD _).drew) hbw hwr hw1r hbsr HQ.out|with_reducible exact kg (aB hD.drew _) hbw hwr hw1r hbsr HQ.out|with_reducible exact kg ((aB hD.drew _).drew) hbw hwr hw1r hbsr HQ.out|with_reducible exact uF hbt2 n1 n2 n3 (kg (hD) hbw hwr hw1r hbsr HQ.out)|with_reducible exact uF hbt2 n1 n2 n3 (kg (hD.drew) hbw hwr hw1r hbsr HQ.out)|with_reducible exact uF hbt2 n1 n2 n3 (kg (aB hD _) hbw hwr hw1r hbsr HQ.out)|with_reducible exact uF hbt2 n1 n2 n3 (kg ((aB hD _).drew) hbw hwr hw1r hbsr HQ.out)|with_reducible exact uF hbt2 n1 n2 n3 (kg (aB hD.drew _) hbw hwr hw1r hbsr HQ.out)|with_reducible exact uF hbt2 n1 n2 n3 (kg ((aB hD.drew _).drew) hbw hwr hw1r hbsr HQ.out))
      ((refine oq rfl _ _ (by rfl) _ (by rfl) (by first|exact Own.newAt rfl (Nat.le_refl _)|exact (Own.newAt rfl (Nat.le_refl _)).drewd) A5 m5 c5 (b.saved[tn]?.getD []) (by rfl) (HJ.out.below (by first|with_reducible exact hD|with_reducible exact hD.drew|with_reducible exact aB hD _|with_reducible exact (aB hD _).drew|with_reducible exact aB hD.drew _|with_reducible exact (aB hD.drew _).drew)) hm5 wr.heap.size (by first|exact Nat.le_refl _|exact hD.size) (by first|with_reducible exact hD|with_reducible exact hD.drew|with_reducible exact aB hD _|with_reducible exact (aB hD _).drew|with_reducible exact aB hD.drew _|with_reducible exact (aB hD.drew _).drew) ?_;rintro A6 c6 w6 q6 o6 l6 hx6 hxw b6 c6c;have hq6:wr.heap.size<=q6:=(by rcases hx6 with e|e <;> rw [e] <;> first|exact Nat.le_refl _|omega|simp);have O6:=Hd (o6.more hq6);clear o6 l6 c6c hx6;replace hD:=b6;have hg6:=(hD.cell (p:=⟨g,tn,none⟩) hg3).trans hgc;have hf6:=oJ hD hg3 hgf))
     have hs6:=hD.size
     have HK:Hid (dE w1.heap.size W.heap.size w6.heap.size (w6.setCell ⟨g,tn,none⟩ (.slice A6 m5 c6)) { b with frames:=abF b.saved (ts.take (k+1)) b.frames } R):=(HFr.out.below hD).setRow (k:=tn) (by omega) HA1.out O6.out (by omega) (by omega) (by omega) (by omega) HST.out rfl rfl
     have HI6:=Hd (BA (p:=⟨g,tn,none⟩) (HTr.out.below hD) (.slice A6 m5 c6) (by rintro a ⟨⟩;simp only;omega))
     have HB6:=Hd ((aA HBr.out hD).setCell (p:=⟨g,tn,none⟩) (by simp only;omega) (.slice A6 m5 c6))
     have HX6:=Hd ((HXr.out.tr hD).far (p:=⟨g,tn,none⟩) (by simp only;omega) (.slice A6 m5 c6))
     have HZ6:=Hd ((HZr.out.tr hD).far (p:=⟨g,tn,none⟩) (by simp only;omega) (.slice A6 m5 c6))
     have HO6:=Hd ((HOr.out.tr hD).far (p:=⟨g,tn,none⟩) (by simp only;omega) (.slice A6 m5 c6))
     clear x0 x1 x2 x3 x4 x5 x6 x7 x8 x9 x10 x11 o0 o1 o2 o3 o4 o5 o6 o7 o8 o9 o10 o11 hcr hgc hgf hg6 hf6 hck
     go_wp2_with fail
     go_roundw
     case rel=>exact ⟨k+1,w6.heap.size,by omega,by go_num,HB6.out,HX6.out,HZ6.out,HO6.out,HI6.out,by simp,HK.out,by simp;omega⟩
     case measure=>simp [intOf];omega
    ·have hkm:k=m:=by omega
     subst hkm
     have hdk:decide ((k:Int)<(k:Int))=false:=by simp
     have HEQ:=Hd (EB b ts HTS.out.symm k HTL.out)
     have HU2:Hid (abB b=⟨b.dev,abF b.saved (aQ b.dev b.reg) b.frames,b.state,0,rZ,[]⟩):=HU.out
     have hl4:w1.heap.size<wr.heap.size:=by omega
     have hr4:w.heap.size+1<wr.heap.size:=by omega
     obtain ⟨o0,o1,o2,o3,o4,o5,o6,o7,o8,o9,o10,o11⟩:=HOr.out.cells
     obtain ⟨z0,z1,z2,z3,z4,z5,z6,z7,z8,z9,z10,z11⟩:=HZr.out.cells
     have yz:=HZr.out.soft
     have yo:=HOr.out.soft
     go_wp2_with fail
     clear o0 o1 o2 o3 o4 o5 o6 o7 o8 o9 o10 o11 z0 z1 z2 z3 z4 z5 z6 z7 z8 z9 z10 z11 yz yo
     generalize hWF:World.setCell _ _ _=WF
     have hCP:Chg w1.heap.size (w1.heap.size+1) wr ((((((wr.setCell ⟨w1.heap.size,6,none⟩ (.int .i64 0)).setCell ⟨w1.heap.size,7,none⟩ (.int .i64 0)).setCell ⟨w1.heap.size,8,none⟩ (.int .i64 0)).setCell ⟨w1.heap.size,9,none⟩ (.int .i64 0)).setCell ⟨w1.heap.size,10,none⟩ (.int .i64 0)).setCell ⟨w1.heap.size,11,none⟩ (.slice (some ⟨wr.heap.size,0,none⟩) 0 0)):=(Chg.set (Chg.set (Chg.set (Chg.set (Chg.set (Chg.set (Chg.refl _ _ _) (Nat.le_refl _) (Nat.lt_succ_self _) _) (Nat.le_refl _) (Nat.lt_succ_self _) _) (Nat.le_refl _) (Nat.lt_succ_self _) _) (Nat.le_refl _) (Nat.lt_succ_self _) _) (Nat.le_refl _) (Nat.lt_succ_self _) _) (Nat.le_refl _) (Nat.lt_succ_self _) _)
     have hsP:=hCP.size
     obtain ⟨hbk,hszF,hBF,hCF⟩:=bK (W:=((((((wr.setCell ⟨w1.heap.size,6,none⟩ (.int .i64 0)).setCell ⟨w1.heap.size,7,none⟩ (.int .i64 0)).setCell ⟨w1.heap.size,8,none⟩ (.int .i64 0)).setCell ⟨w1.heap.size,9,none⟩ (.int .i64 0)).setCell ⟨w1.heap.size,10,none⟩ (.int .i64 0)).setCell ⟨w1.heap.size,11,none⟩ (.slice (some ⟨wr.heap.size,0,none⟩) 0 0))) (b':=⟨b.dev,abF b.saved (aQ b.dev b.reg) b.frames,b.state,0,rZ,[]⟩) (s':=⟨R.A1,R.n1,R.c1,R.A2,R.n2,R.c2,some ⟨wr.heap.size,0,none⟩,0,0⟩) hWF ((HZr.out).chg hCP (.inl (by omega))) (dR (HBr.out) hCP (by omega)) (by omega)
     have hz5:WF.heap.size=wr.heap.size:=by rw [←hWF];simp only [World.size_setCell]
     have hf1:=(((HFr.out.dev (b':={ b with frames:=abF b.saved (aQ b.dev b.reg) b.frames }) HEQ.out.symm rfl rfl).chg hCP).fp).chg hCF (.inr (by omega))
     have hb6:Below WF.heap.size WF (WF.alloc (.cells #[] 27)):=aB (Below.refl _ _) _
     have hR0:aG W.heap.size (WF.alloc (.cells #[] 27)).heap.size (WF.alloc (.cells #[] 27)) ⟨b.dev,abF b.saved (aQ b.dev b.reg) b.frames,b.state,0,rZ,[]⟩ ⟨R.A1,R.n1,R.c1,R.A2,R.n2,R.c2,some ⟨wr.heap.size,0,none⟩,0,0⟩:=(hf1.below hb6).setSaved (b':=⟨b.dev,abF b.saved (aQ b.dev b.reg) b.frames,b.state,0,rZ,[]⟩) (bq.new0 hz5) (by omega) (by omega) (by have:=hb6.size;omega) rfl rfl
     have hR:=hR0.widen (lo':=w.heap.size) (hi':=(WF.alloc (.cells #[] 27)).heap.size) (by omega) (Nat.le_refl _)
     clear hWF
     refine bodyPost_ret (v := .tuple #[.agg (aD ⟨b.dev,abF b.saved (aQ b.dev b.reg) b.frames,b.state,0,rZ,[]⟩ ⟨R.A1,R.n1,R.c1,R.A2,R.n2,R.c2,some ⟨wr.heap.size,0,none⟩,0,0⟩),.bool true]) (aI Tryz.results129 rfl (hbk.tr hb6) Tryz.underlying31 (by kernel_rfl)) rfl ⟨⟨R.A1,R.n1,R.c1,R.A2,R.n2,R.c2,some ⟨wr.heap.size,0,none⟩,0,0⟩,by rw [HU2.out,HV.out],by rw [HU2.out];exact hR,aA hBF hb6⟩
  ·have hp0:(b.phase != 1)=true:=by simp [hp]
   have hO:abO b=false:=by unfold abO;rw [hb,decide_eq_false hp];rfl
   clear hb hp
   have HU:Hid (abB b=b):=by show _=_;unfold abB;rw [hO];rfl
   have HV:Hid (abO b=false):=hO
   clear hO
   obtain ⟨z0,z1,z2,z3,z4,z5,z6,z7,z8,z9,z10,z11⟩:=HZ.out.cells
   have yz:=HZ.out.soft
   obtain ⟨o0,o1,o2,o3,o4,o5,o6,o7,o8,o9,o10,o11⟩:=HO.out.cells
   have yo:=HO.out.soft
   obtain ⟨x0,x1,x2,x3,x4,x5,x6,x7,x8,x9,x10,x11⟩:=HX.out.cells
   go_wp2_with fail
   clear z0 z1 z2 z3 z4 z5 z6 z7 z8 z9 z10 z11 yz o0 o1 o2 o3 o4 o5 o6 o7 o8 o9 o10 o11 yo x0 x1 x2 x3 x4 x5 x6 x7 x8 x9 x10 x11
   generalize hWF:World.setCell _ _ _=WF
   obtain ⟨hbk,hszF,hBF,hCF⟩:=bK (W:=w3) (b':=b) (s':=R) hWF (HZ.out) (HB.out) (by omega)
   have hR:aG w.heap.size WF.heap.size WF b R:=((HF.out).chg hCF (.inr (by omega))).widen (by omega) (by omega)
   clear hWF
   refine bodyPost_ret (v := .tuple #[.agg (aD b R),.bool false]) (aI Tryz.results129 rfl hbk Tryz.underlying31 (by kernel_rfl)) rfl ⟨R,by rw [HU.out,HV.out],by rw [HU.out];exact hR,hBF⟩
end Go.Proofs.YtignkfhdkcgkgaaGreat
