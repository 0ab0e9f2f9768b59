/- CommitRegion of the reference (printed by mkop.py). -/
import Derived.Test.YtignkfhdkcgkgaaGreatAbS
import Derived.Test.YtignkfhdkcgkgaaGreatCo
namespace Go.Proofs.YtignkfhdkcgkgaaGreat
set_option maxHeartbeats 4000000
set_option maxRecDepth 100000
open Go.RowKit
def xA (fs:List (List Int)) (ts:List Int) (k:Nat):Bool:=(List.range k).all fun j=>yZ (fs[(ts[j]?.getD 0).toNat]?.getD [])
def qV (f:List Int) (k:Nat):Bool:=(List.range k).all fun j=>(iq (f[j]?.getD 0)).2==0
theorem xW (fs:List (List Int)) (ts:List Int) (k:Nat):xA fs ts (k+1)=(xA fs ts k && yZ (fs[(ts[k]?.getD 0).toNat]?.getD [])):=by simp [xA,List.range_succ]
theorem xX (f:List Int) (k:Nat):qV f (k+1)=(qV f k && ((iq (f[k]?.getD 0)).2==0)):=by simp [qV,List.range_succ]
theorem xY {f:List Int} {m:Nat} (h:f.length=m):qV f m=yZ f:=by rw [←h];rfl
theorem Ff {b:Bd} {x:Int} {ts:List Int} {m:Nat} {c0:Bool} {y:Int} (h1:aQ b.dev b.reg=ts) (h2:ts.length=m) (h3:jy b.dev b.frames ts=y) (h4:(y==x)=c0):(c0 && xA b.frames ts m)=coC b x:=by
 subst h1 h2 h3 h4
 rw [Bool.and_comm]
 rfl
theorem sS (b:Bd) (s:Sl3) (x:Int) (w:World) (hA:bV w b s) (hz1:af b.frames<=1099511627776) (h2:s.n2<=16777216) (h3:af b.saved<=1099511627776) :
  Calls Tryz.prog 128 #[.agg (aD b s),.int .i64 x] w fun e w'=>∃R,e = .returned (.tuple #[.agg (aD (coB b x) R),.bool (coO b x)])/\aG w.heap.size w'.heap.size w' (coB b x) R/\Below w.heap.size w w':=by
 have hz:kF b:=⟨hz1,by have:=hA.state.1;omega,h3⟩
 have HI:=Hd hA
 have HB:=Hd (aB (aB (Below.refl w.heap.size w) (.cells (aD b s) 31)) (.cells z12 31))
 have HX:Hid (bC ((w.alloc (.cells (aD b s) 31)).alloc (.cells z12 31)) w.heap.size b s):=aR _ (aL _ _)
 have HZ:Hid (bC ((w.alloc (.cells (aD b s) 31)).alloc (.cells z12 31)) (w.heap.size+1) zBd zSl):=ae (by simp)
 have hsz:w.heap.size+2<=((w.alloc (.cells (aD b s) 31)).alloc (.cells z12 31)).heap.size:=by simp
 clear hA
 go_enter Tryz.func128,Tryz.ntmps128
 go_wp2_with fail
 generalize hW:((w.alloc (.cells (aD b s) 31)).alloc (.cells z12 31))=W at *
 clear hW
 refine (fA b s _ (HI.out.below HB.out) hz).mono ?_
 rintro e w1 ⟨R,rfl,a1,b1⟩
 have HF:=Hd a1.fp
 have hs0:=b1.size
 replace HB:=Hd (aA HB.out b1)
 replace HX:=Hd (HX.out.tr b1)
 replace HZ:=Hd (HZ.out.tr b1)
 clear a1 b1
 have b2:Below w1.heap.size w1 (w1.alloc (.cells (aD b R) 31)):=aB (Below.refl _ _) _
 have HO:Hid (bC (w1.alloc (.cells (aD b R) 31)) w1.heap.size b R):=aL _ _
 have hs2:w1.heap.size<(w1.alloc (.cells (aD b R) 31)).heap.size:=by simp
 replace HF:=Hd (HF.out.below b2)
 replace HB:=Hd (aA HB.out b2)
 replace HX:=Hd (HX.out.tr b2)
 replace HZ:=Hd (HZ.out.tr b2)
 obtain ⟨x0,x1,x2,x3,x4,x5,x6,x7,x8,x9,x10,x11⟩:=HX.out.cells
 go_wp2_with fail
 generalize hW2:(w1.alloc (.cells (aD b R) 31))=W2 at *
 clear x0 x1 x2 x3 x4 x5 x6 x7 x8 x9 x10 x11
 clear hW2 b2
 refine (ek b s _ (HI.out.below HB.out) hz1 h2 h3).mono ?_
 rintro e w3 ⟨rfl,b3⟩
 have hs2:=b3.size
 replace HB:=Hd (aA HB.out b3)
 replace HX:=Hd (HX.out.tr b3)
 replace HZ:=Hd (HZ.out.tr b3)
 replace HO:=Hd (HO.out.tr b3)
 replace HF:=Hd (HF.out.below b3)
 clear b3
 cases hb:bkF b with
 | false =>
  have hO:abO b=false:=by unfold abO;rw [hb];rfl
  clear hb
  have HU:Hid (coB b x=b):=by show _=_;unfold coB;rw [hO];rfl
  have HV:Hid (coO b x=false):=by show _=_;unfold coO;rw [hO];rfl
  clear hO
  obtain ⟨z0,z1,z2,z3,z4,z5,z6,z7,z8,z9,z10,z11⟩:=HZ.out.cells
  have yz:=HZ.out.soft
  obtain ⟨o0,o1,o2,o3,o4,o5,o6,o7,o8,o9,o10,o11⟩:=HO.out.cells
  have yo:=HO.out.soft
  obtain ⟨x0,x1,x2,x3,x4,x5,x6,x7,x8,x9,x10,x11⟩:=HX.out.cells
  go_wp2_with fail
  clear z0 z1 z2 z3 z4 z5 z6 z7 z8 z9 z10 z11 yz o0 o1 o2 o3 o4 o5 o6 o7 o8 o9 o10 o11 yo x0 x1 x2 x3 x4 x5 x6 x7 x8 x9 x10 x11
  generalize hWF:World.setCell _ _ _=WF
  obtain ⟨hbk,hszF,hBF,hCF⟩:=bK (W:=w3) (b':=b) (s':=R) hWF (HZ.out) (HB.out) (by omega)
  have hR:aG w.heap.size WF.heap.size WF b R:=((HF.out).chg hCF (.inr (by omega))).widen (by omega) (by omega)
  clear hWF
  refine bodyPost_ret (v := .tuple #[.agg (aD b R),.bool false]) (aI Tryz.results128 rfl hbk Tryz.underlying31 (by kernel_rfl)) rfl ⟨R,by rw [HU.out,HV.out],by rw [HU.out];exact hR,hBF⟩
 | true =>
  by_cases hp:b.phase=1
  ·have HP:=Hd hp
   have hp0:(b.phase != 1)=false:=by rw [hp];rfl
   clear hp
   have hO:abO b=true:=by unfold abO;rw [hb,HP.out];rfl
   have HAB:=Hd hO
   have HAP:=Hd (Ao hO)
   clear hO hb
   obtain ⟨x0,x1,x2,x3,x4,x5,x6,x7,x8,x9,x10,x11⟩:=HX.out.cells
   go_wp2_with fail
   clear x0 x1 x2 x3 x4 x5 x6 x7 x8 x9 x10 x11
   refine (nL b.dev b.reg _).mono ?_
   rintro e w4 ⟨TA,m,tc,rfl,o4,b4⟩
   have hTL:=o4.len
   have hmb:m<=36:=by have h1:=kM b.dev b.reg;omega
   have HT:=Hd o4.ints
   have HTA:=Hd o4.lies
   have hs3:=b4.size
   replace HB:=Hd (aA HB.out b4)
   replace HX:=Hd (HX.out.tr b4)
   replace HZ:=Hd (HZ.out.tr b4)
   replace HO:=Hd (HO.out.tr b4)
   replace HF:=Hd (HF.out.below b4)
   clear b4 o4
   have hRT:∀j,j<(aQ b.dev b.reg).length→0<=(aQ b.dev b.reg)[j]?.getD 0/\(aQ b.dev b.reg)[j]?.getD 0<(tiles b.dev:Int):=fun j hj=>kP hj
   have HRT:=Hd hRT
   have HTL:=Hd hTL
   have HTE:Hid (aQ b.dev b.reg=aQ b.dev b.reg):=rfl
   clear hRT hTL
   generalize hts:aQ b.dev b.reg=ts at HT HRT HTL HTE
   have HTS:=Hd hts
   clear hts HTE
   obtain ⟨x0,x1,x2,x3,x4,x5,x6,x7,x8,x9,x10,x11⟩:=HX.out.cells
   go_wp2_with fail
   clear x0 x1 x2 x3 x4 x5 x6 x7 x8 x9 x10 x11
   refine (qz b.dev s.A1 s.n1 s.c1 b.frames TA m tc ts _ (HI.out.frames.below HB.out) HT.out hz1 (by omega)).mono ?_
   rintro e w7 ⟨rfl,b7⟩
   have hs4:=b7.size
   replace HB:=Hd (aA HB.out b7)
   replace HX:=Hd (HX.out.tr b7)
   replace HZ:=Hd (HZ.out.tr b7)
   replace HO:=Hd (HO.out.tr b7)
   replace HF:=Hd (HF.out.below b7)
   replace HT:=Hd (HT.out.below b7)
   clear b7
   have HFC:Hid (jy b.dev b.frames ts=jy b.dev b.frames ts):=rfl
   generalize hfc:jy b.dev b.frames ts=y at *
   replace HFC:=Hd hfc
   clear hfc
   cases hc0:(y==x) with
   | false =>
    have HC0:=Hd hc0
    obtain ⟨x0,x1,x2,x3,x4,x5,x6,x7,x8,x9,x10,x11⟩:=HX.out.cells
    go_wp2_with fail
    clear x0 x1 x2 x3 x4 x5 x6 x7 x8 x9 x10 x11
    clear hc0
    refine (qY b.dev s.A1 s.n1 s.c1 b.frames _ (HI.out.frames.below HB.out) hz1).mono ?_
    rintro e w8 ⟨SA,sn,sc,rfl,o8,b8⟩
    have HSI:=Hd o8.ints
    have HSL:=Hd o8.lies
    have HSN:=Hd o8.len
    have hs5:=b8.size
    replace HB:=Hd (aA HB.out b8)
    replace HX:=Hd (HX.out.tr b8)
    replace HZ:=Hd (HZ.out.tr b8)
    replace HO:=Hd (HO.out.tr b8)
    replace HF:=Hd (HF.out.below b8)
    replace HT:=Hd (HT.out.below b8)
    clear b8 o8
    have HSE:Hid (dA b.dev b.frames=dA b.dev b.frames):=rfl
    generalize hse:dA b.dev b.frames=st at HSI HSN HSE HAP
    replace HSE:=Hd hse
    clear hse
    have hn1:s.n1=tiles b.dev:=by have h:=HI.out.frames.1;have h2:=HAP.out.2.2.1;omega
    have HN1:=Hd hn1
    clear hn1
    go_wp2_with fail
    go_loopw [8,10] (fun c i wr=>∃k:Nat,k<=m/\i = .int .i64 k/\c = .bool (false && xA b.frames ts k)/\Below w.heap.size w wr/\bC wr w.heap.size b s/\bC wr (w.heap.size+1) zBd zSl/\bC wr w1.heap.size b R/\bH wr TA m ts/\bH wr SA sn st/\aG W.heap.size w1.heap.size wr { b with state:=ovS st (ts.take k) b.state } R/\w8.heap.size<=wr.heap.size) (fun _ i _=>m - (intOf i).toNat)
    case atStart=>exact ⟨0,Nat.zero_le _,rfl,rfl,HB.out,HX.out,HZ.out,HO.out,HT.out,HSI.out,HF.out.dev (b':={ b with state:=ovS st (ts.take 0) b.state }) rfl rfl rfl,Nat.le_refl _⟩
    case round =>
     obtain ⟨k,hk,rfl,rfl,hb1,hx1r,hz1r,ho1,ht1,hs1,hf1,hsr⟩:=hrel
     have HBr:=Hd hb1
     have HXr:=Hd hx1r
     have HZr:=Hd hz1r
     have HOr:=Hd ho1
     have HTr:=Hd ht1
     have HSr:=Hd hs1
     have HFr:=Hd hf1
     clear hb1 hx1r hz1r ho1 ht1 hs1 hf1
     by_cases hlt:k<m
     ·have hdk:decide ((k:Int)<(m:Int))=true:=by simp;omega
      obtain ⟨t0,t1⟩:=HRT.out k (by rw [HTL.out];exact hlt)
      have HST:=Hd (sO (old:=st) (new:=b.state) (ts:=ts) (k:=k) (by rw [HTL.out];exact hlt))
      have HCN:=Hd (xW b.frames ts k)
      generalize hcc1:(false && xA b.frames ts k)=c1
      have HC1:=Hd hcc1
      clear hcc1
      obtain ⟨bt,ot,hTA,hbt,hct⟩:=HTr.out.2 (by omega)
      have hck:=hct k hlt
      have hbt0:=(HTA.out ⟨bt,ot,none⟩ hTA)
      simp only at hbt0
      subst hTA
      clear hct
      generalize ts[k]?.getD 0=t at *
      obtain ⟨tn,rfl⟩:=Int.eq_ofNat_of_zero_le t0
      rw [Int.toNat_natCast] at HST HCN
      obtain ⟨p1,p2,p3,p4⟩:=HAP.out
      have htn:tn<36:=by have h1:=HTL.out;have h2:=(bT (dV (lL HAB.out).1 |>.1 |> aj |>.1)).2.2;omega
      have q0:tn<s.n1:=by have h:=HN1.out;omega
      obtain ⟨bf,of,hfA,hbf,hcf⟩:=(HI.out.frames.below HBr.out).2 (by omega)
      obtain ⟨A5,m5,c5,hcr,hIr⟩:=hcf tn q0
      have HIR:=Hd hIr
      have hm5:m5<=1099511627776:=by have h1:=p4 tn;have h2:=hIr.1;omega
      have HF5:=Hd hIr.1
      have k0:(0:Int)<=(k:Int):=by omega
      have k1:(k:Int)<(m:Int):=by omega
      have i0:(0:Int)<=(tn:Int):=by omega
      have i1:(tn:Int)<(s.n1:Int):=by omega
      clear p1 p2 p3 p4 q0 hcf hIr
      generalize b.frames[tn]?.getD []=f at *
      have HFA:=Hd hfA
      clear hfA
      go_wp2_with fail
      go_loop [8,12] (fun c i=>∃j:Nat,j<=m5/\i = .int .i64 j/\c = .bool (c1 && qV f j)) (fun _ i=>m5 - (intOf i).toNat)
      case atStart=>exact ⟨0,Nat.zero_le _,rfl,by simp [qV]⟩
      case round =>
       obtain ⟨j,hj,rfl,rfl⟩:=hrel
       have hbx0:w.heap.size<wr.heap.size:=by omega
       obtain ⟨x0,x1,x2,x3,x4,x5,x6,x7,x8,x9,x10,x11⟩:=HXr.out.cells
       rw [HFA.out] at x4
       by_cases hjl:j<m5
       ·obtain ⟨b1,o1,hA5,hb1,hc1⟩:=HIR.out.2 (by omega)
        subst hA5
        have hcj:=hc1 j hjl
        have HCJ:=Hd (xX f j)
        clear hc1
        generalize f[j]?.getD 0=xx at *
        have j0:(0:Int)<=(j:Int):=by omega
        have j1:(j:Int)<(m5:Int):=by omega
        have HDW:=Hd (jD xx)
        generalize iq xx=dx at *
        generalize hcc2:(c1 && qV f j)=c2
        have HC2:=Hd hcc2
        clear hcc2
        cases c2 with
        | false =>
         have HC3:Hid ((c1 && qV f (j+1))=false):=by show _=_;rw [HCJ.out,←Bool.and_assoc,HC2.out];rfl
         go_wp2_with (go_at_call 178;refine (HDW.out _).mono ?_;rintro e w' ⟨rfl,rfl⟩)
         go_round
         case rel=>exact ⟨j+1,by omega,by go_num,by rw [HC3.out]⟩
         case measure=>simp [intOf];omega
        | true =>
         have HC3:Hid ((c1 && qV f (j+1))=(dx.2==0)):=by show _=_;rw [HCJ.out,←Bool.and_assoc,HC2.out,Bool.true_and]
         generalize hd2:(dx.2==0)=d2 at *
         go_wp2_with (go_at_call 178;refine (HDW.out _).mono ?_;rintro e w' ⟨rfl,rfl⟩)
         go_round
         case rel=>exact ⟨j+1,by omega,by go_num,by rw [HC3.out]⟩
         case measure=>simp [intOf];omega
       ·have hjn:j=m5:=by omega
        subst hjn
        have hdj:decide ((j:Int)<(j:Int))=false:=by simp
        have HC3:Hid ((c1 && qV f j)=(false && xA b.frames ts (k+1))):=by show _=_;rw [xY HF5.out,HCN.out,←HC1.out,Bool.and_assoc]
        rw [HC3.out]
        obtain ⟨p1,p2,p3,p4⟩:=HAP.out
        have q1:R.n2=2 * tiles b.dev:=by have h:=HFr.out.rd.state.1;have h2:=lY st (ts.take k) b.state;simp only at h;omega
        have q2:sn=2 * tiles b.dev:=by have h:=HSN.out;omega
        obtain ⟨g,hA2,hgc,hgf,hg1,hg2,hg3⟩:=HFr.out.stateAt (k:=2 * tn) (by omega)
        obtain ⟨bs,os,hSA,hbs,hcs⟩:=HSr.out.2 (by omega)
        have hs0:=hcs (2 * tn) (by omega)
        have hs1:=hcs (2 * tn+1) (by omega)
        have hbs0:=(HSL.out ⟨bs,os,none⟩ hSA)
        simp only at hbs0
        subst hSA
        have e1:IntKind.i64.wrap (2 * (tn:Int))=2 * (tn:Int):=IntWalk.i64_in _ (by omega)
        have e2:IntKind.i64.wrap (2 * (tn:Int)+1)=2 * (tn:Int)+1:=IntWalk.i64_in _ (by omega)
        have f1:(2 * (tn:Int)).toNat=2 * tn:=by omega
        have f2:(2 * (tn:Int)+1).toNat=2 * tn+1:=by omega
        have i0:(0:Int)<=2 * (tn:Int):=by omega
        have i1:2 * (tn:Int)<(R.n2:Int):=by omega
        have i2:2 * (tn:Int)<(sn:Int):=by omega
        have j0:(0:Int)<=2 * (tn:Int)+1:=by omega
        have j1:2 * (tn:Int)+1<(R.n2:Int):=by omega
        have j2:2 * (tn:Int)+1<(sn:Int):=by omega
        have HA2:=Hd hA2
        have n0:w.heap.size≠g:=by omega
        have n1:w1.heap.size≠g:=by omega
        have n2:bs≠g:=by omega
        have HQ2:Hid (2 * tn<R.n2/\2 * tn+1<R.n2):=⟨by omega,by omega⟩
        clear p1 p2 p3 p4 q1 q2 hcs hck
        generalize (ovS st (ts.take k) b.state)[2 * tn]?.getD 0=og at hgc
        generalize hy0:st[2 * tn]?.getD 0=y0 at *
        generalize hy1:st[2 * tn+1]?.getD 0=y1 at *
        obtain ⟨o0,o1,o2,o3,o4,o5,o6,o7,o8,o9,o10,o11⟩:=HOr.out.cells
        rw [hA2] at o5
        clear hy0 hy1 hA2 o0 o1 o2 o3 o4 o6 o7 o8 o9 o10 o11
        go_wp2_with fail
        clear x0 x1 x2 x3 x4 x5 x6 x7 x8 x9 x10 x11 hcr
        go_cut [] (fun w'=>∃wx,gX wr g (2 * tn) (.int .i64 y0) wx/\wx=w')
        case first =>
         go_region_with (fail)
         all_goals
          go_wp2_with fail
          go_meet
          refine ⟨_,?_,rfl⟩
          exact ⟨rfl,rfl,rfl,rfl⟩
        obtain ⟨wx,hP,rfl⟩:=hcut
        have HBx:=Hd (hP.below HBr.out (lo:=w.heap.size) (by omega))
        have HXx:=Hd (hP.bk HXr.out n0)
        have HZx:=Hd (hP.bk HZr.out (by omega))
        have HOx:=Hd (hP.bk HOr.out n1)
        have HTx:=Hd (hP.ints HTr.out (by rintro a ⟨⟩;simp only;omega))
        have HSx:=Hd (hP.ints HSr.out (by rintro a ⟨⟩;exact n2))
        have HFx:=Hd (hP.num (b':={ b with state:=(ovS st (ts.take k) b.state).set (2 * tn) y0 }) HFr.out HQ2.out.1 HA2.out rfl rfl rfl)
        have hsx:wr.heap.size<=wx.heap.size:=by rw [hP.size];exact Nat.le_refl _
        have HPx:=Hd hP
        obtain ⟨o0,o1,o2,o3,o4,o5,o6,o7,o8,o9,o10,o11⟩:=HOx.out.cells
        have hA2:=HA2.out
        rw [hA2] at o5
        clear hP hA2 o0 o1 o2 o3 o4 o6 o7 o8 o9 o10 o11 hs0 hgf hgc
        rw [←World.cell?_of_block (a:=⟨bs,os+(2 * tn+1),none⟩) (HPx.out.far n2)] at hs1
        obtain ⟨g',h1,hgc,hgf,-⟩:=HFx.out.stateAt (k:=2 * tn+1) HQ2.out.2
        rw [HA2.out] at h1
        injection h1 with h1
        injection h1 with h1
        subst h1
        simp only at hgc
        generalize ((ovS st (ts.take k) b.state).set (2 * tn) y0)[2 * tn+1]?.getD 0=og2 at hgc
        have hbs2:bs<wx.heap.size:=by omega
        have hbt2:g<wx.heap.size:=by omega
        go_wp2_with fail
        have HN:Hid (∀wy,gX wx g (2 * tn+1) (.int .i64 y1) wy→Below w.heap.size w wy/\bC wy w.heap.size b s/\bC wy (w.heap.size+1) zBd zSl/\bC wy w1.heap.size b R/\bH wy (some ⟨bt,ot,none⟩) m ts/\bH wy (some ⟨bs,os,none⟩) sn st/\aG W.heap.size w1.heap.size wy { b with state:=ovS st (ts.take (k+1)) b.state } R/\w8.heap.size<=wy.heap.size):=fun wy hP =>
         ⟨hP.below HBx.out (lo:=w.heap.size) (by omega),hP.bk HXx.out n0,hP.bk HZx.out (by omega),hP.bk HOx.out n1,hP.ints HTx.out (by rintro a ⟨⟩;simp only;omega),hP.ints HSx.out (by rintro a ⟨⟩;exact n2),hP.num HFx.out HQ2.out.2 HA2.out rfl HST.out rfl,by rw [hP.size];omega⟩
        go_region_with (fail)
        all_goals
         clear o5 hs1 hgf hgc e1 e2 f1 f2
         go_wp2_with fail
         go_roundw
         case rel=>exact ⟨k+1,by omega,by go_num,rfl,HN.out _ ⟨rfl,rfl,rfl,rfl⟩⟩
         case measure=>simp [intOf];omega
     ·have hkm:k=m:=by omega
      subst hkm
      have hdk:decide ((k:Int)<(k:Int))=false:=by simp
      have HEQ:=Hd (yx b st ts HTS.out.symm k HTL.out HSE.out.symm)
      have HCC:=Hd (Ff HTS.out HTL.out HFC.out HC0.out)
      rw [HCC.out]
      cases hC:coC b x with
      | false =>
       have HU:Hid (coB b x=abB b):=by show _=_;unfold coB abB;rw [HAB.out,hC];rfl
       have HV:Hid (coO b x=false):=by show _=_;unfold coO;rw [hC];simp
       clear hC
       obtain ⟨x0,x1,x2,x3,x4,x5,x6,x7,x8,x9,x10,x11⟩:=HXr.out.cells
       go_wp2_with fail
       clear x0 x1 x2 x3 x4 x5 x6 x7 x8 x9 x10 x11
       refine (j4 b s _ (HI.out.below HBr.out) hz1 h2 h3).mono ?_
       rintro e w9 ⟨R2,rfl,f9,b9⟩
       have HF9:=Hd f9
       have hs9:=b9.size
       have HB9:=Hd (aA HBr.out b9)
       have HZ9:=Hd (HZr.out.tr b9)
       clear f9 b9
       generalize abB b=b9 at *
       have hb10:Below w9.heap.size w9 (w9.alloc (.cells (aD b9 R2) 31)):=aB (Below.refl _ _) _
       have HZt:=Hd (HZ9.out.tr hb10)
       have HBt:=Hd (aA HB9.out hb10)
       have HFt:=Hd (HF9.out.below hb10)
       have hst:=hb10.size
       obtain ⟨z0,z1,z2,z3,z4,z5,z6,z7,z8,z9,z10,z11⟩:=HZt.out.cells
       have yz:=HZt.out.soft
       go_wp2_with fail
       clear z0 z1 z2 z3 z4 z5 z6 z7 z8 z9 z10 z11 yz hb10
       generalize hWF:World.setCell _ _ _=WF
       obtain ⟨hbk,hszF,hBF,hCF⟩:=bK (W:=(w9.alloc (.cells (aD b9 R2) 31))) (b':=b9) (s':=R2) hWF (HZt.out) (HBt.out) (by omega)
       have hR:aG w.heap.size WF.heap.size WF b9 R2:=((HFt.out).chg hCF (.inr (by omega))).widen (by omega) (by omega)
       clear hWF
       refine bodyPost_ret (v := .tuple #[.agg (aD b9 R2),.bool false]) (aI Tryz.results128 rfl hbk Tryz.underlying31 (by kernel_rfl)) rfl ⟨R2,by rw [HU.out,HV.out],by rw [HU.out];exact hR,hBF⟩
      | true =>
       have HU:Hid (coB b x=⟨b.dev,b.frames,ovS (dA b.dev b.frames) (aQ b.dev b.reg) b.state,0,rZ,[]⟩):=by show _=_;unfold coB;rw [HAB.out,hC];rfl
       have HV:Hid (coO b x=true):=by show _=_;unfold coO;rw [HAB.out,hC];rfl
       clear hC
       have hl4:w1.heap.size<wr.heap.size:=by omega
       have hr4:w.heap.size+1<wr.heap.size:=by omega
       obtain ⟨o0,o1,o2,o3,o4,o5,o6,o7,o8,o9,o10,o11⟩:=HOr.out.cells
       obtain ⟨z0,z1,z2,z3,z4,z5,z6,z7,z8,z9,z10,z11⟩:=HZr.out.cells
       have yz:=HZr.out.soft
       have yo:=HOr.out.soft
       go_wp2_with fail
       clear o0 o1 o2 o3 o4 o5 o6 o7 o8 o9 o10 o11 z0 z1 z2 z3 z4 z5 z6 z7 z8 z9 z10 z11 yz yo
       generalize hWF:World.setCell _ _ _=WF
       have hCP:Chg w1.heap.size (w1.heap.size+1) wr ((((((wr.setCell ⟨w1.heap.size,6,none⟩ (.int .i64 0)).setCell ⟨w1.heap.size,7,none⟩ (.int .i64 0)).setCell ⟨w1.heap.size,8,none⟩ (.int .i64 0)).setCell ⟨w1.heap.size,9,none⟩ (.int .i64 0)).setCell ⟨w1.heap.size,10,none⟩ (.int .i64 0)).setCell ⟨w1.heap.size,11,none⟩ (.slice (some ⟨wr.heap.size,0,none⟩) 0 0)):=(Chg.set (Chg.set (Chg.set (Chg.set (Chg.set (Chg.set (Chg.refl _ _ _) (Nat.le_refl _) (Nat.lt_succ_self _) _) (Nat.le_refl _) (Nat.lt_succ_self _) _) (Nat.le_refl _) (Nat.lt_succ_self _) _) (Nat.le_refl _) (Nat.lt_succ_self _) _) (Nat.le_refl _) (Nat.lt_succ_self _) _) (Nat.le_refl _) (Nat.lt_succ_self _) _)
       have hsP:=hCP.size
       obtain ⟨hbk,hszF,hBF,hCF⟩:=bK (W:=((((((wr.setCell ⟨w1.heap.size,6,none⟩ (.int .i64 0)).setCell ⟨w1.heap.size,7,none⟩ (.int .i64 0)).setCell ⟨w1.heap.size,8,none⟩ (.int .i64 0)).setCell ⟨w1.heap.size,9,none⟩ (.int .i64 0)).setCell ⟨w1.heap.size,10,none⟩ (.int .i64 0)).setCell ⟨w1.heap.size,11,none⟩ (.slice (some ⟨wr.heap.size,0,none⟩) 0 0))) (b':=⟨b.dev,b.frames,ovS (dA b.dev b.frames) (aQ b.dev b.reg) b.state,0,rZ,[]⟩) (s':=⟨R.A1,R.n1,R.c1,R.A2,R.n2,R.c2,some ⟨wr.heap.size,0,none⟩,0,0⟩) hWF ((HZr.out).chg hCP (.inl (by omega))) (dR (HBr.out) hCP (by omega)) (by omega)
       have hz5:WF.heap.size=wr.heap.size:=by rw [←hWF];simp only [World.size_setCell]
       have hf1:=((HFr.out.dev (b':={ b with state:=ovS (dA b.dev b.frames) (aQ b.dev b.reg) b.state }) rfl HEQ.out.symm rfl).chg hCP (.inl (Nat.le_refl _))).chg hCF (.inr (by omega))
       have hb6:Below WF.heap.size WF (WF.alloc (.cells #[] 27)):=aB (Below.refl _ _) _
       have hR0:aG W.heap.size (WF.alloc (.cells #[] 27)).heap.size (WF.alloc (.cells #[] 27)) ⟨b.dev,b.frames,ovS (dA b.dev b.frames) (aQ b.dev b.reg) b.state,0,rZ,[]⟩ ⟨R.A1,R.n1,R.c1,R.A2,R.n2,R.c2,some ⟨wr.heap.size,0,none⟩,0,0⟩:=(hf1.below hb6).setSaved (b':=⟨b.dev,b.frames,ovS (dA b.dev b.frames) (aQ b.dev b.reg) b.state,0,rZ,[]⟩) (bq.new0 hz5) (by omega) (by omega) (by have:=hb6.size;omega) rfl rfl
       have hR:=hR0.widen (lo':=w.heap.size) (hi':=(WF.alloc (.cells #[] 27)).heap.size) (by omega) (Nat.le_refl _)
       clear hWF
       refine bodyPost_ret (v := .tuple #[.agg (aD ⟨b.dev,b.frames,ovS (dA b.dev b.frames) (aQ b.dev b.reg) b.state,0,rZ,[]⟩ ⟨R.A1,R.n1,R.c1,R.A2,R.n2,R.c2,some ⟨wr.heap.size,0,none⟩,0,0⟩),.bool true]) (aI Tryz.results128 rfl (hbk.tr hb6) Tryz.underlying31 (by kernel_rfl)) rfl ⟨⟨R.A1,R.n1,R.c1,R.A2,R.n2,R.c2,some ⟨wr.heap.size,0,none⟩,0,0⟩,by rw [HU.out,HV.out],by rw [HU.out];exact hR,aA hBF hb6⟩
   | true =>
    have HC0:=Hd hc0
    obtain ⟨x0,x1,x2,x3,x4,x5,x6,x7,x8,x9,x10,x11⟩:=HX.out.cells
    go_wp2_with fail
    clear x0 x1 x2 x3 x4 x5 x6 x7 x8 x9 x10 x11
    clear hc0
    refine (qY b.dev s.A1 s.n1 s.c1 b.frames _ (HI.out.frames.below HB.out) hz1).mono ?_
    rintro e w8 ⟨SA,sn,sc,rfl,o8,b8⟩
    have HSI:=Hd o8.ints
    have HSL:=Hd o8.lies
    have HSN:=Hd o8.len
    have hs5:=b8.size
    replace HB:=Hd (aA HB.out b8)
    replace HX:=Hd (HX.out.tr b8)
    replace HZ:=Hd (HZ.out.tr b8)
    replace HO:=Hd (HO.out.tr b8)
    replace HF:=Hd (HF.out.below b8)
    replace HT:=Hd (HT.out.below b8)
    clear b8 o8
    have HSE:Hid (dA b.dev b.frames=dA b.dev b.frames):=rfl
    generalize hse:dA b.dev b.frames=st at HSI HSN HSE HAP
    replace HSE:=Hd hse
    clear hse
    have hn1:s.n1=tiles b.dev:=by have h:=HI.out.frames.1;have h2:=HAP.out.2.2.1;omega
    have HN1:=Hd hn1
    clear hn1
    go_wp2_with fail
    go_loopw [8,10] (fun c i wr=>∃k:Nat,k<=m/\i = .int .i64 k/\c = .bool (true && xA b.frames ts k)/\Below w.heap.size w wr/\bC wr w.heap.size b s/\bC wr (w.heap.size+1) zBd zSl/\bC wr w1.heap.size b R/\bH wr TA m ts/\bH wr SA sn st/\aG W.heap.size w1.heap.size wr { b with state:=ovS st (ts.take k) b.state } R/\w8.heap.size<=wr.heap.size) (fun _ i _=>m - (intOf i).toNat)
    case atStart=>exact ⟨0,Nat.zero_le _,rfl,rfl,HB.out,HX.out,HZ.out,HO.out,HT.out,HSI.out,HF.out.dev (b':={ b with state:=ovS st (ts.take 0) b.state }) rfl rfl rfl,Nat.le_refl _⟩
    case round =>
     obtain ⟨k,hk,rfl,rfl,hb1,hx1r,hz1r,ho1,ht1,hs1,hf1,hsr⟩:=hrel
     have HBr:=Hd hb1
     have HXr:=Hd hx1r
     have HZr:=Hd hz1r
     have HOr:=Hd ho1
     have HTr:=Hd ht1
     have HSr:=Hd hs1
     have HFr:=Hd hf1
     clear hb1 hx1r hz1r ho1 ht1 hs1 hf1
     by_cases hlt:k<m
     ·have hdk:decide ((k:Int)<(m:Int))=true:=by simp;omega
      obtain ⟨t0,t1⟩:=HRT.out k (by rw [HTL.out];exact hlt)
      have HST:=Hd (sO (old:=st) (new:=b.state) (ts:=ts) (k:=k) (by rw [HTL.out];exact hlt))
      have HCN:=Hd (xW b.frames ts k)
      generalize hcc1:(true && xA b.frames ts k)=c1
      have HC1:=Hd hcc1
      clear hcc1
      obtain ⟨bt,ot,hTA,hbt,hct⟩:=HTr.out.2 (by omega)
      have hck:=hct k hlt
      have hbt0:=(HTA.out ⟨bt,ot,none⟩ hTA)
      simp only at hbt0
      subst hTA
      clear hct
      generalize ts[k]?.getD 0=t at *
      obtain ⟨tn,rfl⟩:=Int.eq_ofNat_of_zero_le t0
      rw [Int.toNat_natCast] at HST HCN
      obtain ⟨p1,p2,p3,p4⟩:=HAP.out
      have htn:tn<36:=by have h1:=HTL.out;have h2:=(bT (dV (lL HAB.out).1 |>.1 |> aj |>.1)).2.2;omega
      have q0:tn<s.n1:=by have h:=HN1.out;omega
      obtain ⟨bf,of,hfA,hbf,hcf⟩:=(HI.out.frames.below HBr.out).2 (by omega)
      obtain ⟨A5,m5,c5,hcr,hIr⟩:=hcf tn q0
      have HIR:=Hd hIr
      have hm5:m5<=1099511627776:=by have h1:=p4 tn;have h2:=hIr.1;omega
      have HF5:=Hd hIr.1
      have k0:(0:Int)<=(k:Int):=by omega
      have k1:(k:Int)<(m:Int):=by omega
      have i0:(0:Int)<=(tn:Int):=by omega
      have i1:(tn:Int)<(s.n1:Int):=by omega
      clear p1 p2 p3 p4 q0 hcf hIr
      generalize b.frames[tn]?.getD []=f at *
      have HFA:=Hd hfA
      clear hfA
      go_wp2_with fail
      go_loop [8,12] (fun c i=>∃j:Nat,j<=m5/\i = .int .i64 j/\c = .bool (c1 && qV f j)) (fun _ i=>m5 - (intOf i).toNat)
      case atStart=>exact ⟨0,Nat.zero_le _,rfl,by simp [qV]⟩
      case round =>
       obtain ⟨j,hj,rfl,rfl⟩:=hrel
       have hbx0:w.heap.size<wr.heap.size:=by omega
       obtain ⟨x0,x1,x2,x3,x4,x5,x6,x7,x8,x9,x10,x11⟩:=HXr.out.cells
       rw [HFA.out] at x4
       by_cases hjl:j<m5
       ·obtain ⟨b1,o1,hA5,hb1,hc1⟩:=HIR.out.2 (by omega)
        subst hA5
        have hcj:=hc1 j hjl
        have HCJ:=Hd (xX f j)
        clear hc1
        generalize f[j]?.getD 0=xx at *
        have j0:(0:Int)<=(j:Int):=by omega
        have j1:(j:Int)<(m5:Int):=by omega
        have HDW:=Hd (jD xx)
        generalize iq xx=dx at *
        generalize hcc2:(c1 && qV f j)=c2
        have HC2:=Hd hcc2
        clear hcc2
        cases c2 with
        | false =>
         have HC3:Hid ((c1 && qV f (j+1))=false):=by show _=_;rw [HCJ.out,←Bool.and_assoc,HC2.out];rfl
         go_wp2_with (go_at_call 178;refine (HDW.out _).mono ?_;rintro e w' ⟨rfl,rfl⟩)
         go_round
         case rel=>exact ⟨j+1,by omega,by go_num,by rw [HC3.out]⟩
         case measure=>simp [intOf];omega
        | true =>
         have HC3:Hid ((c1 && qV f (j+1))=(dx.2==0)):=by show _=_;rw [HCJ.out,←Bool.and_assoc,HC2.out,Bool.true_and]
         generalize hd2:(dx.2==0)=d2 at *
         go_wp2_with (go_at_call 178;refine (HDW.out _).mono ?_;rintro e w' ⟨rfl,rfl⟩)
         go_round
         case rel=>exact ⟨j+1,by omega,by go_num,by rw [HC3.out]⟩
         case measure=>simp [intOf];omega
       ·have hjn:j=m5:=by omega
        subst hjn
        have hdj:decide ((j:Int)<(j:Int))=false:=by simp
        have HC3:Hid ((c1 && qV f j)=(true && xA b.frames ts (k+1))):=by show _=_;rw [xY HF5.out,HCN.out,←HC1.out,Bool.and_assoc]
        rw [HC3.out]
        obtain ⟨p1,p2,p3,p4⟩:=HAP.out
        have q1:R.n2=2 * tiles b.dev:=by have h:=HFr.out.rd.state.1;have h2:=lY st (ts.take k) b.state;simp only at h;omega
        have q2:sn=2 * tiles b.dev:=by have h:=HSN.out;omega
        obtain ⟨g,hA2,hgc,hgf,hg1,hg2,hg3⟩:=HFr.out.stateAt (k:=2 * tn) (by omega)
        obtain ⟨bs,os,hSA,hbs,hcs⟩:=HSr.out.2 (by omega)
        have hs0:=hcs (2 * tn) (by omega)
        have hs1:=hcs (2 * tn+1) (by omega)
        have hbs0:=(HSL.out ⟨bs,os,none⟩ hSA)
        simp only at hbs0
        subst hSA
        have e1:IntKind.i64.wrap (2 * (tn:Int))=2 * (tn:Int):=IntWalk.i64_in _ (by omega)
        have e2:IntKind.i64.wrap (2 * (tn:Int)+1)=2 * (tn:Int)+1:=IntWalk.i64_in _ (by omega)
        have f1:(2 * (tn:Int)).toNat=2 * tn:=by omega
        have f2:(2 * (tn:Int)+1).toNat=2 * tn+1:=by omega
        have i0:(0:Int)<=2 * (tn:Int):=by omega
        have i1:2 * (tn:Int)<(R.n2:Int):=by omega
        have i2:2 * (tn:Int)<(sn:Int):=by omega
        have j0:(0:Int)<=2 * (tn:Int)+1:=by omega
        have j1:2 * (tn:Int)+1<(R.n2:Int):=by omega
        have j2:2 * (tn:Int)+1<(sn:Int):=by omega
        have HA2:=Hd hA2
        have n0:w.heap.size≠g:=by omega
        have n1:w1.heap.size≠g:=by omega
        have n2:bs≠g:=by omega
        have HQ2:Hid (2 * tn<R.n2/\2 * tn+1<R.n2):=⟨by omega,by omega⟩
        clear p1 p2 p3 p4 q1 q2 hcs hck
        generalize (ovS st (ts.take k) b.state)[2 * tn]?.getD 0=og at hgc
        generalize hy0:st[2 * tn]?.getD 0=y0 at *
        generalize hy1:st[2 * tn+1]?.getD 0=y1 at *
        obtain ⟨o0,o1,o2,o3,o4,o5,o6,o7,o8,o9,o10,o11⟩:=HOr.out.cells
        rw [hA2] at o5
        clear hy0 hy1 hA2 o0 o1 o2 o3 o4 o6 o7 o8 o9 o10 o11
        go_wp2_with fail
        clear x0 x1 x2 x3 x4 x5 x6 x7 x8 x9 x10 x11 hcr
        go_cut [] (fun w'=>∃wx,gX wr g (2 * tn) (.int .i64 y0) wx/\wx=w')
        case first =>
         go_region_with (fail)
         all_goals
          go_wp2_with fail
          go_meet
          refine ⟨_,?_,rfl⟩
          exact ⟨rfl,rfl,rfl,rfl⟩
        obtain ⟨wx,hP,rfl⟩:=hcut
        have HBx:=Hd (hP.below HBr.out (lo:=w.heap.size) (by omega))
        have HXx:=Hd (hP.bk HXr.out n0)
        have HZx:=Hd (hP.bk HZr.out (by omega))
        have HOx:=Hd (hP.bk HOr.out n1)
        have HTx:=Hd (hP.ints HTr.out (by rintro a ⟨⟩;simp only;omega))
        have HSx:=Hd (hP.ints HSr.out (by rintro a ⟨⟩;exact n2))
        have HFx:=Hd (hP.num (b':={ b with state:=(ovS st (ts.take k) b.state).set (2 * tn) y0 }) HFr.out HQ2.out.1 HA2.out rfl rfl rfl)
        have hsx:wr.heap.size<=wx.heap.size:=by rw [hP.size];exact Nat.le_refl _
        have HPx:=Hd hP
        obtain ⟨o0,o1,o2,o3,o4,o5,o6,o7,o8,o9,o10,o11⟩:=HOx.out.cells
        have hA2:=HA2.out
        rw [hA2] at o5
        clear hP hA2 o0 o1 o2 o3 o4 o6 o7 o8 o9 o10 o11 hs0 hgf hgc
        rw [←World.cell?_of_block (a:=⟨bs,os+(2 * tn+1),none⟩) (HPx.out.far n2)] at hs1
        obtain ⟨g',h1,hgc,hgf,-⟩:=HFx.out.stateAt (k:=2 * tn+1) HQ2.out.2
        rw [HA2.out] at h1
        injection h1 with h1
        injection h1 with h1
        subst h1
        simp only at hgc
        generalize ((ovS st (ts.take k) b.state).set (2 * tn) y0)[2 * tn+1]?.getD 0=og2 at hgc
        have hbs2:bs<wx.heap.size:=by omega
        have hbt2:g<wx.heap.size:=by omega
        go_wp2_with fail
        have HN:Hid (∀wy,gX wx g (2 * tn+1) (.int .i64 y1) wy→Below w.heap.size w wy/\bC wy w.heap.size b s/\bC wy (w.heap.size+1) zBd zSl/\bC wy w1.heap.size b R/\bH wy (some ⟨bt,ot,none⟩) m ts/\bH wy (some ⟨bs,os,none⟩) sn st/\aG W.heap.size w1.heap.size wy { b with state:=ovS st (ts.take (k+1)) b.state } R/\w8.heap.size<=wy.heap.size):=fun wy hP =>
         ⟨hP.below HBx.out (lo:=w.heap.size) (by omega),hP.bk HXx.out n0,hP.bk HZx.out (by omega),hP.bk HOx.out n1,hP.ints HTx.out (by rintro a ⟨⟩;simp only;omega),hP.ints HSx.out (by rintro a ⟨⟩;exact n2),hP.num HFx.out HQ2.out.2 HA2.out rfl HST.out rfl,by rw [hP.size];omega⟩
        go_region_with (fail)
        all_goals
         clear o5 hs1 hgf hgc e1 e2 f1 f2
         go_wp2_with fail
         go_roundw
         case rel=>exact ⟨k+1,by omega,by go_num,rfl,HN.out _ ⟨rfl,rfl,rfl,rfl⟩⟩
         case measure=>simp [intOf];omega
     ·have hkm:k=m:=by omega
      subst hkm
      have hdk:decide ((k:Int)<(k:Int))=false:=by simp
      have HEQ:=Hd (yx b st ts HTS.out.symm k HTL.out HSE.out.symm)
      have HCC:=Hd (Ff HTS.out HTL.out HFC.out HC0.out)
      rw [HCC.out]
      cases hC:coC b x with
      | false =>
       have HU:Hid (coB b x=abB b):=by show _=_;unfold coB abB;rw [HAB.out,hC];rfl
       have HV:Hid (coO b x=false):=by show _=_;unfold coO;rw [hC];simp
       clear hC
       obtain ⟨x0,x1,x2,x3,x4,x5,x6,x7,x8,x9,x10,x11⟩:=HXr.out.cells
       go_wp2_with fail
       clear x0 x1 x2 x3 x4 x5 x6 x7 x8 x9 x10 x11
       refine (j4 b s _ (HI.out.below HBr.out) hz1 h2 h3).mono ?_
       rintro e w9 ⟨R2,rfl,f9,b9⟩
       have HF9:=Hd f9
       have hs9:=b9.size
       have HB9:=Hd (aA HBr.out b9)
       have HZ9:=Hd (HZr.out.tr b9)
       clear f9 b9
       generalize abB b=b9 at *
       have hb10:Below w9.heap.size w9 (w9.alloc (.cells (aD b9 R2) 31)):=aB (Below.refl _ _) _
       have HZt:=Hd (HZ9.out.tr hb10)
       have HBt:=Hd (aA HB9.out hb10)
       have HFt:=Hd (HF9.out.below hb10)
       have hst:=hb10.size
       obtain ⟨z0,z1,z2,z3,z4,z5,z6,z7,z8,z9,z10,z11⟩:=HZt.out.cells
       have yz:=HZt.out.soft
       go_wp2_with fail
       clear z0 z1 z2 z3 z4 z5 z6 z7 z8 z9 z10 z11 yz hb10
       generalize hWF:World.setCell _ _ _=WF
       obtain ⟨hbk,hszF,hBF,hCF⟩:=bK (W:=(w9.alloc (.cells (aD b9 R2) 31))) (b':=b9) (s':=R2) hWF (HZt.out) (HBt.out) (by omega)
       have hR:aG w.heap.size WF.heap.size WF b9 R2:=((HFt.out).chg hCF (.inr (by omega))).widen (by omega) (by omega)
       clear hWF
       refine bodyPost_ret (v := .tuple #[.agg (aD b9 R2),.bool false]) (aI Tryz.results128 rfl hbk Tryz.underlying31 (by kernel_rfl)) rfl ⟨R2,by rw [HU.out,HV.out],by rw [HU.out];exact hR,hBF⟩
      | true =>
       have HU:Hid (coB b x=⟨b.dev,b.frames,ovS (dA b.dev b.frames) (aQ b.dev b.reg) b.state,0,rZ,[]⟩):=by show _=_;unfold coB;rw [HAB.out,hC];rfl
       have HV:Hid (coO b x=true):=by show _=_;unfold coO;rw [HAB.out,hC];rfl
       clear hC
       have hl4:w1.heap.size<wr.heap.size:=by omega
       have hr4:w.heap.size+1<wr.heap.size:=by omega
       obtain ⟨o0,o1,o2,o3,o4,o5,o6,o7,o8,o9,o10,o11⟩:=HOr.out.cells
       obtain ⟨z0,z1,z2,z3,z4,z5,z6,z7,z8,z9,z10,z11⟩:=HZr.out.cells
       have yz:=HZr.out.soft
       have yo:=HOr.out.soft
       go_wp2_with fail
       clear o0 o1 o2 o3 o4 o5 o6 o7 o8 o9 o10 o11 z0 z1 z2 z3 z4 z5 z6 z7 z8 z9 z10 z11 yz yo
       generalize hWF:World.setCell _ _ _=WF
       have hCP:Chg w1.heap.size (w1.heap.size+1) wr ((((((wr.setCell ⟨w1.heap.size,6,none⟩ (.int .i64 0)).setCell ⟨w1.heap.size,7,none⟩ (.int .i64 0)).setCell ⟨w1.heap.size,8,none⟩ (.int .i64 0)).setCell ⟨w1.heap.size,9,none⟩ (.int .i64 0)).setCell ⟨w1.heap.size,10,none⟩ (.int .i64 0)).setCell ⟨w1.heap.size,11,none⟩ (.slice (some ⟨wr.heap.size,0,none⟩) 0 0)):=(Chg.set (Chg.set (Chg.set (Chg.set (Chg.set (Chg.set (Chg.refl _ _ _) (Nat.le_refl _) (Nat.lt_succ_self _) _) (Nat.le_refl _) (Nat.lt_succ_self _) _) (Nat.le_refl _) (Nat.lt_succ_self _) _) (Nat.le_refl _) (Nat.lt_succ_self _) _) (Nat.le_refl _) (Nat.lt_succ_self _) _) (Nat.le_refl _) (Nat.lt_succ_self _) _)
       have hsP:=hCP.size
       obtain ⟨hbk,hszF,hBF,hCF⟩:=bK (W:=((((((wr.setCell ⟨w1.heap.size,6,none⟩ (.int .i64 0)).setCell ⟨w1.heap.size,7,none⟩ (.int .i64 0)).setCell ⟨w1.heap.size,8,none⟩ (.int .i64 0)).setCell ⟨w1.heap.size,9,none⟩ (.int .i64 0)).setCell ⟨w1.heap.size,10,none⟩ (.int .i64 0)).setCell ⟨w1.heap.size,11,none⟩ (.slice (some ⟨wr.heap.size,0,none⟩) 0 0))) (b':=⟨b.dev,b.frames,ovS (dA b.dev b.frames) (aQ b.dev b.reg) b.state,0,rZ,[]⟩) (s':=⟨R.A1,R.n1,R.c1,R.A2,R.n2,R.c2,some ⟨wr.heap.size,0,none⟩,0,0⟩) hWF ((HZr.out).chg hCP (.inl (by omega))) (dR (HBr.out) hCP (by omega)) (by omega)
       have hz5:WF.heap.size=wr.heap.size:=by rw [←hWF];simp only [World.size_setCell]
       have hf1:=((HFr.out.dev (b':={ b with state:=ovS (dA b.dev b.frames) (aQ b.dev b.reg) b.state }) rfl HEQ.out.symm rfl).chg hCP (.inl (Nat.le_refl _))).chg hCF (.inr (by omega))
       have hb6:Below WF.heap.size WF (WF.alloc (.cells #[] 27)):=aB (Below.refl _ _) _
       have hR0:aG W.heap.size (WF.alloc (.cells #[] 27)).heap.size (WF.alloc (.cells #[] 27)) ⟨b.dev,b.frames,ovS (dA b.dev b.frames) (aQ b.dev b.reg) b.state,0,rZ,[]⟩ ⟨R.A1,R.n1,R.c1,R.A2,R.n2,R.c2,some ⟨wr.heap.size,0,none⟩,0,0⟩:=(hf1.below hb6).setSaved (b':=⟨b.dev,b.frames,ovS (dA b.dev b.frames) (aQ b.dev b.reg) b.state,0,rZ,[]⟩) (bq.new0 hz5) (by omega) (by omega) (by have:=hb6.size;omega) rfl rfl
       have hR:=hR0.widen (lo':=w.heap.size) (hi':=(WF.alloc (.cells #[] 27)).heap.size) (by omega) (Nat.le_refl _)
       clear hWF
       refine bodyPost_ret (v := .tuple #[.agg (aD ⟨b.dev,b.frames,ovS (dA b.dev b.frames) (aQ b.dev b.reg) b.state,0,rZ,[]⟩ ⟨R.A1,R.n1,R.c1,R.A2,R.n2,R.c2,some ⟨wr.heap.size,0,none⟩,0,0⟩),.bool true]) (aI Tryz.results128 rfl (hbk.tr hb6) Tryz.underlying31 (by kernel_rfl)) rfl ⟨⟨R.A1,R.n1,R.c1,R.A2,R.n2,R.c2,some ⟨wr.heap.size,0,none⟩,0,0⟩,by rw [HU.out,HV.out],by rw [HU.out];exact hR,aA hBF hb6⟩
  ·have hp0:(b.phase != 1)=true:=by simp [hp]
   have hO:abO b=false:=by unfold abO;rw [hb,decide_eq_false hp];rfl
   clear hb hp
   have HU:Hid (coB b x=b):=by show _=_;unfold coB;rw [hO];rfl
   have HV:Hid (coO b x=false):=by show _=_;unfold coO;rw [hO];rfl
   clear hO
   obtain ⟨z0,z1,z2,z3,z4,z5,z6,z7,z8,z9,z10,z11⟩:=HZ.out.cells
   have yz:=HZ.out.soft
   obtain ⟨o0,o1,o2,o3,o4,o5,o6,o7,o8,o9,o10,o11⟩:=HO.out.cells
   have yo:=HO.out.soft
   obtain ⟨x0,x1,x2,x3,x4,x5,x6,x7,x8,x9,x10,x11⟩:=HX.out.cells
   go_wp2_with fail
   clear z0 z1 z2 z3 z4 z5 z6 z7 z8 z9 z10 z11 yz o0 o1 o2 o3 o4 o5 o6 o7 o8 o9 o10 o11 yo x0 x1 x2 x3 x4 x5 x6 x7 x8 x9 x10 x11
   generalize hWF:World.setCell _ _ _=WF
   obtain ⟨hbk,hszF,hBF,hCF⟩:=bK (W:=w3) (b':=b) (s':=R) hWF (HZ.out) (HB.out) (by omega)
   have hR:aG w.heap.size WF.heap.size WF b R:=((HF.out).chg hCF (.inr (by omega))).widen (by omega) (by omega)
   clear hWF
   refine bodyPost_ret (v := .tuple #[.agg (aD b R),.bool false]) (aI Tryz.results128 rfl hbk Tryz.underlying31 (by kernel_rfl)) rfl ⟨R,by rw [HU.out,HV.out],by rw [HU.out];exact hR,hBF⟩
end Go.Proofs.YtignkfhdkcgkgaaGreat
