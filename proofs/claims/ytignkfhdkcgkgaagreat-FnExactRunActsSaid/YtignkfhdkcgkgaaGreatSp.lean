/- A step of the program's emulator. -/
import Derived.Deep.CutBlock
import Derived.Deep.CutRange
import Derived.Deep.DeepCutAuto
import Derived.Test.YtignkfhdkcgkgaaGreatCo
namespace Go.Proofs.YtignkfhdkcgkgaaGreat
set_option maxHeartbeats 4000000
set_option maxRecDepth 100000
open Go.RowKit
theorem GJ (g:Nat) (d:Dev) (ts:List au) (TA:Option Addr) (m tc:Nat) (EA DA:Option Addr) (N:Nat) (SA:Option Addr) (sn sc:Nat) (st:List Int) (PA:Option Addr) (pn pc:Nat) (pads:List Int) (w:World)
  (hem:uQ w g d ts TA m tc EA DA N) (hN:(N:Int)=ai d) (hst:bH w SA sn st) (hpa:bH w PA pn pads) (hsn:(sn:Int)=2 * (d.W * d.H)) (hpn:(pn:Int)=d.W * d.H) (hsp:kD d ts st pads) (hc:kN d ts) :
  Calls Tryz.prog 149 #[.pointer (some ⟨g,0,none⟩),.slice SA sn sc,.slice PA pn pc] w fun e' w'=>∃A1 c1 A2 mid,e' = .returned (.tuple #[.slice A1 sn c1,.slice A2 m m])/\Own w.heap.size w' A1 sn c1 (oh d ts st pads)/\Own w.heap.size w' A2 m m (tq d ts st pads)/\(w.heap.size<=mid/\mid<=w'.heap.size/\gJ A1 w.heap.size mid/\gJ A2 mid w'.heap.size)/\Below w.heap.size w w':=by
 have HEM:=Hd hem
 have HST:=Hd hst
 have HPA:=Hd hpa
 have HC:=Hd hc
 have HNE:=Hd hN
 have HSP:=Hd hsp
 have HTL:=Hd hem.tiles.tlen
 have hmt:m=tiles d:=by rw [←hem.tiles.tlen];exact hc.len
 have hWH:=(bT hc.dev)
 have hsm:sn=2 * m:=by omega
 have hm36:m<=36:=by omega
 have hm0:0<m:=by omega
 have HV:=Hd (DZ g d ts TA m tc EA DA N SA sn sc st PA pn pc pads w hem hN hst hpa hsn hpn hsp hc)
 obtain ⟨b0,b1,b2,b3,b4,b5,b6⟩:w.cell? ⟨g,0,none⟩=some (.int .i64 d.W)/\w.cell? ⟨g,1,none⟩=some (.int .i64 d.H)/\w.cell? ⟨g,2,none⟩=some (.int .i64 d.T)/\w.cell? ⟨g,3,none⟩=some (.int .i64 d.R)/\w.cell? ⟨g,4,none⟩=some (.slice TA m tc)/\w.cell? ⟨g,5,none⟩=some (.slice EA N N)/\w.cell? ⟨g,6,none⟩=some (.slice DA N N) :=
  ⟨aC hem.box rfl,aC hem.box rfl,aC hem.box rfl,aC hem.box rfl,aC hem.box rfl,aC hem.box rfl,aC hem.box rfl⟩
 have hgl:=aX hem.box
 obtain ⟨i0,hi,hz0,hz1,hz2⟩:=info_parts eP
 have hmk:=fun W=>bU (P:=Tryz.prog) 27 3 i0 _ Tryz.underlying27 hi hz0 .i64 .i64 m m (Nat.le_refl _) (by rw [hz2];omega) (by omega) W
 rw [hz1,Nat.mul_one,show (Value.int .i64 0).cells=#[Value.int .i64 0] from rfl,iV] at hmk
 have HMT:=Hd hmt
 have HSM:=Hd hsm
 have hsb:0<sn/\sn<=72:=by omega
 clear hem hst hpa hc hN hsp hi hz0 hz1 hz2 hWH hsn hpn hmt hsm
 go_enter Tryz.func149,Tryz.ntmps149
 go_wp2_with fail
 refine HV.out.mono ?_
 rintro e w1 ⟨VA,rfl,o1,k1⟩
 have OV:=Hd o1
 have B1:=Hd k1
 have hs1:=k1.size
 obtain ⟨hcc,hff⟩:=aO k1
 clear o1 k1
 go_wp2_with fail
 refine (lG SA sn sc st _ (HST.out.below B1.out) (by omega)).mono ?_
 rintro e w2 ⟨NA,nc,rfl,o2,k2⟩
 have ON:=Hd o2
 have B2:=Hd k2
 have B12:=Hd (aA B1.out k2)
 have hs2:=k2.size
 clear o2 k2 hcc hff
 obtain ⟨hcc,hff⟩:=aO B12.out
 have hg2:g<w2.heap.size:=by omega
 go_wp2_with fail
 clear hmk hcc hff
 obtain ⟨gn,cur,rfl,hgn,hgn2,-⟩:=ON.out.block (by omega)
 obtain ⟨gv,curv,rfl,hgv,hgv2,-⟩:=OV.out.block (by have:=HNE.out;have:=cK HC.out.dev;omega)
 have HV3:=Hd (xR HSP.out)
 have HVL:=Hd (si d ts st pads)
 have HNF:Hid (oh d ts st pads=bM d ts st (mV d ts st pads) m):=by show _=_;rw [oh,HTL.out]
 have HOF:Hid (tq d ts st pads=dM d ts (mV d ts st pads) m m):=by show _=_;rw [tq,HTL.out]
 have HNL:=Hd (fun vs k=>nC d ts st vs k)
 generalize mV d ts st pads=vs at *
 have HO0:Hid (Own w1.heap.size (w2.alloc (.cells (arr (List.replicate m 0)) 3)) (some ⟨w2.heap.size,0,none⟩) m m (dM d ts vs m 0)):=Own.arr (aL w2 _) hs2 (by unfold maxLen;omega) (by simp [dM])
 have HN0:Hid (Own w1.heap.size (w2.alloc (.cells (arr (List.replicate m 0)) 3)) (some ⟨gn,0,none⟩) sn nc (bM d ts st vs 0)):=ON.out.below (aB (Below.refl _ _) _)
 go_loopw [34] (fun i wr=>∃k:Nat,k<=m/\i = .int .i64 k/\Own w1.heap.size wr (some ⟨gn,0,none⟩) sn nc (bM d ts st vs k)/\Own w1.heap.size wr (some ⟨w2.heap.size,0,none⟩) m m (dM d ts vs m k)/\Below w1.heap.size w1 wr/\w2.heap.size<wr.heap.size) (fun i _=>m - (intOf i).toNat)
 case atStart=>exact ⟨0,Nat.zero_le _,rfl,HN0.out,HO0.out,aB B2.out _,by simp⟩
 case round =>
  obtain ⟨k,hk,rfl,ho1,ho2,hbx,hsx⟩:=hrel
  have O1:=Hd ho1
  have O2:=Hd ho2
  have HBX:=Hd hbx
  clear ho1 ho2 hbx
  by_cases hlt:k<m
  ·have hti:bI d (k:Int)=true:=aV.2 ⟨HC.out.dev,by omega,by have:=HMT.out;have:=(bT HC.out.dev).1;omega⟩
   have hnb:=vG hti (k:=4) (by omega) (by have:=bg HC.out.dev;omega)
   have hpt:=bg HC.out.dev
   have hT:=(aY HC.out.dev)
   obtain ⟨bn,hbn⟩:∃bn:Nat,(k:Int) * aM d=(bn:Int):=⟨((k:Int) * aM d).toNat,by omega⟩
   have hbN:bn+4<N:=by have:=HNE.out;omega
   have hbl:bn<=805:=by omega
   have HTI:=Hd hti
   have HBN:=Hd hbn
   obtain ⟨b,o,S,m3,p,L,l,q,rfl,hb,c0,c1,c2,c3,r0,r1⟩:=HEM.out.tiles.tile (k:=k) (by rw [HTL.out];exact hlt)
   have R1:=Hd r1
   obtain ⟨hcc,hff⟩:=aO (aA B1.out HBX.out)
   have hs3:=HBX.out.size
   have hgr:g<wr.heap.size:=by omega
   have i0:(0:Int)<=(k:Int):=by omega
   have i1:(k:Int)<(m:Int):=by omega
   have HNX:Hid (bM d ts st vs (k+1)=nx1 d ts st vs k (bM d ts st vs k)):=rfl
   have HOX:Hid (dM d ts vs m (k+1)=ou1 d ts vs k (dM d ts vs m k)):=rfl
   have HTE:Hid (di ts (k:Int)=ts[k]?.getD au.zero):=by show _=_;unfold di;rw [Int.toNat_natCast]
   clear r0 r1 hnb hti hbn
   generalize hte:ts[k]?.getD au.zero=te at *
   have HTT:=Hd hte
   clear hte
   go_wp2_with fail
   refine (eH d _ (by omega) (by omega)).mono ?_
   rintro e w5 ⟨rfl,b5⟩
   have HB5:=Hd (aA (aB (Below.refl wr.heap.size wr) _) b5)
   have T5:=Hd (aF b5 (aL wr _))
   have hs5:=b5.size
   simp only [World.size_alloc] at hs5
   have a1:IntKind.i64.wrap (bn:Int)=(bn:Int):=IntWalk.i64_in _ (by omega)
   have HK5:=Hd (aA (aA B1.out HBX.out) HB5.out)
   clear b5 hcc hff c0 c1 c2 c3
   obtain ⟨hcc,hff⟩:=aO HK5.out
   have hbn:=HBN.out
   go_wp2_with fail
   refine (iC d k _ HC.out.dev (by omega) (by omega)).mono ?_
   rintro e w6 ⟨rfl,b6⟩
   have HB6:=Hd (aA HB5.out b6)
   have T6:=Hd (aF b6 T5.out)
   have hs6:=b6.size
   have HK6:=Hd (aA HK5.out b6)
   have P1:=Hd (O1.out.below HB6.out)
   have P2:=Hd (O2.out.below HB6.out)
   have OV6:=Hd (OV.out.below (aA HBX.out HB6.out))
   have HBX6:=Hd (aA HBX.out HB6.out)
   clear b6 hcc hff hbn
   have hk3:=df d (k:Int)
   have HNX1:Hid (nx1 d ts st vs k (bM d ts st vs k)=if ah d (k:Int)=1 then eG d ts vs k (bM d ts st vs k) 2 else if ah d (k:Int)=2 then (bM d ts st vs k).set (2 * k) ((ky (st[2 * k]?.getD 0).toNat (ni d vs (k:Int) 4):Nat):Int) else bM d ts st vs k):=rfl
   have HOX1:Hid (ou1 d ts vs k (dM d ts vs m k)=if ah d (k:Int)=0/\te.pad=2 then (dM d ts vs m k).set k (mx (nv vs (bn:Int))) else dM d ts vs m k):=by show _=_;unfold ou1;rw [HTT.out,HBN.out]
   generalize hkd:ah d (k:Int)=kd at *
   have HKD:=Hd hkd
   clear hkd
   obtain ⟨hcc,hff⟩:=aO HK6.out
   have hw6:wr.heap.size<w6.heap.size:=by omega
   rcases hk3 with h|h|h
   ·subst h
    have t2:=aC (k:=2) T6.out rfl
    by_cases hp:te.pad=2
    ·have q1:(te.pad==2)=true:=by simpa using hp
     have HNS:Hid (bM d ts st vs (k+1)=bM d ts st vs k):=by show _=_;rw [HNX.out,HNX1.out,if_neg (by omega),if_neg (by omega)]
     have HOS:Hid (dM d ts vs m (k+1)=(dM d ts vs m k).set k (mx (nv vs (bn:Int)))):=by show _=_;rw [HOX.out,HOX1.out,if_pos ⟨rfl,hp⟩]
     obtain ⟨zv,yv⟩:=OV6.out.cellAt (k:=bn) (by omega)
     have HVN:Hid (vs[bn]?.getD 0=nv vs (bn:Int)):=by show _=_;unfold nv;rw [Int.toNat_natCast]
     rw [HVN.out] at zv
     obtain ⟨zo,yo⟩:=P2.out.cellAt hlt
     have k0:(0:Int)<=(bn:Int):=by omega
     have k1:(bn:Int)<(N:Int):=by omega
     clear hp
     go_wp2_with fail
     go_roundw
     case rel=>exact ⟨k+1,by omega,by go_num,by rw [HNS.out];exact P1.out.off (p:=⟨w2.heap.size,k,none⟩) (by rintro a h;injection h with h;subst h;show gn≠w2.heap.size;omega) _,by rw [HOS.out];exact P2.out.stored hlt (mx (nv vs (bn:Int))),HBX6.out.setCell (p:=⟨w2.heap.size,k,none⟩) hs2 _,by simp only [World.size_setCell];omega⟩
     case measure=>simp [intOf];omega
    ·have q1:(te.pad==2)=false:=by simp [hp]
     have HNS:Hid (bM d ts st vs (k+1)=bM d ts st vs k):=by show _=_;rw [HNX.out,HNX1.out,if_neg (by omega),if_neg (by omega)]
     have HOS:Hid (dM d ts vs m (k+1)=dM d ts vs m k):=by show _=_;rw [HOX.out,HOX1.out,if_neg (by rintro ⟨_,h2⟩;exact hp h2)]
     clear hp
     go_wp2_with fail
     go_roundw
     case rel=>exact ⟨k+1,by omega,by go_num,by rw [HNS.out];exact P1.out,by rw [HOS.out];exact P2.out,HBX6.out,by omega⟩
     case measure=>simp [intOf];omega
   ·subst h
    have HNS:Hid (bM d ts st vs (k+1)=eG d ts vs k (bM d ts st vs k) 2):=by show _=_;rw [HNX.out,HNX1.out,if_pos rfl]
    have HOS:Hid (dM d ts vs m (k+1)=dM d ts vs m k):=by show _=_;rw [HOX.out,HOX1.out,if_neg (by omega)]
    have HLU:=Hd (fun (e:Nat) (he:e<2) (w':World) (hb:Below w.heap.size w w') (hv:bH w' (some ⟨gv,0,none⟩) N vs)=>D7 g d ts (some ⟨b,o,none⟩) m tc EA DA N (some ⟨gv,0,none⟩) N vs (k:Int) (e:Int) w' (HEM.out.below hb) hv HV3.out HNE.out HC.out HTI.out ⟨by omega,by omega⟩)
    have HFT:Hid (∀e:Nat,eG d ts vs k (bM d ts st vs k) (e+1)=if (fK ts (k:Int) (e:Int)).flop=1 then (eG d ts vs k (bM d ts st vs k) e).set (2 * k+e) (mx (lm d vs (k:Int) (fK ts (k:Int) (e:Int)))) else eG d ts vs k (bM d ts st vs k) e):=fun e=>rfl
    have HLQ:Hid (∀e:Nat,e<2→fK ts (k:Int) (e:Int)=te.les[e]?.getD Le.zero):=fun e _=>by unfold fK;rw [HTE.out,Int.toNat_natCast]
    have hll:te.les.length=2:=by have h:=(uD (e:=0) HC.out HTI.out (by omega)).2.1;rw [HTE.out] at h;exact h
    have HLL:=Hd hll
    have hl2:l=2:=by have h:=R1.out.elen;omega
    subst hl2
    have P0:Hid (Own w1.heap.size w6 (some ⟨gn,0,none⟩) sn nc (eG d ts vs k (bM d ts st vs k) 0)):=P1.out
    clear hll
    generalize hgc:wr.heap.size=gc at *
    have HGC:=Hd hgc
    clear hgc
    go_wp2_with fail
    clear hcc hff
    go_loopw [16] (fun i wx=>∃j:Nat,j<=2/\i = .int .i64 j/\Own w1.heap.size wx (some ⟨gn,0,none⟩) sn nc (eG d ts vs k (bM d ts st vs k) j)/\Own w1.heap.size wx (some ⟨w2.heap.size,0,none⟩) m m (dM d ts vs m k)/\Below w1.heap.size w1 wx/\wx.heap[gc]?=some (.cells #[.slice S m3 p,.slice L 2 q,.int .i64 te.pad,.int .i64 te.ram] 103 (0,0))) (fun i _=>2 - (intOf i).toNat)
    case atStart=>exact ⟨0,by omega,rfl,P0.out,P2.out,HBX6.out,T6.out⟩
    case round =>
     obtain ⟨j,hj,rfl,hn1,hn2,hbw,htw⟩:=hrel
     have N1:=Hd hn1
     have N2:=Hd hn2
     have BW:=Hd hbw
     have TW:=Hd htw
     have hsx2:=hbw.size
     have htl:=aX htw
     have t1:=aC (k:=1) htw rfl
     clear hn1 hn2 hbw htw
     by_cases hjl:j<2
     ·have hdj:decide ((j:Int)<2)=true:=by simp;omega
      obtain ⟨bl,ol,S4,m4,p4,rfl,hbl,d0,d1,d2,d3,r4⟩:=R1.out.le (k:=j) (by rw [HLL.out];exact hjl)
      have HFJ:=Hd (HFT.out j)
      have HLJ:=Hd (HLU.out j hjl)
      have hlq:=HLQ.out j hjl
      rw [←hlq] at d2
      obtain ⟨hcc,hff⟩:=aO (aA B1.out BW.out)
      have j0:(0:Int)<=(j:Int):=by omega
      have j1:(j:Int)<2:=by omega
      have hblx:bl<wr.heap.size:=by omega
      clear d0 d1 d3 r4 hlq
      generalize fK ts (k:Int) (j:Int)=le at *
      by_cases hf:le.flop=1
      ·have q1:(le.flop==1)=true:=by simpa using hf
       have HFS:Hid (eG d ts vs k (bM d ts st vs k) (j+1)=(eG d ts vs k (bM d ts st vs k) j).set (2 * k+j) (mx (lm d vs (k:Int) le))):=by show _=_;rw [HFJ.out,if_pos hf]
       have n0:(0:Int)<=2 * (k:Int)+(j:Int):=by omega
       have n1:2 * (k:Int)+(j:Int)<(sn:Int):=by have:=HSM.out;omega
       have a5:IntKind.i64.wrap (2 * (k:Int))=2 * (k:Int):=IntWalk.i64_in _ (by omega)
       have a6:IntKind.i64.wrap (2 * (k:Int)+(j:Int))=2 * (k:Int)+(j:Int):=IntWalk.i64_in _ (by omega)
       clear hf
       go_wp2_with fail
       refine (HLJ.out _ (aA B1.out BW.out) (OV.out.below BW.out).ints).mono ?_
       rintro e8 w8 ⟨rfl,b8⟩
       have N18:=Hd (N1.out.below b8)
       have N28:=Hd (N2.out.below b8)
       have BW8:=Hd (aA BW.out b8)
       have TW8:=Hd (aF b8 TW.out)
       have hs8:=b8.size
       obtain ⟨zo,yo⟩:=N18.out.cellAt (k:=2 * k+j) (by have:=HSM.out;omega)
       clear b8 hcc hff d2
       generalize lm d vs (k:Int) le=lv at *
       go_wp2_with fail
       go_roundw
       case rel=>exact ⟨j+1,by omega,by go_num,by rw [HFS.out];exact N18.out.stored (by have:=HSM.out;omega) (mx lv),N28.out.off (p:=⟨gn,2 * k+j,none⟩) (by rintro a h;injection h with h;subst h;show w2.heap.size≠gn;omega) _,BW8.out.setCell (p:=⟨gn,2 * k+j,none⟩) hgn _,fU TW8.out (by show gc≠gn;omega) _⟩
       case measure=>simp [intOf];omega
      ·have q1:(le.flop==1)=false:=by simp [hf]
       have HFS:Hid (eG d ts vs k (bM d ts st vs k) (j+1)=eG d ts vs k (bM d ts st vs k) j):=by show _=_;rw [HFJ.out,if_neg hf]
       clear hf
       go_wp2_with fail
       go_roundw
       case rel=>exact ⟨j+1,by omega,by go_num,by rw [HFS.out];exact N1.out,N2.out,BW.out,TW.out⟩
       case measure=>simp [intOf];omega
     ·have hj2:j=2:=by omega
      subst hj2
      have hdj:decide (((2:Nat):Int)<2)=false:=by decide
      clear hjl hj
      go_wp2_with fail
      go_roundw
      case rel=>exact ⟨k+1,by omega,by go_num,by rw [HNS.out];exact N1.out,by rw [HOS.out];exact N2.out,BW.out,by omega⟩
      case measure=>simp [intOf];omega
   ·subst h
    have HNS:Hid (bM d ts st vs (k+1)=(bM d ts st vs k).set (2 * k) ((ky (st[2 * k]?.getD 0).toNat (ni d vs (k:Int) 4):Nat):Int)):=by show _=_;rw [HNX.out,HNX1.out,if_neg (by omega),if_pos rfl]
    have HOS:Hid (dM d ts vs m (k+1)=dM d ts vs m k):=by show _=_;rw [HOX.out,HOX1.out,if_neg (by omega)]
    have HIL:=Hd (fun j=>Dn (d:=d) HV3.out (k:Int) j)
    have HIS:Hid (∀j:Nat,ni d vs (k:Int) (j+1)=ni d vs (k:Int) j+(mx (nv vs ((k:Int) * aM d+(j:Int)))).toNat * 2 ^ j):=fun j=>rfl
    have HMX:=Hd (fun i=>FO HV3.out i)
    go_wp2_with fail
    go_loopw [14,15] (fun v i wx=>∃j:Nat,j<=4/\i = .int .i64 j/\v = .int .i64 ((ni d vs (k:Int) j:Nat):Int)/\w6=wx) (fun _ i _=>4 - (intOf i).toNat)
    case atStart=>exact ⟨0,by omega,rfl,rfl,rfl⟩
    case round =>
     obtain ⟨j,hj,rfl,rfl,rfl⟩:=hrel
     by_cases hjl:j<4
     ·have hdj:decide ((j:Int)<4)=true:=by simp;omega
      obtain ⟨zv,yv⟩:=OV6.out.cellAt (k:=bn+j) (by omega)
      have HVN:Hid (vs[bn+j]?.getD 0=nv vs ((k:Int) * aM d+(j:Int))):=by show _=_;rw [HBN.out];unfold nv;rw [show ((bn:Int)+(j:Int)).toNat=bn+j by omega]
      rw [HVN.out] at zv
      have k0:(0:Int)<=(bn:Int)+(j:Int):=by omega
      have k1:(bn:Int)+(j:Int)<(N:Int):=by omega
      have a4:IntKind.i64.wrap ((bn:Int)+(j:Int))=(bn:Int)+(j:Int):=IntWalk.i64_in _ (by omega)
      have j0:(0:Int)<=(j:Int):=by omega
      have j1:(j:Int)<4:=by omega
      have hil:=HIL.out j
      have his:=HIS.out j
      have hmx:=HMX.out ((k:Int) * aM d+(j:Int))
      have HISJ:=Hd his
      have HILJ:=Hd hil
      have HMXJ:=Hd hmx
      clear his hil hmx
      generalize nv vs ((k:Int) * aM d+(j:Int))=x at *
      go_wp2_with fail
      go_roundw
      case rel =>
       refine ⟨j+1,by omega,by go_num,?_,trivial⟩
       obtain ⟨y,hy⟩:=Int.eq_ofNat_of_zero_le HMXJ.out.1
       have h:=HISJ.out
       rw [hy,Int.toNat_natCast] at h
       refine congrArg (Value.int .i64) ?_
       rw [h,←pJ HILJ.out (show y<=1 by have:=HMXJ.out.2;omega) (by omega),←hy]
       rfl
      case measure=>simp [intOf];omega
     ·have hj4:j=4:=by omega
      subst hj4
      have hin:=HIL.out 4
      have hsr:=HSP.out.ram (k:Int) HTI.out HKD.out
      obtain ⟨bs,os,rfl,hbs,hcs⟩:=HST.out.2 (by omega)
      have hck:=hcs (2 * k) (by have:=HSM.out;omega)
      have hsv:st[2 * k]?.getD 0=nv st (2 * (k:Int)):=by unfold nv;rw [show (2 * (k:Int)).toNat=2 * k by omega]
      rw [hsv] at hck
      have HSV:=Hd hsv
      obtain ⟨sv,hse⟩:=Int.eq_ofNat_of_zero_le hsr.1
      rw [hse] at hck hsr HSV
      have HNS2:Hid (bM d ts st vs (k+1)=(bM d ts st vs k).set (2 * k) ((ky sv (ni d vs (k:Int) 4):Nat):Int)):=by show _=_;rw [HNS.out,HSV.out,Int.toNat_natCast]
      generalize ni d vs (k:Int) 4=iv at *
      obtain ⟨zo,yo⟩:=P1.out.cellAt (k:=2 * k) (by have:=HSM.out;omega)
      have HSQ:=Hd (fun w'=>zt sv iv (by omega) (by omega) w')
      have n0:(0:Int)<=2 * (k:Int):=by omega
      have n1:2 * (k:Int)<(sn:Int):=by have:=HSM.out;omega
      have a5:IntKind.i64.wrap (2 * (k:Int))=2 * (k:Int):=IntWalk.i64_in _ (by omega)
      have hdj:decide (((4:Nat):Int)<4)=false:=by decide
      have hbs6:bs<w6.heap.size:=by have:=HK6.out.size;omega
      clear hcs hse hsv HNS hjl hj
      go_wp2_with (go_at_call 151;refine (HSQ.out _).mono ?_;rintro e' w' ⟨rfl,rfl⟩)
      go_roundw
      case rel=>exact ⟨k+1,by omega,by go_num,by rw [HNS2.out];exact P1.out.stored (by have:=HSM.out;omega) _,by rw [HOS.out];exact P2.out.off (p:=⟨gn,2 * k,none⟩) (by rintro a h;injection h with h;subst h;show w2.heap.size≠gn;omega) _,HBX6.out.setCell (p:=⟨gn,2 * k,none⟩) hgn _,by simp only [World.size_setCell];omega⟩
      case measure=>simp [intOf];omega
  ·have hkm:m=k:=by omega
   subst hkm
   go_wp2_with fail
   go_ret2
   refine ⟨some ⟨gn,0,none⟩,nc,some ⟨w2.heap.size,0,none⟩,w2.heap.size,rfl,by rw [HNF.out];exact O1.out.more hs1,by rw [HOF.out];exact O2.out.more hs1,⟨by omega,by omega,?_,?_⟩,aA B1.out HBX.out⟩
   ·rintro a h;injection h with h;subst h;exact ⟨by show _<=gn;omega,hgn2⟩
   ·rintro a h;injection h with h;subst h;exact ⟨Nat.le_refl _,hsx⟩
structure gW (w w':World):Prop where
 os:w'.os=w.os
 tape:w'.tape=w.tape
 output:w'.output=w.output
 heap:w'.heap=w.heap
theorem eY (w:World) (p:Addr) (v:Value):w.drew.setCell p v=(w.setCell p v).drew:=rfl
theorem dH (w:World) (o:Obj):w.drew.alloc o=(w.alloc o).drew:=rfl
theorem gW.trans {a b c:World} (h:gW a b) (k:gW b c):gW a c:=⟨k.os.trans h.os,k.tape.trans h.tape,k.output.trans h.output,k.heap.trans h.heap⟩
theorem gW.fp {lo hi:Nat} {w w':World} {b:Bd} {s:Sl3} (h:gW w w') (k:aG lo hi w b s):aG lo hi w' b s:=k.keep fun i _ _ _=>by rw [h.heap]
theorem gW.own {base:Nat} {w w':World} {A:Option Addr} {n c:Nat} {xs:List Int} (h:gW w w') (k:Own base w A n c xs):Own base w' A n c xs:=aa k fun _ _=>by rw [h.heap]
theorem gW.below {lo:Nat} {a w w':World} (h:gW w w') (k:Below lo a w):Below lo a w':=⟨h.os.trans k.os,h.tape.trans k.tape,h.output.trans k.output,by rw [h.heap];exact k.size,fun i hi=>by rw [h.heap];exact k.block i hi⟩
theorem EJ {w w5 WE:World} {gr lo hi n:Nat} {b:Bd} {R:Sl3} (hz:bC w5 gr zBd zSl) (hB:Below w.heap.size w w5) (hlo:w.heap.size<=gr) (hF:aG lo hi w5 b R) (hgr:gr+1<=lo) (hl:w.heap.size<=lo) (hh:hi<=w5.heap.size) (hn:n<=maxLen)
  (h:gW ((put12 w5 gr b R).alloc (.cells (arr (List.replicate n 0)) 3)) WE):bC WE gr b R/\aG w.heap.size hi WE b R/\Own w.heap.size WE (some ⟨w5.heap.size,0,none⟩) n n (List.replicate n 0)/\(w.heap.size<=hi∨hi<w.heap.size)/\hi<=WE.heap.size/\gJ (some ⟨w5.heap.size,0,none⟩) hi WE.heap.size/\Below w.heap.size w WE:=by
 generalize hWF:put12 w5 gr b R=WF at h
 obtain ⟨hbk,hsz,hBF,hCF⟩:=bK hWF hz hB hlo
 have hs5:WF.heap.size=w5.heap.size:=by rw [←hWF];simp only [World.size_setCell]
 have hb:=aB (Below.refl WF.heap.size WF) (.cells (arr (List.replicate n 0)) 3)
 have hsE:WE.heap.size=WF.heap.size+1:=by rw [h.heap];exact World.size_alloc _ _
 have hbl:=hBF.size
 refine ⟨by show WE.heap[gr]?=_;rw [h.heap];exact aF hb hbk,h.fp (((hF.chg hCF (.inr hgr)).below hb).widen hl (Nat.le_refl _)),h.own ?_,by omega,by omega,?_,h.below (aA hBF hb)⟩
 ·exact Own.arr (by rw [←hs5];exact aL WF _) (by omega) hn (by simp)
 ·rintro a ⟨⟩
  simp only
  omega
theorem qU {A:Option Addr} {lo hi lo' hi':Nat} (l:gJ A lo hi) (h1:lo'<=lo) (h2:hi<=hi'):gJ A lo' hi':=fun a ha=>by have:=l a ha;omega
theorem Ba {b:Bd} {ps:List Int} (h:bkF b=true) (hp:j5 b.dev ps=true):az b.dev b.frames=true/\kD b.dev (av b.dev b.frames) b.state ps/\kN b.dev (av b.dev b.frames)/\b.state.length=2 * tiles b.dev/\ps.length=tiles b.dev/\b.frames.length=tiles b.dev/\b.dev.W * b.dev.H=(tiles b.dev:Int)/\(9<=tiles b.dev/\tiles b.dev<=36)/\((ai b.dev).toNat:Int)=ai b.dev:=by
 obtain ⟨hf,hs,-⟩:=dV h
 have hd:=(aj hf).1
 have e:=bT hd
 refine ⟨hf,EW hs hp,kJ hf,sK hs,?_,(aj hf).2.1,e.1,e.2,by have:=cK hd;omega⟩
 have:=(vS hp).1
 omega
theorem xH (b:Bd) (s:Sl3) (PA:Option Addr) (pn pc:Nat) (ps:List Int) (w:World) (hA:bV w b s) (hI:bH w PA pn ps) (hz1:af b.frames<=1099511627776) (h2:s.n2<=16777216) (h3:af b.saved<=1099511627776) (hpn:pn<=1099511627776) :
  Calls Tryz.prog 105 #[.agg (aD b s),.slice PA pn pc] w fun e w'=>∃R A n c,e = .returned (.tuple #[.agg (aD (spB b ps) R),.slice A n c])/\∃md,aG w.heap.size md w' (spB b ps) R/\Own w.heap.size w' A n c (spN b ps)/\(w.heap.size<=md/\md<=w'.heap.size/\gJ A md w'.heap.size)/\Below w.heap.size w w':=by
 have hz:kF b:=⟨hz1,by have:=hA.state.1;omega,h3⟩
 have HI:=Hd hA
 have HB:=Hd (aB (aB (Below.refl w.heap.size w) (.cells (aD b s) 31)) (.cells z12 31))
 have HX:Hid (bC ((w.alloc (.cells (aD b s) 31)).alloc (.cells z12 31)) w.heap.size b s):=aR _ (aL _ _)
 have HZ:Hid (bC ((w.alloc (.cells (aD b s) 31)).alloc (.cells z12 31)) (w.heap.size+1) zBd zSl):=ae (by simp)
 have hsz:w.heap.size+2<=((w.alloc (.cells (aD b s) 31)).alloc (.cells z12 31)).heap.size:=by simp
 have HIP:=Hd hI
 clear hI
 clear hA
 go_enter Tryz.func105,Tryz.ntmps105
 go_wp2_with fail
 generalize hW:((w.alloc (.cells (aD b s) 31)).alloc (.cells z12 31))=W at *
 clear hW
 refine (cB b s _ (HI.out.below HB.out) hz).mono ?_
 rintro e w1 ⟨R,rfl,a1,b1⟩
 have HF:=Hd a1.fp
 have hs0:=b1.size
 replace HB:=Hd (aA HB.out b1)
 replace HX:=Hd (HX.out.tr b1)
 replace HZ:=Hd (HZ.out.tr b1)
 clear a1 b1
 have b2:Below w1.heap.size w1 (w1.alloc (.cells (aD b R) 31)):=aB (Below.refl _ _) _
 have HO:Hid (bC (w1.alloc (.cells (aD b R) 31)) w1.heap.size b R):=aL _ _
 have hs2:w1.heap.size<(w1.alloc (.cells (aD b R) 31)).heap.size:=by simp
 replace HF:=Hd (HF.out.below b2)
 replace HB:=Hd (aA HB.out b2)
 replace HX:=Hd (HX.out.tr b2)
 replace HZ:=Hd (HZ.out.tr b2)
 obtain ⟨x0,x1,x2,x3,x4,x5,x6,x7,x8,x9,x10,x11⟩:=HX.out.cells
 go_wp2_with fail
 generalize hW2:(w1.alloc (.cells (aD b R) 31))=W2 at *
 clear x0 x1 x2 x3 x4 x5 x6 x7 x8 x9 x10 x11
 clear hW2 b2
 refine (fq b s _ (HI.out.below HB.out) hz1 h2 h3).mono ?_
 rintro e w3 ⟨rfl,b3⟩
 have hs2:=b3.size
 replace HB:=Hd (aA HB.out b3)
 replace HX:=Hd (HX.out.tr b3)
 replace HZ:=Hd (HZ.out.tr b3)
 replace HO:=Hd (HO.out.tr b3)
 replace HF:=Hd (HF.out.below b3)
 clear b3
 cases hb:bkF b with
 | false =>
  have hO:spO b ps=false:=by unfold spO;rw [hb];rfl
  have HU:Hid (spB b ps=b):=by show _=_;unfold spB;rw [hO];rfl
  have HV:Hid (spN b ps=[]):=by show _=_;unfold spN;rw [hO];rfl
  clear hb hO
  obtain ⟨z0,z1,z2,z3,z4,z5,z6,z7,z8,z9,z10,z11⟩:=HZ.out.cells
  have yz:=HZ.out.soft
  obtain ⟨o0,o1,o2,o3,o4,o5,o6,o7,o8,o9,o10,o11⟩:=HO.out.cells
  have yo:=HO.out.soft
  obtain ⟨x0,x1,x2,x3,x4,x5,x6,x7,x8,x9,x10,x11⟩:=HX.out.cells
  go_wp2_with fail
  clear z0 z1 z2 z3 z4 z5 z6 z7 z8 z9 z10 z11 yz o0 o1 o2 o3 o4 o5 o6 o7 o8 o9 o10 o11 yo x0 x1 x2 x3 x4 x5 x6 x7 x8 x9 x10 x11
  generalize hWF:World.setCell _ _ _=WF
  obtain ⟨hbk,hszF,hBF,hCF⟩:=bK (W:=w3) (b':=b) (s':=R) hWF (HZ.out) (HB.out) (by omega)
  have hR:aG w.heap.size w1.heap.size WF b R:=((HF.out).chg hCF (.inr (by omega))).widen (by omega) (Nat.le_refl _)
  have hO:Own w.heap.size WF none 0 0 []:=Own.nil
  have hL:gJ none w1.heap.size WF.heap.size:=by rintro a ⟨⟩
  clear hWF
  refine bodyPost_ret (v := .tuple #[.agg (aD b R),.slice (none) (0) (0)]) (aI Tryz.results105 rfl hbk Tryz.underlying31 (by kernel_rfl)) rfl ⟨R,none,0,0,by rw [HU.out],w1.heap.size,by rw [HU.out];exact hR,by rw [HV.out];exact hO,⟨by omega,by omega,hL⟩,hBF⟩
 | true =>
  have hdv:=(aj (dV hb).1).1
  obtain ⟨x0,x1,x2,x3,x4,x5,x6,x7,x8,x9,x10,x11⟩:=HX.out.cells
  go_wp2_with fail
  clear x0 x1 x2 x3 x4 x5 x6 x7 x8 x9 x10 x11
  refine (CL b.dev PA pn pc ps _ (HIP.out.below HB.out) hpn hdv).mono ?_
  rintro e w5 ⟨rfl,b5⟩
  have hs3:=b5.size
  replace HB:=Hd (aA HB.out b5)
  replace HX:=Hd (HX.out.tr b5)
  replace HZ:=Hd (HZ.out.tr b5)
  replace HO:=Hd (HO.out.tr b5)
  replace HF:=Hd (HF.out.below b5)
  clear b5 hdv
  cases hp:j5 b.dev ps with
  | false =>
   have hO:spO b ps=false:=by unfold spO;rw [hp];simp
   have HU:Hid (spB b ps=b):=by show _=_;unfold spB;rw [hO];rfl
   have HV:Hid (spN b ps=[]):=by show _=_;unfold spN;rw [hO];rfl
   clear hb hp hO
   obtain ⟨z0,z1,z2,z3,z4,z5,z6,z7,z8,z9,z10,z11⟩:=HZ.out.cells
   have yz:=HZ.out.soft
   obtain ⟨o0,o1,o2,o3,o4,o5,o6,o7,o8,o9,o10,o11⟩:=HO.out.cells
   have yo:=HO.out.soft
   obtain ⟨x0,x1,x2,x3,x4,x5,x6,x7,x8,x9,x10,x11⟩:=HX.out.cells
   go_wp2_with fail
   clear z0 z1 z2 z3 z4 z5 z6 z7 z8 z9 z10 z11 yz o0 o1 o2 o3 o4 o5 o6 o7 o8 o9 o10 o11 yo x0 x1 x2 x3 x4 x5 x6 x7 x8 x9 x10 x11
   generalize hWF:World.setCell _ _ _=WF
   obtain ⟨hbk,hszF,hBF,hCF⟩:=bK (W:=w5) (b':=b) (s':=R) hWF (HZ.out) (HB.out) (by omega)
   have hR:aG w.heap.size w1.heap.size WF b R:=((HF.out).chg hCF (.inr (by omega))).widen (by omega) (Nat.le_refl _)
   have hO:Own w.heap.size WF none 0 0 []:=Own.nil
   have hL:gJ none w1.heap.size WF.heap.size:=by rintro a ⟨⟩
   clear hWF
   refine bodyPost_ret (v := .tuple #[.agg (aD b R),.slice (none) (0) (0)]) (aI Tryz.results105 rfl hbk Tryz.underlying31 (by kernel_rfl)) rfl ⟨R,none,0,0,by rw [HU.out],w1.heap.size,by rw [HU.out];exact hR,by rw [HV.out];exact hO,⟨by omega,by omega,hL⟩,hBF⟩
  | true =>
   have hO:spO b ps=true:=by unfold spO;rw [hb,hp];rfl
   have HPT:=Hd (Ba hb hp)
   have HOK:=Hd hO
   have hph:=(dV hb).2.2.1
   have hn1:s.n1=tiles b.dev:=by have h:=HI.out.frames.1;have h2:=HPT.out.2.2.2.2.2.1;omega
   have HN1:=Hd hn1
   have htb:=HPT.out.2.2.2.2.2.2.2.1
   clear hb hp hO hn1
   by_cases h2:b.phase=2
   ·have HU:Hid (spB b ps=b):=by show _=_;unfold spB;rw [HOK.out,if_pos rfl,if_pos h2]
    have HV:Hid (spN b ps=List.replicate s.n1 0):=by show _=_;unfold spN;rw [HOK.out,if_pos rfl,if_pos h2,HN1.out]
    have hq2:(b.phase==2)=true:=by simp [h2]
    clear h2 hph
    have hnb:s.n1<=36:=by have:=HN1.out;omega
    obtain ⟨i0,hi,hz0,hz1,hz2⟩:=info_parts eP
    have hmk:=fun W=>bU (P:=Tryz.prog) 27 3 i0 _ Tryz.underlying27 hi hz0 .i64 .i64 s.n1 s.n1 (Nat.le_refl _) (by rw [hz2];omega) (by omega) W
    rw [hz1,Nat.mul_one] at hmk
    have hmz:madeCells (Value.int .i64 0).cells s.n1=arr (List.replicate s.n1 0):=iV s.n1
    rw [hmz] at hmk
    clear hmz hi hz0 hz1 hz2
    have hl4:w1.heap.size<w5.heap.size:=by omega
    have hr4:w.heap.size+1<w5.heap.size:=by omega
    have hr5:w.heap.size<w5.heap.size:=by omega
    have HEND:Hid (∀W0:World,(put12 w5 (w.heap.size+1) b R).alloc (.cells (arr (List.replicate s.n1 0)) 3)=W0→∀WE:World,gW W0 WE→bC WE (w.heap.size+1) b R/\∃R' A n c,Ending.returned (.tuple #[.agg (aD b R),.slice (some ⟨w5.heap.size,0,none⟩) s.n1 s.n1]) = .returned (.tuple #[.agg (aD (spB b ps) R'),.slice A n c])/\∃md,aG w.heap.size md WE (spB b ps) R'/\Own w.heap.size WE A n c (spN b ps)/\(w.heap.size<=md/\md<=WE.heap.size/\gJ A md WE.heap.size)/\Below w.heap.size w WE):=fun W0 h0 WE hWE=>by
     obtain ⟨h1,h2,h3,-,h4,h5,h6⟩:=EJ (n:=s.n1) HZ.out HB.out (by omega) HF.out (by omega) (by omega) (by omega) (by unfold maxLen;omega) (by rw [h0];exact hWE)
     exact ⟨h1,R,_,_,_,by rw [HU.out],w1.heap.size,by rw [HU.out];exact h2,by rw [HV.out];exact h3,⟨by omega,h4,h5⟩,h6⟩
    obtain ⟨z0,z1,z2,z3,z4,z5,z6,z7,z8,z9,z10,z11⟩:=HZ.out.cells
    have yz:=HZ.out.soft
    obtain ⟨o0,o1,o2,o3,o4,o5,o6,o7,o8,o9,o10,o11⟩:=HO.out.cells
    have yo:=HO.out.soft
    obtain ⟨x0,x1,x2,x3,x4,x5,x6,x7,x8,x9,x10,x11⟩:=HX.out.cells
    go_wp2_with fail
    go_region_with (fail)
    all_goals
     clear z0 z1 z2 z3 z4 z5 z6 z7 z8 z9 z10 z11 yz o0 o1 o2 o3 o4 o5 o6 o7 o8 o9 o10 o11 yo x0 x1 x2 x3 x4 x5 x6 x7 x8 x9 x10 x11
     go_wp2_with fail
     try simp only [eY,dH]
     generalize hWE:World.alloc _ _=WE
     have HE:=HEND.out WE hWE
     clear hWE HEND
     refine bodyPost_ret (v := .tuple #[.agg (aD b R),.slice (some ⟨w5.heap.size,0,none⟩) s.n1 s.n1]) (aI Tryz.results105 rfl (HE _ ⟨rfl,rfl,rfl,rfl⟩).1 Tryz.underlying31 (by kernel_rfl)) rfl ?_
     exact (HE _ (by exact ⟨rfl,rfl,rfl,rfl⟩)).2
   have hq2:(b.phase==2)=false:=by simp [h2]
   have H2:=Hd h2
   clear h2
   have HSN:Hid ((s.n2:Int)=2 * (b.dev.W * b.dev.H)):=by show _=_;have e1:=HI.out.state.1;have e2:=HPT.out.2.2.2.1;have e3:=HPT.out.2.2.2.2.2.2.1;omega
   have HPN:Hid ((pn:Int)=b.dev.W * b.dev.H):=by show _=_;have e1:=HIP.out.1;have e2:=HPT.out.2.2.2.2.1;have e3:=HPT.out.2.2.2.2.2.2.1;omega
   have hwr:w.heap.size<w5.heap.size:=by omega
   have hD:=(Below.refl w5.heap.size w5).drew
   have HBD:=HB
   obtain ⟨x0,x1,x2,x3,x4,x5,x6,x7,x8,x9,x10,x11⟩:=HX.out.cells
   go_wp2_with fail
   go_region_held3 (fun w'=>Below w5.heap.size w5 w'/\∀b o,b<w5.heap.size→w'.cell? ⟨b,o,none⟩=w5.cell? ⟨b,o,none⟩)
    (first|exact ⟨hD,(aO hD).1⟩)
    (first
     | (go_at_call 72;(with_reducible refine (pU b.dev s.A1 s.n1 s.c1 b.frames _ (HI.out.frames.below (aA HB.out hD)) HPT.out.1).mono ?_);rintro e w6 ⟨ge,TA,tc,EA,DA,rfl,hem,b6⟩;have HEM:=Hd hem;have hD6:=Hd (aA hD b6);replace hD:=aA hD b6;clear b6 hem)
     | (go_at_call 149;(with_reducible refine (GJ ge b.dev (av b.dev b.frames) TA s.n1 tc EA DA (ai b.dev).toNat s.A2 s.n2 s.c2 b.state PA pn pc ps _ HEM.out HPT.out.2.2.2.2.2.2.2.2 (HI.out.state.below (aA HB.out hD)) (HIP.out.below (aA HB.out hD)) HSN.out HPN.out HPT.out.2.1 HPT.out.2.2.1).mono ?_);rintro e w7 ⟨A7,c7,A8,mid,rfl,o7,o8,hap,b7⟩;have O7:=Hd o7;have O8:=Hd o8;have hs7:=b7.size;replace hD:=aA hD b7;clear b7 o7 o8))
   clear x0 x1 x2 x3 x4 x5 x6 x7 x8 x9 x10 x11
   rename Below w5.heap.size w5 w7/\_=>hHeld
   clear hHeld
   obtain ⟨hm1,hm2,l7,l8⟩:=hap
   have L7:=Hd l7
   have L8:=Hd l8
   have hs6:=hD6.out.size
   have hsD:=hD.size
   replace HB:=Hd (aA HB.out hD)
   replace HX:=Hd (HX.out.tr hD)
   replace HZ:=Hd (HZ.out.tr hD)
   replace HO:=Hd (HO.out.tr hD)
   replace HF:=Hd (HF.out.below hD)
   clear hD hD6 HEM l7 l8 HBD
   have HNX:Hid (nxB b ps=oh b.dev (av b.dev b.frames) b.state ps):=rfl
   have HOU:Hid (ouB b ps=tq b.dev (av b.dev b.frames) b.state ps):=rfl
   generalize oh b.dev (av b.dev b.frames) b.state ps=NX at *
   generalize tq b.dev (av b.dev b.frames) b.state ps=OU at *
   by_cases h1:b.phase=1
   rotate_left
   ·have hq1:(b.phase==1)=false:=by simp [h1]
    have HU:Hid (spB b ps={ b with state:=NX }):=by show _=_;unfold spB;rw [HOK.out,if_pos rfl,if_neg H2.out,if_neg h1,HNX.out]
    have HV:Hid (spN b ps=OU):=by show _=_;unfold spN;rw [HOK.out,if_pos rfl,if_neg H2.out,if_neg h1,HOU.out]
    clear h1
    have hC4:Chg w1.heap.size (w1.heap.size+1) w7 (w7.setCell ⟨w1.heap.size,5,none⟩ (.slice A7 s.n2 c7)):=(Chg.set (Chg.refl _ _ _) (Nat.le_refl _) (Nat.lt_succ_self _) _)
    have hsW:=hC4.size
    have HF4:Hid (aG W.heap.size mid (w7.setCell ⟨w1.heap.size,5,none⟩ (.slice A7 s.n2 c7)) { b with state:=NX } ⟨R.A1,R.n1,R.c1,A7,s.n2,c7,R.A3,R.n3,R.c3⟩):=(HF.out.chg hC4 (.inl (Nat.le_refl _))).setState (b':={ b with state:=NX }) (O7.out.chg hC4 L7.out (.inr (by omega))) L7.out (by omega) (by omega) (by omega) rfl rfl
    have HO8:=Hd (O8.out.chg hC4 L8.out (.inr (by omega)))
    have HZ4:=Hd (HZ.out.chg hC4 (.inl (by omega)))
    have HB4:=Hd (dR HB.out hC4 (by omega))
    clear hC4
    obtain ⟨x0,x1,x2,x3,x4,x5,x6,x7,x8,x9,x10,x11⟩:=HX.out.cells
    obtain ⟨z0,z1,z2,z3,z4,z5,z6,z7,z8,z9,z10,z11⟩:=HZ.out.cells
    have yz:=HZ.out.soft
    obtain ⟨o0,o1,o2,o3,o4,o5,o6,o7,o8,o9,o10,o11⟩:=HO.out.cells
    have yo:=HO.out.soft
    go_wp2_with fail
    clear x0 x1 x2 x3 x4 x5 x6 x7 x8 x9 x10 x11 z0 z1 z2 z3 z4 z5 z6 z7 z8 z9 z10 z11 yz o0 o1 o2 o3 o4 o5 o6 o7 o8 o9 o10 o11 yo
    generalize hWF:World.setCell _ _ _=WF
    obtain ⟨hbk,hszF,hBF,hCF⟩:=bK (W:=(w7.setCell ⟨w1.heap.size,5,none⟩ (.slice A7 s.n2 c7))) (b':={ b with state:=NX }) (s':=⟨R.A1,R.n1,R.c1,A7,s.n2,c7,R.A3,R.n3,R.c3⟩) hWF (HZ4.out) (HB4.out) (by omega)
    have hR:aG w.heap.size mid WF { b with state:=NX } ⟨R.A1,R.n1,R.c1,A7,s.n2,c7,R.A3,R.n3,R.c3⟩:=((HF4.out).chg hCF (.inr (by omega))).widen (by omega) (Nat.le_refl _)
    have hO:Own w.heap.size WF (A8) (s.n1) (s.n1) (OU):=((HO8.out).chg hCF (L8.out) (.inr (by omega))).more (by omega)
    have hL:gJ (A8) mid WF.heap.size:=qU (L8.out) (by omega) (by omega)
    clear hWF
    refine bodyPost_ret (v := .tuple #[.agg (aD { b with state:=NX } ⟨R.A1,R.n1,R.c1,A7,s.n2,c7,R.A3,R.n3,R.c3⟩),.slice (A8) (s.n1) (s.n1)]) (aI Tryz.results105 rfl hbk Tryz.underlying31 (by kernel_rfl)) rfl ⟨⟨R.A1,R.n1,R.c1,A7,s.n2,c7,R.A3,R.n3,R.c3⟩,A8,s.n1,s.n1,by rw [HU.out],mid,by rw [HU.out];exact hR,by rw [HV.out];exact hO,⟨by omega,by omega,hL⟩,hBF⟩
   have hq1:(b.phase==1)=true:=by simp [h1]
   have H1:=Hd h1
   clear h1
   have HU0:Hid (spB b ps={ b with state:=ovS b.state (aQ b.dev b.reg) NX }):=by show _=_;unfold spB;rw [HOK.out,if_pos rfl,if_neg H2.out,if_pos H1.out,HNX.out]
   have HV0:Hid (spN b ps=zS (aQ b.dev b.reg) OU):=by show _=_;unfold spN;rw [HOK.out,if_pos rfl,if_neg H2.out,if_pos H1.out,HOU.out]
   obtain ⟨x0,x1,x2,x3,x4,x5,x6,x7,x8,x9,x10,x11⟩:=HX.out.cells
   go_wp2_with fail
   clear x0 x1 x2 x3 x4 x5 x6 x7 x8 x9 x10 x11
   refine (kV b.dev b.reg _).mono ?_
   rintro e w4 ⟨TA,m,tc,rfl,o4,b4⟩
   have hTL:=o4.len
   have hmb:m<=36:=by have h1:=kM b.dev b.reg;omega
   have HT:=Hd o4.ints
   have HTA:=Hd o4.lies
   have hs4:=b4.size
   replace HB:=Hd (aA HB.out b4)
   replace HX:=Hd (HX.out.tr b4)
   replace HZ:=Hd (HZ.out.tr b4)
   replace HO:=Hd (HO.out.tr b4)
   replace HF:=Hd (HF.out.below b4)
   replace O7:=Hd (O7.out.below b4)
   replace O8:=Hd (O8.out.below b4)
   clear b4 o4
   have hRT:∀j,j<(aQ b.dev b.reg).length→0<=(aQ b.dev b.reg)[j]?.getD 0/\(aQ b.dev b.reg)[j]?.getD 0<(tiles b.dev:Int):=fun j hj=>kP hj
   have HRT:=Hd hRT
   have HTL:=Hd hTL
   have HTE:Hid (aQ b.dev b.reg=aQ b.dev b.reg):=rfl
   clear hRT hTL
   generalize hts:aQ b.dev b.reg=ts at HT HRT HTL HTE
   have HTS:=Hd hts
   clear hts HTE
   rw [HTS.out] at HU0 HV0
   have HU1:=Hd HU0.out
   have HV1:=Hd HV0.out
   clear HU0 HV0
   go_wp2_with fail
   go_loopw [53] (fun i wr=>∃k:Nat,k<=m/\i = .int .i64 k/\Below w.heap.size w wr/\bC wr w.heap.size b s/\bC wr (w.heap.size+1) zBd zSl/\bC wr w1.heap.size b R/\bH wr TA m ts/\aG W.heap.size w1.heap.size wr b R/\Own w6.heap.size wr A7 s.n2 c7 (ovS b.state (ts.take k) NX)/\Own w6.heap.size wr A8 s.n1 s.n1 (zS (ts.take k) OU)/\w4.heap.size<=wr.heap.size) (fun i _=>m - (intOf i).toNat)
   case atStart=>exact ⟨0,Nat.zero_le _,rfl,HB.out,HX.out,HZ.out,HO.out,HT.out,HF.out,O7.out,O8.out,Nat.le_refl _⟩
   case round =>
    obtain ⟨k,hk,rfl,hb1,hx1r,hz1r,ho1,ht1,hf1,ho7,ho8,hsr⟩:=hrel
    have HBr:=Hd hb1
    have HXr:=Hd hx1r
    have HZr:=Hd hz1r
    have HOr:=Hd ho1
    have HTr:=Hd ht1
    have HFr:=Hd hf1
    have O7r:=Hd ho7
    have O8r:=Hd ho8
    clear hb1 hx1r hz1r ho1 ht1 hf1 ho7 ho8
    by_cases hlt:k<m
    ·have hdk:decide ((k:Int)<(m:Int))=true:=by simp;omega
     obtain ⟨t0,t1⟩:=HRT.out k (by rw [HTL.out];exact hlt)
     have HST:=Hd (sO (old:=b.state) (new:=NX) (ts:=ts) (k:=k) (by rw [HTL.out];exact hlt))
     have HSZ:=Hd (GV (l:=OU) (ts:=ts) (k:=k) (by rw [HTL.out];exact hlt))
     obtain ⟨bt,ot,hTA,hbt,hct⟩:=HTr.out.2 (by omega)
     have hck:=hct k hlt
     have hbt0:=(HTA.out ⟨bt,ot,none⟩ hTA)
     simp only at hbt0
     subst hTA
     clear hct
     generalize ts[k]?.getD 0=t at *
     obtain ⟨tn,rfl⟩:=Int.eq_ofNat_of_zero_le t0
     rw [Int.toNat_natCast] at HST HSZ
     obtain ⟨-,-,-,p4,p5,p6,p7,p8,-⟩:=HPT.out
     have q1:s.n2=2 * tiles b.dev:=by have h:=HI.out.state.1;omega
     have q2:s.n1=tiles b.dev:=HN1.out
     obtain ⟨g7,-,hA7,h7a,h7b,-⟩:=O7r.out.block (by omega)
     obtain ⟨g8,-,hA8,h8a,h8b,-⟩:=O8r.out.block (by omega)
     have l7:=L7.out _ hA7
     have l8:=L8.out _ hA8
     simp only at l7 l8
     subst hA7 hA8
     obtain ⟨hc70,hf70⟩:=O7r.out.cellAt (k:=2 * tn) (by omega)
     obtain ⟨hc71,hf71⟩:=O7r.out.cellAt (k:=2 * tn+1) (by omega)
     obtain ⟨hc8,hf8⟩:=O8r.out.cellAt (k:=tn) (by omega)
     obtain ⟨bs,os,hSA,hbs,hcs⟩:=(HI.out.state.below HBr.out).2 (by omega)
     have hbs0:bs<w.heap.size:=by obtain ⟨b1,o1,h1,h2,-⟩:=HI.out.state.2 (by omega);rw [hSA] at h1;injection h1 with h1;injection h1 with h1;omega
     have hs0:=hcs (2 * tn) (by omega)
     have hs1:=hcs (2 * tn+1) (by omega)
     have e1:IntKind.i64.wrap (2 * (tn:Int))=2 * (tn:Int):=IntWalk.i64_in _ (by omega)
     have f1:(2 * (tn:Int)).toNat=2 * tn:=by omega
     have f2:(2 * (tn:Int)+1).toNat=2 * tn+1:=by omega
     have k0:(0:Int)<=(k:Int):=by omega
     have k1:(k:Int)<(m:Int):=by omega
     have t2:(tn:Int)<(s.n1:Int):=by omega
     have i0:(0:Int)<=2 * (tn:Int):=by omega
     have i1:2 * (tn:Int)<(s.n2:Int):=by omega
     have j0:(0:Int)<=2 * (tn:Int)+1:=by omega
     have j1:2 * (tn:Int)+1<(s.n2:Int):=by omega
     have HQ:=Hd (show 2 * tn+1<s.n2/\tn<s.n1 from ⟨by omega,by omega⟩)
     have HSA:=Hd hSA
     clear p4 p5 p6 p7 p8 q1 q2 hcs
     generalize (ovS b.state (ts.take k) NX)[2 * tn]?.getD 0=og0 at hc70
     generalize (ovS b.state (ts.take k) NX)[2 * tn+1]?.getD 0=og1 at hc71
     generalize (zS (ts.take k) OU)[tn]?.getD 0=og2 at hc8
     generalize b.state[2 * tn]?.getD 0=y0 at *
     generalize b.state[2 * tn+1]?.getD 0=y1 at *
     obtain ⟨-,-,-,-,-,x5,-⟩:=HXr.out.cells
     rw [hSA] at x5
     clear hSA
     go_upto_region 12 with fail
     generalize hwx:World.setCell wr _ _=wx at *
     have hP:gX wr g7 (2 * tn) (.int .i64 y0) wx:=by rw [←hwx];exact ⟨rfl,rfl,rfl,rfl⟩
     clear hwx
     have HPx:=Hd hP
     have n0:w.heap.size≠g7:=by omega
     have n1:w1.heap.size≠g7:=by omega
     have n2:bs≠g7:=by omega
     have n8:g8≠g7:=by omega
     rw [←World.cell?_of_block (a:=⟨bs,os+(2 * tn+1),none⟩) (HPx.out.far n2)] at hs1
     rw [←World.cell?_of_block (a:=⟨w.heap.size,5,none⟩) (HPx.out.far n0)] at x5
     rw [←World.cell?_of_block (a:=⟨g8,tn,none⟩) (HPx.out.far n8)] at hc8
     rw [←gX.frozen HPx.out] at hf71 hf8
     have hc71':wx.cell? ⟨g7,2 * tn+1,none⟩=some (.int .i64 og1):=by rw [gX.other HPx.out (by omega)];exact hc71
     have hsx:wr.heap.size<=wx.heap.size:=by rw [HPx.out.size];exact Nat.le_refl _
     have hb7x:g7<wx.heap.size:=by omega
     have hb8x:g8<wx.heap.size:=by omega
     have hbsx:bs<wx.heap.size:=by omega
     clear hP hc70 hf70 hs0 hc71
     go_upto_region 13 with fail
     generalize hwy:World.setCell wx _ _=wy at *
     have hP:gX wx g7 (2 * tn+1) (.int .i64 y1) wy:=by rw [←hwy];exact ⟨rfl,rfl,rfl,rfl⟩
     clear hwy
     have HPy:=Hd hP
     rw [←World.cell?_of_block (a:=⟨g8,tn,none⟩) (HPy.out.far n8)] at hc8
     rw [←gX.frozen HPy.out] at hf8
     have hsy:wx.heap.size<=wy.heap.size:=by rw [HPy.out.size];exact Nat.le_refl _
     have hb8y:g8<wy.heap.size:=by omega
     clear hP hc71' hf71 hs1 x5
     go_upto_region 14 with fail
     generalize hwq:World.setCell wy _ _=wq at *
     have hP:gX wy g8 tn (.int .i64 0) wq:=by rw [←hwq];exact ⟨rfl,rfl,rfl,rfl⟩
     clear hwq
     have HPq:=Hd hP
     have hsq:wy.heap.size<=wq.heap.size:=by rw [HPq.out.size];exact Nat.le_refl _
     clear hP hc8 hf8
     have HB9:=Hd (HPq.out.below (HPy.out.below (HPx.out.below HBr.out (lo:=w.heap.size) (by omega)) (by omega)) (by omega))
     have HX9:=Hd (HPq.out.bk (HPy.out.bk (HPx.out.bk HXr.out n0) n0) (by omega))
     have HZ9:=Hd (HPq.out.bk (HPy.out.bk (HPx.out.bk HZr.out (by omega)) (by omega)) (by omega))
     have HO9:=Hd (HPq.out.bk (HPy.out.bk (HPx.out.bk HOr.out n1) n1) (by omega))
     have HF9:=Hd (HPq.out.fpFar (HPy.out.fpFar (HPx.out.fpFar HFr.out (.inr (by omega))) (.inr (by omega))) (.inr (by omega)))
     have O79:Hid (Own w6.heap.size wq (some ⟨g7,0,none⟩) s.n2 c7 (ovS b.state (ts.take (k+1)) NX)):=by
      show Own _ _ _ _ _ _
      rw [HST.out]
      exact HPq.out.ownFar (HPy.out.own (HPx.out.own O7r.out (by have:=HQ.out;omega)) (by have:=HQ.out;omega)) (by rintro a ⟨⟩;simp only;omega)
     have O89:Hid (Own w6.heap.size wq (some ⟨g8,0,none⟩) s.n1 s.n1 (zS (ts.take (k+1)) OU)):=by
      show Own _ _ _ _ _ _
      rw [HSZ.out]
      exact HPq.out.own (HPy.out.ownFar (HPx.out.ownFar O8r.out (by rintro a ⟨⟩;simp only;omega)) (by rintro a ⟨⟩;simp only;omega)) HQ.out.2
     have nb7:bt≠g7:=by omega
     have nb8:bt≠g8:=by omega
     have HT9:=Hd (HPq.out.ints (HPy.out.ints (HPx.out.ints HTr.out (by rintro a ⟨⟩;exact nb7)) (by rintro a ⟨⟩;exact nb7)) (by rintro a ⟨⟩;exact nb8))
     clear e1 f1 f2 hck
     go_wp2_with fail
     go_roundw
     case rel=>exact ⟨k+1,by omega,by go_num,HB9.out,HX9.out,HZ9.out,HO9.out,HT9.out,HF9.out,O79.out,O89.out,by omega⟩
     case measure=>simp [intOf];omega
    ·have hkm:k=m:=by omega
     subst hkm
     have hdk:decide ((k:Int)<(k:Int))=false:=by simp
     rw [List.take_of_length_le (by rw [HTL.out];exact Nat.le_refl _)] at O7r O8r
     have HU:=HU1
     have HV:=HV1
     have hC4:Chg w1.heap.size (w1.heap.size+1) wr (wr.setCell ⟨w1.heap.size,5,none⟩ (.slice A7 s.n2 c7)):=(Chg.set (Chg.refl _ _ _) (Nat.le_refl _) (Nat.lt_succ_self _) _)
     have hsW:=hC4.size
     have HF4:Hid (aG W.heap.size mid (wr.setCell ⟨w1.heap.size,5,none⟩ (.slice A7 s.n2 c7)) { b with state:=(ovS b.state ts NX) } ⟨R.A1,R.n1,R.c1,A7,s.n2,c7,R.A3,R.n3,R.c3⟩):=(HFr.out.chg hC4 (.inl (Nat.le_refl _))).setState (b':={ b with state:=(ovS b.state ts NX) }) (O7r.out.chg hC4 L7.out (.inr (by omega))) L7.out (by omega) (by omega) (by omega) rfl rfl
     have HO8:=Hd (O8r.out.chg hC4 L8.out (.inr (by omega)))
     have HZ4:=Hd (HZr.out.chg hC4 (.inl (by omega)))
     have HB4:=Hd (dR HBr.out hC4 (by omega))
     clear hC4
     obtain ⟨z0,z1,z2,z3,z4,z5,z6,z7,z8,z9,z10,z11⟩:=HZr.out.cells
     have yz:=HZr.out.soft
     obtain ⟨o0,o1,o2,o3,o4,o5,o6,o7,o8,o9,o10,o11⟩:=HOr.out.cells
     have yo:=HOr.out.soft
     go_wp2_with fail
     clear z0 z1 z2 z3 z4 z5 z6 z7 z8 z9 z10 z11 yz o0 o1 o2 o3 o4 o5 o6 o7 o8 o9 o10 o11 yo
     generalize hWF:World.setCell _ _ _=WF
     obtain ⟨hbk,hszF,hBF,hCF⟩:=bK (W:=(wr.setCell ⟨w1.heap.size,5,none⟩ (.slice A7 s.n2 c7))) (b':={ b with state:=(ovS b.state ts NX) }) (s':=⟨R.A1,R.n1,R.c1,A7,s.n2,c7,R.A3,R.n3,R.c3⟩) hWF (HZ4.out) (HB4.out) (by omega)
     have hR:aG w.heap.size mid WF { b with state:=(ovS b.state ts NX) } ⟨R.A1,R.n1,R.c1,A7,s.n2,c7,R.A3,R.n3,R.c3⟩:=((HF4.out).chg hCF (.inr (by omega))).widen (by omega) (Nat.le_refl _)
     have hO:Own w.heap.size WF (A8) (s.n1) (s.n1) ((zS ts OU)):=((HO8.out).chg hCF (L8.out) (.inr (by omega))).more (by omega)
     have hL:gJ (A8) mid WF.heap.size:=qU (L8.out) (by omega) (by omega)
     clear hWF
     refine bodyPost_ret (v := .tuple #[.agg (aD { b with state:=(ovS b.state ts NX) } ⟨R.A1,R.n1,R.c1,A7,s.n2,c7,R.A3,R.n3,R.c3⟩),.slice (A8) (s.n1) (s.n1)]) (aI Tryz.results105 rfl hbk Tryz.underlying31 (by kernel_rfl)) rfl ⟨⟨R.A1,R.n1,R.c1,A7,s.n2,c7,R.A3,R.n3,R.c3⟩,A8,s.n1,s.n1,by rw [HU.out],mid,by rw [HU.out];exact hR,by rw [HV.out];exact hO,⟨by omega,by omega,hL⟩,hBF⟩
end Go.Proofs.YtignkfhdkcgkgaaGreat
